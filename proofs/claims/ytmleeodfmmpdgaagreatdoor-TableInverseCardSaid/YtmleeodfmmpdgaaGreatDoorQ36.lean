/- part -/
import Derived.Test.YtmleeodfmmpdgaaGreatDoorQ35
set_option maxRecDepth 20000
set_option maxHeartbeats 4000000
namespace Go.Proofs.YtmleeodfmmpdgaaGreatDoor
open Go.RowKit
attribute [local go_sem] Ext.cell Ext.frozen
attribute [local go_sem ↓] Go.wp_at_zero Go.wp_at_succ
open _root_.Nat (add_zero le_trans lt_or_ge zero_le)
open _root_.Go.Proofs.Tryz
theorem Zt0:prog.cellsOf 46=16:=by kernel_rfl
theorem Znb:prog.cellsOf 61=2:=by kernel_rfl
theorem Zu8:prog.cellsOf 58=3:=by kernel_rfl
def TbWf (t:Tb):Prop:=∀y∈t.locs,LcWf y
theorem TbWf.at {l:List Lc} (h:∀y∈l,LcWf y) {k:Nat} (hk:k<l.length):LcWf (l.getD k default):=by
 rw[←Zb0 l default hk];exact h _ (List.getElem_mem hk)
theorem Zfr (a b:Tb)(f g:Nat→Value)(w:World)(ha:TbC w f a)(hb:TbC w g b)(B2:TbWf a)(Jw:TbWf b):
  Calls prog 13 #[.agg #[f 0,f 1,f 2],.agg #[g 0,g 1,g 2]] w fun e w'=>e= .returned (.bool (eqB a b))∧Below w.heap.size w w':=by
 obtain⟨a0,a1,a2⟩:=a;obtain⟨b0,b1,b2⟩:=b;have Ip:Hid (∀y∈a0,LcWf y):=B2;have My:Hid (∀y∈b0,LcWf y):=Jw;clear B2 Jw;obtain⟨ra0,ra1,ra2⟩:=ha;obtain⟨rb0,rb1,rb2⟩:=hb;simp only at ra0 ra1 ra2 rb0 rb1 rb2;obtain⟨ada0,ca0,fa0,ba0,offa0,ta0,Z6,jE,jF,jG,Z7⟩:=ra0.opn;obtain⟨ada1,ca1,fa1,ba1,offa1,ta1,Z8,jH,jI,jJ,Z9⟩:=ra1.opn;obtain⟨ada2,ca2,fa2,ba2,offa2,ta2,aA,jK,jL,jM,aB⟩:=ra2.opn;obtain⟨adb0,cb0,fb0,bb0,offb0,tb0,Qc,jN,jO,jP,aC⟩:=rb0.opn;obtain⟨adb1,cb1,fb1,bb1,offb1,tb1,aD,jQ,jR,jS,aE⟩:=rb1.opn;obtain⟨adb2,cb2,fb2,bb2,offb2,tb2,aF,jT,jU,jV,aG⟩:=rb2.opn;rw[ta0,ta1,ta2,tb0,tb1,tb2];clear ta0 ra0 ta1 ra1 ta2 ra2 tb0 rb0 tb1 rb1 tb2 rb2;have Qf:Hid (a0≠b0→eqB (⟨a0,a1,a2⟩:Tb) (⟨b0,b1,b2⟩:Tb)=false):=fun h=>Zbz (fun e=>h (by injection e));have Qg:Hid (a1≠b1→eqB (⟨a0,a1,a2⟩:Tb) (⟨b0,b1,b2⟩:Tb)=false):=fun h=>Zbz (fun e=>h (by injection e));have Qh:Hid (a2≠b2→eqB (⟨a0,a1,a2⟩:Tb) (⟨b0,b1,b2⟩:Tb)=false):=fun h=>Zbz (fun e=>h (by injection e));have Jr:Hid ((a0=b0∧a1=b1∧a2=b2)→eqB (⟨a0,a1,a2⟩:Tb) (⟨b0,b1,b2⟩:Tb)=true):=fun h1=>Zca (by obtain⟨rfl,rfl,rfl⟩:=h1;rfl);generalize eqB (⟨a0,a1,a2⟩:Tb) (⟨b0,b1,b2⟩:Tb)=res at *;have aH:=Hd Z6;have jW:=Hd Z7;obtain⟨n0,hn⟩:∃n,a0.length=n:=⟨_,rfl⟩;have Qi:=Hd hn;clear Z6 Z7 jE;rw[hn]at aH jF jG⊢;clear hn;have aI:=Hd Qc;have jX:=Hd aC;obtain⟨nx0,hn⟩:∃n,b0.length=n:=⟨_,rfl⟩;have Vg:=Hd hn;clear Qc aC jN;rw[hn]at aI jO jP⊢;clear hn;have aJ:=Hd Z8;have jY:=Hd Z9;obtain⟨n1,hn⟩:∃n,a1.length=n:=⟨_,rfl⟩;have Qj:=Hd hn;clear Z8 Z9 jH;rw[hn]at aJ jI jJ⊢;clear hn;have aK:=Hd aD;have jZ:=Hd aE;obtain⟨nx1,hn⟩:∃n,b1.length=n:=⟨_,rfl⟩;have Vh:=Hd hn;clear aD aE jQ;rw[hn]at aK jR jS⊢;clear hn;have aL:=Hd aA;have kA:=Hd aB;obtain⟨n2,hn⟩:∃n,a2.length=n:=⟨_,rfl⟩;have Qk:=Hd hn;clear aA aB jK;rw[hn]at aL jL jM⊢;clear hn;have aM:=Hd aF;have kB:=Hd aG;obtain⟨nx2,hn⟩:∃n,b2.length=n:=⟨_,rfl⟩;have Vi:=Hd hn;clear aF aG jT;rw[hn]at aM jU jV⊢;clear hn;have aN:Hid (n0≠nx0→res=false):=fun h=>Qf.out (fun e=>h (by rw[←Qi.out,←Vg.out,e]));have aO:Hid (n1≠nx1→res=false):=fun h=>Qg.out (fun e=>h (by rw[←Qj.out,←Vh.out,e]));have aP:Hid (n2≠nx2→res=false):=fun h=>Qh.out (fun e=>h (by rw[←Qk.out,←Vi.out,e]));have Ai:Hid (Below w.heap.size w ((w.alloc (.cells #[.slice ada0 n0 ca0,.slice ada1 n1 ca1,.slice ada2 n2 ca2] 27)).alloc (.cells #[.slice adb0 nx0 cb0,.slice adb1 nx1 cb1,.slice adb2 nx2 cb2] 27))):=Bel.alloc (Bel.alloc (Bel.refl w) _) _;have HX:Hid (Cel ((w.alloc (.cells #[.slice ada0 n0 ca0,.slice ada1 n1 ca1,.slice ada2 n2 ca2] 27)).alloc (.cells #[.slice adb0 nx0 cb0,.slice adb1 nx1 cb1,.slice adb2 nx2 cb2] 27)) w.heap.size 27 [.slice ada0 n0 ca0,.slice ada1 n1 ca1,.slice ada2 n2 ca2]):=(Cel.new w [.slice ada0 n0 ca0,.slice ada1 n1 ca1,.slice ada2 n2 ca2] 27).below (Bel.alloc (Bel.refl _) _);have HY:Hid (Cel ((w.alloc (.cells #[.slice ada0 n0 ca0,.slice ada1 n1 ca1,.slice ada2 n2 ca2] 27)).alloc (.cells #[.slice adb0 nx0 cb0,.slice adb1 nx1 cb1,.slice adb2 nx2 cb2] 27)) (w.heap.size+1) 27 [.slice adb0 nx0 cb0,.slice adb1 nx1 cb1,.slice adb2 nx2 cb2]):=by
  have:=Cel.new (w.alloc (.cells #[.slice ada0 n0 ca0,.slice ada1 n1 ca1,.slice ada2 n2 ca2] 27)) [.slice adb0 nx0 cb0,.slice adb1 nx1 cb1,.slice adb2 nx2 cb2] 27
  rwa [show(w.alloc (.cells #[.slice ada0 n0 ca0,.slice ada1 n1 ca1,.slice ada2 n2 ca2] 27)).heap.size=w.heap.size+1 by simp]at this
 go_enter func13,ntmps13
 go_upto_region 1 with(fail)
 generalize (w.alloc (.cells #[.slice ada0 n0 ca0,.slice ada1 n1 ca1,.slice ada2 n2 ca2] 27)).alloc (.cells #[.slice adb0 nx0 cb0,.slice adb1 nx1 cb1,.slice adb2 nx2 cb2] 27)=w2 at *;have x0:=HX.out.cell 0;have y0:=HY.out.cell 0;have x1:=HX.out.cell 1;have y1:=HY.out.cell 1;have x2:=HX.out.cell 2;have y2:=HY.out.cell 2;simp only[Le0,Le1]at x0 y0 x1 y1 x2 y2
 by_cases h0:n0=nx0
 ·subst h0;have l0:((n0:Int) !=(n0:Int))=false:=by simp
  by_cases h1:n1=nx1
  ·subst h1;have l1:((n1:Int) !=(n1:Int))=false:=by simp
   by_cases h2:n2=nx2
   ·subst h2;have l2:((n2:Int) !=(n2:Int))=false:=by simp
    have Es:Hid (Below w2.heap.size w2 w2):=Below.refl _ _;clear aN aO aP
    go_wp2_with fail
    skip
    go_loopw [5] (fun i wr=>∃k:Nat,i= .int .i64 (k:Int)∧k≤n0∧(∀j,j<k→a0.getD j default=b0.getD j default)∧Below w2.heap.size w2 wr) (fun i _=>n0 -(intOf i).toNat)
    case atStart=>exact⟨0,rfl,zero_le _,fun i hi=>absurd hi (Nat.not_lt_zero _),Es.out⟩
    case round=>
     obtain⟨k,rfl,Co,Cn,Ak⟩:=hrel;have B9:=Hd Cn;have Ac:=Hd Ak;have Bl:=Ak.size;have D6:=Hd (Ai.out.trans (Ak.mono Ai.out.size));clear Cn Ak;have X3:=(HX.out.below Ac.out).cell 0;have Y3:=(HY.out.below Ac.out).cell 0;simp only[Le0]at X3 Y3
     by_cases Aa:k<n0
     ·have gA:=aH.out.below D6.out;have gB:=aI.out.below D6.out;have ixA:=fun W=>gA.ix (P:=prog) 23 46 underlying23 Zt0 (by decide) Aa ca0 W;have ixB:=fun W=>gB.ix (P:=prog) 23 46 underlying23 Zt0 (by decide) Aa cb0 W;have blA:=gA.block (by omega) (by decide);have blB:=gB.block (by omega) (by decide);have eA0:=gA.cell k 0 Aa (by decide);have eA1:=gA.cell k 1 Aa (by decide);have eA2:=gA.cell k 2 Aa (by decide);have eA3:=gA.cell k 3 Aa (by decide);have eA4:=gA.cell k 4 Aa (by decide);have eA5:=gA.cell k 5 Aa (by decide);have eA6:=gA.cell k 6 Aa (by decide);have eA7:=gA.cell k 7 Aa (by decide);have eA8:=gA.cell k 8 Aa (by decide);have eA9:=gA.cell k 9 Aa (by decide);have eA10:=gA.cell k 10 Aa (by decide);have eA11:=gA.cell k 11 Aa (by decide);have eA12:=gA.cell k 12 Aa (by decide);have eA13:=gA.cell k 13 Aa (by decide);have eA14:=gA.cell k 14 Aa (by decide);have eA15:=gA.cell k 15 Aa (by decide);have eB0:=gB.cell k 0 Aa (by decide);have eB1:=gB.cell k 1 Aa (by decide);have eB2:=gB.cell k 2 Aa (by decide);have eB3:=gB.cell k 3 Aa (by decide);have eB4:=gB.cell k 4 Aa (by decide);have eB5:=gB.cell k 5 Aa (by decide);have eB6:=gB.cell k 6 Aa (by decide);have eB7:=gB.cell k 7 Aa (by decide);have eB8:=gB.cell k 8 Aa (by decide);have eB9:=gB.cell k 9 Aa (by decide);have eB10:=gB.cell k 10 Aa (by decide);have eB11:=gB.cell k 11 Aa (by decide);have eB12:=gB.cell k 12 Aa (by decide);have eB13:=gB.cell k 13 Aa (by decide);have eB14:=gB.cell k 14 Aa (by decide);have eB15:=gB.cell k 15 Aa (by decide);clear gA gB;simp only[add_zero]at eA0 eB0;have Cy:k<a0.length:=by rw[Qi.out];exact Aa
      have Cz:k<b0.length:=by rw[Vg.out];exact Aa
      have Ao:Hid (a0.getD k default=b0.getD k default→∀j,j<k+1→a0.getD j default=b0.getD j default):=fun h j hj=>by
       rcases lt_or_ge j k with h'|h'
       ·exact B9.out j h'
       ·rw[show j=k by omega];exact h
      have Bj:Hid (a0.getD k default≠b0.getD k default→res=false):=fun h=>Qf.out (Zer h);have hA:=jW.out k Cy;have hB:=jX.out k Cz;rw[Zb0 a0 default Cy]at hA;rw[Zb0 b0 default Cz]at hB;have Jq:=TbWf.at Ip.out Cy;have Im:=TbWf.at My.out Cz;generalize a0.getD k default=x at *;generalize b0.getD k default=y at *;have Af:Hid (∀W,Below wr.heap.size wr W→Calls prog 30 #[.agg #[fa0 k 0,fa0 k 1,fa0 k 2,fa0 k 3,fa0 k 4,fa0 k 5,fa0 k 6,fa0 k 7,fa0 k 8,fa0 k 9,fa0 k 10,fa0 k 11,fa0 k 12,fa0 k 13,fa0 k 14,fa0 k 15],.agg #[fb0 k 0,fb0 k 1,fb0 k 2,fb0 k 3,fb0 k 4,fb0 k 5,fb0 k 6,fb0 k 7,fb0 k 8,fb0 k 9,fb0 k 10,fb0 k 11,fb0 k 12,fb0 k 13,fb0 k 14,fb0 k 15]] W fun e w'=>e= .returned (.bool (eqB x y))∧Below W.heap.size W w'):=fun W hW=>
       Zok x y (fa0 k) (fb0 k) W (hA.below (D6.out.trans (hW.mono (le_trans Ai.out.size Bl)))) (hB.below (D6.out.trans (hW.mono (le_trans Ai.out.size Bl)))) Jq Im
      generalize fa0 k 0=va0 at *;generalize fa0 k 1=va1 at *;generalize fa0 k 2=va2 at *;generalize fa0 k 3=va3 at *;generalize fa0 k 4=va4 at *;generalize fa0 k 5=va5 at *;generalize fa0 k 6=va6 at *;generalize fa0 k 7=va7 at *;generalize fa0 k 8=va8 at *;generalize fa0 k 9=va9 at *;generalize fa0 k 10=va10 at *;generalize fa0 k 11=va11 at *;generalize fa0 k 12=va12 at *;generalize fa0 k 13=va13 at *;generalize fa0 k 14=va14 at *;generalize fa0 k 15=va15 at *;generalize fb0 k 0=vb0 at *;generalize fb0 k 1=vb1 at *;generalize fb0 k 2=vb2 at *;generalize fb0 k 3=vb3 at *;generalize fb0 k 4=vb4 at *;generalize fb0 k 5=vb5 at *;generalize fb0 k 6=vb6 at *;generalize fb0 k 7=vb7 at *;generalize fb0 k 8=vb8 at *;generalize fb0 k 9=vb9 at *;generalize fb0 k 10=vb10 at *;generalize fb0 k 11=vb11 at *;generalize fb0 k 12=vb12 at *;generalize fb0 k 13=vb13 at *;generalize fb0 k 14=vb14 at *;generalize fb0 k 15=vb15 at *;clear Jq Im hA hB Cy Cz;have Ec:Hid (eqB x y=true→∀j,j<k+1→a0.getD j default=b0.getD j default):=fun h=>Ao.out (eqB_iff.1 h);have E7:Hid (eqB x y=false→res=false):=fun h=>Bj.out (fun e=>by rw[Zca e]at h;cases h);generalize eqB x y=ans at *;clear Ao Bj;have wG:=HX.out.lt;have wH:=HY.out.lt;have Pv:w.heap.size<wr.heap.size:=by have:=Ac.out.size;omega
      have wI:w.heap.size+1<wr.heap.size:=by have:=Ac.out.size;omega
      go_wp2_with fail
      refine Zaq (by kernel_rfl) (by kernel_rfl) ?_
      repeat (go_big_quiet_step ((go_at_call 30;refine Calls.ext (Af.out _ ?_);exact Subtype.property _)))
      refine wpQuiet_nil ?_;intro _ Eb;obtain⟨X9,Bo⟩:=Eb;subst Bo;have L8:=Hd (Ac.out.trans (X9.2.mono Bl));cases ans with
      |true=>
       have HN:=Hd (Ec.out rfl)
       go_wp2_with fail
       go_roundw
       case rel=>exact⟨k+1,by go_num,by omega,HN.out,L8.out⟩
       case measure=>simp[intOf];omega
      |false=>
       have HN:=Hd (E7.out rfl)
       go_wp2_with fail
       go_ret;exact⟨by rw[HN.out];rfl,Ai.out.trans (L8.out.mono Ai.out.size)⟩
     ·obtain rfl:k=n0:=by omega
      have Md:Hid (a0=b0):=Zd3 (by rw[Qi.out,Vg.out]) (fun j hj=>B9.out j (by rw[Qi.out]at hj;exact hj));have Es:=Ac;obtain⟨wz0,G6⟩:∃W,W=wr:=⟨_,rfl⟩;rw[←G6]at Es X3 Y3⊢;clear D6 Ac B9 G6 Bl
      go_wp2_with fail
      clear X3 Y3
      go_loopw [6] (fun i wr=>∃k:Nat,i= .int .i64 (k:Int)∧k≤n1∧(∀j,j<k→a1.getD j default=b1.getD j default)∧Below w2.heap.size w2 wr) (fun i _=>n1 -(intOf i).toNat)
      case atStart=>exact⟨0,rfl,zero_le _,fun i hi=>absurd hi (Nat.not_lt_zero _),Es.out⟩
      case round=>
       obtain⟨k,rfl,Co,Cn,Ak⟩:=hrel;have B9:=Hd Cn;have Ac:=Hd Ak;have Bl:=Ak.size;have D6:=Hd (Ai.out.trans (Ak.mono Ai.out.size));clear Cn Ak;have X3:=(HX.out.below Ac.out).cell 1;have Y3:=(HY.out.below Ac.out).cell 1;simp only[Le0,Le1]at X3 Y3
       by_cases Aa:k<n1
       ·have gA:=aJ.out.below D6.out;have gB:=aK.out.below D6.out;have ixA:=fun W=>gA.ix (P:=prog) 24 61 underlying24 Znb (by decide) Aa ca1 W;have ixB:=fun W=>gB.ix (P:=prog) 24 61 underlying24 Znb (by decide) Aa cb1 W;have blA:=gA.block (by omega) (by decide);have blB:=gB.block (by omega) (by decide);have eA0:=gA.cell k 0 Aa (by decide);have eA1:=gA.cell k 1 Aa (by decide);have eB0:=gB.cell k 0 Aa (by decide);have eB1:=gB.cell k 1 Aa (by decide);clear gA gB;simp only[add_zero]at eA0 eB0;have Cy:k<a1.length:=by rw[Qj.out];exact Aa
        have Cz:k<b1.length:=by rw[Vh.out];exact Aa
        have Ao:Hid (a1.getD k default=b1.getD k default→∀j,j<k+1→a1.getD j default=b1.getD j default):=fun h j hj=>by
         rcases lt_or_ge j k with h'|h'
         ·exact B9.out j h'
         ·rw[show j=k by omega];exact h
        have Bj:Hid (a1.getD k default≠b1.getD k default→res=false):=fun h=>Qg.out (Zer h);have hA:=jY.out k Cy;have hB:=jZ.out k Cz;rw[Zb0 a1 default Cy]at hA;rw[Zb0 b1 default Cz]at hB;generalize a1.getD k default=x at *;generalize b1.getD k default=y at *;obtain⟨x0,x1⟩:=x;obtain⟨y0,y1⟩:=y;obtain⟨⟨Ek,zA0⟩,⟨Fv,zA1⟩⟩:=hA;obtain⟨⟨E5,zB0⟩,⟨Fj,zB1⟩⟩:=hB;simp only at Ek zA0 E5 zB0 Fv zA1 Fj zB1;rw[Ek]at eA0;rw[E5]at eB0;rw[Fv]at eA1;rw[Fj]at eB1;have hq:=fun W=>Zzt x0 x1 y0 y1 W (szM zA0) (szM zA1) (szM zB0) (szM zB1);clear Cy Cz Ek zA0 E5 zB0 Fv zA1 Fj zB1
        by_cases Cu:x0=y0∧x1=y1
        ·rw[decide_eq_true Cu]at hq;have HN:=Hd (Ao.out (by obtain⟨rfl,rfl⟩:=Cu;rfl));clear Ao Bj Cu
         go_wp2_with fail
         go_quiet (fail)
         go_wp2_with fail
         go_roundw
         case rel=>exact⟨k+1,by go_num,by omega,HN.out,Ac.out.trans ((Zat _ _).mono Bl)⟩
         case measure=>simp[intOf];omega
        ·rw[decide_eq_false Cu]at hq;have HN:=Hd (Bj.out (fun e=>Cu (by injection e with e0 e1;exact⟨e0,e1⟩)));clear Ao Bj Cu
         go_wp2_with fail
         go_quiet (fail)
         go_wp2_with fail
         go_ret;exact⟨by rw[HN.out];rfl,D6.out.trans ((Zat _ _).mono (le_trans Ai.out.size Bl))⟩
       ·obtain rfl:k=n1:=by omega
        have W7:Hid (a1=b1):=Zd3 (by rw[Qj.out,Vh.out]) (fun j hj=>B9.out j (by rw[Qj.out]at hj;exact hj));have Es:=Ac;obtain⟨wz1,G6⟩:∃W,W=wr:=⟨_,rfl⟩;rw[←G6]at Es X3 Y3⊢;clear D6 Ac B9 G6 Bl
        go_wp2_with fail
        clear X3 Y3
        go_loopw [7] (fun i wr=>∃k:Nat,i= .int .i64 (k:Int)∧k≤n2∧(∀j,j<k→a2.getD j default=b2.getD j default)∧Below w2.heap.size w2 wr) (fun i _=>n2 -(intOf i).toNat)
        case atStart=>exact⟨0,rfl,zero_le _,fun i hi=>absurd hi (Nat.not_lt_zero _),Es.out⟩
        case round=>
         obtain⟨k,rfl,Co,Cn,Ak⟩:=hrel;have B9:=Hd Cn;have Ac:=Hd Ak;have Bl:=Ak.size;have D6:=Hd (Ai.out.trans (Ak.mono Ai.out.size));clear Cn Ak;have X3:=(HX.out.below Ac.out).cell 2;have Y3:=(HY.out.below Ac.out).cell 2;simp only[Le0,Le1]at X3 Y3
         by_cases Aa:k<n2
         ·have gA:=aL.out.below D6.out;have gB:=aM.out.below D6.out;have ixA:=fun W=>gA.ix (P:=prog) 25 58 underlying25 Zu8 (by decide) Aa ca2 W;have ixB:=fun W=>gB.ix (P:=prog) 25 58 underlying25 Zu8 (by decide) Aa cb2 W;have blA:=gA.block (by omega) (by decide);have blB:=gB.block (by omega) (by decide);have eA0:=gA.cell k 0 Aa (by decide);have eA1:=gA.cell k 1 Aa (by decide);have eA2:=gA.cell k 2 Aa (by decide);have eB0:=gB.cell k 0 Aa (by decide);have eB1:=gB.cell k 1 Aa (by decide);have eB2:=gB.cell k 2 Aa (by decide);clear gA gB;simp only[add_zero]at eA0 eB0;have Cy:k<a2.length:=by rw[Qk.out];exact Aa
          have Cz:k<b2.length:=by rw[Vi.out];exact Aa
          have Ao:Hid (a2.getD k default=b2.getD k default→∀j,j<k+1→a2.getD j default=b2.getD j default):=fun h j hj=>by
           rcases lt_or_ge j k with h'|h'
           ·exact B9.out j h'
           ·rw[show j=k by omega];exact h
          have Bj:Hid (a2.getD k default≠b2.getD k default→res=false):=fun h=>Qh.out (Zer h);have hA:=kA.out k Cy;have hB:=kB.out k Cz;rw[Zb0 a2 default Cy]at hA;rw[Zb0 b2 default Cz]at hB;generalize a2.getD k default=x at *;generalize b2.getD k default=y at *;obtain⟨x0,x1,x2⟩:=x;obtain⟨y0,y1,y2⟩:=y;obtain⟨⟨Ek,zA0⟩,⟨Fv,zA1⟩,⟨Of,zA2⟩⟩:=hA;obtain⟨⟨E5,zB0⟩,⟨Fj,zB1⟩,⟨Og,zB2⟩⟩:=hB;simp only at Ek zA0 E5 zB0 Fv zA1 Fj zB1 Of zA2 Og zB2;rw[Ek]at eA0;rw[E5]at eB0;rw[Fv]at eA1;rw[Fj]at eB1;rw[Of]at eA2;rw[Og]at eB2;have hq:=fun W=>Zakq x0 x1 x2 y0 y1 y2 W (szM zA0) (szM zA1) (Zha zA2.1 zA2.2) (szM zB0) (szM zB1) (Zha zB2.1 zB2.2);clear Cy Cz Ek zA0 E5 zB0 Fv zA1 Fj zB1 Of zA2 Og zB2
          by_cases Cu:x0=y0∧x1=y1∧x2=y2
          ·rw[decide_eq_true Cu]at hq;have HN:=Hd (Ao.out (by obtain⟨rfl,rfl,rfl⟩:=Cu;rfl));clear Ao Bj Cu
           go_wp2_with fail
           go_quiet (fail)
           go_wp2_with fail
           go_roundw
           case rel=>exact⟨k+1,by go_num,by omega,HN.out,Ac.out.trans ((Zat _ _).mono Bl)⟩
           case measure=>simp[intOf];omega
          ·rw[decide_eq_false Cu]at hq;have HN:=Hd (Bj.out (fun e=>Cu (by injection e with e0 e1 e2;exact⟨e0,e1,e2⟩)));clear Ao Bj Cu
           go_wp2_with fail
           go_quiet (fail)
           go_wp2_with fail
           go_ret;exact⟨by rw[HN.out];rfl,D6.out.trans ((Zat _ _).mono (le_trans Ai.out.size Bl))⟩
         ·obtain rfl:k=n2:=by omega
          have Jh:Hid (a2=b2):=Zd3 (by rw[Qk.out,Vi.out]) (fun j hj=>B9.out j (by rw[Qk.out]at hj;exact hj));have Es:=Ac;obtain⟨wz2,G6⟩:∃W,W=wr:=⟨_,rfl⟩;rw[←G6]at Es X3 Y3⊢;clear D6 Ac B9 G6 Bl;have HS:=Hd (Jr.out ⟨Md.out,W7.out,Jh.out⟩)
          go_wp2_with fail
          go_ret;exact⟨by rw[HS.out];rfl,Ai.out.trans (Es.out.mono Ai.out.size)⟩
   ·have HN:=Hd (aP.out h2);have l2:((n2:Int) !=(nx2:Int))=true:=by simp only[bne_iff_ne];omega
    have l2': ¬((n2:Int)=(nx2:Int)):=by omega
    go_wp2_with fail
    go_ret;exact⟨by rw[HN.out];rfl,Ai.out⟩
  ·have HN:=Hd (aO.out h1);have l1:((n1:Int) !=(nx1:Int))=true:=by simp only[bne_iff_ne];omega
   have l1': ¬((n1:Int)=(nx1:Int)):=by omega
   go_wp2_with fail
   go_ret;exact⟨by rw[HN.out];rfl,Ai.out⟩
 ·have HN:=Hd (aN.out h0);have l0:((n0:Int) !=(nx0:Int))=true:=by simp only[bne_iff_ne];omega
  have l0': ¬((n0:Int)=(nx0:Int)):=by omega
  go_wp2_with fail
  go_ret;exact⟨by rw[HN.out];rfl,Ai.out⟩
theorem Zoe:TbWf tb0:=fun y hy=>by cases hy
def Zdv:List UInt8:=[97,108,105,97,115,32,105,119,32,104,101,59]
theorem Zaen:Zan Zdv 0=0∧Zan Zdv 1=6∧Zan Zdv 2=9∧Zan Zdv 3=11∧Zan Zdv 4=12:=by decide+kernel
theorem Zo5:Za9 Zdv 0=((1,[97,108,105,97,115],0),5,0,0)∧Za9 Zdv 1=((1,[105,119],6),2,0,0)∧Za9 Zdv 2=((1,[104,101],9),2,0,0)∧Za9 Zdv 3=((3,[59],11),1,0,0):=by decide+kernel
theorem Zacv:Zef Zdv=4:=by
 obtain⟨p0,p1,p2,p3,p4⟩:=Zaen;obtain⟨i0,i1,i2,i3⟩:=Zo5;refine Zk2 (Zi1 Zdv).1 (fun k hk=>?_) (by rw[p4];decide)
 match k,hk with
 |0,_=>exact⟨by rw[p0];decide,by rw[i0]⟩
 |1,_=>exact⟨by rw[p1];decide,by rw[i1]⟩
 |2,_=>exact⟨by rw[p2];decide,by rw[i2]⟩
 |3,_=>exact⟨by rw[p3];decide,by rw[i3]⟩
theorem Zqd:Zap Zdv=([(1,[97,108,105,97,115],0),(1,[105,119],6),(1,[104,101],9),(3,[59],11)],0,0):=by
 obtain⟨i0,i1,i2,i3⟩:=Zo5;have hu:Zda (Za9 Zdv) 4=[Za9 Zdv 0,Za9 Zdv 1,Za9 Zdv 2,Za9 Zdv 3]:=rfl;unfold Zap;rw[Zacv,if_pos]
 ·rw[hu,i0,i1,i2,i3];rfl
 ·rw[Zff];intro k hk
  match k,hk with
  |0,_=>rw[i0]
  |1,_=>rw[i1]
  |2,_=>rw[i2]
  |3,_=>rw[i3]
theorem Zxl:Zal Zdv=(⟨[],[⟨bs [105,119],bs [104,101]⟩],[]⟩,0,0):=by
 unfold Zal;rw[if_neg (by decide),Zqd];rfl
theorem Zaan (w:World)(hM:MaxLen w)(hU:TabU w):Calls prog 11 #[.string (bs Zdv)] w (Zgl w (Zal Zdv)):=by
 have ht:(Zap Zdv).1=[(1,[97,108,105,97,115],0),(1,[105,119],6),(1,[104,101],9),(3,[59],11)]:=by rw[Zqd]
 refine Zoo Zdv (by decide) w hM hU (fun t q=>(t=tb0∧q=⟨(Zap Zdv).1,0,0⟩)∨q.l=[]) (.inl ⟨rfl,rfl⟩) ?_ ?_
 ·rintro t q (⟨rfl,rfl⟩|h) _ Az
  ·rw[ht];exact .inr rfl
  ·exact absurd h Az
 ·rintro t q (⟨rfl,rfl⟩|h) _ Az b base T w hr hb hl hM h0 h1 h2
  ·exact Zom b _ base T tb0 _ w hr hb hl hM h0 h1 h2 (by rw[ht];rfl) (by rw[ht];rfl)
  ·exact absurd h Az
theorem RowsOf.shape {α:Type} {k:Nat} {C:World→(Nat→Value)→α→Prop} {w:World} {v:Value} {l:List α} (h:RowsOf k C w v l):∃ad c,v= .slice ad l.length c:=by
 obtain⟨ad,c,_,_,_,h,_⟩:=h;exact⟨ad,c,h⟩
theorem Zair {w:World} {v:Value} {a:Al} (h:RowsOf 2 AlC w v [a]):∃ad c b off,v= .slice ad 1 c∧(∀W,(Instr.indexAt 24 (.slice ad 1 c) (.int .i64 0)).run prog W= .ok (.pointer (some ⟨b,off,none⟩)) W)∧w.cell? ⟨b,off,none⟩=some (.string a.fro)∧w.cell? ⟨b,off+1,none⟩=some (.string a.dst):=by
 obtain⟨ad,c,f,b,off,rfl,hr,_,_,_,hC⟩:=h.opn;have h0:=hC 0 (by simp);have hi:=hr.ix (P:=prog) 24 61 underlying24 Znb (by decide) (i:=0) (by simp) c;have e0:=hr.cell 0 0 (by simp) (by decide);have e1:=hr.cell 0 1 (by simp) (by decide);rw[h0.c0.1]at e0;rw[h0.c1.1]at e1;simp only[Nat.zero_mul,add_zero]at hi e0 e1;exact⟨ad,c,b,off,rfl,hi,e0,e1⟩
theorem Zuw (w:World)(hM:MaxLen w)(hU:TabU w):Calls prog 10 #[] w fun e w'=>e= .returned (.bool true)∧Below w.heap.size w w':=by
 have HP:Hid (Calls prog 11 #[.string ⟨#[97,108,105,97,115,32,105,119,32,104,101,59]⟩] w (Zgl w (Zal Zdv))):=Zaan w hM hU;rw[Zxl]at HP;unfold Zgl at HP;have hq:=fun W=>Zzt ⟨#[105,119]⟩ ⟨#[104,101]⟩ ⟨#[105,119]⟩ ⟨#[104,101]⟩ W (by decide) (by decide) (by decide) (by decide);rw[decide_eq_true (by exact⟨rfl,rfl⟩)]at hq;clear hM hU
 go_enter func10,ntmps10
 go_wp2_with fail
 refine HP.out.mono ?_;rintro e w1 ⟨f,rfl,ht,hb⟩;obtain⟨ad,c,b,off,h1,Ci,e0,e1⟩:=Zair ht.c1;have e0:=(Zgw _ _ _) _ _ e0;have e1:=(Zgw _ _ _) _ _ e1;replace e0:w1.cell? ⟨b,off,none⟩=some (.string ⟨#[105,119]⟩):=e0;replace e1:w1.cell? ⟨b,off+1,none⟩=some (.string ⟨#[104,101]⟩):=e1;have Ak:=World.block_lt_of_cell? w1 _ e0;replace Ak:b<w1.heap.size:=Ak;obtain⟨a0,k0,h0⟩:=ht.c0.shape;obtain⟨a2,k2,h2⟩:=ht.c2.shape;simp only[List.length_nil]at h0 h2;rw[h0,h1,h2];have HB:=Hd hb;clear ht h0 h1 h2 hb
 go_wp2_with fail
 go_ret;exact⟨rfl,HB.out.alloc HB.out.size _⟩
end Go.Proofs.YtmleeodfmmpdgaaGreatDoor
