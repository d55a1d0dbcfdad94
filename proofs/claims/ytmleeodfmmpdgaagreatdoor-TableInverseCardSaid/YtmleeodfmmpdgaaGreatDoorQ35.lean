/- Walks: the reference's equality of locales. -/
import Derived.Test.YtmleeodfmmpdgaaGreatDoorQ34
set_option maxRecDepth 20000
set_option maxHeartbeats 4000000
namespace Go.Proofs.YtmleeodfmmpdgaaGreatDoor
open Go.RowKit
attribute [local go_sem] Ext.cell Ext.frozen
attribute [local go_sem ↓] Go.wp_at_zero Go.wp_at_succ
open _root_.Nat (add_zero le_trans lt_or_ge zero_le)
open _root_.Go.Proofs.Tryz
theorem Zs3:prog.cellsOf 130=5:=by kernel_rfl
theorem Zsl:prog.cellsOf 132=3:=by kernel_rfl
theorem Zsd:prog.cellsOf 134=2:=by kernel_rfl
structure LcWf (y:Lc):Prop where
 card:RulesWf y.card
 ord:RulesWf y.ord
theorem szM {s:ByteArray} (h:s.size≤140737488351232):s.size≤maxLen:=by unfold maxLen;omega
theorem Zok (a b:Lc)(f g:Nat→Value)(w:World)(ha:LcC w f a)(hb:LcC w g b)(B2:LcWf a)(Jw:LcWf b):
  Calls prog 30 #[.agg #[f 0,f 1,f 2,f 3,f 4,f 5,f 6,f 7,f 8,f 9,f 10,f 11,f 12,f 13,f 14,f 15],.agg #[g 0,g 1,g 2,g 3,g 4,g 5,g 6,g 7,g 8,g 9,g 10,g 11,g 12,g 13,g 14,g 15]] w fun e w'=>e= .returned (.bool (eqB a b))∧Below w.heap.size w w':=by
 obtain⟨a0,a1,a2,a3,a4,a5,a6,a7,a8,a9,a10,a11,a12,a13,a14,a15⟩:=a;obtain⟨b0,b1,b2,b3,b4,b5,b6,b7,b8,b9,b10,b11,b12,b13,b14,b15⟩:=b;obtain⟨wa3,wa4⟩:=B2;obtain⟨wb3,wb4⟩:=Jw;simp only at wa3 wa4 wb3 wb4;obtain⟨⟨ta0,sa0⟩,⟨ta1,sa1⟩,⟨ta2,sa2⟩,ra3,ra4,⟨ta5,sa5⟩,⟨ta6,sa6⟩,⟨ta7,sa7⟩,⟨ta8,sa8⟩,⟨ta9,sa9⟩,⟨ta10,sa10⟩,ra11,ra12,ra13,ra14,ra15⟩:=ha;obtain⟨ada11,ca11,fa11,ba11,offa11,ta11,Sb,Zd,Ze,Zf,Sc⟩:=ra11.opn;obtain⟨ada12,ca12,fa12,ba12,offa12,ta12,Sd,Zg,Zh,Zi,Se⟩:=ra12.opn;obtain⟨ada13,ca13,fa13,ba13,offa13,ta13,Sf,Zj,Zk,Zl,Sg⟩:=ra13.opn;simp only at ta0 ta1 ta2 ta5 ta6 ta7 ta8 ta9 ta10 ta11 ta12 ta13 sa0 sa1 sa2 sa5 sa6 sa7 sa8 sa9 sa10;rw[ta0,ta1,ta2,ta5,ta6,ta7,ta8,ta9,ta10,ta11,ta12,ta13];generalize f 3=Va3 at *;generalize f 4=Va4 at *;generalize f 14=Va14 at *;generalize f 15=Va15 at *;clear ta0 ta1 ta2 ta5 ta6 ta7 ta8 ta9 ta10 ta11 ta12 ta13 ra11 ra12 ra13;obtain⟨⟨tb0,sb0⟩,⟨tb1,sb1⟩,⟨tb2,sb2⟩,rb3,rb4,⟨tb5,sb5⟩,⟨tb6,sb6⟩,⟨tb7,sb7⟩,⟨tb8,sb8⟩,⟨tb9,sb9⟩,⟨tb10,sb10⟩,rb11,rb12,rb13,rb14,rb15⟩:=hb;obtain⟨adb11,cb11,fb11,bb11,offb11,tb11,Sh,Zm,Zn,Zo,Si⟩:=rb11.opn;obtain⟨adb12,cb12,fb12,bb12,offb12,tb12,Sj,Zp,Zq,Zr,Sn⟩:=rb12.opn;obtain⟨adb13,cb13,fb13,bb13,offb13,tb13,So,Zs,Zt,Zu,Sp⟩:=rb13.opn;simp only at tb0 tb1 tb2 tb5 tb6 tb7 tb8 tb9 tb10 tb11 tb12 tb13 sb0 sb1 sb2 sb5 sb6 sb7 sb8 sb9 sb10;rw[tb0,tb1,tb2,tb5,tb6,tb7,tb8,tb9,tb10,tb11,tb12,tb13];generalize g 3=Vb3 at *;generalize g 4=Vb4 at *;generalize g 14=Vb14 at *;generalize g 15=Vb15 at *;clear tb0 tb1 tb2 tb5 tb6 tb7 tb8 tb9 tb10 tb11 tb12 tb13 rb11 rb12 rb13;simp only at ra3 ra4 ra14 ra15 rb3 rb4 rb14 rb15;have Gz:=Hd (fun W (k:Below w.heap.size w W)=>Zjt a3 b3 _ _ W (ra3.below k) (rb3.below k) wa3 wb3);have Jl:=Hd (fun W (k:Below w.heap.size w W)=>Zjt a4 b4 _ _ W (ra4.below k) (rb4.below k) wa4 wb4);have Ve:=Hd (fun W (k:Below w.heap.size w W)=>Zjl a14 b14 _ _ W (ra14.map k fun _ _ h=>h) (rb14.map k fun _ _ h=>h));have Vf:=Hd (fun W (k:Below w.heap.size w W)=>Zjl a15 b15 _ _ W (ra15.map k fun _ _ h=>h) (rb15.map k fun _ _ h=>h));clear ra3 ra4 ra14 ra15 rb3 rb4 rb14 rb15 wa3 wa4 wb3 wb4;have Qf:Hid (a0≠b0→eqB (⟨a0,a1,a2,a3,a4,a5,a6,a7,a8,a9,a10,a11,a12,a13,a14,a15⟩:Lc) (⟨b0,b1,b2,b3,b4,b5,b6,b7,b8,b9,b10,b11,b12,b13,b14,b15⟩:Lc)=false):=fun h=>Zbz (fun e=>h (by injection e));have Qg:Hid (a1≠b1→eqB (⟨a0,a1,a2,a3,a4,a5,a6,a7,a8,a9,a10,a11,a12,a13,a14,a15⟩:Lc) (⟨b0,b1,b2,b3,b4,b5,b6,b7,b8,b9,b10,b11,b12,b13,b14,b15⟩:Lc)=false):=fun h=>Zbz (fun e=>h (by injection e));have Qh:Hid (a2≠b2→eqB (⟨a0,a1,a2,a3,a4,a5,a6,a7,a8,a9,a10,a11,a12,a13,a14,a15⟩:Lc) (⟨b0,b1,b2,b3,b4,b5,b6,b7,b8,b9,b10,b11,b12,b13,b14,b15⟩:Lc)=false):=fun h=>Zbz (fun e=>h (by injection e));have Sq:Hid (a11≠b11→eqB (⟨a0,a1,a2,a3,a4,a5,a6,a7,a8,a9,a10,a11,a12,a13,a14,a15⟩:Lc) (⟨b0,b1,b2,b3,b4,b5,b6,b7,b8,b9,b10,b11,b12,b13,b14,b15⟩:Lc)=false):=fun h=>Zbz (fun e=>h (by injection e));have Sr:Hid (a12≠b12→eqB (⟨a0,a1,a2,a3,a4,a5,a6,a7,a8,a9,a10,a11,a12,a13,a14,a15⟩:Lc) (⟨b0,b1,b2,b3,b4,b5,b6,b7,b8,b9,b10,b11,b12,b13,b14,b15⟩:Lc)=false):=fun h=>Zbz (fun e=>h (by injection e));have Ss:Hid (a13≠b13→eqB (⟨a0,a1,a2,a3,a4,a5,a6,a7,a8,a9,a10,a11,a12,a13,a14,a15⟩:Lc) (⟨b0,b1,b2,b3,b4,b5,b6,b7,b8,b9,b10,b11,b12,b13,b14,b15⟩:Lc)=false):=fun h=>Zbz (fun e=>h (by injection e));have Zv:Hid (eqB a3 b3=false→eqB (⟨a0,a1,a2,a3,a4,a5,a6,a7,a8,a9,a10,a11,a12,a13,a14,a15⟩:Lc) (⟨b0,b1,b2,b3,b4,b5,b6,b7,b8,b9,b10,b11,b12,b13,b14,b15⟩:Lc)=false):=fun h=>Zbz (fun e=>by rw[Zca (show a3=b3 by injection e)]at h;cases h);have iW:Hid (eqB a4 b4=false→eqB (⟨a0,a1,a2,a3,a4,a5,a6,a7,a8,a9,a10,a11,a12,a13,a14,a15⟩:Lc) (⟨b0,b1,b2,b3,b4,b5,b6,b7,b8,b9,b10,b11,b12,b13,b14,b15⟩:Lc)=false):=fun h=>Zbz (fun e=>by rw[Zca (show a4=b4 by injection e)]at h;cases h);have Zw:Hid (eqB a14 b14=false→eqB (⟨a0,a1,a2,a3,a4,a5,a6,a7,a8,a9,a10,a11,a12,a13,a14,a15⟩:Lc) (⟨b0,b1,b2,b3,b4,b5,b6,b7,b8,b9,b10,b11,b12,b13,b14,b15⟩:Lc)=false):=fun h=>Zbz (fun e=>by rw[Zca (show a14=b14 by injection e)]at h;cases h);have Zx:Hid (eqB a15 b15=false→eqB (⟨a0,a1,a2,a3,a4,a5,a6,a7,a8,a9,a10,a11,a12,a13,a14,a15⟩:Lc) (⟨b0,b1,b2,b3,b4,b5,b6,b7,b8,b9,b10,b11,b12,b13,b14,b15⟩:Lc)=false):=fun h=>Zbz (fun e=>by rw[Zca (show a15=b15 by injection e)]at h;cases h);have iX:Hid (¬(a5=b5∧a6=b6∧a7=b7∧a8=b8∧a9=b9∧a10=b10)→eqB (⟨a0,a1,a2,a3,a4,a5,a6,a7,a8,a9,a10,a11,a12,a13,a14,a15⟩:Lc) (⟨b0,b1,b2,b3,b4,b5,b6,b7,b8,b9,b10,b11,b12,b13,b14,b15⟩:Lc)=false):=fun h=>Zbz (fun e=>h (by injection e with e0 e1 e2 e3 e4 e5 e6 e7 e8 e9 e10;exact⟨e5,e6,e7,e8,e9,e10⟩));have Jr:Hid ((a0=b0∧a1=b1∧a2=b2)→(a5=b5∧a6=b6∧a7=b7∧a8=b8∧a9=b9∧a10=b10)→(a11=b11∧a12=b12∧a13=b13)→eqB a3 b3=true→eqB a4 b4=true→eqB a14 b14=true→eqB a15 b15=true→eqB (⟨a0,a1,a2,a3,a4,a5,a6,a7,a8,a9,a10,a11,a12,a13,a14,a15⟩:Lc) (⟨b0,b1,b2,b3,b4,b5,b6,b7,b8,b9,b10,b11,b12,b13,b14,b15⟩:Lc)=true):=fun h1 h2 h3 h4 h5 h6 h7=>Zca (by
  obtain⟨rfl,rfl,rfl⟩:=h1;obtain⟨rfl,rfl,rfl,rfl,rfl,rfl⟩:=h2;obtain⟨rfl,rfl,rfl⟩:=h3;rw[eqB_iff.1 h4,eqB_iff.1 h5,eqB_iff.1 h6,eqB_iff.1 h7])
 generalize eqB (⟨a0,a1,a2,a3,a4,a5,a6,a7,a8,a9,a10,a11,a12,a13,a14,a15⟩:Lc) (⟨b0,b1,b2,b3,b4,b5,b6,b7,b8,b9,b10,b11,b12,b13,b14,b15⟩:Lc)=res at *;have oS:=fun W=>Zafu a5 a6 a7 a8 a9 a10 b5 b6 b7 b8 b9 b10 W (szM sa5) (szM sa6) (szM sa7) (szM sa8) (Zha sa9.1 sa9.2) (Zha sa10.1 sa10.2) (szM sb5) (szM sb6) (szM sb7) (szM sb8) (Zha sb9.1 sb9.2) (Zha sb10.1 sb10.2);clear sa0 sa1 sa2 sa5 sa6 sa7 sa8 sa9 sa10 sb0 sb1 sb2 sb5 sb6 sb7 sb8 sb9 sb10;have St:=Hd Sb;have Zy:=Hd Sc;obtain⟨n11,hn⟩:∃n,a11.length=n:=⟨_,rfl⟩;have Lh:=Hd hn;clear Sb Sc Zd;rw[hn]at St Ze Zf⊢;clear hn;have Su:=Hd Sh;have Zz:=Hd Si;obtain⟨nx11,hn⟩:∃n,b11.length=n:=⟨_,rfl⟩;have Oc:=Hd hn;clear Sh Si Zm;rw[hn]at Su Zn Zo⊢;clear hn;have Sv:=Hd Sd;have Z0:=Hd Se;obtain⟨n12,hn⟩:∃n,a12.length=n:=⟨_,rfl⟩;have Li:=Hd hn;clear Sd Se Zg;rw[hn]at Sv Zh Zi⊢;clear hn;have Sw:=Hd Sj;have Z1:=Hd Sn;obtain⟨nx12,hn⟩:∃n,b12.length=n:=⟨_,rfl⟩;have Od:=Hd hn;clear Sj Sn Zp;rw[hn]at Sw Zq Zr⊢;clear hn;have Sx:=Hd Sf;have Z2:=Hd Sg;obtain⟨n13,hn⟩:∃n,a13.length=n:=⟨_,rfl⟩;have Lj:=Hd hn;clear Sf Sg Zj;rw[hn]at Sx Zk Zl⊢;clear hn;have Sy:=Hd So;have Z3:=Hd Sp;obtain⟨nx13,hn⟩:∃n,b13.length=n:=⟨_,rfl⟩;have Oe:=Hd hn;clear So Sp Zs;rw[hn]at Sy Zt Zu⊢;clear hn;have Sz:Hid (n11≠nx11→res=false):=fun h=>Sq.out (fun e=>h (by rw[←Lh.out,←Oc.out,e]));have S0:Hid (n12≠nx12→res=false):=fun h=>Sr.out (fun e=>h (by rw[←Li.out,←Od.out,e]));have S1:Hid (n13≠nx13→res=false):=fun h=>Ss.out (fun e=>h (by rw[←Lj.out,←Oe.out,e]));have Ai:Hid (Below w.heap.size w ((w.alloc (.cells #[.string a0,.string a1,.string a2,Va3,Va4,.string a5,.string a6,.string a7,.string a8,.int .i64 a9,.int .i64 a10,.slice ada11 n11 ca11,.slice ada12 n12 ca12,.slice ada13 n13 ca13,Va14,Va15] 46)).alloc (.cells #[.string b0,.string b1,.string b2,Vb3,Vb4,.string b5,.string b6,.string b7,.string b8,.int .i64 b9,.int .i64 b10,.slice adb11 nx11 cb11,.slice adb12 nx12 cb12,.slice adb13 nx13 cb13,Vb14,Vb15] 46))):=Bel.alloc (Bel.alloc (Bel.refl w) _) _;have HX:Hid (Cel ((w.alloc (.cells #[.string a0,.string a1,.string a2,Va3,Va4,.string a5,.string a6,.string a7,.string a8,.int .i64 a9,.int .i64 a10,.slice ada11 n11 ca11,.slice ada12 n12 ca12,.slice ada13 n13 ca13,Va14,Va15] 46)).alloc (.cells #[.string b0,.string b1,.string b2,Vb3,Vb4,.string b5,.string b6,.string b7,.string b8,.int .i64 b9,.int .i64 b10,.slice adb11 nx11 cb11,.slice adb12 nx12 cb12,.slice adb13 nx13 cb13,Vb14,Vb15] 46)) w.heap.size 46 [.string a0,.string a1,.string a2,Va3,Va4,.string a5,.string a6,.string a7,.string a8,.int .i64 a9,.int .i64 a10,.slice ada11 n11 ca11,.slice ada12 n12 ca12,.slice ada13 n13 ca13,Va14,Va15]):=(Cel.new w [.string a0,.string a1,.string a2,Va3,Va4,.string a5,.string a6,.string a7,.string a8,.int .i64 a9,.int .i64 a10,.slice ada11 n11 ca11,.slice ada12 n12 ca12,.slice ada13 n13 ca13,Va14,Va15] 46).below (Bel.alloc (Bel.refl _) _);have HY:Hid (Cel ((w.alloc (.cells #[.string a0,.string a1,.string a2,Va3,Va4,.string a5,.string a6,.string a7,.string a8,.int .i64 a9,.int .i64 a10,.slice ada11 n11 ca11,.slice ada12 n12 ca12,.slice ada13 n13 ca13,Va14,Va15] 46)).alloc (.cells #[.string b0,.string b1,.string b2,Vb3,Vb4,.string b5,.string b6,.string b7,.string b8,.int .i64 b9,.int .i64 b10,.slice adb11 nx11 cb11,.slice adb12 nx12 cb12,.slice adb13 nx13 cb13,Vb14,Vb15] 46)) (w.heap.size+1) 46 [.string b0,.string b1,.string b2,Vb3,Vb4,.string b5,.string b6,.string b7,.string b8,.int .i64 b9,.int .i64 b10,.slice adb11 nx11 cb11,.slice adb12 nx12 cb12,.slice adb13 nx13 cb13,Vb14,Vb15]):=by
  have:=Cel.new (w.alloc (.cells #[.string a0,.string a1,.string a2,Va3,Va4,.string a5,.string a6,.string a7,.string a8,.int .i64 a9,.int .i64 a10,.slice ada11 n11 ca11,.slice ada12 n12 ca12,.slice ada13 n13 ca13,Va14,Va15] 46)) [.string b0,.string b1,.string b2,Vb3,Vb4,.string b5,.string b6,.string b7,.string b8,.int .i64 b9,.int .i64 b10,.slice adb11 nx11 cb11,.slice adb12 nx12 cb12,.slice adb13 nx13 cb13,Vb14,Vb15] 46
  rwa [show(w.alloc (.cells #[.string a0,.string a1,.string a2,Va3,Va4,.string a5,.string a6,.string a7,.string a8,.int .i64 a9,.int .i64 a10,.slice ada11 n11 ca11,.slice ada12 n12 ca12,.slice ada13 n13 ca13,Va14,Va15] 46)).heap.size=w.heap.size+1 by simp]at this
 go_enter func30,ntmps30
 go_upto_region 1 with(fail)
 generalize (w.alloc (.cells #[.string a0,.string a1,.string a2,Va3,Va4,.string a5,.string a6,.string a7,.string a8,.int .i64 a9,.int .i64 a10,.slice ada11 n11 ca11,.slice ada12 n12 ca12,.slice ada13 n13 ca13,Va14,Va15] 46)).alloc (.cells #[.string b0,.string b1,.string b2,Vb3,Vb4,.string b5,.string b6,.string b7,.string b8,.int .i64 b9,.int .i64 b10,.slice adb11 nx11 cb11,.slice adb12 nx12 cb12,.slice adb13 nx13 cb13,Vb14,Vb15] 46)=w2 at *;have Gz:Hid (∀W,Below w2.heap.size w2 W→_):=fun W k=>Gz.out W (Ai.out.trans (k.mono Ai.out.size));have Jl:Hid (∀W,Below w2.heap.size w2 W→_):=fun W k=>Jl.out W (Ai.out.trans (k.mono Ai.out.size));have Ve:Hid (∀W,Below w2.heap.size w2 W→_):=fun W k=>Ve.out W (Ai.out.trans (k.mono Ai.out.size));have Vf:Hid (∀W,Below w2.heap.size w2 W→_):=fun W k=>Vf.out W (Ai.out.trans (k.mono Ai.out.size));have x0:=HX.out.cell 0;have y0:=HY.out.cell 0;have x1:=HX.out.cell 1;have y1:=HY.out.cell 1;have x2:=HX.out.cell 2;have y2:=HY.out.cell 2;have x5:=HX.out.cell 5;have y5:=HY.out.cell 5;have x6:=HX.out.cell 6;have y6:=HY.out.cell 6;have x7:=HX.out.cell 7;have y7:=HY.out.cell 7;have x8:=HX.out.cell 8;have y8:=HY.out.cell 8;have x9:=HX.out.cell 9;have y9:=HY.out.cell 9;have x10:=HX.out.cell 10;have y10:=HY.out.cell 10;have x11:=HX.out.cell 11;have y11:=HY.out.cell 11;have x12:=HX.out.cell 12;have y12:=HY.out.cell 12;have x13:=HX.out.cell 13;have y13:=HY.out.cell 13;simp only[Le0,Le1]at x0 y0 x1 y1 x2 y2 x5 y5 x6 y6 x7 y7 x8 y8 x9 y9 x10 y10 x11 y11 x12 y12 x13 y13
 by_cases h0:a0=b0
 ·subst h0;have m0:(a0.toList !=a0.toList)=false:=by simp
  by_cases h1:a1=b1
  ·subst h1;have m1:(a1.toList !=a1.toList)=false:=by simp
   by_cases h2:a2=b2
   ·subst h2;have m2:(a2.toList !=a2.toList)=false:=by simp
    by_cases Ht:a5=b5∧a6=b6∧a7=b7∧a8=b8∧a9=b9∧a10=b10
    ·rw[decide_eq_true Ht]at oS
     by_cases C9:n11=nx11
     ·subst C9;have l11:((n11:Int) !=(n11:Int))=false:=by simp
      by_cases Mk:n12=nx12
      ·subst Mk;have l12:((n12:Int) !=(n12:Int))=false:=by simp
       by_cases Kt:n13=nx13
       ·subst Kt;have l13:((n13:Int) !=(n13:Int))=false:=by simp
        have Z4:Hid ((a11=b11∧a12=b12∧a13=b13)→eqB a3 b3=true→eqB a4 b4=true→eqB a14 b14=true→eqB a15 b15=true→res=true):=Jr.out ⟨rfl,rfl,rfl⟩ Ht;have Es:Hid (Below w2.heap.size w2 w2):=Below.refl _ _;clear Jr Sz S0 S1
        go_wp2_with fail
        skip
        go_loopw [5] (fun i wr=>∃k:Nat,i= .int .i64 (k:Int)∧k≤n11∧(∀j,j<k→a11.getD j default=b11.getD j default)∧Below w2.heap.size w2 wr) (fun i _=>n11 -(intOf i).toNat)
        case atStart=>exact⟨0,rfl,zero_le _,fun i hi=>absurd hi (Nat.not_lt_zero _),Es.out⟩
        case round=>
         obtain⟨k,rfl,Co,Cn,Ak⟩:=hrel;have B9:=Hd Cn;have Ac:=Hd Ak;have Bl:=Ak.size;have D6:=Hd (Ai.out.trans (Ak.mono Ai.out.size));clear Cn Ak;have X3:=(HX.out.below Ac.out).cell 11;have Y3:=(HY.out.below Ac.out).cell 11;simp only[Le0,Le1]at X3 Y3
         by_cases Aa:k<n11
         ·have gA:=St.out.below D6.out;have gB:=Su.out.below D6.out;have ixA:=fun W=>gA.ix (P:=prog) 41 130 underlying41 Zs3 (by decide) Aa ca11 W;have ixB:=fun W=>gB.ix (P:=prog) 41 130 underlying41 Zs3 (by decide) Aa cb11 W;have eA0:=gA.cell k 0 Aa (by decide);have eA1:=gA.cell k 1 Aa (by decide);have eA2:=gA.cell k 2 Aa (by decide);have eA3:=gA.cell k 3 Aa (by decide);have eA4:=gA.cell k 4 Aa (by decide);have eB0:=gB.cell k 0 Aa (by decide);have eB1:=gB.cell k 1 Aa (by decide);have eB2:=gB.cell k 2 Aa (by decide);have eB3:=gB.cell k 3 Aa (by decide);have eB4:=gB.cell k 4 Aa (by decide);clear gA gB;have Cy:k<a11.length:=by rw[Lh.out];exact Aa
          have Cz:k<b11.length:=by rw[Oc.out];exact Aa
          have Ao:Hid (a11.getD k default=b11.getD k default→∀j,j<k+1→a11.getD j default=b11.getD j default):=fun h j hj=>by
           rcases lt_or_ge j k with h'|h'
           ·exact B9.out j h'
           ·rw[show j=k by omega];exact h
          have Bj:Hid (a11.getD k default≠b11.getD k default→res=false):=fun h=>Sq.out (Zer h);have hA:=Zy.out k Cy;have hB:=Zz.out k Cz;rw[Zb0 a11 default Cy]at hA;rw[Zb0 b11 default Cz]at hB;generalize a11.getD k default=x at *;generalize b11.getD k default=y at *;obtain⟨x0,x1,x2,x3,x4⟩:=x;obtain⟨y0,y1,y2,y3,y4⟩:=y;obtain⟨⟨Ek,zA0⟩,⟨Fv,zA1⟩,⟨Of,zA2⟩,⟨Z5,zA3⟩,⟨iY,zA4⟩⟩:=hA;obtain⟨⟨E5,zB0⟩,⟨Fj,zB1⟩,⟨Og,zB2⟩,⟨iZ,zB3⟩,⟨jA,zB4⟩⟩:=hB;simp only at Ek zA0 E5 zB0 Fv zA1 Fj zB1 Of zA2 Og zB2 Z5 zA3 iZ zB3 iY zA4 jA zB4;rw[Ek]at eA0;rw[E5]at eB0;rw[Fv]at eA1;rw[Fj]at eB1;rw[Of]at eA2;rw[Og]at eB2;rw[Z5]at eA3;rw[iZ]at eB3;rw[iY]at eA4;rw[jA]at eB4;simp only[add_zero]at eA0 eB0;have hq:=fun W=>Zaiw x0 x1 x2 x3 x4 y0 y1 y2 y3 y4 W (szM zA0) (szM zA1) (szM zA2) (szM zA3) (szM zA4) (szM zB0) (szM zB1) (szM zB2) (szM zB3) (szM zB4);clear Cy Cz Ek zA0 E5 zB0 Fv zA1 Fj zB1 Of zA2 Og zB2 Z5 zA3 iZ zB3 iY zA4 jA zB4
          by_cases Cu:x0=y0∧x1=y1∧x2=y2∧x3=y3∧x4=y4
          ·rw[decide_eq_true Cu]at hq;have HN:=Hd (Ao.out (by obtain⟨rfl,rfl,rfl,rfl,rfl⟩:=Cu;rfl));clear Ao Bj Cu
           go_wp2_with fail
           go_quiet (fail)
           go_wp2_with fail
           go_roundw
           case rel=>exact⟨k+1,by go_num,by omega,HN.out,Ac.out.trans ((Zat _ _).mono Bl)⟩
           case measure=>simp[intOf];omega
          ·rw[decide_eq_false Cu]at hq;have HN:=Hd (Bj.out (fun e=>Cu (by injection e with e0 e1 e2 e3 e4;exact⟨e0,e1,e2,e3,e4⟩)));clear Ao Bj Cu
           go_wp2_with fail
           go_quiet (fail)
           go_wp2_with fail
           go_ret;exact⟨by rw[HN.out];rfl,D6.out.trans ((Zat _ _).mono (le_trans Ai.out.size Bl))⟩
         ·obtain rfl:k=n11:=by omega
          have L9:Hid (a11=b11):=Zd3 (by rw[Lh.out,Oc.out]) (fun j hj=>B9.out j (by rw[Lh.out]at hj;exact hj));have Es:=Ac;obtain⟨wz11,G6⟩:∃W,W=wr:=⟨_,rfl⟩;rw[←G6]at Es X3 Y3⊢;clear D6 Ac B9 G6 Bl
          go_wp2_with fail
          clear X3 Y3
          go_loopw [6] (fun i wr=>∃k:Nat,i= .int .i64 (k:Int)∧k≤n12∧(∀j,j<k→a12.getD j default=b12.getD j default)∧Below w2.heap.size w2 wr) (fun i _=>n12 -(intOf i).toNat)
          case atStart=>exact⟨0,rfl,zero_le _,fun i hi=>absurd hi (Nat.not_lt_zero _),Es.out⟩
          case round=>
           obtain⟨k,rfl,Co,Cn,Ak⟩:=hrel;have B9:=Hd Cn;have Ac:=Hd Ak;have Bl:=Ak.size;have D6:=Hd (Ai.out.trans (Ak.mono Ai.out.size));clear Cn Ak;have X3:=(HX.out.below Ac.out).cell 12;have Y3:=(HY.out.below Ac.out).cell 12;simp only[Le0,Le1]at X3 Y3
           by_cases Aa:k<n12
           ·have gA:=Sv.out.below D6.out;have gB:=Sw.out.below D6.out;have ixA:=fun W=>gA.ix (P:=prog) 42 132 underlying42 Zsl (by decide) Aa ca12 W;have ixB:=fun W=>gB.ix (P:=prog) 42 132 underlying42 Zsl (by decide) Aa cb12 W;have eA0:=gA.cell k 0 Aa (by decide);have eA1:=gA.cell k 1 Aa (by decide);have eA2:=gA.cell k 2 Aa (by decide);have eB0:=gB.cell k 0 Aa (by decide);have eB1:=gB.cell k 1 Aa (by decide);have eB2:=gB.cell k 2 Aa (by decide);clear gA gB;have Cy:k<a12.length:=by rw[Li.out];exact Aa
            have Cz:k<b12.length:=by rw[Od.out];exact Aa
            have Ao:Hid (a12.getD k default=b12.getD k default→∀j,j<k+1→a12.getD j default=b12.getD j default):=fun h j hj=>by
             rcases lt_or_ge j k with h'|h'
             ·exact B9.out j h'
             ·rw[show j=k by omega];exact h
            have Bj:Hid (a12.getD k default≠b12.getD k default→res=false):=fun h=>Sr.out (Zer h);have hA:=Z0.out k Cy;have hB:=Z1.out k Cz;rw[Zb0 a12 default Cy]at hA;rw[Zb0 b12 default Cz]at hB;generalize a12.getD k default=x at *;generalize b12.getD k default=y at *;obtain⟨x0,x1,x2⟩:=x;obtain⟨y0,y1,y2⟩:=y;obtain⟨⟨Ek,zA0⟩,⟨Fv,zA1⟩,⟨Of,zA2⟩⟩:=hA;obtain⟨⟨E5,zB0⟩,⟨Fj,zB1⟩,⟨Og,zB2⟩⟩:=hB;simp only at Ek zA0 E5 zB0 Fv zA1 Fj zB1 Of zA2 Og zB2;rw[Ek]at eA0;rw[E5]at eB0;rw[Fv]at eA1;rw[Fj]at eB1;rw[Of]at eA2;rw[Og]at eB2;simp only[add_zero]at eA0 eB0;have hq:=fun W=>Zakr x0 x1 x2 y0 y1 y2 W (szM zA0) (szM zA1) (szM zA2) (szM zB0) (szM zB1) (szM zB2);clear Cy Cz Ek zA0 E5 zB0 Fv zA1 Fj zB1 Of zA2 Og zB2
            by_cases Cu:x0=y0∧x1=y1∧x2=y2
            ·rw[decide_eq_true Cu]at hq;have HN:=Hd (Ao.out (by obtain⟨rfl,rfl,rfl⟩:=Cu;rfl));clear Ao Bj Cu
             go_wp2_with fail
             go_quiet (fail)
             go_wp2_with fail
             go_roundw
             case rel=>exact⟨k+1,by go_num,by omega,HN.out,Ac.out.trans ((Zat _ _).mono Bl)⟩
             case measure=>simp[intOf];omega
            ·rw[decide_eq_false Cu]at hq;have HN:=Hd (Bj.out (fun e=>Cu (by injection e with e0 e1 e2;exact⟨e0,e1,e2⟩)));clear Ao Bj Cu
             go_wp2_with fail
             go_quiet (fail)
             go_wp2_with fail
             go_ret;exact⟨by rw[HN.out];rfl,D6.out.trans ((Zat _ _).mono (le_trans Ai.out.size Bl))⟩
           ·obtain rfl:k=n12:=by omega
            have Ma:Hid (a12=b12):=Zd3 (by rw[Li.out,Od.out]) (fun j hj=>B9.out j (by rw[Li.out]at hj;exact hj));have Es:=Ac;obtain⟨wz12,G6⟩:∃W,W=wr:=⟨_,rfl⟩;rw[←G6]at Es X3 Y3⊢;clear D6 Ac B9 G6 Bl
            go_wp2_with fail
            clear X3 Y3
            go_loopw [7] (fun i wr=>∃k:Nat,i= .int .i64 (k:Int)∧k≤n13∧(∀j,j<k→a13.getD j default=b13.getD j default)∧Below w2.heap.size w2 wr) (fun i _=>n13 -(intOf i).toNat)
            case atStart=>exact⟨0,rfl,zero_le _,fun i hi=>absurd hi (Nat.not_lt_zero _),Es.out⟩
            case round=>
             obtain⟨k,rfl,Co,Cn,Ak⟩:=hrel;have B9:=Hd Cn;have Ac:=Hd Ak;have Bl:=Ak.size;have D6:=Hd (Ai.out.trans (Ak.mono Ai.out.size));clear Cn Ak;have X3:=(HX.out.below Ac.out).cell 13;have Y3:=(HY.out.below Ac.out).cell 13;simp only[Le0,Le1]at X3 Y3
             by_cases Aa:k<n13
             ·have gA:=Sx.out.below D6.out;have gB:=Sy.out.below D6.out;have ixA:=fun W=>gA.ix (P:=prog) 43 134 underlying43 Zsd (by decide) Aa ca13 W;have ixB:=fun W=>gB.ix (P:=prog) 43 134 underlying43 Zsd (by decide) Aa cb13 W;have eA0:=gA.cell k 0 Aa (by decide);have eA1:=gA.cell k 1 Aa (by decide);have eB0:=gB.cell k 0 Aa (by decide);have eB1:=gB.cell k 1 Aa (by decide);clear gA gB;have Cy:k<a13.length:=by rw[Lj.out];exact Aa
              have Cz:k<b13.length:=by rw[Oe.out];exact Aa
              have Ao:Hid (a13.getD k default=b13.getD k default→∀j,j<k+1→a13.getD j default=b13.getD j default):=fun h j hj=>by
               rcases lt_or_ge j k with h'|h'
               ·exact B9.out j h'
               ·rw[show j=k by omega];exact h
              have Bj:Hid (a13.getD k default≠b13.getD k default→res=false):=fun h=>Ss.out (Zer h);have hA:=Z2.out k Cy;have hB:=Z3.out k Cz;rw[Zb0 a13 default Cy]at hA;rw[Zb0 b13 default Cz]at hB;generalize a13.getD k default=x at *;generalize b13.getD k default=y at *;obtain⟨x0,x1⟩:=x;obtain⟨y0,y1⟩:=y;obtain⟨⟨Ek,zA0⟩,⟨Fv,zA1⟩⟩:=hA;obtain⟨⟨E5,zB0⟩,⟨Fj,zB1⟩⟩:=hB;simp only at Ek zA0 E5 zB0 Fv zA1 Fj zB1;rw[Ek]at eA0;rw[E5]at eB0;rw[Fv]at eA1;rw[Fj]at eB1;simp only[add_zero]at eA0 eB0;have hq:=fun W=>Zajx x0 x1 y0 y1 W (szM zA0) (szM zA1) (szM zB0) (szM zB1);clear Cy Cz Ek zA0 E5 zB0 Fv zA1 Fj zB1
              by_cases Cu:x0=y0∧x1=y1
              ·rw[decide_eq_true Cu]at hq;have HN:=Hd (Ao.out (by obtain⟨rfl,rfl⟩:=Cu;rfl));clear Ao Bj Cu
               go_wp2_with fail
               go_quiet (fail)
               go_wp2_with fail
               go_roundw
               case rel=>exact⟨k+1,by go_num,by omega,HN.out,Ac.out.trans ((Zat _ _).mono Bl)⟩
               case measure=>simp[intOf];omega
              ·rw[decide_eq_false Cu]at hq;have HN:=Hd (Bj.out (fun e=>Cu (by injection e with e0 e1;exact⟨e0,e1⟩)));clear Ao Bj Cu
               go_wp2_with fail
               go_quiet (fail)
               go_wp2_with fail
               go_ret;exact⟨by rw[HN.out];rfl,D6.out.trans ((Zat _ _).mono (le_trans Ai.out.size Bl))⟩
             ·obtain rfl:k=n13:=by omega
              have Mb:Hid (a13=b13):=Zd3 (by rw[Lj.out,Oe.out]) (fun j hj=>B9.out j (by rw[Lj.out]at hj;exact hj));have Es:=Ac;obtain⟨wz13,G6⟩:∃W,W=wr:=⟨_,rfl⟩;rw[←G6]at Es X3 Y3⊢;clear D6 Ac B9 G6 Bl;have X3:=(HX.out.below Es.out).cell 3;have X4:=(HX.out.below Es.out).cell 4;have X14:=(HX.out.below Es.out).cell 14;have X15:=(HX.out.below Es.out).cell 15;have Y3:=(HY.out.below Es.out).cell 3;have Y4:=(HY.out.below Es.out).cell 4;have Y14:=(HY.out.below Es.out).cell 14;have Y15:=(HY.out.below Es.out).cell 15;simp only[Le0,Le1]at X3 X4 X14 X15 Y3 Y4 Y14 Y15
              go_wp2_with fail
              refine(Gz.out _ Es.out).mono ?_;rintro _ wq3 ⟨rfl,Ax⟩;have C3:=Hd (Es.out.trans (Ax.mono Es.out.size));have Bj:=Zv;have Wk:=Z4;clear Zv Z4;generalize eqB a3 b3=q3 at *;cases q3 with
              |false=>
               have HN:=Hd (Bj.out rfl)
               go_wp2_with fail
               go_ret;exact⟨by rw[HN.out];rfl,Ai.out.trans (C3.out.mono Ai.out.size)⟩
              |true=>
               clear Bj X3 Y3;have X4:=(HX.out.below C3.out).cell 4;have Y4:=(HY.out.below C3.out).cell 4;simp only[Le0,Le1]at X4 Y4
               go_wp2_with fail
               refine(Jl.out _ C3.out).mono ?_;rintro _ wq4 ⟨rfl,Dk⟩;have D8:=Hd (C3.out.trans (Dk.mono C3.out.size));generalize eqB a4 b4=q4 at *;cases q4 with
               |false=>
                have HN:=Hd (iW.out rfl)
                go_wp2_with fail
                go_ret;exact⟨by rw[HN.out];rfl,Ai.out.trans (D8.out.mono Ai.out.size)⟩
               |true=>
                have X14:=(HX.out.below D8.out).cell 14;have Y14:=(HY.out.below D8.out).cell 14;simp only[Le0,Le1]at X14 Y14
                go_wp2_with fail
                refine(Ve.out _ D8.out).mono ?_;rintro _ wq14 ⟨rfl,jB⟩;have Mc:=Hd (D8.out.trans (jB.mono D8.out.size));generalize eqB a14 b14=q14 at *;cases q14 with
                |false=>
                 have HN:=Hd (Zw.out rfl)
                 go_wp2_with fail
                 go_ret;exact⟨by rw[HN.out];rfl,Ai.out.trans (Mc.out.mono Ai.out.size)⟩
                |true=>
                 have X15:=(HX.out.below Mc.out).cell 15;have Y15:=(HY.out.below Mc.out).cell 15;simp only[Le0,Le1]at X15 Y15
                 go_wp2_with fail
                 refine(Vf.out _ Mc.out).mono ?_;rintro _ wq15 ⟨rfl,jC⟩;have jD:=Hd (Mc.out.trans (jC.mono Mc.out.size));have HS:Hid (eqB a15 b15=res):=by
                  unfold Hid;cases hq:eqB a15 b15 with
                  |true=>exact(Wk.out ⟨L9.out,Ma.out,Mb.out⟩ (by first|rfl|trivial) (by first|rfl|trivial) (by first|rfl|trivial) hq).symm
                  |false=>exact(Zx.out hq).symm
                 rw[HS.out]
                 go_wp2_with fail
                 go_ret;exact⟨rfl,Ai.out.trans (jD.out.mono Ai.out.size)⟩
       ·have HN:=Hd (S1.out Kt);have l13:((n13:Int) !=(nx13:Int))=true:=by simp only[bne_iff_ne];omega
        have l13': ¬((n13:Int)=(nx13:Int)):=by omega
        go_wp2_with fail
        go_ret;exact⟨by rw[HN.out];rfl,Ai.out⟩
      ·have HN:=Hd (S0.out Mk);have l12:((n12:Int) !=(nx12:Int))=true:=by simp only[bne_iff_ne];omega
       have l12': ¬((n12:Int)=(nx12:Int)):=by omega
       go_wp2_with fail
       go_ret;exact⟨by rw[HN.out];rfl,Ai.out⟩
     ·have HN:=Hd (Sz.out C9);have l11:((n11:Int) !=(nx11:Int))=true:=by simp only[bne_iff_ne];omega
      have l11': ¬((n11:Int)=(nx11:Int)):=by omega
      go_wp2_with fail
      go_ret;exact⟨by rw[HN.out];rfl,Ai.out⟩
    ·rw[decide_eq_false Ht]at oS;have HN:=Hd (iX.out Ht)
     go_wp2_with fail
     go_ret;exact⟨by rw[HN.out];rfl,Ai.out⟩
   ·have HN:=Hd (Qh.out h2);have Qe:(a2.toList==b2.toList)=false:=by rw[Zdy,decide_eq_false h2]
    have Q3:(a2.toList !=b2.toList)=true:=by unfold bne;rw[Qe];rfl
    go_wp2_with fail
    go_ret;exact⟨by rw[HN.out];rfl,Ai.out⟩
  ·have HN:=Hd (Qg.out h1);have Qe:(a1.toList==b1.toList)=false:=by rw[Zdy,decide_eq_false h1]
   have Q3:(a1.toList !=b1.toList)=true:=by unfold bne;rw[Qe];rfl
   go_wp2_with fail
   go_ret;exact⟨by rw[HN.out];rfl,Ai.out⟩
 ·have HN:=Hd (Qf.out h0);have Qe:(a0.toList==b0.toList)=false:=by rw[Zdy,decide_eq_false h0]
  have Q3:(a0.toList !=b0.toList)=true:=by unfold bne;rw[Qe];rfl
  go_wp2_with fail
  go_ret;exact⟨by rw[HN.out];rfl,Ai.out⟩
end Go.Proofs.YtmleeodfmmpdgaaGreatDoor
