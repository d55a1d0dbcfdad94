/- part -/
import Derived.Test.YtmleeodfmmpdgaaGreatDoorQ14
import Derived.Test.YtmleeodfmmpdgaaGreatDoorQ15
set_option maxRecDepth 20000
set_option maxHeartbeats 4000000
namespace Go.Proofs.YtmleeodfmmpdgaaGreatDoor
open Go.RowKit
attribute [local go_sem] Ext.cell Ext.frozen
attribute [local go_sem ↓] Go.wp_at_zero Go.wp_at_succ
open _root_.Go.Proofs.Tryz
theorem Zlm {P:Program} {c:Code} {Q:Exit→Act→World→Prop} {a:Act} {w:World} (h:∀W,W=w→c.wp P Q a W):c.wp P Q a w:=h w rfl
theorem Zajs (s p:ByteArray)(w:World):Calls prog 316 #[.string s,.string p] w fun e w'=>e= .returned (.bool (p.data.toList.isPrefixOf s.data.toList))∧w=w':=
 (Any.strings_HasPrefix Tryz.lays99 s p w).mono fun _ _ ⟨h1,h2⟩=>⟨h1,h2.symm⟩
theorem Zaiz:prog.cellsOf 9=1:=by kernel_rfl
def marksC:List (List UInt8):=[[46,46],[33,61],[37],[61],[44]]
theorem Zzg {c:UInt8} {r:List UInt8} (h1:Zby c=false)(h2:Zbo c=false):Zfz (c::r)=(marksC.find? fun m=>m.isPrefixOf (c::r)).getD []:=by
 rw[Zfz,if_neg (by rw[h1];simp),if_neg (by rw[h2];simp)];have e:∀a:UInt8,(a==c)=decide (c=a):=fun a=>by
  rw[Bool.eq_iff_iff,beq_iff_eq,decide_eq_true_eq];exact eq_comm
 have key:∀a b:UInt8,List.isPrefixOf [a,b] (c::r)=(decide (c=a)&&decide (r.head? =some b)):=fun a b=>by
  cases r with
  |nil=>simp[List.isPrefixOf]
  |cons d r=>
   simp only[List.isPrefixOf,List.head?_cons,Option.some.injEq,Bool.and_true,e];congr 1;rw[Bool.eq_iff_iff,beq_iff_eq,decide_eq_true_eq];exact eq_comm
 have key1:∀a:UInt8,List.isPrefixOf [a] (c::r)=decide (c=a):=fun a=>by simp only[List.isPrefixOf,Bool.and_true,e]
 unfold marksC;simp only[List.find?_cons,key,key1,List.find?_nil]
 by_cases g1:c=46
 ·subst g1
  by_cases g2:r.head? =some 46
  ·simp[g2]
  ·simp[g2]
 ·by_cases g3:c=33
  ·subst g3
   by_cases g2:r.head? =some 61
   ·simp[g2]
   ·simp[g2]
  ·by_cases g4:c=37
   ·subst g4;simp
   ·by_cases g5:c=61
    ·subst g5;simp
    ·by_cases g6:c=44
     ·subst g6;simp
     ·simp[g1,g3,g4,g5,g6]
theorem Zvu {α:Type} {p:α→Bool} {d:α} :∀ {l:List α} {k:Nat},(∀j,j<k→p (l.getD j d)=false)→k<l.length→p (l.getD k d)=true→l.find? p=some (l.getD k d)
 |[],_,_,hk,_=>absurd hk (Nat.not_lt_zero _)
 |x::l,0,_,_,hp=>by
  have:p x=true:=hp;rw[List.find?_cons_of_pos this];rfl
 |x::l,k+1,h,hk,hp=>by
  have h0:p x=false:=h 0 (Nat.succ_pos _);rw[List.find?_cons_of_neg (by rw[h0];simp)];have:=Zvu (l:=l) (k:=k) (d:=d) (fun j hj=>h (j+1) (by omega)) (by simpa using hk) hp;rw[this];rfl
theorem Zabg {α:Type} {p:α→Bool} {d:α} {l:List α} (h:∀j,j<l.length→p (l.getD j d)=false):l.find? p=none:=by
 rw[List.find?_eq_none];intro x hx nC;obtain⟨j,hj,rfl⟩:=List.getElem_of_mem hx;have:=h j hj;rw[List.getD_eq_getElem?_getD,List.getElem?_eq_getElem hj]at this;simp only[Option.getD_some]at this;rw[this]at nC;cases nC
theorem Zj3 (b:Nat)(S:ByteArray)(p:CP)(w:World)(h:Pq w b S p):Calls prog 337 #[.pointer (some ⟨b,0,none⟩)] w (PqP b S (.string (bs (Zag S.data.toList p.pos))) (p.skip S.data.toList) w):=by
 have Gw:=Hd (Zq3 b S p w h);have Kw:=Hd Zmt;have Gu:=Hd Zk4;have Am:=h.2.2.2;have Em:=Zn6 (s:=S.data.toList) (i:=p.pos) (by rw[Zbm];exact h.2.1);rw[Zbm]at Em;have Gm:Hid (Zag S.data.toList p.pos=Zfz (S.data.toList.drop (Zb9 S.data.toList p.pos))):=rfl;have cK:S.extract (Zb9 S.data.toList p.pos) S.size=bs (S.data.toList.drop (Zb9 S.data.toList p.pos)):=by
  have:=Zdz S.data.toList (Zb9 S.data.toList p.pos) S.size;rw[Zjm,List.take_of_length_le (by rw[Zbm];exact Nat.le_refl _)]at this;exact this
 have Re:(S.data.toList.drop (Zb9 S.data.toList p.pos)).length≤200000:=by rw[List.length_drop,Zbm];omega
 have Fd:Hid ((p.skip S.data.toList).pos=Zb9 S.data.toList p.pos):=rfl;unfold PqP at Gw⊢;clear h;generalize Zag S.data.toList p.pos=tk at *;generalize p.skip S.data.toList=q at *;generalize S.data.toList.drop (Zb9 S.data.toList p.pos)=rl at *;generalize Zb9 S.data.toList p.pos=k0 at *
 go_enter func337,ntmps337
 go_wp2_with fail
 refine Gw.out.mono ?_;rintro _ w1 ⟨rfl,Av,At⟩;have Ea:=Hd Av;have HK:=Hd At;obtain⟨c0,c1,_,_,_,_,_⟩:=Av.cells;rw[Fd.out]at c1;have hb:=Av.lt;clear Av At Gw;obtain⟨qp,qr,qe⟩:=q
 go_upto_region 2 with(fail)
 refine Zaq (by kernel_rfl) (by kernel_rfl) ?_
 repeat (go_big_quiet_step (fail))
 refine wpQuiet_nil ?_;intro _ Eb;obtain⟨X9,Bo⟩:=Eb;subst Bo;have HK:=Hd (HK.out.trans (Za4 X9.2));have Ea:=Hd (Ea.out.below X9.2);clear c0 c1 hb;generalize X9.val=w2 at *
 try rw[cK]
 clear cK;cases rl with
 |nil=>
  have HT:Hid (bs tk= .empty):=by rw[Hid,Gm.out];rfl
  have Hl:(bs ([]:List UInt8)).toList=[]:=Zd1 _
  go_wp2_with fail
  go_ret;exact⟨by rw[HT.out];rfl,Ea.out,HK.out⟩
 |cons c r=>
  have Hl:(bs (c::r)).toList=c::r:=Zd1 _;have Az:((bs (c::r)).toList==([]:List UInt8))=false:=by rw[Hl];rfl
  have cE:(bs (c::r)).toList.isEmpty=false:=by rw[Hl];rfl
  have En:(bs (c::r)).size=r.length+1:=Za5 _;have Te:∀g,(bs (c::r))[0]'g=c:=fun g=>rfl;have cT:=Hd (fun w=>Zwq (bs (c::r)) w (by rw[En];simpa using Re));have nD:=Hd (fun w=>Zaah (bs (c::r)) w (by rw[En];simpa using Re));have nE:=Hd (Zajs (bs (c::r)));rw[Zcz]at cT nD nE;clear Hl;have cU:0<(bs (c::r)).size:=by rw[En];omega
  have cV:Hid (Zby c=true→tk=(c::r).takeWhile Zby):=fun h=>by rw[Gm.out,Zfz,if_pos h]
  have V7:Hid (Zby c=false→Zbo c=true→tk=(c::r).takeWhile Zbo):=fun h h2=>by rw[Gm.out,Zfz,if_neg (by rw[h];simp),if_pos h2]
  have cW:Hid (Zby c=false→Zbo c=false→tk=(marksC.find? fun m=>m.isPrefixOf (c::r)).getD []):=fun h h2=>by rw[Gm.out,Zzg h h2]
  generalize (c::r).takeWhile Zby=tl at *;generalize (c::r).takeWhile Zbo=td at *;generalize rL:bs (c::r)=RB at *;clear rL Gm
  go_wp2_with fail
  refine(Kw.out c _).mono ?_;rintro _ _ ⟨rfl,rfl⟩;generalize Zby c=q1 at *;cases q1 with
  |true=>
   have HT:=Hd (cV.out rfl);clear cV V7 cW
   go_wp2_with fail
   refine(cT.out _).mono ?_;rintro _ _ ⟨rfl,rfl⟩
   go_wp2_with fail
   go_ret;exact⟨by rw[HT.out];rfl,Ea.out,HK.out⟩
  |false=>
   go_wp2_with fail
   refine(Gu.out c _).mono ?_;rintro _ _ ⟨rfl,rfl⟩;generalize Zbo c=q2 at *;cases q2 with
   |true=>
    have HT:=Hd (V7.out (by trivial) rfl);clear cV V7 cW
    go_wp2_with fail
    refine(nD.out _).mono ?_;rintro _ _ ⟨rfl,rfl⟩
    go_wp2_with fail
    go_ret;exact⟨by rw[HT.out];rfl,Ea.out,HK.out⟩
   |false=>
    have HM:=Hd (cW.out (by trivial) rfl);clear cV V7 cW
    go_wp2_with fail
    refine Zlm ?_;intro w3 Ty;have An:Hid (Kp (Zaf b) w w3):=by rw[Ty];exact HK.out.alloc _
    have Xv:Hid (Pq w3 b S ⟨qp,qr,qe⟩):=by rw[Ty];exact Ea.out.below (Bel.alloc (Bel.refl w2) _)
    have Ky:Hid (Sl w3 (some ⟨w2.heap.size,0,none⟩) 5 (Zae (marksC.map bs))):=by
     rw[Ty];exact Zjh w2 (Zae (marksC.map bs)) 9 (by decide)
    obtain⟨B,hB⟩:∃B,w2.heap.size=B:=⟨_,rfl⟩;rw[hB]at Ky⊢;clear Ty hB Ea HK
    go_loopw [34] (fun u wr=>∃k:Nat,u= .int .i64 (k:Int)∧k≤5∧(∀j,j<k→(marksC.getD j []).isPrefixOf (c::r)=false)∧wr=w3) (fun u _=>5 -(intOf u).toNat)
    case atStart=>exact⟨0,rfl,Nat.zero_le _,fun j hj=>absurd hj (Nat.not_lt_zero _),rfl⟩
    case round=>
     obtain⟨k,rfl,A9,Cn,rfl⟩:=hrel;have B9:=Hd Cn;clear Cn
     by_cases Aa:k<5
     ·obtain⟨b0,o0,Rf⟩:=Ky.out;have rM:=fun W=>Rf.ix (c:=5) 44 9 underlying44 Zaiz Aa W;have Jv:=Rf.cell k Aa;rw[Zlu _ _ (by exact Aa),show(marksC.map bs).getD k .empty=bs (marksC.getD k []) by
       rw[List.getD_eq_getElem?_getD,List.getElem?_map,List.getD_eq_getElem?_getD,List.getElem?_eq_getElem (show k<marksC.length from Aa)];rfl]at Jv
      have Xu:(k:Int)<5:=by omega
      have HH:=Hd (nE.out (bs (marksC.getD k [])));rw[Zcz]at HH;have Ao:Hid ((marksC.getD k []).isPrefixOf (c::r)=false→∀j,j<k+1→(marksC.getD j []).isPrefixOf (c::r)=false):=fun h j hj=>by
       rcases Nat.lt_or_ge j k with h'|h'
       ·exact B9.out j h'
       ·rw[show j=k by omega];exact h
      have fT:Hid ((marksC.getD k []).isPrefixOf (c::r)=true→tk=marksC.getD k []):=fun h=>by
       rw[HM.out,Zvu (d:=[]) B9.out Aa h];rfl
      clear Rf;generalize (marksC.getD k []).isPrefixOf (c::r)=q3 at *;generalize marksC.getD k []=mk at *
      go_wp2_with fail
      refine(HH.out _).mono ?_;rintro _ _ ⟨rfl,rfl⟩;cases q3 with
      |true=>
       have HT:=Hd (fT.out rfl);clear fT Ao
       go_wp2_with fail
       go_ret;exact⟨by rw[HT.out];rfl,Xv.out,An.out⟩
      |false=>
       have Hm:=Hd (Ao.out rfl);clear fT Ao
       go_wp2_with fail
       go_roundw
       case rel=>exact⟨k+1,by go_num,by omega,Hm.out,trivial⟩
       case measure=>simp[intOf];omega
     ·obtain rfl:k=5:=by omega
      have HT:Hid (bs tk= .empty):=by
       rw[Hid,HM.out,Zabg (l:=marksC) (d:=[]) (fun j hj=>B9.out j hj)];rfl
      go_wp2_with fail
      go_ret;exact⟨by rw[HT.out];rfl,Xv.out,An.out⟩
theorem Zaay (b:Nat)(S:ByteArray)(ad:Option Addr)(n c:Nat)(l:List ByteArray)(p:CP)(w:World)(h:Pq w b S p)(_hs:Sl w ad n (Zae l))(F9:∀W,Kp (Zaf b) w W→Sl W ad n (Zae l)):Calls prog 339 #[.pointer (some ⟨b,0,none⟩),.slice ad n c] w (PqP b S (.string (bs (p.take S.data.toList l).1)) (p.take S.data.toList l).2 w):=by
 have HP:=Hd (Zj3 b S p w h);have HF:=Hd (fun q W (g:Pq W b S q)=>Zgg b S 3 q W g);have HC:=Hd (fun x W (g:Kp (Zaf b) w W)=>Zfs ad n c l x W (F9 W g));have Em:=Zp8 (s:=S.data.toList) (i:=p.pos) (by rw[Zbm];exact h.2.1);rw[Zbm]at Em;have C6:=Hd (@CP.take_ok S.data.toList l p);have Cj:=Hd (@CP.take_no S.data.toList l p);have Ef:=Hd (@CP.take_err S.data.toList l p);have Fd:Hid ((p.skip S.data.toList).pos=Zb9 S.data.toList p.pos):=rfl;have J1:Hid ((p.skip S.data.toList).err=p.err):=rfl;have En:=Za5 (Zag S.data.toList p.pos);have Am:=h.2.2.2;unfold PqP at HP HF⊢;clear h _hs F9;generalize p.take S.data.toList l=res at *;generalize Zag S.data.toList p.pos=tk at *;generalize p.skip S.data.toList=q at *;generalize Zb9 S.data.toList p.pos=k0 at *;obtain⟨rv,rq⟩:=res;simp only
 go_enter func339,ntmps339
 go_wp2_with fail
 refine HP.out.mono ?_;rintro _ w1 ⟨rfl,Av,At⟩;have Ea:=Hd Av;have HK:=Hd At;obtain⟨c0,c1,_,c3,f1,_,_⟩:=Av.cells;have hb:=Av.lt;clear Av At HP;rw[Fd.out]at c1;have C0:=Hd (HC.out (bs tk) _ HK.out);clear HC;generalize l.contains (bs tk)=q1 at *
 by_cases he:q.err=0
 ·rw[he]at c3;have Jj:p.err=0:=by rw[←J1.out];exact he
  cases q1 with
  |true=>
   have h1:=C6.out rfl Jj;injection h1 with h1 h2;have H1:Hid (bs rv=bs tk):=by rw[Hid,h1]
   have M6:Hid (∀W,Pq W b S q→Pq (W.setCell ⟨b,1,none⟩ (.int .i64 ((k0:Int)+(tk.length:Int)))) b S rq):=fun W g=>by
    rw[h2];have:=g.pos (k0+tk.length) Em;rw[show((k0+tk.length:Nat):Int)=(k0:Int)+(tk.length:Int) by omega]at this;have e:q.adv tk.length= { q with pos:=k0+tk.length } :=by unfold CP.adv;rw[Fd.out]
    rw[e];exact this
   clear C6 Cj Ef h1 h2 he Jj;generalize bs tk=TK at *
   go_wp2_with fail
   refine C0.out.mono ?_;rintro _ _ ⟨rfl,rfl⟩
   go_wp2_with fail
   go_ret;exact⟨by rw[H1.out];rfl,by first|exact M6.out _ Ea.out|(rw[←En];exact M6.out _ Ea.out)|(rw[En];exact M6.out _ Ea.out),HK.out.set (p:=⟨b,1,none⟩) (Za8 b) _⟩
  |false=>
   have h1:=Cj.out rfl;injection h1 with h1 h2;have H1:Hid (bs rv= .empty):=by rw[Hid,h1];rfl
   have Az:Hid (rq.err≠0):=by rw[Hid,h2];exact CP.fail_e (by decide) q
   have Du:=Hd (HF.out q);rw[←h2]at Du;clear C6 Cj Ef h1 h2 HF he Jj;generalize bs tk=TK at *
   go_wp2_with fail
   refine C0.out.mono ?_;rintro _ _ ⟨rfl,rfl⟩
   go_wp2_with fail
   refine(Du.out _ Ea.out).mono ?_;rintro _ w3 ⟨rfl,hr,hk⟩;have Aq:=Hd hr;have An:=Hd (HK.out.trans hk);obtain⟨_,_,_,c3,_,_,_⟩:=hr.cells;have M4:(rq.err==0)=false:=by simpa using Az.out
   clear hr hk
   go_wp2_with fail
   go_ret;exact⟨by rw[H1.out];rfl,Aq.out,An.out⟩
 ·have Jj:p.err≠0:=by rw[←J1.out];exact he
  have hz:(q.err==0)=false:=by simpa using he
  have h1:=Ef.out Jj;injection h1 with h1 h2;have H1:Hid (bs rv= .empty):=by rw[Hid,h1];rfl
  have H2:=Hd h2;clear C6 Cj Ef h1 h2 Jj;generalize bs tk=TK at *
  go_wp2_with fail
  go_ret;exact⟨by rw[H1.out];rfl,by rw[H2.out];exact Ea.out,HK.out⟩
theorem Ziy (b:Nat)(S:ByteArray)(t:List UInt8)(ht:t.length≤100)(p:CP)(w:World)(h:Pq w b S p):Calls prog 332 #[.pointer (some ⟨b,0,none⟩),.string (bs t)] w (PqP b S (.bool (p.next S.data.toList t).1) (p.next S.data.toList t).2 w):=by
 have HP:=Hd (Zj3 b S p w h);have Em:=Zp8 (s:=S.data.toList) (i:=p.pos) (by rw[Zbm];exact h.2.1);rw[Zbm]at Em;have Wk:=Hd (@CP.next_yes S.data.toList t p);have Cj:=Hd (@CP.next_no S.data.toList t p);have Ef:=Hd (@CP.next_err S.data.toList t p);have Fd:Hid ((p.skip S.data.toList).pos=Zb9 S.data.toList p.pos):=rfl;have HH:=Hd h;have Am:=h.2.2.2;have En:=Za5 t;have hq:((bs (Zag S.data.toList p.pos)).toList==(bs t).toList)=decide (Zag S.data.toList p.pos=t):=by
  rw[Zd1,Zd1,Bool.eq_iff_iff,beq_iff_eq,decide_eq_true_eq]
 obtain⟨_,_,_,d3,_,_,_⟩:=h.cells;have Fp:=h.lt;unfold PqP at HP⊢;clear h;generalize p.next S.data.toList t=res at *;generalize Zag S.data.toList p.pos=tk at *;generalize p.skip S.data.toList=q at *;generalize Zb9 S.data.toList p.pos=k0 at *;obtain⟨rv,rq⟩:=res;simp only
 by_cases he:p.err=0
 ·rw[he]at d3
  by_cases T6:tk=t
  ·have h1:=Wk.out he T6;injection h1 with h1 h2;have H1:=Hd h1;rw[decide_eq_true T6]at hq;have fU:((bs tk).toList !=(bs t).toList)=false:=by rw[bne,hq];rfl
   have M6:Hid (∀W,Pq W b S q→Pq (W.setCell ⟨b,1,none⟩ (.int .i64 ((k0:Int)+(t.length:Int)))) b S rq):=fun W g=>by
    rw[h2];have:=g.pos (k0+t.length) (by rw[←T6];exact Em);rw[show((k0+t.length:Nat):Int)=(k0:Int)+(t.length:Int) by omega]at this;have e:q.adv t.length= { q with pos:=k0+t.length } :=by unfold CP.adv;rw[Fd.out]
    rw[e];exact this
   clear Wk Cj Ef h1 h2 T6;generalize bs tk=TK at *;generalize bs t=TT at *
   go_enter func332,ntmps332
   go_wp2_with fail
   refine HP.out.mono ?_;rintro _ w1 ⟨rfl,Av,At⟩;have Ea:=Hd Av;have HK:=Hd At;obtain⟨c0,c1,_,c3,f1,_,_⟩:=Av.cells;have hb:=Av.lt;clear Av At HP;rw[Fd.out]at c1
   go_wp2_with fail
   go_ret;exact⟨by rw[H1.out];rfl,by first|exact M6.out _ Ea.out|(rw[←En];exact M6.out _ Ea.out)|(rw[En];exact M6.out _ Ea.out),HK.out.set (p:=⟨b,1,none⟩) (Za8 b) _⟩
  ·have h1:=Cj.out he T6;injection h1 with h1 h2;have H1:=Hd h1;have H2:=Hd h2;rw[decide_eq_false T6]at hq;have fU:((bs tk).toList !=(bs t).toList)=true:=by rw[bne,hq];rfl
   clear Wk Cj Ef h1 h2 T6;generalize bs tk=TK at *;generalize bs t=TT at *
   go_enter func332,ntmps332
   go_wp2_with fail
   refine HP.out.mono ?_;rintro _ w1 ⟨rfl,Av,At⟩;have Ea:=Hd Av;have HK:=Hd At;obtain⟨c0,c1,_,c3,f1,_,_⟩:=Av.cells;have hb:=Av.lt;clear Av At HP
   go_wp2_with fail
   go_ret;exact⟨by rw[H1.out];rfl,by rw[H2.out];exact Ea.out,HK.out⟩
 ·have hz:(p.err==0)=false:=by simpa using he
  have h1:=Ef.out he;injection h1 with h1 h2;have H1:=Hd h1;have H2:=Hd h2;clear Wk Cj Ef h1 h2 HP;generalize bs t=TT at *
  go_enter func332,ntmps332
  go_wp2_with fail
  go_ret;exact⟨by rw[H1.out];rfl,by rw[H2.out];exact HH.out,Kp.refl _ _⟩
end Go.Proofs.YtmleeodfmmpdgaaGreatDoor
