/- part -/
import Derived.Test.YtmleeodfmmpdgaaGreatDoorQ28
set_option maxRecDepth 20000
set_option maxHeartbeats 4000000
namespace Go.Proofs.YtmleeodfmmpdgaaGreatDoor
open Go.RowKit
attribute [local go_sem] Ext.cell Ext.frozen
attribute [local go_sem ↓] Go.wp_at_zero Go.wp_at_succ
open _root_.List (getElem_cons_succ getElem_cons_zero getElem_toArray setIfInBounds_toArray set_cons_succ set_cons_zero)
open _root_.Nat (le_of_lt le_refl le_trans lt_of_lt_of_le)
open _root_.Go.Proofs.Tryz
theorem Zaft:(prog.info? 46).map (fun i=>(i.zero,i.size,i.bytes))=some (some (.agg #[.string .empty,.string .empty,.string .empty,.slice none 0 0,.slice none 0 0,.string .empty,.string .empty,.string .empty,.string .empty,.int .i64 0,.int .i64 0,.slice none 0 0,.slice none 0 0,.slice none 0 0,.slice none 0 0,.slice none 0 0]),16,296):=by kernel_rfl
theorem Zahi:(prog.info? 61).map (fun i=>(i.zero,i.size,i.bytes))=some (some (.agg #[.string .empty,.string .empty]),2,32):=by kernel_rfl
theorem Zafq:(prog.info? 58).map (fun i=>(i.zero,i.size,i.bytes))=some (some (.agg #[.string .empty,.string .empty,.int .i64 0]),3,40):=by kernel_rfl
theorem Zaht {w:World} {f g:Nat→Value} {y:Lc} (h:∀j,j<16→g j=f j)(k:LcC w f y):LcC w g y:=by
 refine⟨?_,?_,?_,?_,?_,?_,?_,?_,?_,?_,?_,?_,?_,?_,?_,?_⟩
 ·rw[h 0 (by decide)];exact k.c0
 ·rw[h 1 (by decide)];exact k.c1
 ·rw[h 2 (by decide)];exact k.c2
 ·rw[h 3 (by decide)];exact k.c3
 ·rw[h 4 (by decide)];exact k.c4
 ·rw[h 5 (by decide)];exact k.c5
 ·rw[h 6 (by decide)];exact k.c6
 ·rw[h 7 (by decide)];exact k.c7
 ·rw[h 8 (by decide)];exact k.c8
 ·rw[h 9 (by decide)];exact k.c9
 ·rw[h 10 (by decide)];exact k.c10
 ·rw[h 11 (by decide)];exact k.c11
 ·rw[h 12 (by decide)];exact k.c12
 ·rw[h 13 (by decide)];exact k.c13
 ·rw[h 14 (by decide)];exact k.c14
 ·rw[h 15 (by decide)];exact k.c15
theorem Zva (b:Nat)(E:Int)(base T:Nat)(t:Tb)(r:RS)(w:World)(hr:Rd w b E r)(hb:b<base)(hl:Zj2 base w T t)(hM:MaxAt base w)(Ej:t.locs.length≤1000)(_hf1:t.als.length≤1000)(_hf2:t.near.length≤1000)(Cb:r.is E 1 [108,111,99,97,108,101]=true):Calls prog 27 #[.pointer (some ⟨b,0,none⟩),.pointer (some ⟨T,0,none⟩)] w (Zim b E base T w (Zax E t r)):=by
 obtain⟨v0,v1,v2,hl⟩:=hl;obtain⟨ad0,c0,hv⟩:=hl.g0.shape;subst hv;have HT:=Hd hl;have HV:Hid (Zax E t r=({ t with locs:=t.locs++[(tLocale E (r.word E).2).1] },tLim (r.peek E).2.2 (decide (60<t.locs.length+1)) (tLocale E (r.word E).2).2)):=by
  show(if r.is E 1 [108,111,99,97,108,101]=true then _ else _)=_;rw[if_pos Cb]
 have HP:=Hd (Ze7 b E r w hr);have G5:=Hd (fun s W (g:Rd W b E r)=>Zhh b E 1 s r W g);have HR:=Hd hr;have HM:=Hd hM;have Ww:b<T:=lt_of_lt_of_le hb hl.low;have Bc:=hl.low;unfold Zgr at HP;unfold Zim;clear hr hl hM;have Da:∀(k':Int) (S:ByteArray) (f:Int) (W:World),(Instr.field 109 (.agg #[.int .i64 k',.string S,.int .i64 f]) 2).run prog W= .ok (.int .i64 f) W:=fun _ _ _ _=>by kernel_rfl
 generalize Zax E t r=res at *;generalize r.peek E=tk at *;obtain⟨k',s',f⟩:=tk;simp only at HP HV;have Da:=Da k' (bs s') f;generalize bs s'=S at *
 go_enter func27,ntmps27
 go_wp2_with fail
 refine HP.out.mono ?_;rintro _ w1 ⟨rfl,Aw⟩;have Cs:=Hd Aw;have As:=Hd (HR.out.below Aw);clear Aw HP
 go_wp2_with fail
 refine(G5.out [108,111,99,97,108,101] _ As.out).mono ?_;rintro _ w3 ⟨rfl,Ax⟩;have Aq:=Hd (As.out.below Ax);have C3:=Hd (Cs.out.trans (Ax.mono Cs.out.size));clear Ax As Cs;rw[Cb];have An:Hid (Kp (Zaf b) w w3):=Za4 C3.out;have Dq:=Hd (Zdr b E r _ Aq.out);unfold RdP at Dq;generalize r.word E=r1 at *;obtain⟨ws,q1⟩:=r1;simp only at Dq HV
 go_wp2_with fail
 refine Dq.out.mono ?_;rintro _ w4 ⟨rfl,B4,A8⟩;have Bk:=Hd B4;have Bh:=Hd (An.out.trans A8);clear B4 A8 Aq An;have Yg:=Hd (HT.out.rd HR.out Bh.out);have cF:=(HM.out.kp HR.out (Bh.out.item (base:=base))).1;have P4:=Hd (fun W (k:Below w4.heap.size w4 W)=>Zv2 b E q1 W (Bk.out.below k) (cF.below k));unfold Zng at P4;generalize tLocale E q1=lo at *;obtain⟨y,q2⟩:=lo;simp only at P4 HV;clear cF
 go_upto_region 4 with(fail)
 refine Zbx 11 (fun w'=>w'.cell? ⟨T,0,none⟩=some (.slice ad0 t.locs.length c0)) (by kernel_rfl) (Yg.out.cel.cell 0) (fun Lw=>?_);have Gs:=Hd (Bk.out.below (Bel.drew (Bel.refl w4)));have dJ:=Hd (Yg.out.below (Bel.drew (Bel.refl w4)));have K6:=Hd (Bh.out.trans (Za4 (Bel.drew (Bel.refl w4))));have Yt:=Hd (P4.out _ (Bel.drew (Bel.refl w4)));clear Bk Yg Bh P4;refine Tg 0 ?_;refine Tg 1 ?_;refine Tg 2 ?_;refine Tg 3 ?_;refine Tg 4 ?_;refine Tg 5 ?_;generalize w4.drew=p0 at *;refine Ry 6 fun K hK=>?_
 go_simp
 refine Yt.out.mono ?_;rintro _ p1 ⟨fl,rfl,cR,Cp,Cd⟩;have Ho:base≤p0.heap.size:=le_trans dJ.out.low (le_of_lt dJ.out.cel.lt);have iM:=Hd (Zie _ _ _ _ (Zcr p1 Ho fun _ h=>h) cR);have Wx:=Hd (dJ.out.rd Gs.out Cd);have Yu:=Hd Cp;have Yv:=Hd (K6.out.trans Cd);have Jo:=cR.one;clear cR Cp Cd dJ Gs K6 Yt
 go_simp
 refine hK.out _ _ (fun _=>Wx.out.cel.cell 0) (fun _=>?_);clear hK K
 try simp only[Act.put,getElem_toArray,getElem_cons_succ,getElem_cons_zero,setIfInBounds_toArray,set_cons_zero,set_cons_succ]
 refine Ry 7 fun K hK=>?_
 go_simp
 have Lb:=Hd (Yu.out.below (Bel.alloc (Bel.refl p1) (.cells #[fl 0,fl 1,fl 2,fl 3,fl 4,fl 5,fl 6,fl 7,fl 8,fl 9,fl 10,fl 11,fl 12,fl 13,fl 14,fl 15] 46)));have E4:=Hd (Wx.out.below (Bel.alloc (Bel.refl p1) (.cells #[fl 0,fl 1,fl 2,fl 3,fl 4,fl 5,fl 6,fl 7,fl 8,fl 9,fl 10,fl 11,fl 12,fl 13,fl 14,fl 15] 46)));have La:=Hd (Yv.out.alloc (.cells #[fl 0,fl 1,fl 2,fl 3,fl 4,fl 5,fl 6,fl 7,fl 8,fl 9,fl 10,fl 11,fl 12,fl 13,fl 14,fl 15] 46));have Ng:=Hd (Zd6 p1 #[fl 0,fl 1,fl 2,fl 3,fl 4,fl 5,fl 6,fl 7,fl 8,fl 9,fl 10,fl 11,fl 12,fl 13,fl 14,fl 15] 46 16 rfl);have HY:Hid (LcC (see base Zfv (World.alloc p1 (.cells #[fl 0,fl 1,fl 2,fl 3,fl 4,fl 5,fl 6,fl 7,fl 8,fl 9,fl 10,fl 11,fl 12,fl 13,fl 14,fl 15] 46))) (fun j=>(#[fl 0,fl 1,fl 2,fl 3,fl 4,fl 5,fl 6,fl 7,fl 8,fl 9,fl 10,fl 11,fl 12,fl 13,fl 14,fl 15]:Array Value).getD j undef) y):=Zaht (fun j hj=>by match j,hj with|0,_=>rfl|1,_=>rfl|2,_=>rfl|3,_=>rfl|4,_=>rfl|5,_=>rfl|6,_=>rfl|7,_=>rfl|8,_=>rfl|9,_=>rfl|10,_=>rfl|11,_=>rfl|12,_=>rfl|13,_=>rfl|14,_=>rfl|15,_=>rfl|n+16,h=>omega) (Zie _ _ _ _ (Zf8 (KpT.below (Bel.alloc (Bel.refl p1) _) base Zfv)) iM.out);have De:base≤(World.alloc p1 (.cells #[fl 0,fl 1,fl 2,fl 3,fl 4,fl 5,fl 6,fl 7,fl 8,fl 9,fl 10,fl 11,fl 12,fl 13,fl 14,fl 15] 46)).heap.size:=le_trans E4.out.low (le_of_lt E4.out.cel.lt);refine hK.out _ _ (fun _=>E4.out.cel.cell 0) (fun _=>?_);clear hK K;generalize World.alloc p1 (.cells #[fl 0,fl 1,fl 2,fl 3,fl 4,fl 5,fl 6,fl 7,fl 8,fl 9,fl 10,fl 11,fl 12,fl 13,fl 14,fl 15] 46)=pb at *
 try simp only[Act.put,getElem_toArray,getElem_cons_succ,getElem_cons_zero,setIfInBounds_toArray,set_cons_zero,set_cons_succ]
 refine Ry 8 fun K hK=>?_;obtain⟨f0,Aj,Ck⟩:=E4.out.g0;have Ad:=Hd Aj;have C2:=Hd Ck;clear Aj Ck;refine Zg1 rfl (.tmp 21) (.tmp 24) rfl underlying23 Zaft (by rfl) (by omega) base ad0 t.locs.length c0 (Zar 16 f0 t.locs.length) (by rfl) Ad.out (some ⟨p1.heap.size,0,none⟩) 1 1 (fun _ j=>(#[fl 0,fl 1,fl 2,fl 3,fl 4,fl 5,fl 6,fl 7,fl 8,fl 9,fl 10,fl 11,fl 12,fl 13,fl 14,fl 15]:Array Value).getD j undef) p1.heap.size 0 (by rfl) Ng.out (fun h=>by cases h) (fun i j _ hj=>by match j,hj with|0,_=>exact Jo 0 (by decide)|1,_=>exact Jo 1 (by decide)|2,_=>exact Jo 2 (by decide)|3,_=>exact Jo 3 (by decide)|4,_=>exact Jo 4 (by decide)|5,_=>exact Jo 5 (by decide)|6,_=>exact Jo 6 (by decide)|7,_=>exact Jo 7 (by decide)|8,_=>exact Jo 8 (by decide)|9,_=>exact Jo 9 (by decide)|10,_=>exact Jo 10 (by decide)|11,_=>exact Jo 11 (by decide)|12,_=>exact Jo 12 (by decide)|13,_=>exact Jo 13 (by decide)|14,_=>exact Jo 14 (by decide)|15,_=>exact Jo 15 (by decide)|n+16,h=>omega) (by unfold maxLen;omega) (by omega) De ?_;intro ad3 c3 pc Ae A5;have Jp:Kp (Za7 b (.slice ad0 t.locs.length c0)) pb pc:=(Kp.refl _ _).grown A5 (fun k hk=> .inr (by unfold Za7;rw[decide_eq_true hk,Bool.or_true]));have Eh:Kp (fun k=>decide (base≤k)) pb pc:=(Kp.refl _ _).grown A5 (fun k hk=> .inr (decide_eq_true (World.ownsRow.lt Ad.out k hk).1));have R3:=Grow.snoc C2.out Zie (Zbq A5 Ad.out base (by decide)) _ Ae (x:=y) HY.out;have I8:=Hd (E4.out.celG Lb.out E4.out.g0 Jp (by decide));have Ld:=Hd (E4.out.locs Lb.out Jp (v':= .slice ad3 (t.locs.length+1) c3) (l':=t.locs++[y]) R3);have R4:=Hd (Lb.out.kp Eh (fun i hi=>decide_eq_false (by omega)));have R5:=Hd ((La.out.item (base:=base)).trans (Jp.itemG E4.out.g0 (le_refl _)));have Lf:=Hd ((I8.out.cell 0));clear R3 Jp Eh Ae A5 Ad C2 Ng E4 Lb La HY;refine hK.out _ _ (fun _=>Lf.out) (fun _=>?_);clear hK K
 try simp only[Act.put,getElem_toArray,getElem_cons_succ,getElem_cons_zero,setIfInBounds_toArray,set_cons_zero,set_cons_succ]
 refine Ry 9 fun K hK=>?_
 go_simp
 refine hK.out _ _ (fun _=>Lf.out) (fun _=>?_);clear hK K
 try simp only[Act.put,getElem_toArray,getElem_cons_succ,getElem_cons_zero,setIfInBounds_toArray,set_cons_zero,set_cons_succ]
 refine Ry 10 fun K hK=>?_
 go_simp
 refine hK.out _ _ (fun _=>Lf.out) (fun _=>?_);clear hK K
 try simp only[Act.put,getElem_toArray,getElem_cons_succ,getElem_cons_zero,setIfInBounds_toArray,set_cons_zero,set_cons_succ]
 have c0:=I8.out.cell 0;have f0:=I8.out.frz 0;have E9:=I8.out.lt;simp only[Le0]at c0;refine Ry 11 fun K hK=>?_
 go_simp
 refine hK.out _ _ (fun h=>by cases h) (fun _=>?_);clear hK K;refine Zcp (by kernel_rfl) ?_ _;have Nz:=Hd (R4.out.other (a:=⟨T,0,none⟩) Ww (.slice ad3 (t.locs.length+1) c3));have R6:=Hd (R5.out.itemS (p:=⟨T,0,none⟩) Bc (.slice ad3 (t.locs.length+1) c3));clear R4 R5 I8 Lf c0 f0 E9;generalize pc.setCell ⟨T,0,none⟩ (.slice ad3 (t.locs.length+1) c3)=pd at *;have c0:=Ld.out.cel.cell 0;simp only[Le0]at c0;have E9:=Ld.out.cel.lt
 by_cases B5:60<t.locs.length+1
 ·have Da:decide (60<t.locs.length+1)=true:=decide_eq_true B5;rw[Da]at HV;have I1:=Hd (Zdu b E q2 f 6 pd Nz.out);unfold RdP at I1
  go_wp2_with fail
  refine I1.out.mono ?_;rintro _ pe ⟨rfl,Rg,Jz⟩
  go_wp2_with fail
  go_end0;exact⟨rfl,by rw[HV.out];exact⟨_,_,_,Ld.out.rd Nz.out Jz⟩,by rw[HV.out];exact Rg,R6.out.trans Jz.item⟩
 ·have Da:decide (60<t.locs.length+1)=false:=decide_eq_false B5;rw[Da]at HV
  go_wp2_with fail
  go_end0;exact⟨rfl,by rw[HV.out];exact⟨_,_,_,Ld.out⟩,by rw[HV.out];exact Nz.out,R6.out⟩
theorem Zom (b:Nat)(E:Int)(base T:Nat)(t:Tb)(r:RS)(w:World)(hr:Rd w b E r)(hb:b<base)(hl:Zj2 base w T t)(hM:MaxAt base w)(_hf0:t.locs.length≤1000)(Gb:t.als.length≤1000)(_hf2:t.near.length≤1000)(Cb:r.is E 1 [108,111,99,97,108,101]=false)(D4:r.is E 1 [97,108,105,97,115]=true):Calls prog 27 #[.pointer (some ⟨b,0,none⟩),.pointer (some ⟨T,0,none⟩)] w (Zim b E base T w (Zax E t r)):=by
 obtain⟨v0,v1,v2,hl⟩:=hl;obtain⟨ad0,c0,hv⟩:=hl.g1.shape;subst hv;have HT:=Hd hl;have HV:Hid (Zax E t r=({ t with als:=t.als++[⟨bs ((r.word E).2.word E).1,bs (((r.word E).2.word E).2.word E).1⟩] },tLim (r.peek E).2.2 (decide (200<t.als.length+1)) ((((r.word E).2.word E).2.word E).2.mark E [59]))):=by
  show(if r.is E 1 [108,111,99,97,108,101]=true then _ else if r.is E 1 [97,108,105,97,115]=true then _ else _)=_;rw[Cb,if_neg (by decide),if_pos D4];rfl
 have HP:=Hd (Ze7 b E r w hr);have G5:=Hd (fun s W (g:Rd W b E r)=>Zhh b E 1 s r W g);have HR:=Hd hr;have HM:=Hd hM;have Ww:b<T:=lt_of_lt_of_le hb hl.low;have Bc:=hl.low;unfold Zgr at HP;unfold Zim;clear hr hl hM;have Da:∀(k':Int) (S:ByteArray) (f:Int) (W:World),(Instr.field 109 (.agg #[.int .i64 k',.string S,.int .i64 f]) 2).run prog W= .ok (.int .i64 f) W:=fun _ _ _ _=>by kernel_rfl
 generalize Zax E t r=res at *;generalize r.peek E=tk at *;obtain⟨k',s',f⟩:=tk;simp only at HP HV;have Da:=Da k' (bs s') f;generalize bs s'=S at *
 go_enter func27,ntmps27
 go_wp2_with fail
 refine HP.out.mono ?_;rintro _ w1 ⟨rfl,Aw⟩;have Cs:=Hd Aw;have As:=Hd (HR.out.below Aw);clear Aw HP
 go_wp2_with fail
 refine(G5.out [108,111,99,97,108,101] _ As.out).mono ?_;rintro _ w2 ⟨rfl,Ag⟩;have Ar:=Hd (As.out.below Ag);have Ai:=Hd (Cs.out.trans (Ag.mono Cs.out.size));clear Ag As Cs;rw[Cb]
 go_wp2_with fail
 refine(G5.out [97,108,105,97,115] _ Ar.out).mono ?_;rintro _ w3 ⟨rfl,Ax⟩;have Aq:=Hd (Ar.out.below Ax);have C3:=Hd (Ai.out.trans (Ax.mono Ai.out.size));clear Ax Ar Ai;rw[D4];have An:Hid (Kp (Zaf b) w w3):=Za4 C3.out;have Dq:=Hd (Zdr b E r _ Aq.out);have Dx:=Hd (fun q W (g:Rd W b E q)=>Zdr b E q W g);have I0:=Hd (fun q W (g:Rd W b E q)=>Znp b E 1000 q W g);have Di:=Hd (fun q W (g:Rd W b E q)=>Zcs b E [59] q W g);unfold RdP at Dq Dx I0 Di;have h1:=Aq.out.ok.take (E:=E) (k:=1);have h2:=h1.2.take (E:=E) (k:=1);have h3:=h2.2.take (E:=E) (k:=1);have Ba:(bs ((r.word E).2.word E).1).size≤140737488351232:=by rw[Za5];exact le_trans h2.1 (by decide)
 have A7:(bs (((r.word E).2.word E).2.word E).1).size≤140737488351232:=by rw[Za5];exact le_trans h3.1 (by decide)
 have h4:0≤((((r.word E).2.word E).2.word E).2.number E 1000).1∧((((r.word E).2.word E).2.word E).2.number E 1000).1≤1000000:=(h3.2.number (E:=E) (m:=1000)).1;clear h1 h2 h3;generalize r.word E=r1 at *;obtain⟨ws,q1⟩:=r1;simp only at Dq HV Ba A7 h4;have Hr:=Hd (Dx.out q1);generalize q1.word E=r2 at *;obtain⟨kk,q2⟩:=r2;simp only at Hr HV Ba A7 h4;have Hs:=Hd (Dx.out q2);generalize q2.word E=r3 at *;obtain⟨kk2,q3⟩:=r3;simp only at Hs HV A7 h4;have Ct:=Hd (Di.out q3);generalize q3.mark E [59]=q5 at *;generalize bs kk=KS at *;generalize bs kk2=KS2 at *;have Py:Hid (∀W,AlC W (fun j=>(#[.string KS,.string KS2]:Array Value).getD j undef) (⟨KS,KS2⟩:Al)):=fun W=>⟨⟨rfl,Ba⟩,⟨rfl,A7⟩⟩;clear Ba A7 h4 Dx I0 Di
 go_wp2_with fail
 refine Dq.out.mono ?_;rintro _ w4 ⟨rfl,B4,A8⟩;have Bk:=Hd B4;have Bh:=Hd (An.out.trans A8);clear B4 A8 Aq An;have L4:=Hd (Hr.out _ Bk.out)
 go_wp2_with fail
 refine L4.out.mono ?_;rintro _ w5 ⟨rfl,Bw,A9⟩;have Cg:=Hd Bw;have Bv:=Hd (Bh.out.trans A9);clear Bw A9 Bk Bh;have Cr:=Hd (Cg.out.below (Bel.alloc (Bel.refl w5) (.cells #[.string KS,.string ⟨#[]⟩] 61)));have By:=Hd (Bv.out.alloc (.cells #[.string KS,.string ⟨#[]⟩] 61));have Do:=Hd (Cel.new w5 [.string KS,.string ⟨#[]⟩] 61);have E3:w.heap.size≤w5.heap.size:=Bv.out.size;obtain⟨X,hX⟩:∃X,w5.heap.size=X:=⟨_,rfl⟩;rw[hX]at Do E3;have Gq:b<X:=lt_of_lt_of_le HR.out.lt E3;have Ch:X≠b:=by omega
 clear Cg Bv
 go_upto_region 10 with(fail)
 generalize w5.alloc (.cells #[.string KS,.string ⟨#[]⟩] 61)=w6 at *;have L5:=Hd (Hs.out _ Cr.out)
 go_wp2_with fail
 refine L5.out.mono ?_;rintro _ w7 ⟨rfl,Nv,Hp⟩;have Jm:=Hd Nv;have G4:=Hd (By.out.trans Hp);have Ei:=Hd (Do.out.kp Hp (Za1 Ch));clear Nv Hp Cr By Do;have x1:=Ei.out.cell 1;simp only[Le0,Le1]at x1;have xf1:=Ei.out.frz 1;have Bx:=Ei.out.lt
 go_upto_region 11 with(fail)
 have Hq:=Hd (Ei.out.set 1 (.string KS2));have Il:=Hd (Jm.out.other (a:=⟨X,1,none⟩) Gq (.string KS2));have Cw:=Hd (G4.out.setN (p:=⟨X,1,none⟩) E3 (.string KS2));simp only[set_cons_zero,set_cons_succ]at Hq;clear Jm G4 Ei x1 xf1 Bx;generalize w7.setCell ⟨X,1,none⟩ (.string KS2)=w8 at *;have Cx:=Hd (Ct.out _ Il.out)
 go_wp2_with fail
 refine Cx.out.mono ?_;rintro _ w11 ⟨rfl,I9,Ka⟩;have Kb:=Hd I9;have Kc:=Hd (Cw.out.trans Ka);have Kd:=Hd (Hq.out.kp Ka (Za1 Ch));clear I9 Ka Il Cw Hq;have Ke:=Hd (HT.out.rd HR.out Kc.out);have P0:∀k,Value.ownBlock (.slice ad0 t.als.length c0)=some k→k<w.heap.size:=fun k hk=>(HT.out.g1.lt hk).2
 go_upto_region 12 with(fail)
 refine Zbx 10 (fun w'=>w'.cell? ⟨T,1,none⟩=some (.slice ad0 t.als.length c0)∧Cel w' X 61 [.string KS,.string KS2]) (by kernel_rfl) ⟨Ke.out.cel.cell 1,Kd.out⟩ (fun Lw=>?_);have Yu:=Hd (Kb.out.below (Bel.drew (Bel.refl w11)));have Wx:=Hd (Ke.out.below (Bel.drew (Bel.refl w11)));have iN:=Hd (Kd.out.below (Bel.drew (Bel.refl w11)));have Yv:=Hd (Kc.out.trans (Za4 (Bel.drew (Bel.refl w11))));clear Kb Ke Kd Kc;refine Tg 0 ?_ (hy:=by intro wx A3;obtain⟨t1,t2⟩:=A3;have q0:=t2.cell 0;have q1:=t2.cell 1;have Bx:=t2.lt;simp only[Le0,Le1]at q0 q1;go_simp;try with_reducible rfl);refine Tg 1 ?_ (hy:=by intro wx A3;obtain⟨t1,t2⟩:=A3;have q0:=t2.cell 0;have q1:=t2.cell 1;have Bx:=t2.lt;simp only[Le0,Le1]at q0 q1;go_simp;try with_reducible rfl);refine Tg 2 ?_ (hy:=by intro wx A3;obtain⟨t1,t2⟩:=A3;have q0:=t2.cell 0;have q1:=t2.cell 1;have Bx:=t2.lt;simp only[Le0,Le1]at q0 q1;go_simp;try with_reducible rfl);refine Tg 3 ?_ (hy:=by intro wx A3;obtain⟨t1,t2⟩:=A3;have q0:=t2.cell 0;have q1:=t2.cell 1;have Bx:=t2.lt;simp only[Le0,Le1]at q0 q1;go_simp;try with_reducible rfl);refine Tg 4 ?_ (hy:=by intro wx A3;obtain⟨t1,t2⟩:=A3;have q0:=t2.cell 0;have q1:=t2.cell 1;have Bx:=t2.lt;simp only[Le0,Le1]at q0 q1;go_simp;try with_reducible rfl);refine Tg 5 ?_ (hy:=by intro wx A3;obtain⟨t1,t2⟩:=A3;have q0:=t2.cell 0;have q1:=t2.cell 1;have Bx:=t2.lt;simp only[Le0,Le1]at q0 q1;go_simp;try with_reducible rfl);generalize w11.drew=p1 at *;refine Ry 6 fun K hK=>?_
 go_simp
 have Lb:=Hd (Yu.out.below (Bel.alloc (Bel.refl p1) (.cells #[.string KS,.string KS2] 61)));have E4:=Hd (Wx.out.below (Bel.alloc (Bel.refl p1) (.cells #[.string KS,.string KS2] 61)));have La:=Hd (Yv.out.alloc (.cells #[.string KS,.string KS2] 61));have Ng:=Hd (Zd6 p1 #[.string KS,.string KS2] 61 2 rfl);have HY:Hid (AlC (see base ([]:List TypeId) (World.alloc p1 (.cells #[.string KS,.string KS2] 61))) (fun j=>(#[.string KS,.string KS2]:Array Value).getD j undef) (⟨KS,KS2⟩:Al)):=Py.out _;have I4:=Hd (iN.out.below (Bel.alloc (Bel.refl p1) (.cells #[.string KS,.string KS2] 61)));have De:base≤(World.alloc p1 (.cells #[.string KS,.string KS2] 61)).heap.size:=le_trans E4.out.low (le_of_lt E4.out.cel.lt);refine hK.out _ _ (fun _=>And.intro (E4.out.cel.cell 1) I4.out) (fun _=>?_);clear hK K;generalize World.alloc p1 (.cells #[.string KS,.string KS2] 61)=pb at *
 try simp only[Act.put,getElem_toArray,getElem_cons_succ,getElem_cons_zero,setIfInBounds_toArray,set_cons_zero,set_cons_succ]
 refine Ry 7 fun K hK=>?_;obtain⟨f0,Aj,Ck⟩:=E4.out.g1;have Ad:=Hd Aj;have C2:=Hd Ck;clear Aj Ck;refine Zg1 rfl (.tmp 54) (.tmp 56) rfl underlying24 Zahi (by rfl) (by omega) base ad0 t.als.length c0 (Zar 2 f0 t.als.length) (by rfl) Ad.out (some ⟨p1.heap.size,0,none⟩) 1 1 (fun _ j=>(#[.string KS,.string KS2]:Array Value).getD j undef) p1.heap.size 0 (by rfl) Ng.out (fun h=>by cases h) (fun i j _ hj=>by rcases(by omega:j=0∨j=1)with e|e <;> subst e <;> rfl) (by unfold maxLen;omega) (by omega) De ?_;intro ad3 c3 pc Ae A5;have Jp:Kp (Za7 b (.slice ad0 t.als.length c0)) pb pc:=(Kp.refl _ _).grown A5 (fun k hk=> .inr (by unfold Za7;rw[decide_eq_true hk,Bool.or_true]));have Eh:Kp (fun k=>decide (base≤k)) pb pc:=(Kp.refl _ _).grown A5 (fun k hk=> .inr (decide_eq_true (World.ownsRow.lt Ad.out k hk).1));have R3:=Grow.snoc C2.out Zkn (Zbq A5 Ad.out base (by decide)) _ Ae (x:=⟨KS,KS2⟩) HY.out;have I8:=Hd (E4.out.celG Lb.out E4.out.g1 Jp (by decide));have O4:Za7 b (.slice ad0 t.als.length c0) X=false:=by
  unfold Za7;rw[decide_eq_false Ch,decide_eq_false (fun e=>by have:=P0 X e;omega)];rfl
 have iO:=Hd (I4.out.kp Jp O4);have Ld:=Hd (E4.out.als Lb.out Jp (v':= .slice ad3 (t.als.length+1) c3) (l':=t.als++[⟨KS,KS2⟩]) R3);have R4:=Hd (Lb.out.kp Eh (fun i hi=>decide_eq_false (by omega)));have R5:=Hd ((La.out.item (base:=base)).trans (Jp.itemG E4.out.g1 (le_refl _)));have Lf:=Hd ((And.intro (I8.out.cell 1) iO.out));clear R3 Jp Eh Ae A5 Ad C2 Ng E4 Lb La HY;refine hK.out _ _ (fun _=>Lf.out) (fun _=>?_);clear hK K
 try simp only[Act.put,getElem_toArray,getElem_cons_succ,getElem_cons_zero,setIfInBounds_toArray,set_cons_zero,set_cons_succ]
 refine Ry 8 fun K hK=>?_
 go_simp
 refine hK.out _ _ (fun _=>Lf.out) (fun _=>?_);clear hK K
 try simp only[Act.put,getElem_toArray,getElem_cons_succ,getElem_cons_zero,setIfInBounds_toArray,set_cons_zero,set_cons_succ]
 refine Ry 9 fun K hK=>?_
 go_simp
 refine hK.out _ _ (fun _=>Lf.out) (fun _=>?_);clear hK K
 try simp only[Act.put,getElem_toArray,getElem_cons_succ,getElem_cons_zero,setIfInBounds_toArray,set_cons_zero,set_cons_succ]
 have c1:=I8.out.cell 1;have f1:=I8.out.frz 1;have E9:=I8.out.lt;simp only[Le0,Le1]at c1;refine Ry 10 fun K hK=>?_
 go_simp
 refine hK.out _ _ (fun h=>by cases h) (fun _=>?_);clear hK K;refine Zcp (by kernel_rfl) ?_ _;have Nz:=Hd (R4.out.other (a:=⟨T,1,none⟩) Ww (.slice ad3 (t.als.length+1) c3));have R6:=Hd (R5.out.itemS (p:=⟨T,1,none⟩) Bc (.slice ad3 (t.als.length+1) c3));clear R4 R5 I8 Lf c1 f1 E9;generalize pc.setCell ⟨T,1,none⟩ (.slice ad3 (t.als.length+1) c3)=pd at *;have c1:=Ld.out.cel.cell 1;simp only[Le0,Le1]at c1;have E9:=Ld.out.cel.lt
 by_cases B5:200<t.als.length+1
 ·have Da:decide (200<t.als.length+1)=true:=decide_eq_true B5;rw[Da]at HV;have I1:=Hd (Zdu b E q5 f 6 pd Nz.out);unfold RdP at I1
  go_wp2_with fail
  refine I1.out.mono ?_;rintro _ pe ⟨rfl,Rg,Jz⟩
  go_wp2_with fail
  go_end0;exact⟨rfl,by rw[HV.out];exact⟨_,_,_,Ld.out.rd Nz.out Jz⟩,by rw[HV.out];exact Rg,R6.out.trans Jz.item⟩
 ·have Da:decide (200<t.als.length+1)=false:=decide_eq_false B5;rw[Da]at HV
  go_wp2_with fail
  go_end0;exact⟨rfl,by rw[HV.out];exact⟨_,_,_,Ld.out⟩,by rw[HV.out];exact Nz.out,R6.out⟩
theorem Zaad (b:Nat)(E:Int)(base T:Nat)(t:Tb)(r:RS)(w:World)(hr:Rd w b E r)(hb:b<base)(hl:Zj2 base w T t)(hM:MaxAt base w)(_hf0:t.locs.length≤1000)(_hf1:t.als.length≤1000)(Fw:t.near.length≤1000)(Cb:r.is E 1 [108,111,99,97,108,101]=false)(D4:r.is E 1 [97,108,105,97,115]=false)(Ja:r.is E 1 [110,101,97,114]=true):Calls prog 27 #[.pointer (some ⟨b,0,none⟩),.pointer (some ⟨T,0,none⟩)] w (Zim b E base T w (Zax E t r)):=by
 obtain⟨v0,v1,v2,hl⟩:=hl;obtain⟨ad0,c0,hv⟩:=hl.g2.shape;subst hv;have HT:=Hd hl;have HV:Hid (Zax E t r=({ t with near:=t.near++[⟨bs ((r.word E).2.word E).1,bs (((r.word E).2.word E).2.word E).1,((((r.word E).2.word E).2.word E).2.number E 1000).1⟩] },tLim (r.peek E).2.2 (decide (200<t.near.length+1)) (((((r.word E).2.word E).2.word E).2.number E 1000).2.mark E [59]))):=by
  show(if r.is E 1 [108,111,99,97,108,101]=true then _ else if r.is E 1 [97,108,105,97,115]=true then _ else if r.is E 1 [110,101,97,114]=true then _ else _)=_;rw[Cb,if_neg (by decide),D4,if_neg (by decide),if_pos Ja];rfl
 have HP:=Hd (Ze7 b E r w hr);have G5:=Hd (fun s W (g:Rd W b E r)=>Zhh b E 1 s r W g);have HR:=Hd hr;have HM:=Hd hM;have Ww:b<T:=lt_of_lt_of_le hb hl.low;have Bc:=hl.low;unfold Zgr at HP;unfold Zim;clear hr hl hM;have Da:∀(k':Int) (S:ByteArray) (f:Int) (W:World),(Instr.field 109 (.agg #[.int .i64 k',.string S,.int .i64 f]) 2).run prog W= .ok (.int .i64 f) W:=fun _ _ _ _=>by kernel_rfl
 generalize Zax E t r=res at *;generalize r.peek E=tk at *;obtain⟨k',s',f⟩:=tk;simp only at HP HV;have Da:=Da k' (bs s') f;generalize bs s'=S at *
 go_enter func27,ntmps27
 go_wp2_with fail
 refine HP.out.mono ?_;rintro _ w1 ⟨rfl,Aw⟩;have Cs:=Hd Aw;have As:=Hd (HR.out.below Aw);clear Aw HP
 go_wp2_with fail
 refine(G5.out [108,111,99,97,108,101] _ As.out).mono ?_;rintro _ w2 ⟨rfl,Ag⟩;have Ar:=Hd (As.out.below Ag);have Ai:=Hd (Cs.out.trans (Ag.mono Cs.out.size));clear Ag As Cs;rw[Cb]
 go_wp2_with fail
 refine(G5.out [97,108,105,97,115] _ Ar.out).mono ?_;rintro _ w4 ⟨rfl,Dk⟩;have Bk:=Hd (Ar.out.below Dk);have D8:=Hd (Ai.out.trans (Dk.mono Ai.out.size));clear Dk Ar Ai;rw[D4]
 go_wp2_with fail
 refine(G5.out [110,101,97,114] _ Bk.out).mono ?_;rintro _ w3 ⟨rfl,Ax⟩;have Aq:=Hd (Bk.out.below Ax);have C3:=Hd (D8.out.trans (Ax.mono D8.out.size));clear Ax Bk D8;rw[Ja];have An:Hid (Kp (Zaf b) w w3):=Za4 C3.out;have Dq:=Hd (Zdr b E r _ Aq.out);have Dx:=Hd (fun q W (g:Rd W b E q)=>Zdr b E q W g);have I0:=Hd (fun q W (g:Rd W b E q)=>Znp b E 1000 q W g);have Di:=Hd (fun q W (g:Rd W b E q)=>Zcs b E [59] q W g);unfold RdP at Dq Dx I0 Di;have h1:=Aq.out.ok.take (E:=E) (k:=1);have h2:=h1.2.take (E:=E) (k:=1);have h3:=h2.2.take (E:=E) (k:=1);have Ba:(bs ((r.word E).2.word E).1).size≤140737488351232:=by rw[Za5];exact le_trans h2.1 (by decide)
 have A7:(bs (((r.word E).2.word E).2.word E).1).size≤140737488351232:=by rw[Za5];exact le_trans h3.1 (by decide)
 have h4:0≤((((r.word E).2.word E).2.word E).2.number E 1000).1∧((((r.word E).2.word E).2.word E).2.number E 1000).1≤1000000:=(h3.2.number (E:=E) (m:=1000)).1;clear h1 h2 h3;generalize r.word E=r1 at *;obtain⟨ws,q1⟩:=r1;simp only at Dq HV Ba A7 h4;have Hr:=Hd (Dx.out q1);generalize q1.word E=r2 at *;obtain⟨kk,q2⟩:=r2;simp only at Hr HV Ba A7 h4;have Hs:=Hd (Dx.out q2);generalize q2.word E=r3 at *;obtain⟨kk2,q3⟩:=r3;simp only at Hs HV A7 h4;have Yw:=Hd (I0.out q3);generalize q3.number E 1000=r4 at *;obtain⟨z,q4⟩:=r4;simp only at Yw HV h4;have Ct:=Hd (Di.out q4);generalize q4.mark E [59]=q5 at *;generalize bs kk=KS at *;generalize bs kk2=KS2 at *;have Py:Hid (∀W,NeC W (fun j=>(#[.string KS,.string KS2,.int .i64 z]:Array Value).getD j undef) (⟨KS,KS2,z⟩:Ne)):=fun W=>⟨⟨rfl,Ba⟩,⟨rfl,A7⟩,⟨rfl,by show -9223372036854775808≤z;omega,by show z≤_;omega⟩⟩;clear Ba A7 h4 Dx I0 Di
 go_wp2_with fail
 refine Dq.out.mono ?_;rintro _ w4 ⟨rfl,B4,A8⟩;have Bk:=Hd B4;have Bh:=Hd (An.out.trans A8);clear B4 A8 Aq An;have L4:=Hd (Hr.out _ Bk.out)
 go_wp2_with fail
 refine L4.out.mono ?_;rintro _ w5 ⟨rfl,Bw,A9⟩;have Cg:=Hd Bw;have Bv:=Hd (Bh.out.trans A9);clear Bw A9 Bk Bh;have Cr:=Hd (Cg.out.below (Bel.alloc (Bel.refl w5) (.cells #[.string KS,.string ⟨#[]⟩,.int .i64 0] 58)));have By:=Hd (Bv.out.alloc (.cells #[.string KS,.string ⟨#[]⟩,.int .i64 0] 58));have Do:=Hd (Cel.new w5 [.string KS,.string ⟨#[]⟩,.int .i64 0] 58);have E3:w.heap.size≤w5.heap.size:=Bv.out.size;obtain⟨X,hX⟩:∃X,w5.heap.size=X:=⟨_,rfl⟩;rw[hX]at Do E3;have Gq:b<X:=lt_of_lt_of_le HR.out.lt E3;have Ch:X≠b:=by omega
 clear Cg Bv
 go_upto_region 18 with(fail)
 generalize w5.alloc (.cells #[.string KS,.string ⟨#[]⟩,.int .i64 0] 58)=w6 at *;have L5:=Hd (Hs.out _ Cr.out)
 go_wp2_with fail
 refine L5.out.mono ?_;rintro _ w7 ⟨rfl,Nv,Hp⟩;have Jm:=Hd Nv;have G4:=Hd (By.out.trans Hp);have Ei:=Hd (Do.out.kp Hp (Za1 Ch));clear Nv Hp Cr By Do;have x1:=Ei.out.cell 1;simp only[Le0,Le1]at x1;have xf1:=Ei.out.frz 1;have Bx:=Ei.out.lt
 go_upto_region 19 with(fail)
 have Hq:=Hd (Ei.out.set 1 (.string KS2));have Il:=Hd (Jm.out.other (a:=⟨X,1,none⟩) Gq (.string KS2));have Cw:=Hd (G4.out.setN (p:=⟨X,1,none⟩) E3 (.string KS2));simp only[set_cons_zero,set_cons_succ]at Hq;clear Jm G4 Ei x1 xf1 Bx;generalize w7.setCell ⟨X,1,none⟩ (.string KS2)=w8 at *;have iP:=Hd (Yw.out _ Il.out)
 go_wp2_with fail
 refine iP.out.mono ?_;rintro _ w9 ⟨rfl,Jn,Ee⟩;have O7:=Hd Jn;have Ev:=Hd (Cw.out.trans Ee);have Lz:=Hd (Hq.out.kp Ee (Za1 Ch));clear Jn Ee Il Cw Hq;have x2:=Lz.out.cell 2;simp only[Le0,Le1]at x2;have xf2:=Lz.out.frz 2;have Bx:=Lz.out.lt
 go_upto_region 20 with(fail)
 have Bz:=Hd (Lz.out.set 2 (.int .i64 z));have L3:=Hd (O7.out.other (a:=⟨X,2,none⟩) Gq (.int .i64 z));have I6:=Hd (Ev.out.setN (p:=⟨X,2,none⟩) E3 (.int .i64 z));simp only[set_cons_zero,set_cons_succ]at Bz;clear O7 Ev Lz x2 xf2 Bx;generalize w9.setCell ⟨X,2,none⟩ (.int .i64 z)=w10 at *;have Cx:=Hd (Ct.out _ L3.out)
 go_wp2_with fail
 refine Cx.out.mono ?_;rintro _ w11 ⟨rfl,I9,Ka⟩;have Kb:=Hd I9;have Kc:=Hd (I6.out.trans Ka);have Kd:=Hd (Bz.out.kp Ka (Za1 Ch));clear I9 Ka L3 I6 Bz;have Ke:=Hd (HT.out.rd HR.out Kc.out);have P0:∀k,Value.ownBlock (.slice ad0 t.near.length c0)=some k→k<w.heap.size:=fun k hk=>(HT.out.g2.lt hk).2
 go_upto_region 21 with(fail)
 refine Zbx 10 (fun w'=>w'.cell? ⟨T,2,none⟩=some (.slice ad0 t.near.length c0)∧Cel w' X 58 [.string KS,.string KS2,.int .i64 z]) (by kernel_rfl) ⟨Ke.out.cel.cell 2,Kd.out⟩ (fun Lw=>?_);have Yu:=Hd (Kb.out.below (Bel.drew (Bel.refl w11)));have Wx:=Hd (Ke.out.below (Bel.drew (Bel.refl w11)));have iN:=Hd (Kd.out.below (Bel.drew (Bel.refl w11)));have Yv:=Hd (Kc.out.trans (Za4 (Bel.drew (Bel.refl w11))));clear Kb Ke Kd Kc;refine Tg 0 ?_ (hy:=by intro wx A3;obtain⟨t1,t2⟩:=A3;have q0:=t2.cell 0;have q1:=t2.cell 1;have q2:=t2.cell 2;have Bx:=t2.lt;simp only[Le0,Le1]at q0 q1 q2;go_simp;try with_reducible rfl);refine Tg 1 ?_ (hy:=by intro wx A3;obtain⟨t1,t2⟩:=A3;have q0:=t2.cell 0;have q1:=t2.cell 1;have q2:=t2.cell 2;have Bx:=t2.lt;simp only[Le0,Le1]at q0 q1 q2;go_simp;try with_reducible rfl);refine Tg 2 ?_ (hy:=by intro wx A3;obtain⟨t1,t2⟩:=A3;have q0:=t2.cell 0;have q1:=t2.cell 1;have q2:=t2.cell 2;have Bx:=t2.lt;simp only[Le0,Le1]at q0 q1 q2;go_simp;try with_reducible rfl);refine Tg 3 ?_ (hy:=by intro wx A3;obtain⟨t1,t2⟩:=A3;have q0:=t2.cell 0;have q1:=t2.cell 1;have q2:=t2.cell 2;have Bx:=t2.lt;simp only[Le0,Le1]at q0 q1 q2;go_simp;try with_reducible rfl);refine Tg 4 ?_ (hy:=by intro wx A3;obtain⟨t1,t2⟩:=A3;have q0:=t2.cell 0;have q1:=t2.cell 1;have q2:=t2.cell 2;have Bx:=t2.lt;simp only[Le0,Le1]at q0 q1 q2;go_simp;try with_reducible rfl);refine Tg 5 ?_ (hy:=by intro wx A3;obtain⟨t1,t2⟩:=A3;have q0:=t2.cell 0;have q1:=t2.cell 1;have q2:=t2.cell 2;have Bx:=t2.lt;simp only[Le0,Le1]at q0 q1 q2;go_simp;try with_reducible rfl);generalize w11.drew=p1 at *;refine Ry 6 fun K hK=>?_
 go_simp
 have Lb:=Hd (Yu.out.below (Bel.alloc (Bel.refl p1) (.cells #[.string KS,.string KS2,.int .i64 z] 58)));have E4:=Hd (Wx.out.below (Bel.alloc (Bel.refl p1) (.cells #[.string KS,.string KS2,.int .i64 z] 58)));have La:=Hd (Yv.out.alloc (.cells #[.string KS,.string KS2,.int .i64 z] 58));have Ng:=Hd (Zd6 p1 #[.string KS,.string KS2,.int .i64 z] 58 3 rfl);have HY:Hid (NeC (see base ([]:List TypeId) (World.alloc p1 (.cells #[.string KS,.string KS2,.int .i64 z] 58))) (fun j=>(#[.string KS,.string KS2,.int .i64 z]:Array Value).getD j undef) (⟨KS,KS2,z⟩:Ne)):=Py.out _;have I4:=Hd (iN.out.below (Bel.alloc (Bel.refl p1) (.cells #[.string KS,.string KS2,.int .i64 z] 58)));have De:base≤(World.alloc p1 (.cells #[.string KS,.string KS2,.int .i64 z] 58)).heap.size:=le_trans E4.out.low (le_of_lt E4.out.cel.lt);refine hK.out _ _ (fun _=>And.intro (E4.out.cel.cell 2) I4.out) (fun _=>?_);clear hK K;generalize World.alloc p1 (.cells #[.string KS,.string KS2,.int .i64 z] 58)=pb at *
 try simp only[Act.put,getElem_toArray,getElem_cons_succ,getElem_cons_zero,setIfInBounds_toArray,set_cons_zero,set_cons_succ]
 refine Ry 7 fun K hK=>?_;obtain⟨f0,Aj,Ck⟩:=E4.out.g2;have Ad:=Hd Aj;have C2:=Hd Ck;clear Aj Ck;refine Zg1 rfl (.tmp 89) (.tmp 91) rfl underlying25 Zafq (by rfl) (by omega) base ad0 t.near.length c0 (Zar 3 f0 t.near.length) (by rfl) Ad.out (some ⟨p1.heap.size,0,none⟩) 1 1 (fun _ j=>(#[.string KS,.string KS2,.int .i64 z]:Array Value).getD j undef) p1.heap.size 0 (by rfl) Ng.out (fun h=>by cases h) (fun i j _ hj=>by rcases(by omega:j=0∨j=1∨j=2)with e|e|e <;> subst e <;> rfl) (by unfold maxLen;omega) (by omega) De ?_;intro ad3 c3 pc Ae A5;have Jp:Kp (Za7 b (.slice ad0 t.near.length c0)) pb pc:=(Kp.refl _ _).grown A5 (fun k hk=> .inr (by unfold Za7;rw[decide_eq_true hk,Bool.or_true]));have Eh:Kp (fun k=>decide (base≤k)) pb pc:=(Kp.refl _ _).grown A5 (fun k hk=> .inr (decide_eq_true (World.ownsRow.lt Ad.out k hk).1));have R3:=Grow.snoc C2.out Zl1 (Zbq A5 Ad.out base (by decide)) _ Ae (x:=⟨KS,KS2,z⟩) HY.out;have I8:=Hd (E4.out.celG Lb.out E4.out.g2 Jp (by decide));have O4:Za7 b (.slice ad0 t.near.length c0) X=false:=by
  unfold Za7;rw[decide_eq_false Ch,decide_eq_false (fun e=>by have:=P0 X e;omega)];rfl
 have iO:=Hd (I4.out.kp Jp O4);have Ld:=Hd (E4.out.near Lb.out Jp (v':= .slice ad3 (t.near.length+1) c3) (l':=t.near++[⟨KS,KS2,z⟩]) R3);have R4:=Hd (Lb.out.kp Eh (fun i hi=>decide_eq_false (by omega)));have R5:=Hd ((La.out.item (base:=base)).trans (Jp.itemG E4.out.g2 (le_refl _)));have Lf:=Hd ((And.intro (I8.out.cell 2) iO.out));clear R3 Jp Eh Ae A5 Ad C2 Ng E4 Lb La HY;refine hK.out _ _ (fun _=>Lf.out) (fun _=>?_);clear hK K
 try simp only[Act.put,getElem_toArray,getElem_cons_succ,getElem_cons_zero,setIfInBounds_toArray,set_cons_zero,set_cons_succ]
 refine Ry 8 fun K hK=>?_
 go_simp
 refine hK.out _ _ (fun _=>Lf.out) (fun _=>?_);clear hK K
 try simp only[Act.put,getElem_toArray,getElem_cons_succ,getElem_cons_zero,setIfInBounds_toArray,set_cons_zero,set_cons_succ]
 refine Ry 9 fun K hK=>?_
 go_simp
 refine hK.out _ _ (fun _=>Lf.out) (fun _=>?_);clear hK K
 try simp only[Act.put,getElem_toArray,getElem_cons_succ,getElem_cons_zero,setIfInBounds_toArray,set_cons_zero,set_cons_succ]
 have c2:=I8.out.cell 2;have f2:=I8.out.frz 2;have E9:=I8.out.lt;simp only[Le0,Le1]at c2;refine Ry 10 fun K hK=>?_
 go_simp
 refine hK.out _ _ (fun h=>by cases h) (fun _=>?_);clear hK K;refine Zcp (by kernel_rfl) ?_ _;have Nz:=Hd (R4.out.other (a:=⟨T,2,none⟩) Ww (.slice ad3 (t.near.length+1) c3));have R6:=Hd (R5.out.itemS (p:=⟨T,2,none⟩) Bc (.slice ad3 (t.near.length+1) c3));clear R4 R5 I8 Lf c2 f2 E9;generalize pc.setCell ⟨T,2,none⟩ (.slice ad3 (t.near.length+1) c3)=pd at *;have c2:=Ld.out.cel.cell 2;simp only[Le0,Le1]at c2;have E9:=Ld.out.cel.lt
 by_cases B5:200<t.near.length+1
 ·have Da:decide (200<t.near.length+1)=true:=decide_eq_true B5;rw[Da]at HV;have I1:=Hd (Zdu b E q5 f 6 pd Nz.out);unfold RdP at I1
  go_wp2_with fail
  refine I1.out.mono ?_;rintro _ pe ⟨rfl,Rg,Jz⟩
  go_wp2_with fail
  go_end0;exact⟨rfl,by rw[HV.out];exact⟨_,_,_,Ld.out.rd Nz.out Jz⟩,by rw[HV.out];exact Rg,R6.out.trans Jz.item⟩
 ·have Da:decide (200<t.near.length+1)=false:=decide_eq_false B5;rw[Da]at HV
  go_wp2_with fail
  go_end0;exact⟨rfl,by rw[HV.out];exact⟨_,_,_,Ld.out⟩,by rw[HV.out];exact Nz.out,R6.out⟩
theorem Zzi (b:Nat)(E:Int)(base T:Nat)(t:Tb)(r:RS)(w:World)(hr:Rd w b E r)(hb:b<base)(hl:Zj2 base w T t)(hM:MaxAt base w)(_hf0:t.locs.length≤1000)(_hf1:t.als.length≤1000)(_hf2:t.near.length≤1000)(Cb:r.is E 1 [108,111,99,97,108,101]=false)(D4:r.is E 1 [97,108,105,97,115]=false)(Ja:r.is E 1 [110,101,97,114]=false):Calls prog 27 #[.pointer (some ⟨b,0,none⟩),.pointer (some ⟨T,0,none⟩)] w (Zim b E base T w (Zax E t r)):=by
 obtain⟨v0,v1,v2,hl⟩:=hl;obtain⟨ad0,c0,hv⟩:=hl.g0.shape;subst hv;have HT:=Hd hl;have HV:Hid (Zax E t r=(t,r.fail E 3)):=by
  show(if r.is E 1 [108,111,99,97,108,101]=true then _ else if r.is E 1 [97,108,105,97,115]=true then _ else if r.is E 1 [110,101,97,114]=true then _ else _)=_;rw[Cb,if_neg (by decide),D4,if_neg (by decide),Ja,if_neg (by decide)]
 have HP:=Hd (Ze7 b E r w hr);have G5:=Hd (fun s W (g:Rd W b E r)=>Zhh b E 1 s r W g);have HR:=Hd hr;have HM:=Hd hM;have Ww:b<T:=lt_of_lt_of_le hb hl.low;have Bc:=hl.low;unfold Zgr at HP;unfold Zim;clear hr hl hM;have Da:∀(k':Int) (S:ByteArray) (f:Int) (W:World),(Instr.field 109 (.agg #[.int .i64 k',.string S,.int .i64 f]) 2).run prog W= .ok (.int .i64 f) W:=fun _ _ _ _=>by kernel_rfl
 generalize Zax E t r=res at *;generalize r.peek E=tk at *;obtain⟨k',s',f⟩:=tk;simp only at HP HV;have Da:=Da k' (bs s') f;generalize bs s'=S at *
 go_enter func27,ntmps27
 go_wp2_with fail
 refine HP.out.mono ?_;rintro _ w1 ⟨rfl,Aw⟩;have Cs:=Hd Aw;have As:=Hd (HR.out.below Aw);clear Aw HP
 go_wp2_with fail
 refine(G5.out [108,111,99,97,108,101] _ As.out).mono ?_;rintro _ w2 ⟨rfl,Ag⟩;have Ar:=Hd (As.out.below Ag);have Ai:=Hd (Cs.out.trans (Ag.mono Cs.out.size));clear Ag As Cs;rw[Cb]
 go_wp2_with fail
 refine(G5.out [97,108,105,97,115] _ Ar.out).mono ?_;rintro _ w4 ⟨rfl,Dk⟩;have Bk:=Hd (Ar.out.below Dk);have D8:=Hd (Ai.out.trans (Dk.mono Ai.out.size));clear Dk Ar Ai;rw[D4]
 go_wp2_with fail
 refine(G5.out [110,101,97,114] _ Bk.out).mono ?_;rintro _ w3 ⟨rfl,Ax⟩;have Aq:=Hd (Bk.out.below Ax);have C3:=Hd (D8.out.trans (Ax.mono D8.out.size));clear Ax Bk D8;rw[Ja];have I1:=Hd (Zfo b E r 3 _ Aq.out);unfold RdP at I1
 go_wp2_with fail
 refine I1.out.mono ?_;rintro _ w5 ⟨rfl,Bw,A9⟩
 go_wp2_with fail
 go_end0;have G3:Kp (Zaf b) w w5:=(Za4 C3.out).trans A9;exact⟨rfl,by rw[HV.out];exact⟨_,_,_,HT.out.rd HR.out G3⟩,by rw[HV.out];exact Bw,G3.item⟩
theorem Zabe (b:Nat)(E:Int)(base T:Nat)(t:Tb)(r:RS)(w:World)(hr:Rd w b E r)(hb:b<base)(hl:Zj2 base w T t)(hM:MaxAt base w)(Ej:t.locs.length≤1000)(Gb:t.als.length≤1000)(Fw:t.near.length≤1000):Calls prog 27 #[.pointer (some ⟨b,0,none⟩),.pointer (some ⟨T,0,none⟩)] w (Zim b E base T w (Zax E t r)):=by
 cases h1:r.is E 1 [108,111,99,97,108,101]with
 |true=>exact Zva b E base T t r w hr hb hl hM Ej Gb Fw h1
 |false=>
  cases h2:r.is E 1 [97,108,105,97,115]with
  |true=>exact Zom b E base T t r w hr hb hl hM Ej Gb Fw h1 h2
  |false=>
   cases h3:r.is E 1 [110,101,97,114]with
   |true=>exact Zaad b E base T t r w hr hb hl hM Ej Gb Fw h1 h2 h3
   |false=>exact Zzi b E base T t r w hr hb hl hM Ej Gb Fw h1 h2 h3
def Alike (x y:Nx):Prop:=x.1.1=y.1.1∧x.1.2.1=y.1.2.1∧x.2.1=y.2.1∧x.2.2.2=y.2.2.2
theorem Alike.bad (i j e:Nat):Alike (Zbg i e) (Zbg j e):=⟨rfl,rfl,rfl,rfl⟩
theorem Zmb (c b:List UInt8)(i:Nat):(c++b).drop (c.length+i)=b.drop i:=by rw[←List.drop_drop,List.drop_left]
theorem Ztl (c b:List UInt8)(i:Nat):Alike (Zbj (c++b) (c.length+i)) (Zbj b i):=by
 have hd:(c++b).drop (c.length+i+1)=b.drop (i+1):=by rw[show c.length+i+1=c.length+(i+1) by omega,Zmb]
 cases hn:Zbu (b.drop (i+1))with
 |none=>rw[Zi7 hn,Zi7 (by rw[hd];exact hn)];exact .bad _ _ _
 |some n=>
  rw[Zfk hn,Zfk (by rw[hd];exact hn),hd];split
  ·exact .bad _ _ _
  ·split
   ·exact .bad _ _ _
   ·split
    ·exact .bad _ _ _
    ·exact⟨rfl,rfl,rfl,rfl⟩
theorem Zo0 (c b:List UInt8)(i:Nat):Alike (Zb4 (c++b) (c.length+i)) (Zb4 b i):=by
 have hd:(c++b).drop (c.length+i)=b.drop i:=Zmb c b i;have hg:(c++b).getD (c.length+i) 0=b.getD i 0:=by rw[List.getD,List.getD,List.getElem?_append_right (by omega),Nat.add_sub_cancel_left]
 unfold Zb4;rw[hd,hg];split
 ·exact⟨rfl,rfl,rfl,rfl⟩
 ·split
  ·exact Ztl c b i
  ·split
   ·exact .bad _ _ _
   ·split
    ·exact .bad _ _ _
    ·exact⟨rfl,rfl,rfl,rfl⟩
theorem Zif (c b:List UInt8)(i:Nat):Zch (c++b) (c.length+i)=c.length+Zch b i:=by
 unfold Zch;rw[Zmb];omega
theorem Zahd {l:List UInt8} {M N:Nat} (h:Zgn l M)(h0:0<N)(hN:∀k,k<N→Zan l k<l.length)(B6:∀k,k+1<N→(Za9 l k).2.2.2=0)(hE:(Za9 l (N - 1)).2.2.2≠0):M=N:=by
 rcases Nat.lt_trichotomy M N with h1|h1|h1
 ·rcases h.2.2 with⟨h2,_⟩|⟨h2,h3⟩
  ·have:=hN M h1;omega
  ·exact absurd (B6 (M - 1) (by omega)) h3
 ·exact h1
 ·exact absurd (h.2.1 (N - 1) (by omega)) hE
section
variable {a b g : List UInt8} {M N K : Nat}
end
theorem Zj8 {l:List UInt8} {i:Nat} (hi:i<l.length):0<Zab (l.drop i)↔l.getD i 0∈innerL:=by
 have hd:=Zi5 hi;unfold Zab;rw[hd,List.takeWhile_cons]
 by_cases h:l.getD i 0∈innerL
 ·rw[if_pos (by simpa using h)];exact⟨fun _=>h,fun _=>by simp⟩
 ·rw[if_neg (by simpa using h)];exact⟨fun h2=>absurd h2 (by simp),fun h2=>absurd h2 h⟩
theorem Zll {l:List UInt8} {i:Nat} (hi:i<l.length)(h:0<Zab (l.drop i)):
  Zb4 l i=if 40<Zab (l.drop i)then Zbg i 6 else((1,(l.drop i).take (Zab (l.drop i)),i),Zab (l.drop i),0,0):=by
 have hm:=(Zj8 hi).1 h;have k1:∀c∈innerL,c∉Zet∧c≠34:=by decide
 obtain⟨h1,h2⟩:=k1 _ hm;unfold Zb4;rw[if_neg h1,if_neg h2,if_neg (by omega)]
theorem Zkw {l:List UInt8} {i:Nat} (h:l.getD i 0=34):Zb4 l i=Zbj l i:=by
 unfold Zb4;rw[if_neg (by rw[h];decide),if_pos h]
theorem Zm6 {l:List UInt8} {i:Nat} (h:l.getD i 0∈Zet):Zb4 l i=((3,[l.getD i 0],i),1,0,0):=by
 unfold Zb4;rw[if_pos h]
theorem Zze {l:List UInt8} {i:Nat} (h: ¬0<Zab (l.drop i))(h1:l.getD i 0≠34)(h2:l.getD i 0∉Zet):Zb4 l i=Zbg i 3:=by
 unfold Zb4;rw[if_neg h2,if_neg h1,if_pos (by omega)]
end Go.Proofs.YtmleeodfmmpdgaaGreatDoor
