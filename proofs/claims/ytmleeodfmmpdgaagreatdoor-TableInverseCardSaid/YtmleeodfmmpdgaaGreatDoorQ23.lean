/- part -/
import Derived.Test.YtmleeodfmmpdgaaGreatDoorQ22
set_option maxRecDepth 20000
set_option maxHeartbeats 4000000
namespace Go.Proofs.YtmleeodfmmpdgaaGreatDoor
open Go.RowKit
attribute [local go_sem] Ext.cell Ext.frozen
attribute [local go_sem ↓] Go.wp_at_zero Go.wp_at_succ
open _root_.Nat (le_refl le_trans)
open _root_.Go.Proofs.Tryz
def RS.cond (E:Int)(r:RS):List (List Rel)×RS:=
 if(r.peek E).1=2 then((Zb3 (r.peek E).2.1).1,((if(Zb3 (r.peek E).2.1).2.2=0 then r else r.fail E (Zb3 (r.peek E).2.1).2.2).text E).2)else([],(r.text E).2)
theorem Rd.kpt {w w':World} {b:Nat} {E:Int} {r:RS} (h:Rd w b E r)(k:Kp (Zaf b) w w')(base:Nat) {ts:List TypeId} (hT:67∉ts):KpT base ts w w':=by
 obtain⟨_,_,_,_,h1,_⟩:=h;exact k.kptO h1 hT
theorem Rd.peek_len {w:World} {b:Nat} {E:Int} {r:RS} (h:Rd w b E r):(r.peek E).2.1.length≤200000:=by
 obtain⟨_,_,_,_,_,_,_,_,_,h1⟩:=h;unfold RS.peek;cases hl:r.l with
 |nil=>simp
 |cons t l=>exact h1 t (by rw[hl];exact List.mem_cons_self)
theorem CondAt.kpt {w w':World} {base:Nat} {ts:List TypeId} {v:Value} {c:List (List Rel)} (h:RowsOf 1 RelsC (see base ts w) v c)(k:KpT base ts w w'):RowsOf 1 RelsC (see base ts w') v c:=h.sub (Zf8 k) fun _ _ g=>g.sub (Zf8 k)
theorem Zzd (b:Nat)(E:Int)(r:RS)(w:World)(h:Rd w b E r)(hM:MaxLen w):Calls prog 307 #[.pointer (some ⟨b,0,none⟩)] w fun e w'=>∃v,e= .returned v∧RowsOf 1 RelsC (see w.heap.size [91,94,152] w') v (r.cond E).1∧Rd w' b E (r.cond E).2∧Kp (Zaf b) w w':=by
 have HP:=Hd (Ze7 b E r w h);have HF:=Hd (fun e W (g:Rd W b E r)=>Zfo b E r e W g);have HT:=Hd (fun r W (g:Rd W b E r)=>Zkr b E r W g);have HR:=Hd h;have Ah:=h.peek_len;have HM:=Hd (fun W (k:Below w.heap.size w W)=>hM.below k);have HV:Hid (r.cond E=(if(r.peek E).1=2 then((Zb3 (r.peek E).2.1).1,((if(Zb3 (r.peek E).2.1).2.2=0 then r else r.fail E (Zb3 (r.peek E).2.1).2.2).text E).2)else([],(r.text E).2))):=rfl;unfold RdP at HF HT;unfold Zgr at HP;clear h hM;generalize r.cond E=res at *;generalize r.peek E=t at *;obtain⟨k',s',f⟩:=t;simp only at HP HV Ah;have Wt:=Hd (fun W (g:MaxLen W)=>Zxn (bs s') (by rw[Za5];exact Ah) W g);rw[Zcz]at Wt;generalize Zb3 s'=cp at *;obtain⟨cl,cpos,cerr⟩:=cp;simp only at Wt HV;generalize bs s'=S at *;obtain⟨n0,E6⟩:∃n,w.heap.size=n:=⟨_,rfl⟩;rw[E6]
 go_enter func307,ntmps307
 go_wp2_with fail
 refine HP.out.mono ?_;rintro _ w1 ⟨rfl,hb⟩;have HB:=Hd hb;have As:=Hd (HR.out.below hb);clear hb HR HP
 go_upto_region 2 with(fail)
 have Ai:Hid (Below w.heap.size w (w1.alloc (.cells #[.int .i64 k',.string S,.int .i64 f] 109))):=HB.out.alloc HB.out.size _;have Ar:=Hd (As.out.below (Bel.alloc (Bel.refl w1) (.cells #[.int .i64 k',.string S,.int .i64 f] 109)));have HX:Hid (Cel (w1.alloc (.cells #[.int .i64 k',.string S,.int .i64 f] 109)) w1.heap.size 109 [.int .i64 k',.string S,.int .i64 f]):=Cel.new w1 _ _;have Po:b<w1.heap.size:=As.out.lt;generalize w1.alloc (.cells #[.int .i64 k',.string S,.int .i64 f] 109)=w2 at *;obtain⟨B,hB⟩:∃B,w1.heap.size=B:=⟨_,rfl⟩;rw[hB]at HX Po⊢;clear hB HB As;have x0:=HX.out.cell 0;have x1:=HX.out.cell 1;have x2:=HX.out.cell 2;simp only[Le0,Le1]at x0 x1 x2;obtain⟨c2,c3,f2,f3,f0⟩:=Ar.out.cells
 by_cases hk:k'=2
 ·rw[if_pos hk]at HV;subst hk;have gY:=Hd (Wt.out _ (HM.out _ Ai.out))
  go_wp2_with fail
  refine gY.out.mono ?_;intro e w3 hP;obtain⟨v,rfl,hd,Ax⟩:=hP;have Aq:=Hd (Ar.out.below Ax);have An:=Hd ((Za4 Ai.out).trans (Za4 Ax):Kp (Zaf b) w w3);have HD:Hid (RowsOf 1 RelsC (see n0 [91,94,152] w3) v cl):=hd.sub (Zcr w3 (by rw[←E6];exact Ai.out.size) fun _ h=>h) fun _ _ g=>g.sub (Zcr w3 (by rw[←E6];exact Ai.out.size) fun _ h=>h);clear hd Ax
  by_cases he:cerr=0
  ·rw[if_pos he]at HV;subst he;have Fu:=Hd (HT.out r _ Aq.out)
   go_wp2_with fail
   refine Fu.out.mono ?_;rintro _ w5 ⟨rfl,Bw,A9⟩;have Cg:=Hd Bw;have Bv:=Hd (An.out.trans A9);have Rq:=Hd (CondAt.kpt HD.out (Aq.out.kpt A9 n0 (by decide)));clear Bw A9
   go_wp2_with fail
   go_ret;exact⟨_,rfl,by rw[HV.out];exact Rq.out,by rw[HV.out];exact Cg.out,Bv.out⟩
  ·have hz:(cerr==0)=false:=by simpa using he
   have A7:(cerr !=0)=true:=by rw[bne,hz];rfl
   rw[if_neg he]at HV;have Du:=Hd (HF.out cerr _ Aq.out)
   go_wp2_with fail
   refine Du.out.mono ?_;rintro _ w4 ⟨rfl,B4,A8⟩;have Bk:=Hd B4;have Bh:=Hd (An.out.trans A8);have dB:=Hd (CondAt.kpt HD.out (Aq.out.kpt A8 n0 (by decide)));clear B4 A8;have Fu:=Hd (HT.out (r.fail E cerr) _ Bk.out)
   go_wp2_with fail
   refine Fu.out.mono ?_;rintro _ w5 ⟨rfl,Bw,A9⟩;have Cg:=Hd Bw;have Bv:=Hd (Bh.out.trans A9);have Rq:=Hd (CondAt.kpt dB.out (Bk.out.kpt A9 n0 (by decide)));clear Bw A9
   go_wp2_with fail
   go_ret;exact⟨_,rfl,by rw[HV.out];exact Rq.out,by rw[HV.out];exact Cg.out,Bv.out⟩
 ·rw[if_neg hk]at HV;have hy:(k'==2)=false:=by simpa using hk
  have Fu:=Hd (HT.out r _ Ar.out)
  go_wp2_with fail
  refine Fu.out.mono ?_;rintro _ w5 ⟨rfl,Bw,A9⟩;have Cg:=Hd Bw;have Bv:=Hd ((Za4 Ai.out).trans A9);have Rq:=Hd (RowsOf.nil 1 RelsC (see n0 [91,94,152] w5));clear Bw A9
  go_wp2_with fail
  go_ret;exact⟨_,rfl,by rw[HV.out];exact Rq.out,by rw[HV.out];exact Cg.out,Bv.out⟩
theorem Zgt (w:World):Calls prog 151 #[] w fun e w'=>∃ad n c,e= .returned (.slice ad n c)∧Sl w' ad n (Zae classL)∧Below w.heap.size w w':=by
 go_enter func151,ntmps151
 go_wp2_with fail
 go_ret;exact⟨_,_,_,rfl,Zjh w (Zae classL) _ (by decide),(Below.refl _ _).alloc (le_refl _) _⟩
theorem MaxLen.rd {w w':World} {b:Nat} {E:Int} {r:RS} (h:MaxLen w)(hp:Rd w b E r)(k:Kp (Zaf b) w w'):MaxLen w':=by
 obtain⟨m,hm⟩:=h;refine⟨m,k.cell (Za1 ?_) hm⟩;intro e;have e:1=b:=e;obtain⟨_,_,_,_,h1,_⟩:=hp;rw[e,h1.cell 0]at hm;simp at hm
theorem Rd.other {w:World} {b:Nat} {E:Int} {r:RS} (h:Rd w b E r) {a:Addr} (ha:b<a.block)(v:Value):Rd (w.setCell a v) b E r:=
 h.kp (P:=Zaf a.block) ((Kp.refl _ w).set (Za8 _) v) (fun i hi=>Za1 (by omega))
theorem Zcd {w:World} {a:Addr} {T:TypeId} {cs:List Value} (h:Cel w a.block T cs)(base:Nat) {ts:List TypeId} (hT:T∉ts)(v:Value):KpT base ts w (w.setCell a v):=
 Kp.kptO (b:=a.block) ((Kp.refl _ w).set (Za8 _) v) h hT
def RS.rule (E:Int)(r:RS):(ByteArray×List (List Rel))×RS:=
 ((bs (r.one E classL).1,((r.one E classL).2.cond E).1),((r.one E classL).2.cond E).2.mark E [59])
theorem Zqa (b:Nat)(E:Int)(r:RS)(w:World)(h:Rd w b E r)(hM:MaxLen w):Calls prog 272 #[.pointer (some ⟨b,0,none⟩)] w fun e w'=>∃v,e= .returned (.agg #[.string (r.rule E).1.1,v])∧RowsOf 1 RelsC (see w.heap.size [91,94,152] w') v (r.rule E).1.2∧Rd w' b E (r.rule E).2∧Kp (Zaf b) w w':=by
 have Mo:=Hd (fun ad n c W (g:Rd W b E r) gs=>Zpg b E ad n c classL r W g gs);have nP:=Hd (fun r W (g:Rd W b E r) gM=>Zzd b E r W g gM);have Di:=Hd (fun r W (g:Rd W b E r)=>Zcs b E [59] r W g);have Rr:=Hd Zgt;have HR:=Hd h;have Ii:=h.lt;have HM:=Hd (fun W (k:Kp (Zaf b) w W)=>hM.rd h k);have HV:Hid (r.rule E=((bs (r.one E classL).1,((r.one E classL).2.cond E).1),((r.one E classL).2.cond E).2.mark E [59])):=rfl;unfold RdP at Mo Di;clear h hM;generalize r.rule E=res at *;generalize r.one E classL=r1 at *;obtain⟨k,q1⟩:=r1;simp only at Mo HV;have Uk:=Hd (nP.out q1);generalize q1.cond E=r2 at *;obtain⟨cl,q2⟩:=r2;simp only at Uk HV;have Ct:=Hd (Di.out q2);generalize q2.mark E [59]=q3 at *;generalize bs k=K at *;clear nP Di;obtain⟨n0,E6⟩:∃n,w.heap.size=n:=⟨_,rfl⟩;have Br:=Hd (HR.out.below (Bel.alloc (Bel.refl w) (.cells #[.string ⟨#[]⟩,.slice none 0 0] 51)));have Bp:=Hd ((Kp.refl (Zaf b) w).alloc (.cells #[.string ⟨#[]⟩,.slice none 0 0] 51));have E7:=Hd (Cel.new w [.string ⟨#[]⟩,.slice none 0 0] 51);have Ho:(w.alloc (.cells #[.string ⟨#[]⟩,.slice none 0 0] 51)).heap.size=n0+1:=by rw[←E6];simp
 have C4:=Hd Ho;rw[E6]at E7 Ii⊢;have F9:n0≠b:=by omega
 clear Ho
 go_enter func272,ntmps272
 go_wp2_with fail
 generalize w.alloc (.cells #[.string ⟨#[]⟩,.slice none 0 0] 51)=w0 at *;refine(Rr.out _).mono ?_;rintro _ w1 ⟨ad,n,c,rfl,F0,Aw⟩;have As:=Hd (Br.out.below Aw);have Ec:=Hd (E7.out.below Aw);have Bf:=Hd (Bp.out.trans (Za4 Aw));have L1:=Hd (Mo.out ad n c _ As.out F0);clear F0 Aw Br E7 Bp Mo Rr
 go_wp2_with fail
 refine L1.out.mono ?_;rintro _ w2 ⟨rfl,Eo,D9⟩;have Ar:=Hd Eo;have Hm:=Hd (Ec.out.kp D9 (Za1 F9));have A6:=Hd (Bf.out.trans D9);clear Eo D9 As Ec Bf L1;have Aq:=Hd (Ar.out.below (Bel.alloc (Bel.refl w2) (.cells #[.string K,.slice none 0 0] 51)));have J7:=Hd (Hm.out.below (Bel.alloc (Bel.refl w2) (.cells #[.string K,.slice none 0 0] 51)));have An:=Hd (A6.out.alloc (.cells #[.string K,.slice none 0 0] 51));have Bg:=Hd (Cel.new w2 [.string K,.slice none 0 0] 51);obtain⟨X,hX⟩:∃X,w2.heap.size=X:=⟨_,rfl⟩;have X1:n0<X:=by rw[←hX];exact Hm.out.lt
 have Gq:b<X:=by omega
 have nQ:n0≤(w2.alloc (.cells #[.string K,.slice none 0 0] 51)).heap.size:=by simp;omega
 rw[hX]at Bg;clear Ar Hm A6
 go_upto_region 2 with(fail)
 generalize w2.alloc (.cells #[.string K,.slice none 0 0] 51)=w3 at *;have Yh:=Hd (Uk.out _ Aq.out (HM.out _ An.out));clear Uk HM
 go_wp2_with fail
 refine Yh.out.mono ?_;rintro e w4 ⟨v,rfl,hd,B4,A8⟩;obtain⟨ad4,c4,ff,bb,oo,rfl,Fh⟩:=hd;have dB:Hid (RowsOf 1 RelsC (see n0 [91,94,152] w4) (.slice ad4 cl.length c4) cl):=RowsOf.sub ⟨ad4,c4,ff,bb,oo,rfl,Fh⟩ (Zcr w4 nQ fun _ h=>h) fun _ _ g=>g.sub (Zcr w4 nQ fun _ h=>h);have Bk:=Hd B4;have O3:=Hd (J7.out.kp A8 (Za1 F9));have Cl:=Hd (Bg.out.kp A8 (Za1 (by omega)));have Bh:=Hd (An.out.trans A8);clear Fh B4 A8 Aq J7 Bg An Yh;have x1:=Cl.out.cell 1;have xf:=Cl.out.frz 1;have Bx:=Cl.out.lt;simp only[Le0,Le1]at x1
 go_upto_region 3 with(fail)
 have Cg:=Hd (Bk.out.other (a:=⟨X,1,none⟩) Gq (.slice ad4 cl.length c4));have Yi:=Hd (O3.out.other (a:=⟨X,1,none⟩) (by show X≠n0;omega) (.slice ad4 cl.length c4));have Dh:Hid (Cel (w4.setCell ⟨X,1,none⟩ (.slice ad4 cl.length c4)) X 51 [.string K,.slice ad4 cl.length c4]):=Cl.out.set 1 _;have Bv:=Hd (Bh.out.setN (p:=⟨X,1,none⟩) (by show w.heap.size≤X;omega) (.slice ad4 cl.length c4));have Rq:=Hd (CondAt.kpt dB.out (Zcd (a:=⟨X,1,none⟩) Cl.out n0 (by decide) (.slice ad4 cl.length c4)));clear Bk O3 Cl Bh dB x1 xf Bx;generalize w4.setCell ⟨X,1,none⟩ (.slice ad4 cl.length c4)=w5 at *;have Cx:=Hd (Ct.out _ Cg.out)
 go_wp2_with fail
 refine Cx.out.mono ?_;rintro _ w6 ⟨rfl,Rs,G3⟩;have Cr:=Hd Rs;have Nq:=Hd (Yi.out.kp G3 (Za1 F9));have Do:=Hd (Dh.out.kp G3 (Za1 (by omega)));have By:=Hd (Bv.out.trans G3);have rY:=Hd (CondAt.kpt Rq.out (Cg.out.kpt G3 n0 (by decide)));clear Rs G3 Cg Yi Dh Bv Rq Ct Cx;have x0:=Do.out.cell 0;have x1:=Do.out.cell 1;have r0:=Nq.out.cell 0;have r1:=Nq.out.cell 1;simp only[Le0,Le1]at x0 x1 r0 r1;have rf0:=Nq.out.frz 0;have rf1:=Nq.out.frz 1;have Ik:=Do.out.lt;have wA:=Nq.out.lt
 go_wp2_with fail
 have gZ:=Hd ((Nq.out.set 0 (.string K)).set 1 (.slice ad4 cl.length c4));have Hp:Kp (Zaf n0) w6 ((w6.setCell ⟨n0,0,none⟩ (.string K)).setCell ⟨n0,1,none⟩ (.slice ad4 cl.length c4)):=((Kp.refl _ w6).set (p:=⟨n0,0,none⟩) (Za8 n0) _).set (p:=⟨n0,1,none⟩) (Za8 n0) _;refine bodyPost_ret (results_cell_row rfl _ _ n0 51 #[.string K,.slice ad4 cl.length c4] (0,0) _ rfl gZ.out underlying51 rfl (by kernel_rfl)) rfl ?_;exact⟨_,by rw[HV.out],by rw[HV.out];exact CondAt.kpt rY.out (Hp.kptO Nq.out (by decide)),by rw[HV.out];exact Cr.out.kp Hp (fun i hi=>Za1 (by omega)),By.out.then Hp (fun i hi e=>by have:=of_decide_eq_true e;omega)⟩
theorem Zdy (a b:ByteArray):(a.toList==b.toList)=decide (a=b):=by
 rw[Bool.eq_iff_iff,beq_iff_eq,decide_eq_true_eq];constructor
 ·intro h;exact ByteArray.ext (by simpa [ByteArray.toList_eq]using h)
 ·rintro rfl;rfl
theorem Zn8 (a0:ByteArray)(a1:Option Addr)(a2 a3:Nat)(w:World):Calls prog 148 #[.agg #[.string a0,.slice a1 a2 a3]] w fun e w'=>e= .returned (.string a0)∧Below w.heap.size w w':=by
 go_enter func148,ntmps148
 go_wp2_with fail
 go_ret;exact⟨rfl,Bel.alloc (Bel.refl w) _⟩
theorem Zaax (a0:ByteArray)(a1:Option Addr)(a2 a3:Nat)(x0:ByteArray)(x1:Option Addr)(x2 x3:Nat)(kb xb:Nat)(w:World)(hk:Cel w kb 187 [.func (.func 148) #[] #[]])(hx:Cel w xb 51 [.string x0,.slice x1 x2 x3]):Calls prog 306 #[.agg #[.string a0,.slice a1 a2 a3],.pointer (some ⟨kb,0,none⟩),.pointer (some ⟨xb,0,none⟩)] w fun e w'=>e= .returned (.bool (decide (a0=x0)))∧Below w.heap.size w w':=by
 have Ul:=Hd (Zn8 a0 a1 a2 a3);have Um:=Hd (Zn8 x0 x1 x2 x3);have hq:=Zdy a0 x0;have O2:=Hd hk;have Un:=Hd hx;have Gr:=hk.lt;have Ap:=hx.lt;clear hk hx;obtain⟨A,hA⟩:∃A,w.heap.size=A:=⟨_,rfl⟩;have Dv:=Hd (Cel.new w [.string a0,.slice a1 a2 a3] 51);have Bp:=Hd (O2.out.below (Bel.alloc (Bel.refl w) (.cells #[.string a0,.slice a1 a2 a3] 51)));have Dj:=Hd (Un.out.below (Bel.alloc (Bel.refl w) (.cells #[.string a0,.slice a1 a2 a3] 51)));have Ay:Hid (Below w.heap.size w (w.alloc (.cells #[.string a0,.slice a1 a2 a3] 51))):=Bel.alloc (Bel.refl w) _;rw[hA]at Dv
 go_enter func306,ntmps306
 go_upto_region 1 with(fail)
 generalize w.alloc (.cells #[.string a0,.slice a1 a2 a3] 51)=w0 at *;have k0:=Bp.out.cell 0;have Gr:=Bp.out.lt;have Ap:=Dj.out.lt;have hG:=Dv.out.lt;simp only[Le0]at k0;have ca0:=Dv.out.cell 0;have cx0:=Dj.out.cell 0;have ca1:=Dv.out.cell 1;have cx1:=Dj.out.cell 1;simp only[Le0,Le1]at ca0 cx0 ca1 cx1;have eg:=enters_of func148 (by kernel_rfl) rfl;refine Zaq (by kernel_rfl) (by kernel_rfl) ?_
 repeat (go_big_quiet_step (first|exact Calls.ext (Ul.out _)|exact Calls.ext (Um.out _)))
 refine wpQuiet_nil ?_;intro _ Eb;obtain⟨X9,Bo⟩:=Eb;subst Bo
 go_wp2_with fail
 go_ret;exact⟨rfl,Ay.out.trans (X9.2.mono Ay.out.size)⟩
theorem Zsa (a0 a1 a2 a3 a4:ByteArray)(w:World):Calls prog 154 #[.agg #[.string a0,.string a1,.string a2,.string a3,.string a4]] w fun e w'=>e= .returned (.string a0)∧Below w.heap.size w w':=by
 go_enter func154,ntmps154
 go_wp2_with fail
 go_ret;exact⟨rfl,Bel.alloc (Bel.refl w) _⟩
theorem Zahb (a0 a1 a2 a3 a4:ByteArray)(x0 x1 x2 x3 x4:ByteArray)(kb xb:Nat)(w:World)(hk:Cel w kb 191 [.func (.func 154) #[] #[]])(hx:Cel w xb 130 [.string x0,.string x1,.string x2,.string x3,.string x4]):Calls prog 308 #[.agg #[.string a0,.string a1,.string a2,.string a3,.string a4],.pointer (some ⟨kb,0,none⟩),.pointer (some ⟨xb,0,none⟩)] w fun e w'=>e= .returned (.bool (decide (a0=x0)))∧Below w.heap.size w w':=by
 have Ul:=Hd (Zsa a0 a1 a2 a3 a4);have Um:=Hd (Zsa x0 x1 x2 x3 x4);have hq:=Zdy a0 x0;have O2:=Hd hk;have Un:=Hd hx;have Gr:=hk.lt;have Ap:=hx.lt;clear hk hx;obtain⟨A,hA⟩:∃A,w.heap.size=A:=⟨_,rfl⟩;have Dv:=Hd (Cel.new w [.string a0,.string a1,.string a2,.string a3,.string a4] 130);have Bp:=Hd (O2.out.below (Bel.alloc (Bel.refl w) (.cells #[.string a0,.string a1,.string a2,.string a3,.string a4] 130)));have Dj:=Hd (Un.out.below (Bel.alloc (Bel.refl w) (.cells #[.string a0,.string a1,.string a2,.string a3,.string a4] 130)));have Ay:Hid (Below w.heap.size w (w.alloc (.cells #[.string a0,.string a1,.string a2,.string a3,.string a4] 130))):=Bel.alloc (Bel.refl w) _;rw[hA]at Dv
 go_enter func308,ntmps308
 go_upto_region 1 with(fail)
 generalize w.alloc (.cells #[.string a0,.string a1,.string a2,.string a3,.string a4] 130)=w0 at *;have k0:=Bp.out.cell 0;have Gr:=Bp.out.lt;have Ap:=Dj.out.lt;have hG:=Dv.out.lt;simp only[Le0]at k0;have ca0:=Dv.out.cell 0;have cx0:=Dj.out.cell 0;have ca1:=Dv.out.cell 1;have cx1:=Dj.out.cell 1;have ca2:=Dv.out.cell 2;have cx2:=Dj.out.cell 2;have ca3:=Dv.out.cell 3;have cx3:=Dj.out.cell 3;have ca4:=Dv.out.cell 4;have cx4:=Dj.out.cell 4;simp only[Le0,Le1]at ca0 cx0 ca1 cx1 ca2 cx2 ca3 cx3 ca4 cx4;have eg:=enters_of func154 (by kernel_rfl) rfl;refine Zaq (by kernel_rfl) (by kernel_rfl) ?_
 repeat (go_big_quiet_step (first|exact Calls.ext (Ul.out _)|exact Calls.ext (Um.out _)))
 refine wpQuiet_nil ?_;intro _ Eb;obtain⟨X9,Bo⟩:=Eb;subst Bo
 go_wp2_with fail
 go_ret;exact⟨rfl,Ay.out.trans (X9.2.mono Ay.out.size)⟩
theorem Zs2 (a0 a1:ByteArray)(w:World):Calls prog 158 #[.agg #[.string a0,.string a1]] w fun e w'=>e= .returned (.string a0)∧Below w.heap.size w w':=by
 go_enter func158,ntmps158
 go_wp2_with fail
 go_ret;exact⟨rfl,Bel.alloc (Bel.refl w) _⟩
theorem Zagz (a0 a1:ByteArray)(x0 x1:ByteArray)(kb xb:Nat)(w:World)(hk:Cel w kb 196 [.func (.func 158) #[] #[]])(hx:Cel w xb 134 [.string x0,.string x1]):Calls prog 310 #[.agg #[.string a0,.string a1],.pointer (some ⟨kb,0,none⟩),.pointer (some ⟨xb,0,none⟩)] w fun e w'=>e= .returned (.bool (decide (a0=x0)))∧Below w.heap.size w w':=by
 have Ul:=Hd (Zs2 a0 a1);have Um:=Hd (Zs2 x0 x1);have hq:=Zdy a0 x0;have O2:=Hd hk;have Un:=Hd hx;have Gr:=hk.lt;have Ap:=hx.lt;clear hk hx;obtain⟨A,hA⟩:∃A,w.heap.size=A:=⟨_,rfl⟩;have Dv:=Hd (Cel.new w [.string a0,.string a1] 134);have Bp:=Hd (O2.out.below (Bel.alloc (Bel.refl w) (.cells #[.string a0,.string a1] 134)));have Dj:=Hd (Un.out.below (Bel.alloc (Bel.refl w) (.cells #[.string a0,.string a1] 134)));have Ay:Hid (Below w.heap.size w (w.alloc (.cells #[.string a0,.string a1] 134))):=Bel.alloc (Bel.refl w) _;rw[hA]at Dv
 go_enter func310,ntmps310
 go_upto_region 1 with(fail)
 generalize w.alloc (.cells #[.string a0,.string a1] 134)=w0 at *;have k0:=Bp.out.cell 0;have Gr:=Bp.out.lt;have Ap:=Dj.out.lt;have hG:=Dv.out.lt;simp only[Le0]at k0;have ca0:=Dv.out.cell 0;have cx0:=Dj.out.cell 0;have ca1:=Dv.out.cell 1;have cx1:=Dj.out.cell 1;simp only[Le0,Le1]at ca0 cx0 ca1 cx1;have eg:=enters_of func158 (by kernel_rfl) rfl;refine Zaq (by kernel_rfl) (by kernel_rfl) ?_
 repeat (go_big_quiet_step (first|exact Calls.ext (Ul.out _)|exact Calls.ext (Um.out _)))
 refine wpQuiet_nil ?_;intro _ Eb;obtain⟨X9,Bo⟩:=Eb;subst Bo
 go_wp2_with fail
 go_ret;exact⟨rfl,Ay.out.trans (X9.2.mono Ay.out.size)⟩
section
variable {P : Program} {T E : TypeId} {z : Value} {sz bytes : Nat}
theorem Zr5 {w:World} (ty:TypeId)(hT:P.underlying T=some (.slice E))(info:(P.info? E).map (fun i=>(i.zero,i.size,i.bytes))=some (some z,sz,bytes))(Fl:z.cells.size=sz)(Am:0<sz)
  (base:Nat) (ad:Option Addr) (k c:Nat) (ys:List Value) (Ab:w.ownsRow base E sz (.slice ad k c) k ys) (ad2:Option Addr) (n c2:Nat) (f:Nat→Nat→Value) (b off:Nat)
  (hx:Rw w ad2 n sz f b off) (hc:ad2=none→c2=0) (h1:∀i j,i<n→j<sz→(f i j).oneCell'=true) (Iq:k+n≤maxLen) (hr:(k+n)*bytes≤140737488355328) (hb:base≤w.heap.size):
  ∃ad' c' w',(Builtin.append_ #[T,T] ty #[.slice ad k c,.slice ad2 n c2]).run P w= .ok (.slice ad' (k+n) c') w'∧
   w'.ownsRow base E sz (.slice ad' (k+n) c') (k+n) (ys++Zar sz f n)∧w.grownBy w' (Value.ownBlock (.slice ad k c))∧
   (Value.ownBlock (.slice ad' (k+n) c')=Value.ownBlock (.slice ad k c)∨∃q,Value.ownBlock (.slice ad' (k+n) c')=some q∧w.heap.size≤q):=by
 obtain⟨i0,hi,Cc,Ba,A7⟩:=info_parts info
 by_cases h0:n=0
 ·subst h0;cases ad2 with
  |none=>
   obtain rfl:=hc rfl;exact⟨ad,c,w,run_append_owned_none w base T ty E i0 sz hT hi (.slice ad k c) k ys Ab,by simpa [Zar]using Ab,World.grownBy.refl _ _,.inl rfl⟩
  |some A2=>
   obtain⟨v',w',k1,k2,k3,_,k5⟩:=run_append_own_at (P:=P) (w:=w) base T ty E i0 z sz bytes hT hi Cc Ba A7 Fl Am (.slice ad k c) k ys Ab A2 0 c2 [] (by simp) (fun j u h=>by simp at h) (fun u h=>by cases h) Iq hr hb;obtain⟨ad',c',rfl⟩:=Zgc k2;exact⟨ad',c',w',k1,by simpa [Zar]using k2,k3,k5.imp id fun h=>⟨_,h,le_refl _⟩⟩
 ·have ha:=hx.adr h0;subst ha;have news:∀q u,(Zar sz f n)[q]? =some u→w.cell? ((⟨b,off,none⟩:Addr).add q)=some u:=by
   intro q u hu;obtain⟨i,j,rfl,hi,hj,rfl⟩:=Zl7 Am hu;have:=hx.cell i j hi hj;rw[Nat.add_assoc]at this;unfold Addr.add;split
   ·rename_i h;rw[h,Nat.add_zero]at this;exact this
   ·exact this
  obtain⟨v',w',k1,k2,k3,_,k5⟩:=run_append_own_at (P:=P) (w:=w) base T ty E i0 z sz bytes hT hi Cc Ba A7 Fl Am (.slice ad k c) k ys Ab ⟨b,off,none⟩ n c2 (Zar sz f n)
   (Zdg _ _ _) news (fun u hu=>by obtain⟨i,j,hi,hj,rfl⟩:=Zrt hu;exact h1 i j hi hj) Iq hr hb
  obtain⟨ad',c',rfl⟩:=Zgc k2;exact⟨ad',c',w',k1,k2,k3,k5.imp id fun h=>⟨_,h,le_refl _⟩⟩
theorem Zg8 {w:World} {ops:Array Oper} {rest:List Oper} {o:Oper} {a:Act} {Q:Exit→Act→World→Prop} (Lq:o.guard=none)(s x:Operand)(ho:o.op= .call { callee:= .builtin .append,args:= #[s,x],argTypes:= #[T,T] })
  (hT:P.underlying T=some (.slice E)) (info:(P.info? E).map (fun i=>(i.zero,i.size,i.bytes))=some (some z,sz,bytes)) (Fl:z.cells.size=sz) (Am:0<sz)
  (base:Nat) (ad:Option Addr) (k c:Nat) (ys:List Value) (hs:a.eval s= .slice ad k c) (Ab:w.ownsRow base E sz (.slice ad k c) k ys) (ad2:Option Addr) (n c2:Nat) (f:Nat→Nat→Value) (b off:Nat) (Lr:a.eval x= .slice ad2 n c2)
  (hx:Rw w ad2 n sz f b off) (hc:ad2=none→c2=0) (h1:∀i j,i<n→j<sz→(f i j).oneCell'=true) (Iq:k+n≤maxLen) (hr:(k+n)*bytes≤140737488355328) (hb:base≤w.heap.size)
  (h:∀ad' c' w',w'.ownsRow base E sz (.slice ad' (k+n) c') (k+n) (ys++Zar sz f n)→w.grownBy w' (Value.ownBlock (.slice ad k c))→
   (Value.ownBlock (.slice ad' (k+n) c')=Value.ownBlock (.slice ad k c)∨∃q,Value.ownBlock (.slice ad' (k+n) c')=some q∧w.heap.size≤q)→wpList P ops Q rest (a.put o.dst (.slice ad' (k+n) c')) w'):wpList P ops Q (o::rest) a w:=
 wpList_plain Lq fun _ hK=>by
  obtain⟨ad',c',w',g1,g2,g3,g4⟩:=Zr5 o.type hT info Fl Am base ad k c ys Ab ad2 n c2 f b off hx hc h1 Iq hr hb;unfold Oper.wp execOp;simp only[ho,resolve,invoke,builtin,Sem.run_bind,Sem.run_pure,Result.andThen_ok,List.map_toArray,List.map_cons,List.map_nil,hs,Lr,g1];exact hK _ _ (h ad' c' w' g2 g3 g4)
end
def Za7 (b:Nat)(v:Value)(k:Nat):Bool:=decide (k=b)||decide (v.ownBlock=some k)
def RS.add (p:Int)(dup full:Bool)(r:RS):RS:=if dup then r.failAt p 9 else if full then r.failAt p 6 else r
theorem Ztw:(prog.info? 51).map (fun i=>(i.zero,i.size,i.bytes))=some (some (.agg #[.string .empty,.slice none 0 0]),2,40):=by kernel_rfl
theorem Zp0 (b:Nat)(E p lim:Int)(r:RS)(w:World)(h:Rd w b E r)(base:Nat)(hH:b<base)(Bn:base≤w.heap.size)(l:List (ByteArray×List (List Rel)))(ad:Option Addr)(c:Nat)(hg:Grow 51 2 RuleC base [91,94,152] w (.slice ad l.length c) l)(hl:l.length≤1000)
  (x0:ByteArray) (xa:Option Addr) (xn xk:Nat) (xc:List (List Rel)) (hx:RowsOf 1 RelsC (see base [91,94,152] w) (.slice xa xn xk) xc):
  Calls prog 271 #[.pointer (some ⟨b,0,none⟩),.int .i64 p,.slice ad l.length c,.agg #[.string x0,.slice xa xn xk],.func (.func 148) #[] #[],.int .i64 lim] w fun e w'=>
   ∃v,e= .returned v∧Grow 51 2 RuleC base [91,94,152] w' v (l++[(x0,xc)])∧Rd w' b E (r.add p (Zai (fun i=>decide ((l.getD i (.empty,[])).1=x0)) l.length) (decide (lim≤(l.length:Int))))∧Kp (Za7 b (.slice ad l.length c)) w w'∧(v.ownBlock=Value.ownBlock (.slice ad l.length c)∨∃q,v.ownBlock=some q∧w.heap.size≤q):=by
 have Gp:∀(fn:Fn) (first cap:Array Value) (w:World),(Instr.makeFunc fn first cap).run prog w= .ok (.func fn first cap) w:=fun _ _ _ _=>rfl;have mRu:∀a b x y,Sub a b→RuleC a x y→RuleC b x y:=fun _ _ _ _ h g=>g.sub h;have HF:=Hd (fun r e W (g:Rd W b E r)=>Zdu b E r p e W g);have HV:Hid (r.add p (Zai (fun i=>decide ((l.getD i (.empty,[])).1=x0)) l.length) (decide (lim≤(l.length:Int)))=(if Zai (fun i=>decide ((l.getD i (.empty,[])).1=x0)) l.length then r.failAt p 9 else if decide (lim≤(l.length:Int))then r.failAt p 6 else r)):=rfl;have HC:Hid (∀W kb xb,Below w.heap.size w W→Cel W kb 187 [.func (.func 148) #[] #[]]→Cel W xb 51 [.string x0,.slice xa xn xk]→Calls prog 198 #[.slice ad l.length c,.func (.func 306) #[] #[.pointer (some ⟨kb,0,none⟩),.pointer (some ⟨xb,0,none⟩)]] W fun e w'=>e= .returned (.bool (Zai (fun i=>decide ((l.getD i (.empty,[])).1=x0)) l.length))∧Below W.heap.size W w'):=by
  intro W kb xb hb Pk Q8;obtain⟨f,Ab,Uo⟩:=hg;obtain⟨bb,L2,_,_,_⟩:=Zli Ab;refine Zqq _ 306 _ (enters_of func306 (by kernel_rfl) rfl) ad l.length c f bb 0 W (L2.below hb) (fun V i hi hV=>?_);obtain⟨e0,e1⟩:=Uo i l[i] (List.getElem?_eq_getElem hi);obtain⟨a1,a2,_,_,_,e1,_⟩:=e1;rw[e0,e1,show(l.getD i (.empty,[])).1=l[i].1 by rw[List.getD_eq_getElem?_getD,List.getElem?_eq_getElem hi];rfl];exact Zaax _ _ _ _ _ _ _ _ kb xb V (Pk.below (hV.mono (by omega))) (Q8.below (hV.mono (by omega)))
 have HR:=Hd h;have HG:=Hd hg;have HX:=Hd hx;have Ii:=h.lt;unfold RdP at HF;clear h hg hx;generalize r.add p (Zai (fun i=>decide ((l.getD i (.empty,[])).1=x0)) l.length) (decide (lim≤(l.length:Int)))=res at *;generalize Zai (fun i=>decide ((l.getD i (.empty,[])).1=x0)) l.length=dup at *
 go_enter func271,ntmps271
 go_upto_region 1 with(fail)
 obtain⟨X,hX⟩:∃X,w.heap.size=X:=⟨_,rfl⟩;have Ch:X≠b:=by omega
 have Ai:Hid (Below w.heap.size w ((w.alloc (.cells #[.string x0,.slice xa xn xk] 51)).alloc (.cells #[.func (.func 148) #[] #[]] 187))):=Bel.alloc (Bel.alloc (Bel.refl w) _) _;have Ep:Hid (Cel ((w.alloc (.cells #[.string x0,.slice xa xn xk] 51)).alloc (.cells #[.func (.func 148) #[] #[]] 187)) X 51 [.string x0,.slice xa xn xk]):=by
  rw[←hX];exact(Cel.new w [.string x0,.slice xa xn xk] 51).below (Bel.alloc (Bel.refl _) _)
 have Gf:Hid (Cel ((w.alloc (.cells #[.string x0,.slice xa xn xk] 51)).alloc (.cells #[.func (.func 148) #[] #[]] 187)) (X+1) 187 [.func (.func 148) #[] #[]]):=by
  have:=Cel.new (w.alloc (.cells #[.string x0,.slice xa xn xk] 51)) [.func (.func 148) #[] #[]] 187
  rwa [show(w.alloc (.cells #[.string x0,.slice xa xn xk] 51)).heap.size=X+1 by rw[←hX];simp]at this
 rw[hX];generalize (w.alloc (.cells #[.string x0,.slice xa xn xk] 51)).alloc (.cells #[.func (.func 148) #[] #[]] 187)=w2 at *;have Gc:=Hd (HC.out w2 _ _ Ai.out Gf.out Ep.out);have Ar:=Hd (HR.out.below Ai.out);have A6:Hid (Kp (Zaf b) w w2):=Za4 Ai.out;clear Gf Ai
 go_wp2_with fail
 refine Gc.out.mono ?_;rintro _ w3 ⟨rfl,Ax⟩;have Aq:=Hd (Ar.out.below Ax);have An:=Hd (A6.out.trans (Za4 Ax));have Bg:=Hd (Ep.out.below Ax);clear Ax Ar A6 Ep Gc;cases dup with
 |true=>
  simp only[if_true]at HV;have Du:=Hd (HF.out r 9 _ Aq.out)
  go_wp2_with fail
  refine Du.out.mono ?_;rintro _ w4 ⟨rfl,B4,A8⟩;have Bk:=Hd B4;have Bh:=Hd (An.out.trans A8);have Cl:=Hd (Bg.out.kp A8 (Za1 Ch));clear B4 A8 Aq An Bg Du;have Dd:=Bk;have Dl:=Bh;have Ca:=Cl;have D1:=Hd ((HG.out.keep mRu (HR.out.kpt Dl.out base (by decide))).keep mRu (KpT.below (Bel.alloc (Bel.refl w4) (.cells #[.string x0,.slice xa xn xk] 51)) base _));have Do:=Hd (CondAt.kpt (CondAt.kpt HX.out (HR.out.kpt Dl.out base (by decide))) (KpT.below (Bel.alloc (Bel.refl w4) (.cells #[.string x0,.slice xa xn xk] 51)) base _));have Cr:=Hd (Dd.out.below (Bel.alloc (Bel.refl w4) (.cells #[.string x0,.slice xa xn xk] 51)));have By:=Hd (Dl.out.alloc (.cells #[.string x0,.slice xa xn xk] 51));have Bt:=Hd (Zd6 w4 #[.string x0,.slice xa xn xk] 51 2 rfl);have De:base≤(World.alloc w4 (.cells #[.string x0,.slice xa xn xk] 51)).heap.size:=le_trans Bn By.out.size;obtain⟨f0,Aj,Ck⟩:=D1.out;have Ad:=Hd Aj;have C2:=Hd Ck;have q0:=Ca.out.cell 0;have q1:=Ca.out.cell 1;simp only[Le0,Le1]at q0 q1;have Ik:=Ca.out.lt;clear Aj Ck HG HC HF D1
  go_wp2_with (at_builtin;go_must (refine Zg8 rfl (.tmp 28) (.tmp 30) rfl underlying38 Ztw rfl (by omega) base ad l.length c (Zar 2 f0 l.length) rfl Ad.out (some ⟨w4.heap.size,0,none⟩) 1 1 (fun _ j=>(#[.string x0,.slice xa xn xk]:Array Value).getD j undef) w4.heap.size 0 rfl Bt.out (fun h=>by cases h) (fun i j _ hj=>by rcases(by omega:j=0∨j=1)with e|e <;> subst e <;> rfl) (by unfold maxLen;omega) (by omega) De ?_);intro ad3 k3 w8 Ae A5 K4;have G9:=Hd K4;have Ce:=Hd Ae;have Bm:=Hd A5;clear Ae A5 K4)
  go_ret;have Bd:=fun k hk=>And.intro (World.ownsRow.lt Ad.out k hk).1 (Zej Ad.out hk);have Gg:Kp (Za7 b (.slice ad l.length c)) w w8:=(By.out.le (fun k _ hk=>by unfold Za7;rw[show decide (k=b)=true from hk];rfl)).grown Bm.out (fun k hk=>by
   right
   unfold Za7;rw[decide_eq_true hk,Bool.or_true])
  have Eh:Kp (fun k=>decide (base≤k)) (World.alloc w4 (.cells #[.string x0,.slice xa xn xk] 51)) w8:=(Kp.refl _ _).grown Bm.out (fun k hk=> .inr (decide_eq_true (Bd k hk).1));exact⟨_,rfl,Grow.snoc C2.out mRu (Zbq Bm.out Ad.out _ (by decide)) _ Ce.out (x:=(x0,xc)) ⟨rfl,Do.out⟩,by rw[HV.out];exact Cr.out.kp Eh (fun i hi=>decide_eq_false (by omega)),Gg,G9.out.imp id fun⟨q,h1,h2⟩=>⟨q,h1,le_trans By.out.size h2⟩⟩
 |false=>
  simp only[Bool.false_eq_true,if_false]at HV
  by_cases B5:lim≤(l.length:Int)
  ·have Da:decide (lim≤(l.length:Int))=true:=decide_eq_true B5;rw[Da,if_pos rfl]at HV;have G0:=Hd (HF.out r 6 _ Aq.out)
   go_wp2_with fail
   refine G0.out.mono ?_;rintro _ w5 ⟨rfl,Bw,A9⟩;have Dd:=Hd Bw;have Dl:=Hd (An.out.trans A9);have Ca:=Hd (Bg.out.kp A9 (Za1 Ch));clear Bw A9;have D1:=Hd ((HG.out.keep mRu (HR.out.kpt Dl.out base (by decide))).keep mRu (KpT.below (Bel.alloc (Bel.refl w5) (.cells #[.string x0,.slice xa xn xk] 51)) base _));have Do:=Hd (CondAt.kpt (CondAt.kpt HX.out (HR.out.kpt Dl.out base (by decide))) (KpT.below (Bel.alloc (Bel.refl w5) (.cells #[.string x0,.slice xa xn xk] 51)) base _));have Cr:=Hd (Dd.out.below (Bel.alloc (Bel.refl w5) (.cells #[.string x0,.slice xa xn xk] 51)));have By:=Hd (Dl.out.alloc (.cells #[.string x0,.slice xa xn xk] 51));have Bt:=Hd (Zd6 w5 #[.string x0,.slice xa xn xk] 51 2 rfl);have De:base≤(World.alloc w5 (.cells #[.string x0,.slice xa xn xk] 51)).heap.size:=le_trans Bn By.out.size;obtain⟨f0,Aj,Ck⟩:=D1.out;have Ad:=Hd Aj;have C2:=Hd Ck;have q0:=Ca.out.cell 0;have q1:=Ca.out.cell 1;simp only[Le0,Le1]at q0 q1;have Ik:=Ca.out.lt;clear Aj Ck HG HC HF D1
   go_wp2_with (at_builtin;go_must (refine Zg8 rfl (.tmp 28) (.tmp 30) rfl underlying38 Ztw rfl (by omega) base ad l.length c (Zar 2 f0 l.length) rfl Ad.out (some ⟨w5.heap.size,0,none⟩) 1 1 (fun _ j=>(#[.string x0,.slice xa xn xk]:Array Value).getD j undef) w5.heap.size 0 rfl Bt.out (fun h=>by cases h) (fun i j _ hj=>by rcases(by omega:j=0∨j=1)with e|e <;> subst e <;> rfl) (by unfold maxLen;omega) (by omega) De ?_);intro ad3 k3 w8 Ae A5 K4;have G9:=Hd K4;have Ce:=Hd Ae;have Bm:=Hd A5;clear Ae A5 K4)
   go_ret;have Bd:=fun k hk=>And.intro (World.ownsRow.lt Ad.out k hk).1 (Zej Ad.out hk);have Gg:Kp (Za7 b (.slice ad l.length c)) w w8:=(By.out.le (fun k _ hk=>by unfold Za7;rw[show decide (k=b)=true from hk];rfl)).grown Bm.out (fun k hk=>by
    right
    unfold Za7;rw[decide_eq_true hk,Bool.or_true])
   have Eh:Kp (fun k=>decide (base≤k)) (World.alloc w5 (.cells #[.string x0,.slice xa xn xk] 51)) w8:=(Kp.refl _ _).grown Bm.out (fun k hk=> .inr (decide_eq_true (Bd k hk).1));exact⟨_,rfl,Grow.snoc C2.out mRu (Zbq Bm.out Ad.out _ (by decide)) _ Ce.out (x:=(x0,xc)) ⟨rfl,Do.out⟩,by rw[HV.out];exact Cr.out.kp Eh (fun i hi=>decide_eq_false (by omega)),Gg,G9.out.imp id fun⟨q,h1,h2⟩=>⟨q,h1,le_trans By.out.size h2⟩⟩
  ·have Da:decide (lim≤(l.length:Int))=false:=decide_eq_false B5;rw[Da,if_neg (by simp)]at HV;have Dd:=Hd Aq.out;have Dl:=Hd An.out;have Ca:=Hd Bg.out;have D1:=Hd ((HG.out.keep mRu (HR.out.kpt Dl.out base (by decide))).keep mRu (KpT.below (Bel.alloc (Bel.refl w3) (.cells #[.string x0,.slice xa xn xk] 51)) base _));have Do:=Hd (CondAt.kpt (CondAt.kpt HX.out (HR.out.kpt Dl.out base (by decide))) (KpT.below (Bel.alloc (Bel.refl w3) (.cells #[.string x0,.slice xa xn xk] 51)) base _));have Cr:=Hd (Dd.out.below (Bel.alloc (Bel.refl w3) (.cells #[.string x0,.slice xa xn xk] 51)));have By:=Hd (Dl.out.alloc (.cells #[.string x0,.slice xa xn xk] 51));have Bt:=Hd (Zd6 w3 #[.string x0,.slice xa xn xk] 51 2 rfl);have De:base≤(World.alloc w3 (.cells #[.string x0,.slice xa xn xk] 51)).heap.size:=le_trans Bn By.out.size;obtain⟨f0,Aj,Ck⟩:=D1.out;have Ad:=Hd Aj;have C2:=Hd Ck;have q0:=Ca.out.cell 0;have q1:=Ca.out.cell 1;simp only[Le0,Le1]at q0 q1;have Ik:=Ca.out.lt;clear Aj Ck HG HC HF D1
   go_wp2_with (at_builtin;go_must (refine Zg8 rfl (.tmp 28) (.tmp 30) rfl underlying38 Ztw rfl (by omega) base ad l.length c (Zar 2 f0 l.length) rfl Ad.out (some ⟨w3.heap.size,0,none⟩) 1 1 (fun _ j=>(#[.string x0,.slice xa xn xk]:Array Value).getD j undef) w3.heap.size 0 rfl Bt.out (fun h=>by cases h) (fun i j _ hj=>by rcases(by omega:j=0∨j=1)with e|e <;> subst e <;> rfl) (by unfold maxLen;omega) (by omega) De ?_);intro ad3 k3 w8 Ae A5 K4;have G9:=Hd K4;have Ce:=Hd Ae;have Bm:=Hd A5;clear Ae A5 K4)
   go_ret;have Bd:=fun k hk=>And.intro (World.ownsRow.lt Ad.out k hk).1 (Zej Ad.out hk);have Gg:Kp (Za7 b (.slice ad l.length c)) w w8:=(By.out.le (fun k _ hk=>by unfold Za7;rw[show decide (k=b)=true from hk];rfl)).grown Bm.out (fun k hk=>by
    right
    unfold Za7;rw[decide_eq_true hk,Bool.or_true])
   have Eh:Kp (fun k=>decide (base≤k)) (World.alloc w3 (.cells #[.string x0,.slice xa xn xk] 51)) w8:=(Kp.refl _ _).grown Bm.out (fun k hk=> .inr (decide_eq_true (Bd k hk).1));exact⟨_,rfl,Grow.snoc C2.out mRu (Zbq Bm.out Ad.out _ (by decide)) _ Ce.out (x:=(x0,xc)) ⟨rfl,Do.out⟩,by rw[HV.out];exact Cr.out.kp Eh (fun i hi=>decide_eq_false (by omega)),Gg,G9.out.imp id fun⟨q,h1,h2⟩=>⟨q,h1,le_trans By.out.size h2⟩⟩
end Go.Proofs.YtmleeodfmmpdgaaGreatDoor
