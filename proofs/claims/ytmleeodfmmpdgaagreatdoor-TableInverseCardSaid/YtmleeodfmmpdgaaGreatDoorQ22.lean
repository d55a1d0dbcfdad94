/- part -/
import Derived.Test.YtmleeodfmmpdgaaGreatDoorQ21
set_option maxRecDepth 20000
set_option maxHeartbeats 4000000
namespace Go.Proofs.YtmleeodfmmpdgaaGreatDoor
open Go.RowKit
attribute [local go_sem] Ext.cell Ext.frozen
attribute [local go_sem ↓] Go.wp_at_zero Go.wp_at_succ
open _root_.List (length_append length_singleton)
open _root_.Nat (le_refl le_trans lt_or_ge)
open _root_.Go.Proofs.Tryz
theorem Zr9 (b:Nat)(S:ByteArray)(p:CP)(hrel:p.rel<200000)(w:World)(h:Pq w b S p)(hM:MaxLen w):Calls prog 333 #[.pointer (some ⟨b,0,none⟩)] w (RelP b S (CP.relation S.data.toList p).1.op (CP.relation S.data.toList p).1.md (CP.relation S.data.toList p).1.neg ((CP.relation S.data.toList p).1.sp,(CP.relation S.data.toList p).2) w):=by
 have gP:=Hd (fun W (g:Pq W b S p)=>Zj3 b S p W g);have HF:=Hd (fun W (g:Pq W b S (p.skip S.data.toList))=>Zgg b S 3 _ W g);have Fm:=Hd (fun t W (g:MaxLen W)=>Zaaa t W g);have Bb:Hid (∀(tk:List UInt8) (op:Int) q,q.rel<200000→∀W n0 O (u1 u5 u6 u7 u8 u9 u10 u11 u12 u13 u14 u15 u16 u17 u18 u19 u20 u21 u22 u23 u24 u25 u26 u27 u28 u29 u30 u31 u32 u33 u34 u35 u36 u37 u38 u39 u40 u41 u42 u43 u44 u45 u46 u47 u48 u49 u50 u51 u52 u53 u54 u55 u56 u57 u58 u59 u60 u61 u62 u63 u64 u65 u66 u67 u68 u69 u70 u71 u72:Value),CP.relation S.data.toList p=(let m:=CP.next S.data.toList [37] (CP.take S.data.toList [bs tk] q.lim).2
   let a:=if m.1 then CP.number S.data.toList (Zfh op) m.2 else(0,m.2)
   let t:=CP.take S.data.toList [bs [61],bs [33,61]] a.2
   let l:=CP.spans S.data.toList op 6 [] t.2
   ((⟨op,a.1,decide (t.1=[33,61]),l.1⟩:Rel),l.2))→Pq W b S q→Cel W O 3 [.int .i64 op]→Cel W n0 94 [.int .i64 0,.int .i64 0,.bool false,.slice none 0 0]→O≠b→n0≠b→w.heap.size≤O→w.heap.size≤n0→Kp (Zaf b) w W→(Zka 5).wp prog (bodyPost prog Tryz.f333 (RelP b S op (CP.relation S.data.toList p).1.md (CP.relation S.data.toList p).1.neg ((CP.relation S.data.toList p).1.sp,(CP.relation S.data.toList p).2) w)) ⟨#[.pointer (some ⟨b,0,none⟩),u1,.pointer (some ⟨n0,0,none⟩),.string (bs tk),.pointer (some ⟨O,0,none⟩),u5,u6,u7,u8,u9,u10,u11,u12,u13,u14,u15,u16,u17,u18,u19,u20,u21,u22,u23,u24,u25,u26,u27,u28,u29,u30,u31,u32,u33,u34,u35,u36,u37,u38,u39,u40,u41,u42,u43,u44,u45,u46,u47,u48,u49,u50,u51,u52,u53,u54,u55,u56,u57,u58,u59,u60,u61,u62,u63,u64,u65,u66,u67,u68,u69,u70,u71,u72],[]⟩ W):=
  fun tk op q hq W n0 O u1 u5 u6 u7 u8 u9 u10 u11 u12 u13 u14 u15 u16 u17 u18 u19 u20 u21 u22 u23 u24 u25 u26 u27 u28 u29 u30 u31 u32 u33 u34 u35 u36 u37 u38 u39 u40 u41 u42 u43 u44 u45 u46 u47 u48 u49 u50 u51 u52 u53 u54 u55 u56 u57 u58 u59 u60 u61 u62 u63 u64 u65 u66 u67 u68 u69 u70 u71 u72 Cq g gO gR F3 Fg Ya Lx hk=>Zalp b S op tk q hq w W n0 O u1 u5 u6 u7 u8 u9 u10 u11 u12 u13 u14 u15 u16 u17 u18 u19 u20 u21 u22 u23 u24 u25 u26 u27 u28 u29 u30 u31 u32 u33 u34 u35 u36 u37 u38 u39 u40 u41 u42 u43 u44 u45 u46 u47 u48 u49 u50 u51 u52 u53 u54 u55 u56 u57 u58 u59 u60 u61 u62 u63 u64 u65 u66 u67 u68 u69 u70 u71 u72 g gO gR F3 Fg Ya Lx hk _ Cq.symm
 have HV:Hid (CP.relation S.data.toList p=(let m:=CP.next S.data.toList [37] (CP.take S.data.toList [bs (Zag S.data.toList p.pos)] (CP.lim (if decide ((Zag S.data.toList p.pos).length=1)&& !decide (Lib.index Zbh (Zag S.data.toList p.pos)<1)then p.skip S.data.toList else(p.skip S.data.toList).fail 3))).2
   let a:=if m.1 then CP.number S.data.toList (Zfh (Lib.index Zbh (Zag S.data.toList p.pos))) m.2 else(0,m.2)
   let t:=CP.take S.data.toList [bs [61],bs [33,61]] a.2
   let l:=CP.spans S.data.toList (Lib.index Zbh (Zag S.data.toList p.pos)) 6 [] t.2
   ((⟨Lib.index Zbh (Zag S.data.toList p.pos),a.1,decide (t.1=[33,61]),l.1⟩:Rel),l.2))):=rfl
 have cZ:Hid ((CP.relation S.data.toList p).1.op=Lib.index Zbh (Zag S.data.toList p.pos)):=rfl;have Wn:Hid (((p.skip S.data.toList).fail 3).rel<200000):=by
  unfold CP.fail;split <;> exact hrel
 have rS:Hid ((p.skip S.data.toList).rel<200000):=hrel;unfold PqP at gP HF;have HP:=Hd h;have HM:=Hd hM;have Nh:=h.lt;clear h hM hrel;generalize CP.relation S.data.toList p=res at *;have Am:=Za5 (Zag S.data.toList p.pos);generalize Zag S.data.toList p.pos=tk at *;have Fm:=Hd (Fm.out (bs tk));rw[Zcz]at Fm;generalize Lib.index Zbh tk=op at *;generalize p.skip S.data.toList=q at *;obtain⟨n0,E6⟩:∃n0,w.heap.size=n0:=⟨_,rfl⟩;have M8:=Hd (HP.out.below (Bel.alloc (Bel.refl w) (.cells #[.int .i64 0,.int .i64 0,.bool false,.slice none 0 0] 94)));have Br:=Hd (Cel.new w [.int .i64 0,.int .i64 0,.bool false,.slice none 0 0] 94);have Bp:=Hd ((Kp.refl (Zaf b) w).alloc (.cells #[.int .i64 0,.int .i64 0,.bool false,.slice none 0 0] 94));have HN:=Hd E6;rw[E6]at Nh Br;have Fg:n0≠b:=by omega
 rw[cZ.out]
 go_enter func333,ntmps333
 go_wp2_with fail
 refine(gP.out _ M8.out).mono ?_;rintro _ w1 ⟨rfl,Av,At⟩;have G8:=Hd Av;have As:=Hd (Br.out.kp At (Za1 Fg));have Bf:=Hd (Bp.out.trans At);have Wo:=Hd (HM.out.kp HP.out Bf.out);clear Av At M8 Br Bp gP HM HP
 go_wp2_with fail
 refine(Fm.out _ Wo.out).mono ?_;rintro _ _ ⟨rfl,rfl⟩;have rT:n0<w1.heap.size:=As.out.lt;have Ak:b<w1.heap.size:=G8.out.lt;obtain⟨O,hO⟩:∃O,w1.heap.size=O:=⟨_,rfl⟩;have Kz:=Hd (G8.out.below (Bel.alloc (Bel.refl w1) (.cells #[.int .i64 op] 3)));have Ar:=Hd (As.out.below (Bel.alloc (Bel.refl w1) (.cells #[.int .i64 op] 3)));have F4:=Hd (Cel.new w1 [.int .i64 op] 3);have A6:=Hd (Bf.out.alloc (.cells #[.int .i64 op] 3));have Ji:Hid (w1.heap.size≤(w1.alloc (.cells #[.int .i64 op] 3)).heap.size):=by simp[Hid]
 rw[hO]at F4 rT Ak Ji;have F3:O≠b:=by omega
 have Ya:w.heap.size≤O:=by rw[←hO];exact Bf.out.size
 have Lx:w.heap.size≤n0:=by omega
 clear Fm Wo
 go_upto_region 3 with(fail)
 rename_i K9 Ni K8 Eg;have Ev:=Hd Ni;have Cw:=Hd Eg;clear Eg Ni;have vY:O<(w1.alloc (.cells #[.int .i64 op] 3)).heap.size:=F4.out.lt;have o0:=F4.out.cell 0;simp only[Le0]at o0;clear G8 As Bf;generalize w1.alloc (.cells #[.int .i64 op] 3)=w2 at *
 by_cases h1:tk.length=1
 ·rw[h1]at Am;simp only[h1,decide_true,Bool.true_and]at HV
  by_cases h2:op<1
  ·have Tu:decide (op<1)=true:=decide_eq_true h2;simp only[Tu,Bool.not_true,Bool.false_eq_true,if_false]at HV
   go_wp2_with fail
   refine Cw.out _ _ ?_
   go_wp2_with fail
   refine(HF.out _ Kz.out).mono ?_;rintro _ w3 ⟨rfl,Av,At⟩;have Ce:=Hd (F4.out.kp At (Za1 F3));have Aq:=Hd (Ar.out.kp At (Za1 Fg));have An:=Hd (A6.out.trans At);have G9:=Hd Av;clear Av At
   go_wp2_with fail
   refine Ev.out _ _ ?_;exact Bb.out tk op (q.fail 3) Wn.out _ n0 O _ _ _ _ _ _ _ _ _ _ _ _ _ _ _ _ _ _ _ _ _ _ _ _ _ _ _ _ _ _ _ _ _ _ _ _ _ _ _ _ _ _ _ _ _ _ _ _ _ _ _ _ _ _ _ _ _ _ _ _ _ _ _ _ _ _ _ _ _ HV.out G9.out Ce.out Aq.out F3 Fg Ya Lx An.out
  ·have Tu:decide (op<1)=false:=decide_eq_false h2;simp only[Tu,Bool.not_false,if_true]at HV
   go_wp2_with fail
   refine Cw.out _ _ ?_
   go_wp2_with fail
   refine Ev.out _ _ ?_;exact Bb.out tk op q rS.out _ n0 O _ _ _ _ _ _ _ _ _ _ _ _ _ _ _ _ _ _ _ _ _ _ _ _ _ _ _ _ _ _ _ _ _ _ _ _ _ _ _ _ _ _ _ _ _ _ _ _ _ _ _ _ _ _ _ _ _ _ _ _ _ _ _ _ _ _ _ _ _ HV.out Kz.out F4.out Ar.out F3 Fg Ya Lx A6.out
 ·have Ba:((tk.length:Int)==1)=false:=by simp;omega
  have A7:((tk.length:Int) !=1)=true:=by rw[bne,Ba];rfl
  simp only[h1,decide_false,Bool.false_and,Bool.false_eq_true,if_false]at HV
  go_wp2_with fail
  refine Cw.out _ _ ?_
  go_wp2_with fail
  refine(HF.out _ Kz.out).mono ?_;rintro _ w3 ⟨rfl,Av,At⟩;have Ce:=Hd (F4.out.kp At (Za1 F3));have Aq:=Hd (Ar.out.kp At (Za1 Fg));have An:=Hd (A6.out.trans At);have G9:=Hd Av;clear Av At
  go_wp2_with fail
  refine Ev.out _ _ ?_;exact Bb.out tk op (q.fail 3) Wn.out _ n0 O _ _ _ _ _ _ _ _ _ _ _ _ _ _ _ _ _ _ _ _ _ _ _ _ _ _ _ _ _ _ _ _ _ _ _ _ _ _ _ _ _ _ _ _ _ _ _ _ _ _ _ _ _ _ _ _ _ _ _ _ _ _ _ _ _ _ _ _ _ HV.out G9.out Ce.out Aq.out F3 Fg Ya Lx An.out
def Zcg (w:World)(k:Nat):Option TypeId:=
 match w.heap[k]? with
 |some (.cells _ T _)=>some T
 |_=>none
def Zlx (base:Nat)(ts:List TypeId)(w:World)(k:Nat):Bool:=decide (k<base)|| !((Zcg w k).elim false fun T=>ts.contains T)
def see (base:Nat)(ts:List TypeId)(w:World):World:=Zks (Zlx base ts w) w
theorem Zvg {base:Nat} {ts:List TypeId} {w:World} {k:Nat} (h:Zlx base ts w k=false):base≤k∧∃T,Zcg w k=some T∧T∈ts:=by
 unfold Zlx at h;rw[Bool.or_eq_false_iff,decide_eq_false_iff_not,Bool.not_eq_false']at h;refine⟨by omega,?_⟩;cases ht:Zcg w k with
 |none=>rw[ht]at h;exact absurd h.2 (by simp)
 |some T=>rw[ht]at h;exact⟨T,rfl,by simpa using h.2⟩
theorem Zp5 {base:Nat} {ts:List TypeId} {w:World} {k:Nat} {T:TypeId} (h1:base≤k)(h2:Zcg w k=some T)(h3:T∈ts):Zlx base ts w k=false:=by
 unfold Zlx;rw[Bool.or_eq_false_iff,decide_eq_false_iff_not,Bool.not_eq_false',h2];exact⟨by omega,by simpa using h3⟩
theorem Zk5 {w:World} {b:Nat} {T:TypeId} {cs:List Value} (h:Cel w b T cs):Zcg w b=some T:=by
 unfold Cel at h;simp[Zcg,h]
theorem Zpr {w w':World} {k:Nat} (h:w'.heap[k]? =w.heap[k]?):Zcg w' k=Zcg w k:=by
 unfold Zcg;rw[h]
def KpT (base:Nat)(ts:List TypeId)(w w':World):Prop:=∀k,base≤k→k<w.heap.size→∀T,Zcg w k=some T→T∈ts→w'.heap[k]? =w.heap[k]?
theorem KpT.refl (base:Nat)(ts:List TypeId)(w:World):KpT base ts w w:=fun _ _ _ _ _ _=>rfl
theorem KpT.le {base base':Nat} {ts ts':List TypeId} {w w':World} (h:KpT base ts w w')(hb:base≤base')(ht:∀T,T∈ts'→T∈ts):KpT base' ts' w w':=
 fun k h1 h2 T h3 h4=>h k (by omega) h2 T h3 (ht T h4)
theorem Zhp {w:World} {k:Nat} {T:TypeId} (h:Zcg w k=some T):k<w.heap.size:=by
 rcases lt_or_ge k w.heap.size with g|g
 ·exact g
 ·rw[Zcg,Array.getElem?_eq_none g]at h;cases h
theorem KpT.trans {base:Nat} {ts:List TypeId} {a b c:World} (h:KpT base ts a b)(k:KpT base ts b c):KpT base ts a c:=fun i h1 h2 T h3 h4=>by
 have e:=h i h1 h2 T h3 h4;have t:Zcg b i=some T:=(Zpr e).trans h3;exact(k i h1 (Zhp t) T t h4).trans e
theorem Kp.kpt {P:Nat→Bool} {w w':World} (h:Kp P w w') {base:Nat} {ts:List TypeId} (hP:∀k T,base≤k→P k=true→Zcg w k=some T→T∉ts):KpT base ts w w':=fun k h1 h2 T h3 h4=>
 h.block k h2 (by
  cases hp:P k with
  |false=>rfl
  |true=>exact absurd h4 (hP k T h1 hp h3))
theorem Kp.kptO {b:Nat} {w w':World} (h:Kp (Zaf b) w w') {T:TypeId} {cs:List Value} (hc:Cel w b T cs) {base:Nat} {ts:List TypeId} (hT:T∉ts):KpT base ts w w':=
 h.kpt fun k U _ hk ht=>by
  have:k=b:=of_decide_eq_true hk;subst this;rw[Zk5 hc]at ht;injection ht with ht
  rwa [←ht]
theorem KpT.below {w w':World} (h:Below w.heap.size w w')(base:Nat)(ts:List TypeId):KpT base ts w w':=fun k _ h2 _ _ _=>h.block k h2
theorem Zej {w:World} {base sz:Nat} {E:TypeId} {v:Value} {n:Nat} {xs:List Value} (h:w.ownsRow base E sz v n xs) {k:Nat} (hk:v.ownBlock=some k):Zcg w k=some E:=by
 rcases h.2 with⟨h2,_⟩|⟨g,cap,cur,h1,h2,h3,h4⟩
 ·rw[h2]at hk;cases hk
 ·rw[h1]at hk;injection hk with hk;have hk:g=k:=hk;subst hk;simp[Zcg,h3]
theorem Zbq {w w':World} {v:Value} (hg:w.grownBy w' v.ownBlock) {base sz:Nat} {E:TypeId} {n:Nat} {xs:List Value} (h:w.ownsRow base E sz v n xs)(base':Nat) {ts:List TypeId} (hE:E∉ts):KpT base' ts w w':=fun k _ h2 T h3 h4=>
 hg.block k h2 (fun e=>by
  have:=Zej h e.symm;rw[h3]at this;injection this with this;exact hE (this▸h4))
theorem KpT.grown {base:Nat} {ts:List TypeId} {a w w':World} (h:KpT base ts a w) {row:Option Nat} (hg:w.grownBy w' row)(hr:∀k,row=some k→a.heap.size≤k):KpT base ts a w':=fun k h1 h2 T h3 h4=>by
 have e:=h k h1 h2 T h3 h4;exact(hg.block k (Zhp ((Zpr e).trans h3)) (fun g=>by have:=hr k g.symm;omega)).trans e
theorem Zf8 {base:Nat} {ts:List TypeId} {w w':World} (h:KpT base ts w w'):Sub (see base ts w) (see base ts w'):=fun p v hv=>by
 obtain⟨h1,h2⟩:=Zly hv;obtain⟨hb,T,ht,hm⟩:=Zvg h1;have e:=h _ hb (Zhp ht) T ht hm;have hn:=Zp5 (w:=w') hb ((Zpr e).trans ht) hm;show(Zks (Zlx base ts w') w').cell? p=some v;rw[World.cell?_of_block (Zkz hn),World.cell?_of_block e];exact h2
theorem Zcr {base base':Nat} {ts ts':List TypeId} (w:World)(hb:base'≤base)(ht:∀T,T∈ts→T∈ts'):Sub (see base ts w) (see base' ts' w):=fun p v hv=>by
 obtain⟨h1,h2⟩:=Zly hv;obtain⟨Cf,T,h3,hm⟩:=Zvg h1;have hn:=Zp5 (base:=base') (ts:=ts') (w:=w) (by omega) h3 (ht T hm);show(Zks (Zlx base' ts' w) w).cell? p=some v;rw[World.cell?_of_block (Zkz hn)];exact h2
theorem Zgw (base:Nat)(ts:List TypeId)(w:World):Sub (see base ts w) w:=Zack _ _
theorem Zagb {w:World} {base sz:Nat} {E:TypeId} {v:Value} {n:Nat} {xs:List Value} (h:w.ownsRow base E sz v n xs) {ts:List TypeId} (hE:E∈ts):(see base ts w).ownsRow base E sz v n xs:=by
 refine⟨h.1,?_⟩;rcases h.2 with h2|⟨g,cap,cur,h1,h2,h3,h4⟩
 ·exact .inl h2
 ·refine .inr ⟨g,cap,cur,h1,h2,?_,h4⟩;have ht:Zcg w g=some E:=by simp[Zcg,h3]
  show(Zks (Zlx base ts w) w).heap[g]? =_;rw[Zkz (Zp5 h2 ht hE)];exact h3
theorem Zafk {w w':World} {base sz:Nat} {E:TypeId} {v:Value} {n:Nat} {xs:List Value} (h:w.ownsRow base E sz v n xs) {ts:List TypeId} (hE:E∈ts)(k:KpT base ts w w'):w'.ownsRow base E sz v n xs:=by
 refine⟨h.1,?_⟩;rcases h.2 with h2|⟨g,cap,cur,h1,h2,h3,h4⟩
 ·exact .inl h2
 ·have ht:Zcg w g=some E:=by simp[Zcg,h3]
  exact .inr ⟨g,cap,cur,h1,h2,(k g h2 (Zhp ht) E ht hE).trans h3,h4⟩
section
variable {α : Type} {E : TypeId} {k : Nat} {C : World → (Nat → Value) → α → Prop} {base : Nat} {ts : List TypeId} {w w' : World} {v v' : Value} {l : List α}
def Grow (E:TypeId)(k:Nat)(C:World→(Nat→Value)→α→Prop)(base:Nat)(ts:List TypeId)(w:World)(v:Value)(l:List α):Prop:=
 ∃f:Nat→Nat→Value,w.ownsRow base E k v l.length (Zar k f l.length)∧∀i x,l[i]? =some x→C (see base ts w) (f i) x
theorem Grow.nil (E:TypeId)(k:Nat)(C:World→(Nat→Value)→α→Prop)(base:Nat)(ts:List TypeId)(w:World):Grow E k C base ts w (.slice none 0 0) []:=
 ⟨fun _ _=>undef,⟨by simp[Zar],.inl ⟨rfl,rfl⟩⟩,fun i x h=>by simp at h⟩
theorem Grow.shape (h:Grow E k C base ts w v l):∃ad c,v= .slice ad l.length c:=by
 obtain⟨f,h,_⟩:=h;exact Zgc h
theorem Grow.keep (h:Grow E k C base ts w v l)(hC:∀a b x y,Sub a b→C a x y→C b x y)(hk:KpT base (E::ts) w w'):Grow E k C base ts w' v l:=by
 obtain⟨f,h1,h2⟩:=h;exact⟨f,Zafk h1 List.mem_cons_self hk,fun i x hx=>hC _ _ _ _ (Zf8 (hk.le (le_refl _) fun T hT=>List.mem_cons_of_mem _ hT)) (h2 i x hx)⟩
theorem Grow.rows (h:Grow E k C base ts w v l)(hC:∀a b x y,Sub a b→C a x y→C b x y)(hl:l.length≤140737488351232):RowsOf k C (see base (E::ts) w) v l:=by
 obtain⟨f,h1,h2⟩:=h;obtain⟨ad,c,rfl⟩:=Zgc h1;obtain⟨b,g1,g2,g3,_⟩:=Zli (Zagb h1 (ts:=E::ts) List.mem_cons_self);exact⟨ad,c,f,b,0,rfl,g1,g2,g3,hl,fun i x hx=>hC _ _ _ _ (Zcr w (le_refl _) fun T hT=>List.mem_cons_of_mem _ hT) (h2 i x hx)⟩
theorem Grow.snoc {f:Nat→Nat→Value} (h:∀i x,l[i]? =some x→C (see base ts w) (f i) x)(hC:∀a b x y,Sub a b→C a x y→C b x y)(hs:KpT base ts w w')(g:Nat→Nat→Value)
  (ho:w'.ownsRow base E k v' (l.length+1) (Zar k f l.length++Zar k g 1)) {x:α} (hx:C (see base ts w) (g 0) x):Grow E k C base ts w' v' (l++[x]):=by
 have Ah:(l++[x]).length=l.length+1:=by simp
 refine⟨fun i j=>if i<l.length then f i j else g (i - l.length) j,?_,fun i y hy=>?_⟩
 ·rw[Ah,←Zv4];exact ho
 ·rcases lt_or_ge i l.length with hi|hi
  ·rw[List.getElem?_append_left hi]at hy;have:=hC _ _ _ _ (Zf8 hs) (h i y hy)
   simpa only[hi,if_true]using this
  ·rw[List.getElem?_append_right hi]at hy;obtain e0:i - l.length=0:=by
    rcases Nat.eq_zero_or_pos (i - l.length)with e|e
    ·exact e
    ·rw[List.getElem?_eq_none (by simp;omega)]at hy;cases hy
   rw[e0]at hy;simp only[Le0,Option.some.injEq]at hy;subst hy;have:=hC _ _ _ _ (Zf8 hs) hx
   simpa only[Nat.not_lt.2 hi,if_false,e0]using this
end
theorem CP.fail_rel (e:Int)(p:CP):(p.fail e).rel=p.rel:=by unfold CP.fail;split <;> rfl
theorem CP.take_rel (s:List UInt8)(l:List ByteArray)(p:CP):(p.take s l).2.rel=p.rel:=by
 have key:∀q:CP,q.rel=p.rel→(if q.err=0 then(Zag s p.pos,q.adv (Zag s p.pos).length)else([],q)).2.rel=p.rel:=fun q hq=>by
  split <;> exact hq
 refine key (if l.contains (bs (Zag s p.pos))then p.skip s else(p.skip s).fail 3) ?_;split
 ·rfl
 ·rw[CP.fail_rel];rfl
theorem CP.next_rel (s t:List UInt8)(p:CP):(p.next s t).2.rel=p.rel:=by
 unfold CP.next;split
 ·split <;> rfl
 ·rfl
theorem CP.num_rel (s:List UInt8)(chk:Int→Int)(p:CP):(p.number s chk).2.rel=p.rel:=by
 have key:∀q:CP,q.rel=p.rel→(if q.err=0 then(if chk (Zem (Zag s p.pos))=0 then((Zem (Zag s p.pos):Int),q.adv (Zag s p.pos).length)else(0,q.fail (chk (Zem (Zag s p.pos)))))else(0,q)).2.rel=p.rel:=fun q hq=>by
  split
  ·split
   ·exact hq
   ·show(q.fail _).rel=_;rw[CP.fail_rel];exact hq
  ·exact hq
 refine key (if Zg5 (Zag s p.pos)then p.skip s else(p.skip s).fail 3) ?_;split
 ·rfl
 ·rw[CP.fail_rel];rfl
theorem CP.span_rel (s:List UInt8)(op:Int)(count:Nat)(p:CP):(CP.span s op count p).2.rel=p.rel:=by
 unfold CP.span;dsimp only;split
 ·rw[CP.num_rel,CP.next_rel,CP.num_rel]
 ·rw[CP.next_rel,CP.num_rel]
theorem CP.spans_rel (s:List UInt8)(op:Int):∀(n:Nat) (l:List (Int×Int)) (p:CP),(CP.spans s op n l p).2.rel=p.rel
 |0,_,_=>rfl
 |n+1,l,p=>by
  rw[CP.spans];split
  ·split
   ·rw[CP.spans_rel s op n,CP.next_rel,CP.span_rel]
   ·show(CP.next s [44] (CP.span s op l.length p).2).2.rel=p.rel;rw[CP.next_rel,CP.span_rel]
  ·rfl
theorem CP.lim_rel (p:CP):p.lim.rel=p.rel+1:=by
 unfold CP.lim;split
 ·rw[CP.fail_rel]
 ·rfl
theorem CP.head_rel (s:List UInt8)(p:CP):(p.relHead s).rel=p.rel+1:=by
 show(CP.lim _).rel=_;rw[CP.lim_rel];split
 ·rfl
 ·rw[CP.fail_rel];rfl
theorem CP.relation_rel (s:List UInt8)(p:CP):(CP.relation s p).2.rel=p.rel+1:=by
 unfold CP.relation;dsimp only;rw[CP.spans_rel,CP.take_rel];split
 ·rw[CP.num_rel,CP.next_rel,CP.take_rel,CP.head_rel]
 ·rw[CP.next_rel,CP.take_rel,CP.head_rel]
theorem CP.take_bad {s:List UInt8} {l:List ByteArray} {p:CP} (he:p.err≠0):(p.take s l).2.err≠0:=by rw[CP.take_err he];exact he
theorem CP.next_bad {s t:List UInt8} {p:CP} (he:p.err≠0):(p.next s t).2.err≠0:=by rw[CP.next_err he];exact he
theorem CP.head_eq (s:List UInt8)(p:CP):p.relHead s=CP.lim (if decide ((Zag s p.pos).length=1)&& !decide (Lib.index Zbh (Zag s p.pos)<1)then p.skip s else(p.skip s).fail 3):=rfl
theorem CP.lim_bad {p:CP} (h:6<p.rel+1):p.lim.err≠0:=by
 unfold CP.lim;rw[if_pos h];exact CP.fail_e (by decide) _
theorem CP.head_bad {s:List UInt8} {p:CP} (h:6<p.rel+1):(p.relHead s).err≠0:=by
 rw[CP.head_eq];refine CP.lim_bad ?_;split
 ·exact h
 ·rw[CP.fail_rel];exact h
theorem CP.a_bad {s:List UInt8} {chk:Int→Int} {m:Bool×CP} (h:m.2.err≠0):(if m.1 then CP.number s chk m.2 else(0,m.2)).2.err≠0:=by
 split
 ·exact CP.num_grow h
 ·exact h
theorem CP.relation_lim {s:List UInt8} {p:CP} (h:(CP.relation s p).2.err=0):p.rel+1≤6:=by
 rcases lt_or_ge 6 (p.rel+1)with hg|hg
 ·exfalso
  have h0:(p.relHead s).err≠0:=CP.head_bad hg;have h1:=CP.take_bad (s:=s) (l:=[bs (Zag s p.pos)]) h0;have h2:=CP.next_bad (s:=s) (t:=[37]) h1;have h3:=CP.a_bad (s:=s) (chk:=Zfh (Lib.index Zbh (Zag s p.pos))) h2;have h4:=CP.take_bad (s:=s) (l:=[bs [61],bs [33,61]]) h3;unfold CP.relation at h;dsimp only at h;rw[CP.spans_stop (s:=s) (op:=Lib.index Zbh (Zag s p.pos)) (l:=[]) 6 h4]at h;generalize (CP.take s [bs [61],bs [33,61]] _).2=q at h h4;exact h4 h
 ·exact hg
def Zcx:List UInt8:=[97,110,100]
def orB:List UInt8:=[111,114]
def CP.conj (s:List UInt8):Nat→List Rel→CP→List Rel×CP
 |0,l,p=>(l,p)
 |n+1,l,p=>
  if p.err=0 then
   (if(CP.next s Zcx (CP.relation s p).2).1 then CP.conj s n (l++[(CP.relation s p).1]) (CP.next s Zcx (CP.relation s p).2).2
    else(l++[(CP.relation s p).1],(CP.next s Zcx (CP.relation s p).2).2))
  else(l,p)
def CP.disj (s:List UInt8):Nat→List (List Rel)→CP→List (List Rel)×CP
 |0,l,p=>(l,p)
 |n+1,l,p=>
  if p.err=0 then
   (if(CP.next s orB (CP.conj s 8 [] p).2).1 then CP.disj s n (l++[(CP.conj s 8 [] p).1]) (CP.next s orB (CP.conj s 8 [] p).2).2
    else(l++[(CP.conj s 8 [] p).1],(CP.next s orB (CP.conj s 8 [] p).2).2))
  else(l,p)
def Zb3 (s:List UInt8):List (List Rel)×Int×Int:=
 let d:=CP.disj s 8 [] ⟨0,0,0⟩
 let q:=d.2.skip s
 let q2:=if q.pos<s.length then q.fail 3 else q
 if q2.err=0 then(d.1,0,0)else([],(q2.pos:Int),q2.err)
theorem CP.conj_stop {s:List UInt8} {l:List Rel} {p:CP} (n:Nat)(he:p.err≠0):CP.conj s n l p=(l,p):=by
 cases n with
 |zero=>rfl
 |succ n=>rw[CP.conj,if_neg he]
theorem CP.disj_stop {s:List UInt8} {l:List (List Rel)} {p:CP} (n:Nat)(he:p.err≠0):CP.disj s n l p=(l,p):=by
 cases n with
 |zero=>rfl
 |succ n=>rw[CP.disj,if_neg he]
theorem Zacd (l:List (Int×Int)):spV l=Zar 2 (fun i j=>if j=0 then .int .i64 (l.getD i (0,0)).1 else .int .i64 (l.getD i (0,0)).2) l.length:=by
 have hr:l=(List.range l.length).map fun i=>l.getD i (0,0):=by
  apply List.ext_getElem
  ·simp
  ·intro i h1 h2;simp[List.getD_eq_getElem?_getD,List.getElem?_eq_getElem h1]
 have:spV l=spV ((List.range l.length).map fun i=>l.getD i (0,0)):=congrArg spV hr;rw[this];unfold spV Zar;rw[List.flatMap_map];rfl
theorem RelP.rel {b:Nat} {S:ByteArray} {op md:Int} {neg:Bool} {res:List (Int×Int)×CP} {w0 w':World} {e:Ending} (h:RelP b S op md neg res w0 e w')(hl:res.1.length≤1000):
  ∃ad c,e= .returned (.agg #[.int .i64 op,.int .i64 md,.bool neg,.slice ad res.1.length c])∧RelC (see w0.heap.size [152] w') (fun j=>(#[.int .i64 op,.int .i64 md,.bool neg,.slice ad res.1.length c]:Array Value).getD j undef) ⟨op,md,neg,res.1⟩∧Pq w' b S res.2∧Kp (Zaf b) w0 w':=by
 obtain⟨ad,c,rfl,h2,h3,h4⟩:=h;refine⟨ad,c,rfl,⟨rfl,rfl,rfl,?_⟩,h3,h4⟩;have hf:=Zacd res.1;rw[hf]at h2;have g:Grow 152 2 Znw w0.heap.size [] w' (.slice ad res.1.length c) res.1:=⟨_,h2,fun i x hx=>by
  have:res.1.getD i (0,0)=x:=by rw[List.getD_eq_getElem?_getD,hx];rfl
  rw[this];exact⟨rfl,rfl⟩⟩
 exact g.rows (fun _ _ _ _ _ h=>h) (by omega)
def CP.few (p:CP):Prop:=p.rel≤7∧(p.err=0→p.rel≤6)
theorem CP.few_rel {s:List UInt8} {p:CP} (h:p.few)(he:p.err=0):(CP.relation s p).2.few:=by
 have:=h.2 he;refine⟨by rw[CP.relation_rel];omega,fun g=>?_⟩;have:=CP.relation_lim g;rw[CP.relation_rel];exact this
theorem CP.next_e {s t:List UInt8} {p:CP} (h:(p.next s t).2.err=0):p.err=0:=by
 by_cases he:p.err=0
 ·exact he
 ·rw[CP.next_err he]at h;exact h
theorem CP.few_next {s t:List UInt8} {p:CP} (h:p.few):(p.next s t).2.few:=by
 refine⟨by rw[CP.next_rel];exact h.1,fun g=>?_⟩;rw[CP.next_rel];exact h.2 (CP.next_e g)
theorem Zajv:(prog.info? 94).map (fun i=>(i.zero,i.size,i.bytes))=some (some (.agg #[.int .i64 0,.int .i64 0,.bool false,.slice none 0 0]),4,48):=by kernel_rfl
theorem Zwe:(prog.info? 91).map (fun i=>(i.zero,i.size,i.bytes))=some (some (.slice none 0 0),1,24):=by kernel_rfl
theorem Zd6 (w:World)(cs:Array Value)(T:TypeId)(k:Nat)(hk:cs.size=k):Rw (w.alloc (.cells cs T)) (some ⟨w.heap.size,0,none⟩) 1 k (fun _ j=>cs.getD j undef) w.heap.size 0:=
 ⟨by omega,fun _=>rfl,fun i j hi hj=>by
  obtain rfl:i=0:=by omega
  rw[Lib.cell_of_heap (heap_alloc_new w _)];simp only[Nat.zero_mul,Nat.zero_add];rw[Array.getD_eq_getD_getElem?,Array.getElem?_eq_getElem (by omega)];rfl⟩
theorem CP.spans_len (s:List UInt8)(op:Int):∀(n:Nat) (l:List (Int×Int)) (p:CP),(CP.spans s op n l p).1.length≤l.length+n
 |0,_,_=>le_refl _
 |n+1,l,p=>by
  rw[CP.spans];split
  ·split
   ·refine le_trans (CP.spans_len s op n _ _) ?_;rw[length_append,length_singleton];omega
   ·rw[length_append,length_singleton];omega
  ·show l.length≤_;omega
theorem CP.relation_len (s:List UInt8)(p:CP):(CP.relation s p).1.sp.length≤6:=by
 unfold CP.relation;dsimp only;refine le_trans (CP.spans_len s _ 6 [] _) ?_;simp
def Zx7:Value→Nat
 | .int _ z=>z.toNat
 |_=>0
theorem Zxn (S:ByteArray)(hS:S.size≤200000)(w:World)(hM:MaxLen w):Calls prog 323 #[.string S] w fun e w'=>∃v,e= .returned (.tuple #[v,.int .i64 (Zb3 S.data.toList).2.1,.int .i64 (Zb3 S.data.toList).2.2])∧RowsOf 1 RelsC (see w.heap.size [91,94,152] w') v (Zb3 S.data.toList).1∧Below w.heap.size w w':=by
 have mRl:∀a b x y,Sub a b→RelC a x y→RelC b x y:=fun _ _ _ _ h g=>g.sub h;have mRls:∀a b x y,Sub a b→RelsC a x y→RelsC b x y:=fun _ _ _ _ h g=>g.sub h;obtain⟨b,hb⟩:∃b,w.heap.size=b:=⟨_,rfl⟩;rw[hb];have C4:Hid ((w.alloc (.cells #[.string S,.int .i64 0,.int .i64 0,.int .i64 0] 333)).heap.size=b+1):=by rw[Hid,←hb];simp
 have Ac:Hid (Below b w (w.alloc (.cells #[.string S,.int .i64 0,.int .i64 0,.int .i64 0] 333))):=by rw[←hb];exact Bel.alloc (Bel.refl w) _
 have Pw:Hid (Pq (w.alloc (.cells #[.string S,.int .i64 0,.int .i64 0,.int .i64 0] 333)) b S ⟨0,0,0⟩):=⟨by rw[←hb];exact heap_alloc_new w _,Nat.zero_le _,Nat.zero_le _,hS⟩;have Px:Hid (MaxLen (w.alloc (.cells #[.string S,.int .i64 0,.int .i64 0,.int .i64 0] 333))):=by
  obtain⟨m,hm⟩:=hM;exact⟨m,Ac.out.cell (by rw[←hb];exact World.block_lt_of_cell? w _ hm)|>.trans hm⟩
 have Wp:=Hd (fun p hr W (g:Pq W b S p) gM=>Zr9 b S p hr W g gM);have Ao:=Hd (fun t ht p W (g:Pq W b S p)=>Ziy b S t ht p W g);have Gw:=Hd (fun p W (g:Pq W b S p)=>Zq3 b S p W g);have I1:=Hd (fun p W (g:Pq W b S p)=>Zgg b S 3 p W g);unfold PqP at Ao Gw I1;have HV:Hid (Zb3 S.data.toList=(let d:=CP.disj S.data.toList 8 [] ⟨0,0,0⟩
   let q:=d.2.skip S.data.toList
   let q2:=if q.pos<S.data.toList.length then q.fail 3 else q
   if q2.err=0 then(d.1,0,0)else([],(q2.pos:Int),q2.err))):=rfl
 have rU:Hid (∀W,Kp (Zaf b) (w.alloc (.cells #[.string S,.int .i64 0,.int .i64 0,.int .i64 0] 333)) W→MaxLen W):=fun W k=>Px.out.kp Pw.out k;clear hM Px;generalize Zb3 S.data.toList=fin at *;obtain⟨res,Cq⟩:∃res,CP.disj S.data.toList 8 [] ⟨0,0,0⟩=res:=⟨_,rfl⟩;rw[Cq]at HV;have Br:=Hd Cq;clear Cq
 go_enter func323,ntmps323
 go_upto_region 2 with(fail)
 generalize w.alloc (.cells #[.string S,.int .i64 0,.int .i64 0,.int .i64 0] 333)=w0 at *
 go_wp2_with fail
 go_loopw [6,7,8,9] (fun u6 u7 u8 u9 wr=>∃(c:List (List Rel)) (q:CP) (m:Bool) (n:Nat),u7= .bool m∧c.length≤q.rel∧q.few∧8≤n+q.rel∧(m=true→CP.disj S.data.toList n c q=res)∧(m=false→(c,q)=res)∧Grow 91 1 RelsC b [94,152] wr u6 c∧Pq wr b S q∧Kp (Zaf b) w0 wr) (fun u6 u7 u8 u9 wr=>Zwn u7 *(10 - Zx7 ((wr.cell? ⟨b,2,none⟩).getD undef)))
 case atStart=>exact⟨[],⟨0,0,0⟩,true,8,rfl,le_refl _,⟨by decide,fun _=>by decide⟩,le_refl _,fun _=>Br.out,fun h=>(by cases h),Grow.nil _ _ _ _ _ _,Pw.out,Kp.refl _ _⟩
 case round=>
  obtain⟨c,q,m,n,rfl,gQ,Nj,hn,Rj,Gp,hc,hq,At⟩:=hrel;obtain⟨ad0,k0,rfl⟩:=hc.shape;have HC:=Hd hc;have HQ:=Hd hq;have HK:=Hd At;have Nc:=Hd Rj;have Nd:=Hd Gp;have Wq:=Hd Nj;obtain⟨_,_,c2,c3,_,_,_⟩:=hq.cells;have Nh:=hq.lt;have Px:Hid (Zx7 ((wr.cell? ⟨b,2,none⟩).getD undef)=(q.rel:Int).toNat):=by rw[Hid,c2];rfl
  clear hc hq At Rj Gp Nj c2;cases m with
  |false=>
   have HF:=Hd (Nd.out (by trivial));clear Nc Nd;have Ew:=Hd HV.out;rw[←HF.out]at Ew;simp only at Ew;have Nk:=Hd (Gw.out q);have J5:=Hd (I1.out (CP.skip S.data.toList q));have rV:c.length≤7:=by have:=Wq.out.1;omega
   clear HV HF Gw I1 Ao Wp Px Wq;generalize CP.skip S.data.toList q=qs at *;rw[Zbm]at Ew
   go_wp2_with fail
   refine(Nk.out _ HQ.out).mono ?_;rintro _ w1 ⟨rfl,K0,Cd⟩;have C0:=Hd (HC.out.keep mRls (Cd.kptO HQ.out.1 (by decide)));have J4:=Hd K0;have Bf:=Hd (HK.out.trans Cd);obtain⟨d0,d1,_,d3,_,_,_⟩:=K0.cells;have L0:=K0.lt;clear K0 Cd HC HQ HK Nk
   by_cases hp:qs.pos<S.size
   ·rw[if_pos hp]at Ew;have gU:decide ((qs.pos:Int)<(S.size:Int))=true:=decide_eq_true (by omega);have Bj:Hid ((qs.fail 3).err≠0):=CP.fail_e (by decide) _;have Ge:=Hd Ew.out;rw[if_neg Bj.out]at Ge;clear Ew;generalize qs.fail 3=qf at *
    go_wp2_with fail
    refine(J5.out _ J4.out).mono ?_;rintro _ w2 ⟨rfl,Rn,D9⟩;have Nl:=Hd Rn;have Uh:=Hd (Bf.out.trans D9);clear Rn D9 C0 J4 Bf J5 d0 d1 d3 L0;have Ba:(qf.err==0)=false:=by simpa using Bj.out
    have A7:(qf.err !=0)=true:=by rw[bne,Ba];rfl
    obtain⟨_,d1,_,d3,_,_,_⟩:=Nl.out.cells;have Nh:=Nl.out.lt
    go_upto_region 16 with(fail)
    refine Zaq (by kernel_rfl) (by kernel_rfl) ?_
    repeat (go_big_quiet_step (fail))
    refine wpQuiet_nil ?_;intro _ Eb;obtain⟨X9,Bo⟩:=Eb;subst Bo;have O1:=Hd (Uh.out.trans (Za4 X9.2))
    go_wp2_with fail
    go_ret3
    exact⟨.slice none 0 0,by rw[Ge.out];rfl,by rw[Ge.out];exact RowsOf.nil _ _ _,Ac.out.trans (O1.out.below b (by rw[C4.out];omega) fun k hk=>Za1 (by omega))⟩
   ·rw[if_neg hp]at Ew;have gU:decide ((qs.pos:Int)<(S.size:Int))=false:=decide_eq_false (by omega);clear J5
    by_cases Nm:qs.err=0
    ·have Ge:=Hd Ew.out;rw[if_pos Nm]at Ge;rw[Nm]at d3
     go_wp2_with fail
     go_ret3
     exact⟨.slice ad0 c.length k0,by rw[Ge.out];rfl,by rw[Ge.out];exact C0.out.rows mRls (by omega),Ac.out.trans (Bf.out.below b (by rw[C4.out];omega) fun k hk=>Za1 (by omega))⟩
    ·have Ge:=Hd Ew.out;rw[if_neg Nm]at Ge;have Bj:=Hd Nm;have Nl:=Hd J4.out;have Uh:=Hd Bf.out;clear d0 d1 d3 L0 J4 Bf C0 Ew Nm;have Ba:(qs.err==0)=false:=by simpa using Bj.out
     have A7:(qs.err !=0)=true:=by rw[bne,Ba];rfl
     obtain⟨_,d1,_,d3,_,_,_⟩:=Nl.out.cells;have Nh:=Nl.out.lt
     go_upto_region 16 with(fail)
     refine Zaq (by kernel_rfl) (by kernel_rfl) ?_
     repeat (go_big_quiet_step (fail))
     refine wpQuiet_nil ?_;intro _ Eb;obtain⟨X9,Bo⟩:=Eb;subst Bo;have O1:=Hd (Uh.out.trans (Za4 X9.2))
     go_wp2_with fail
     go_ret3
     exact⟨.slice none 0 0,by rw[Ge.out];rfl,by rw[Ge.out];exact RowsOf.nil _ _ _,Ac.out.trans (O1.out.below b (by rw[C4.out];omega) fun k hk=>Za1 (by omega))⟩
  |true=>
   have dA:=Hd (Nc.out (by trivial));clear Nc Nd
   by_cases he:q.err=0
   ·rw[he]at c3;obtain⟨n,rfl⟩:∃k,n=k+1:=⟨n - 1,by have:=Wq.out.1;omega⟩;have HS:=Hd dA.out;rw[CP.disj,if_pos he]at HS;obtain⟨res1,Cp⟩:∃r,CP.conj S.data.toList 8 [] q=r:=⟨_,rfl⟩;rw[Cp]at HS;have As:=Hd Cp;clear Cp dA
    go_wp2_with fail
    clear c3;obtain⟨W0,rfl⟩:∃W,W=wr:=⟨_,rfl⟩;have Ag:b≤W0.heap.size:=by omega
    have Mn:w0.heap.size≤W0.heap.size:=HK.out.size
    go_loopw [8,9] (fun u8 u9 wi=>∃(l:List Rel) (q1:CP) (mb:Bool) (n1:Nat),u9= .bool mb∧l.length+q.rel≤q1.rel∧q1.few∧8≤n1+q1.rel∧(l=[]→mb=true∧q1.err=0)∧(mb=true→CP.conj S.data.toList n1 l q1=res1)∧(mb=false→(l,q1)=res1)∧Grow 94 4 RelC W0.heap.size [152] wi u8 l∧KpT b [91,94,152] W0 wi∧W0.heap.size≤wi.heap.size∧Pq wi b S q1∧Kp (Zaf b) w0 wi) (fun u8 u9 wi=>Zwn u9 *(10 - Zx7 ((wi.cell? ⟨b,2,none⟩).getD undef)))
    case atStart=>exact⟨[],q,true,8,rfl,by simp,Wq.out,by omega,fun _=>⟨rfl,he⟩,fun _=>As.out,fun h=>(by cases h),Grow.nil _ _ _ _ _ _,KpT.refl _ _ _,le_refl _,HQ.out,HK.out⟩
    case round=>
     obtain⟨l,q1,mb,n1,rfl,Mz,Gb,J6,Az,Rj,Gp,hg,ht,Am,hq,At⟩:=hrel;obtain⟨ad1,k1,rfl⟩:=hg.shape;clear HQ HK;have HG:=Hd hg;have HT:=Hd ht;have HQ:=Hd hq;have HK:=Hd At;have HF:=Hd Gb;have Bj:=Hd Az;have Nc:=Hd Rj;have Nd:=Hd Gp;obtain⟨_,_,i2,i3,_,_,_⟩:=hq.cells;have Nh:=hq.lt;clear hg ht hq At Gb Az Rj Gp;cases mb with
     |false=>
      have Du:=Hd (Nd.out (by trivial));clear Nc Nd Wp;have Yb:l≠[]:=by
       intro e;obtain⟨e1,e2⟩:=Bj.out e;cases e1
      have Jk:1≤l.length:=by
       rcases l with _|⟨a,t⟩
       ·exact absurd rfl Yb
       ·simp
      have gW:q1.rel≤7:=HF.out.1;have I2:=Hd (Ao.out orB (by decide) q1);have K1:Hid ((CP.next S.data.toList orB q1).2.rel=q1.rel):=CP.next_rel _ _ _;have Nn:Hid ((CP.next S.data.toList orB q1).2.few):=CP.few_next HF.out;have E8:=Hd (HQ.out.below (Bel.alloc (Bel.refl wr) (.cells #[.slice ad1 l.length k1] 91)));have K2:=Hd (HG.out.keep mRl (KpT.below (Bel.alloc (Bel.refl wr) (.cells #[.slice ad1 l.length k1] 91)) _ _));have Gc:=Hd ((HC.out.keep mRls HT.out).keep mRls (KpT.below (Bel.alloc (Bel.refl wr) (.cells #[.slice ad1 l.length k1] 91)) b _));have A6:=Hd (HK.out.alloc (.cells #[.slice ad1 l.length k1] 91));have Bt:=Hd (Zd6 wr #[.slice ad1 l.length k1] 91 1 rfl);have Wr:Hid (RelsC (see b [94,152] (wr.alloc (.cells #[.slice ad1 l.length k1] 91))) (fun j=>(#[.slice ad1 l.length k1]:Array Value).getD j undef) l):=(K2.out.rows mRl (by omega)).sub (Zcr _ Ag fun _ h=>h) (fun _ _ h=>h.sub (Zcr _ Ag fun _ h=>h));obtain⟨f0,Aj,Ck⟩:=Gc.out;have Ad:=Hd Aj;have C2:=Hd Ck;have De:b≤(wr.alloc (.cells #[.slice ad1 l.length k1] 91)).heap.size:=by have:=E8.out.lt;omega
      have C1:=Hd HS.out;rw[←Du.out]at C1;simp only at C1;have Np:Hid ((if(CP.next S.data.toList orB q1).1 then CP.disj S.data.toList n (c++[l]) (CP.next S.data.toList orB q1).2 else(c++[l],(CP.next S.data.toList orB q1).2))=res):=C1.out;clear Aj Ck C1 Bj HF HG HC HT HK HQ K2 Gc;generalize CP.next S.data.toList orB q1=nr at *;obtain⟨m2,q2⟩:=nr;simp only at I2 K1
      go_wp2_with (at_builtin;go_must (refine Zba rfl (.tmp 38) (.tmp 40) rfl underlying48 Zwe rfl (by omega) b ad0 c.length k0 (Zar 1 f0 c.length) rfl Ad.out (some ⟨wr.heap.size,0,none⟩) 1 1 (fun _ j=>(#[.slice ad1 l.length k1]:Array Value).getD j undef) wr.heap.size 0 rfl Bt.out (fun h=>by cases h) (fun i j _ hj=>by(obtain rfl:j=0:=(by omega));rfl) (by unfold maxLen;omega) (by omega) De ?_);intro ad3 k3 w3 Ae A5;have Ce:=Hd Ae;have Bm:=Hd A5;clear Ae A5)
      have F9:=Zib Ad.out E8.out.1 (by decide);have Gz:Hid (Pq w3 b S q1):=⟨(Bm.out.block b E8.out.lt F9).trans E8.out.1,E8.out.2⟩;have An:Hid (Kp (Zaf b) w0 w3):=A6.out.grown Bm.out (fun k hk=>by
       have:=(World.ownsRow.lt Ad.out k hk).1;rcases lt_or_ge b k with h|h
       ·exact .inl (by rw[C4.out];omega)
       ·exact .inr (decide_eq_true (by omega)))
      have Ft:Hid (Grow 91 1 RelsC b [94,152] w3 (.slice ad3 (c.length+1) k3) (c++[l])):=Grow.snoc C2.out mRls (Zbq Bm.out Ad.out _ (by decide)) _ Ce.out Wr.out;clear F9 E8 Ad C2 Ce Bm A6 Wr Bt
      go_wp2_with fail
      refine(I2.out _ Gz.out).mono ?_;rintro _ w4 ⟨rfl,Ro,A8⟩;have Yc:=Hd (Ft.out.keep mRls (A8.kptO Gz.out.1 (by decide)));have Jl:=Hd Ro;have Bh:=Hd (An.out.trans A8);clear Ro A8 Gz Ft An
      go_wp2_with fail
      go_roundw
      case rel=>
       refine⟨c++[l],q2,m2,n,rfl,by rw[K1.out,length_append,length_singleton];omega,Nn.out,by rw[K1.out];omega,fun hm=>?_,fun hm=>?_,Yc.out,Jl.out,Bh.out⟩
       ·have:=Np.out;subst hm;rw[if_pos rfl]at this;exact this
       ·have:=Np.out;subst hm;rw[if_neg (by simp)]at this;exact this
      case measure=>
       obtain⟨_,_,e2,_,_,_,_⟩:=Jl.out.cells;rw[Px.out,e2];show _<1 *(10 -((q.rel:Int)).toNat);cases m2
       ·show 0 *_<_;omega
       ·show 1 *(10 -((q2.rel:Int)).toNat)<_;rw[K1.out];omega
     |true=>
      have Ws:=Hd (Nc.out (by trivial));clear Nc Nd
      by_cases Hl:q1.err=0
      ·rw[Hl]at i3;obtain⟨n1,rfl⟩:∃k,n1=k+1:=⟨n1 - 1,by have:=HF.out.2 Hl;omega⟩;have Ui:=Hd Ws.out;rw[CP.conj,if_pos Hl]at Ui;have vZ:=HF.out.2 Hl;have Yd:=Hd (Wp.out q1 (by omega) wr HQ.out (rU.out _ HK.out));have Au:Hid ((CP.relation S.data.toList q1).2.rel=q1.rel+1):=CP.relation_rel _ _;have G0:Hid ((CP.relation S.data.toList q1).2.few):=CP.few_rel HF.out Hl;have Ah:=CP.relation_len S.data.toList q1;have Wo:Hid (Zx7 ((wr.cell? ⟨b,2,none⟩).getD undef)=(q1.rel:Int).toNat):=by rw[Hid,i2];rfl
       clear Ws Wp i2;generalize CP.relation S.data.toList q1=rr at *;obtain⟨⟨op,md,ng,sp⟩,q2⟩:=rr;simp only at Yd Au G0 Ah;have Ye:Hid ((if(CP.next S.data.toList Zcx q2).1 then CP.conj S.data.toList n1 (l++[⟨op,md,ng,sp⟩]) (CP.next S.data.toList Zcx q2).2 else(l++[⟨op,md,ng,sp⟩],(CP.next S.data.toList Zcx q2).2))=res1):=Ui.out;have I2:=Hd (Ao.out Zcx (by decide) q2);have K1:Hid ((CP.next S.data.toList Zcx q2).2.rel=q2.rel):=CP.next_rel _ _ _;have Nn:Hid ((CP.next S.data.toList Zcx q2).2.few):=CP.few_next G0.out;have Ef:Hid ((CP.next S.data.toList Zcx q2).1=true→(CP.next S.data.toList Zcx q2).2.err=0):=fun h=>(CP.next_true h).1;clear Ui G0;generalize CP.next S.data.toList Zcx q2=nr at *;obtain⟨m3,q3⟩:=nr;simp only at I2 K1
       go_wp2_with fail
       refine Yd.out.mono ?_;intro e w1 hP;obtain⟨ad,k,rfl,Re,Rn,D9⟩:=hP.rel (by show sp.length≤1000;omega);have HX:Hid (RelC (see W0.heap.size [152] w1) (fun j=>(#[.int .i64 op,.int .i64 md,.bool ng,.slice ad sp.length k]:Array Value).getD j undef) ⟨op,md,ng,sp⟩):=Re.sub (Zcr w1 Am fun _ h=>h);have Rp:=Hd (HG.out.keep mRl (D9.kptO HQ.out.1 (by decide)));have Fu:=Hd (HT.out.trans (D9.kptO HQ.out.1 (by decide)));have rW:W0.heap.size≤w1.heap.size:=by have:=D9.size;omega
       have Bf:=Hd (HK.out.trans D9);have J4:=Hd Rn;clear Re Rn D9 hP HG HT HK HQ;have E8:=Hd (J4.out.below (Bel.alloc (Bel.refl w1) (.cells #[.int .i64 op,.int .i64 md,.bool ng,.slice ad sp.length k] 94)));have K2:=Hd (Rp.out.keep mRl (KpT.below (Bel.alloc (Bel.refl w1) (.cells #[.int .i64 op,.int .i64 md,.bool ng,.slice ad sp.length k] 94)) _ _));have Uj:=Hd (Fu.out.trans (KpT.below (Bel.alloc (Bel.refl w1) (.cells #[.int .i64 op,.int .i64 md,.bool ng,.slice ad sp.length k] 94)) _ _));have A6:=Hd (Bf.out.alloc (.cells #[.int .i64 op,.int .i64 md,.bool ng,.slice ad sp.length k] 94));have C7:Hid (RelC (see W0.heap.size [152] (w1.alloc (.cells #[.int .i64 op,.int .i64 md,.bool ng,.slice ad sp.length k] 94))) (fun j=>(#[.int .i64 op,.int .i64 md,.bool ng,.slice ad sp.length k]:Array Value).getD j undef) ⟨op,md,ng,sp⟩):=HX.out.sub (Zf8 (KpT.below (Bel.alloc (Bel.refl w1) (.cells #[.int .i64 op,.int .i64 md,.bool ng,.slice ad sp.length k] 94)) _ _));have Bt:=Hd (Zd6 w1 #[.int .i64 op,.int .i64 md,.bool ng,.slice ad sp.length k] 94 4 rfl);obtain⟨f0,Aj,Ck⟩:=K2.out;have Ad:=Hd Aj;have C2:=Hd Ck;have De:W0.heap.size≤(w1.alloc (.cells #[.int .i64 op,.int .i64 md,.bool ng,.slice ad sp.length k] 94)).heap.size:=by simp;omega
       clear Aj Ck Rp Fu Bf J4 K2 HX;have I3:=HF.out.1
       go_wp2_with (at_builtin;go_must (refine Zba rfl (.tmp 33) (.tmp 36) rfl underlying91 Zajv rfl (by omega) W0.heap.size ad1 l.length k1 (Zar 4 f0 l.length) rfl Ad.out (some ⟨w1.heap.size,0,none⟩) 1 1 (fun _ j=>(#[.int .i64 op,.int .i64 md,.bool ng,.slice ad sp.length k]:Array Value).getD j undef) w1.heap.size 0 rfl Bt.out (fun h=>by cases h) (fun i j _ hj=>by rcases(by omega:j=0∨j=1∨j=2∨j=3)with e|e|e|e <;> subst e <;> rfl) (by unfold maxLen;omega) (by omega) De ?_);intro ad3 k3 w3 Ae A5;have Ce:=Hd Ae;have Bm:=Hd A5;clear Ae A5)
       have F9:=Zib Ad.out E8.out.1 (by decide);have Gz:Hid (Pq w3 b S q2):=⟨(Bm.out.block b E8.out.lt F9).trans E8.out.1,E8.out.2⟩;have An:Hid (Kp (Zaf b) w0 w3):=A6.out.grown Bm.out (fun k hk=>by
        have:=(World.ownsRow.lt Ad.out k hk).1;exact .inl (le_trans Mn this))
       have Yf:=Hd (Uj.out.grown Bm.out (fun k hk=>(World.ownsRow.lt Ad.out k hk).1));have rX:W0.heap.size≤w3.heap.size:=le_trans De Bm.out.size;have Aq:Hid (Grow 94 4 RelC W0.heap.size [152] w3 (.slice ad3 (l.length+1) k3) (l++[⟨op,md,ng,sp⟩])):=Grow.snoc C2.out mRl (Zbq Bm.out Ad.out _ (by decide)) _ Ce.out C7.out;clear F9 E8 Ad C2 Ce Bm A6 C7 Bt Uj
       go_wp2_with fail
       refine(I2.out _ Gz.out).mono ?_;rintro _ w4 ⟨rfl,Ro,A8⟩;have Bk:=Hd (Aq.out.keep mRl (A8.kptO Gz.out.1 (by decide)));have Yg:=Hd (Yf.out.trans (A8.kptO Gz.out.1 (by decide)));have gX:W0.heap.size≤w4.heap.size:=by have:=A8.size;omega
       have Jl:=Hd Ro;have Bh:=Hd (An.out.trans A8);clear Ro A8 Gz Yf An Aq
       go_wp2_with fail
       go_roundw
       case rel=>
        refine⟨l++[⟨op,md,ng,sp⟩],q3,m3,n1,rfl,by rw[K1.out,Au.out,length_append,length_singleton];omega,Nn.out,by rw[K1.out,Au.out];omega,fun hm=>(by simp at hm),fun hm=>?_,fun hm=>?_,Bk.out,Yg.out,gX,Jl.out,Bh.out⟩
        ·have:=Ye.out;subst hm;rw[if_pos rfl]at this;exact this
        ·have:=Ye.out;subst hm;rw[if_neg (by simp)]at this;exact this
       case measure=>
        obtain⟨_,_,e2,_,_,_,_⟩:=Jl.out.cells;rw[Wo.out,e2];show _<1 *(10 -((q1.rel:Int)).toNat);cases m3
        ·show 0 *_<_;omega
        ·show 1 *(10 -((q3.rel:Int)).toNat)<_;rw[K1.out,Au.out];omega
      ·have Du:Hid ((l,q1)=res1):=by have:=Ws.out;rw[CP.conj_stop _ Hl]at this;exact this
       have hz:(q1.err==0)=false:=by simpa using Hl
       clear Ws Wp;have Yb:l≠[]:=by
        intro e;obtain⟨e1,e2⟩:=Bj.out e;exact Hl e2
       have Jk:1≤l.length:=by
        rcases l with _|⟨a,t⟩
        ·exact absurd rfl Yb
        ·simp
       have gW:q1.rel≤7:=HF.out.1;have I2:=Hd (Ao.out orB (by decide) q1);have K1:Hid ((CP.next S.data.toList orB q1).2.rel=q1.rel):=CP.next_rel _ _ _;have Nn:Hid ((CP.next S.data.toList orB q1).2.few):=CP.few_next HF.out;have E8:=Hd (HQ.out.below (Bel.alloc (Bel.refl wr) (.cells #[.slice ad1 l.length k1] 91)));have K2:=Hd (HG.out.keep mRl (KpT.below (Bel.alloc (Bel.refl wr) (.cells #[.slice ad1 l.length k1] 91)) _ _));have Gc:=Hd ((HC.out.keep mRls HT.out).keep mRls (KpT.below (Bel.alloc (Bel.refl wr) (.cells #[.slice ad1 l.length k1] 91)) b _));have A6:=Hd (HK.out.alloc (.cells #[.slice ad1 l.length k1] 91));have Bt:=Hd (Zd6 wr #[.slice ad1 l.length k1] 91 1 rfl);have Wr:Hid (RelsC (see b [94,152] (wr.alloc (.cells #[.slice ad1 l.length k1] 91))) (fun j=>(#[.slice ad1 l.length k1]:Array Value).getD j undef) l):=(K2.out.rows mRl (by omega)).sub (Zcr _ Ag fun _ h=>h) (fun _ _ h=>h.sub (Zcr _ Ag fun _ h=>h));obtain⟨f0,Aj,Ck⟩:=Gc.out;have Ad:=Hd Aj;have C2:=Hd Ck;have De:b≤(wr.alloc (.cells #[.slice ad1 l.length k1] 91)).heap.size:=by have:=E8.out.lt;omega
       have C1:=Hd HS.out;rw[←Du.out]at C1;simp only at C1;have Np:Hid ((if(CP.next S.data.toList orB q1).1 then CP.disj S.data.toList n (c++[l]) (CP.next S.data.toList orB q1).2 else(c++[l],(CP.next S.data.toList orB q1).2))=res):=C1.out;clear Aj Ck C1 Bj HF HG HC HT HK HQ K2 Gc;generalize CP.next S.data.toList orB q1=nr at *;obtain⟨m2,q2⟩:=nr;simp only at I2 K1
       go_wp2_with (at_builtin;go_must (refine Zba rfl (.tmp 38) (.tmp 40) rfl underlying48 Zwe rfl (by omega) b ad0 c.length k0 (Zar 1 f0 c.length) rfl Ad.out (some ⟨wr.heap.size,0,none⟩) 1 1 (fun _ j=>(#[.slice ad1 l.length k1]:Array Value).getD j undef) wr.heap.size 0 rfl Bt.out (fun h=>by cases h) (fun i j _ hj=>by(obtain rfl:j=0:=(by omega));rfl) (by unfold maxLen;omega) (by omega) De ?_);intro ad3 k3 w3 Ae A5;have Ce:=Hd Ae;have Bm:=Hd A5;clear Ae A5)
       have F9:=Zib Ad.out E8.out.1 (by decide);have Gz:Hid (Pq w3 b S q1):=⟨(Bm.out.block b E8.out.lt F9).trans E8.out.1,E8.out.2⟩;have An:Hid (Kp (Zaf b) w0 w3):=A6.out.grown Bm.out (fun k hk=>by
        have:=(World.ownsRow.lt Ad.out k hk).1;rcases lt_or_ge b k with h|h
        ·exact .inl (by rw[C4.out];omega)
        ·exact .inr (decide_eq_true (by omega)))
       have Ft:Hid (Grow 91 1 RelsC b [94,152] w3 (.slice ad3 (c.length+1) k3) (c++[l])):=Grow.snoc C2.out mRls (Zbq Bm.out Ad.out _ (by decide)) _ Ce.out Wr.out;clear F9 E8 Ad C2 Ce Bm A6 Wr Bt
       go_wp2_with fail
       refine(I2.out _ Gz.out).mono ?_;rintro _ w4 ⟨rfl,Ro,A8⟩;have Yc:=Hd (Ft.out.keep mRls (A8.kptO Gz.out.1 (by decide)));have Jl:=Hd Ro;have Bh:=Hd (An.out.trans A8);clear Ro A8 Gz Ft An
       go_wp2_with fail
       go_roundw
       case rel=>
        refine⟨c++[l],q2,m2,n,rfl,by rw[K1.out,length_append,length_singleton];omega,Nn.out,by rw[K1.out];omega,fun hm=>?_,fun hm=>?_,Yc.out,Jl.out,Bh.out⟩
        ·have:=Np.out;subst hm;rw[if_pos rfl]at this;exact this
        ·have:=Np.out;subst hm;rw[if_neg (by simp)]at this;exact this
       case measure=>
        obtain⟨_,_,e2,_,_,_,_⟩:=Jl.out.cells;rw[Px.out,e2];show _<1 *(10 -((q.rel:Int)).toNat);cases m2
        ·show 0 *_<_;omega
        ·show 1 *(10 -((q2.rel:Int)).toNat)<_;rw[K1.out];omega
   ·have hz:(q.err==0)=false:=by simpa using he
    have HF:Hid ((c,q)=res):=by have:=dA.out;rw[CP.disj_stop _ he]at this;exact this
    clear dA;have Ew:=Hd HV.out;rw[←HF.out]at Ew;simp only at Ew;have Nk:=Hd (Gw.out q);have J5:=Hd (I1.out (CP.skip S.data.toList q));have rV:c.length≤7:=by have:=Wq.out.1;omega
    clear HV HF Gw I1 Ao Wp Px Wq;generalize CP.skip S.data.toList q=qs at *;rw[Zbm]at Ew
    go_wp2_with fail
    refine(Nk.out _ HQ.out).mono ?_;rintro _ w1 ⟨rfl,K0,Cd⟩;have C0:=Hd (HC.out.keep mRls (Cd.kptO HQ.out.1 (by decide)));have J4:=Hd K0;have Bf:=Hd (HK.out.trans Cd);obtain⟨d0,d1,_,d3,_,_,_⟩:=K0.cells;have L0:=K0.lt;clear K0 Cd HC HQ HK Nk
    by_cases hp:qs.pos<S.size
    ·rw[if_pos hp]at Ew;have gU:decide ((qs.pos:Int)<(S.size:Int))=true:=decide_eq_true (by omega);have Bj:Hid ((qs.fail 3).err≠0):=CP.fail_e (by decide) _;have Ge:=Hd Ew.out;rw[if_neg Bj.out]at Ge;clear Ew;generalize qs.fail 3=qf at *
     go_wp2_with fail
     refine(J5.out _ J4.out).mono ?_;rintro _ w2 ⟨rfl,Rn,D9⟩;have Nl:=Hd Rn;have Uh:=Hd (Bf.out.trans D9);clear Rn D9 C0 J4 Bf J5 d0 d1 d3 L0;have Ba:(qf.err==0)=false:=by simpa using Bj.out
     have A7:(qf.err !=0)=true:=by rw[bne,Ba];rfl
     obtain⟨_,d1,_,d3,_,_,_⟩:=Nl.out.cells;have Nh:=Nl.out.lt
     go_upto_region 16 with(fail)
     refine Zaq (by kernel_rfl) (by kernel_rfl) ?_
     repeat (go_big_quiet_step (fail))
     refine wpQuiet_nil ?_;intro _ Eb;obtain⟨X9,Bo⟩:=Eb;subst Bo;have O1:=Hd (Uh.out.trans (Za4 X9.2))
     go_wp2_with fail
     go_ret3
     exact⟨.slice none 0 0,by rw[Ge.out];rfl,by rw[Ge.out];exact RowsOf.nil _ _ _,Ac.out.trans (O1.out.below b (by rw[C4.out];omega) fun k hk=>Za1 (by omega))⟩
    ·rw[if_neg hp]at Ew;have gU:decide ((qs.pos:Int)<(S.size:Int))=false:=decide_eq_false (by omega);clear J5
     by_cases Nm:qs.err=0
     ·have Ge:=Hd Ew.out;rw[if_pos Nm]at Ge;rw[Nm]at d3
      go_wp2_with fail
      go_ret3
      exact⟨.slice ad0 c.length k0,by rw[Ge.out];rfl,by rw[Ge.out];exact C0.out.rows mRls (by omega),Ac.out.trans (Bf.out.below b (by rw[C4.out];omega) fun k hk=>Za1 (by omega))⟩
     ·have Ge:=Hd Ew.out;rw[if_neg Nm]at Ge;have Bj:=Hd Nm;have Nl:=Hd J4.out;have Uh:=Hd Bf.out;clear d0 d1 d3 L0 J4 Bf C0 Ew Nm;have Ba:(qs.err==0)=false:=by simpa using Bj.out
      have A7:(qs.err !=0)=true:=by rw[bne,Ba];rfl
      obtain⟨_,d1,_,d3,_,_,_⟩:=Nl.out.cells;have Nh:=Nl.out.lt
      go_upto_region 16 with(fail)
      refine Zaq (by kernel_rfl) (by kernel_rfl) ?_
      repeat (go_big_quiet_step (fail))
      refine wpQuiet_nil ?_;intro _ Eb;obtain⟨X9,Bo⟩:=Eb;subst Bo;have O1:=Hd (Uh.out.trans (Za4 X9.2))
      go_wp2_with fail
      go_ret3
      exact⟨.slice none 0 0,by rw[Ge.out];rfl,by rw[Ge.out];exact RowsOf.nil _ _ _,Ac.out.trans (O1.out.below b (by rw[C4.out];omega) fun k hk=>Za1 (by omega))⟩
end Go.Proofs.YtmleeodfmmpdgaaGreatDoor
