/- Walks: conditions, the program's parser: a relation whole. -/
import Derived.Test.YtmleeodfmmpdgaaGreatDoorQ20
import Derived.Test.YtmleeodfmmpdgaaGreatDoorQ12
namespace Go.Proofs.YtmleeodfmmpdgaaGreatDoor
open Go.RowKit
attribute [local go_sem] Ext.cell Ext.frozen
attribute [local go_sem ↓] Go.wp_at_zero Go.wp_at_succ
set_option maxRecDepth 20000 in
set_option maxHeartbeats 4000000 in
theorem crelation_any (b : Nat) (S : ByteArray) (p : CP) (hrel : p.rel < 200000) (w : World) (h : Pq w b S p) (hM : MaxLen w) : Calls Tryz.prog 333 #[.pointer (some ⟨b, 0, none⟩)] w (RelP b S (CP.relation S.data.toList p).1.op (CP.relation S.data.toList p).1.md (CP.relation S.data.toList p).1.neg ((CP.relation S.data.toList p).1.sp, (CP.relation S.data.toList p).2) w) := by
  have HPK := Lib.hid (fun W (g : Pq W b S p) => cpeek_any b S p W g)
  have HF := Lib.hid (fun W (g : Pq W b S (p.skip S.data.toList)) => cfail_any b S 3 _ W g)
  have HIX := Lib.hid (fun t W (g : MaxLen W) => index_any t W g)
  have HEND : Hid (∀ (tk : List UInt8) (op : Int) q, q.rel < 200000 → ∀ W n0 O (u1 u5 u6 u7 u8 u9 u10 u11 u12 u13 u14 u15 u16 u17 u18 u19 u20 u21 u22 u23 u24 u25 u26 u27 u28 u29 u30 u31 u32 u33 u34 u35 u36 u37 u38 u39 u40 u41 u42 u43 u44 u45 u46 u47 u48 u49 u50 u51 u52 u53 u54 u55 u56 u57 u58 u59 u60 u61 u62 u63 u64 u65 u66 u67 u68 u69 u70 u71 u72 : Value), CP.relation S.data.toList p = (let m := CP.next S.data.toList [37] (CP.take S.data.toList [bs tk] q.lim).2
      let a := if m.1 then CP.number S.data.toList (chk3 op) m.2 else (0, m.2)
      let t := CP.take S.data.toList [bs [61], bs [33, 61]] a.2
      let l := CP.spans S.data.toList op 6 [] t.2
      ((⟨op, a.1, decide (t.1 = [33, 61]), l.1⟩ : Rel), l.2)) → Pq W b S q → Cel W O 3 [.int .i64 op] → Cel W n0 94 [.int .i64 0, .int .i64 0, .bool false, .slice none 0 0] → O ≠ b → n0 ≠ b → w.heap.size ≤ O → w.heap.size ≤ n0 → Kp (oneP b) w W → (relC 5).wp Tryz.prog (bodyPost Tryz.prog Tryz.f333 (RelP b S op (CP.relation S.data.toList p).1.md (CP.relation S.data.toList p).1.neg ((CP.relation S.data.toList p).1.sp, (CP.relation S.data.toList p).2) w)) ⟨#[.pointer (some ⟨b, 0, none⟩), u1, .pointer (some ⟨n0, 0, none⟩), .string (bs tk), .pointer (some ⟨O, 0, none⟩), u5, u6, u7, u8, u9, u10, u11, u12, u13, u14, u15, u16, u17, u18, u19, u20, u21, u22, u23, u24, u25, u26, u27, u28, u29, u30, u31, u32, u33, u34, u35, u36, u37, u38, u39, u40, u41, u42, u43, u44, u45, u46, u47, u48, u49, u50, u51, u52, u53, u54, u55, u56, u57, u58, u59, u60, u61, u62, u63, u64, u65, u66, u67, u68, u69, u70, u71, u72], []⟩ W) :=
    fun tk op q hq W n0 O u1 u5 u6 u7 u8 u9 u10 u11 u12 u13 u14 u15 u16 u17 u18 u19 u20 u21 u22 u23 u24 u25 u26 u27 u28 u29 u30 u31 u32 u33 u34 u35 u36 u37 u38 u39 u40 u41 u42 u43 u44 u45 u46 u47 u48 u49 u50 u51 u52 u53 u54 u55 u56 u57 u58 u59 u60 u61 u62 u63 u64 u65 u66 u67 u68 u69 u70 u71 u72 hres g gO gR hOb hRb hOw hRw hk => rel_5 b S op tk q hq w W n0 O u1 u5 u6 u7 u8 u9 u10 u11 u12 u13 u14 u15 u16 u17 u18 u19 u20 u21 u22 u23 u24 u25 u26 u27 u28 u29 u30 u31 u32 u33 u34 u35 u36 u37 u38 u39 u40 u41 u42 u43 u44 u45 u46 u47 u48 u49 u50 u51 u52 u53 u54 u55 u56 u57 u58 u59 u60 u61 u62 u63 u64 u65 u66 u67 u68 u69 u70 u71 u72 g gO gR hOb hRb hOw hRw hk _ hres.symm
  have HV : Hid (CP.relation S.data.toList p = (let m := CP.next S.data.toList [37] (CP.take S.data.toList [bs (tokI S.data.toList p.pos)] (CP.lim (if decide ((tokI S.data.toList p.pos).length = 1) && !decide (Lib.index lettersC (tokI S.data.toList p.pos) < 1) then p.skip S.data.toList else (p.skip S.data.toList).fail 3))).2
      let a := if m.1 then CP.number S.data.toList (chk3 (Lib.index lettersC (tokI S.data.toList p.pos))) m.2 else (0, m.2)
      let t := CP.take S.data.toList [bs [61], bs [33, 61]] a.2
      let l := CP.spans S.data.toList (Lib.index lettersC (tokI S.data.toList p.pos)) 6 [] t.2
      ((⟨Lib.index lettersC (tokI S.data.toList p.pos), a.1, decide (t.1 = [33, 61]), l.1⟩ : Rel), l.2))) := rfl
  have HOP : Hid ((CP.relation S.data.toList p).1.op = Lib.index lettersC (tokI S.data.toList p.pos)) := rfl
  have HFR : Hid (((p.skip S.data.toList).fail 3).rel < 200000) := by
    unfold CP.fail
    split <;> exact hrel
  have HSR : Hid ((p.skip S.data.toList).rel < 200000) := hrel
  unfold PqP at HPK HF
  have HP := Lib.hid h
  have HM := Lib.hid hM
  have hlb := h.lt
  clear h hM hrel
  generalize CP.relation S.data.toList p = res at *
  have hsz := bs_size (tokI S.data.toList p.pos)
  generalize tokI S.data.toList p.pos = tk at *
  have HIX := Lib.hid (HIX.out (bs tk))
  rw [bs_data] at HIX
  generalize Lib.index lettersC tk = op at *
  generalize p.skip S.data.toList = q at *
  obtain ⟨n0, hn0⟩ : ∃ n0, w.heap.size = n0 := ⟨_, rfl⟩
  have HP0 := Lib.hid (HP.out.below (Bel.alloc (Bel.refl w) (.cells #[.int .i64 0, .int .i64 0, .bool false, .slice none 0 0] 94)))
  have HR0 := Lib.hid (Cel.new w [.int .i64 0, .int .i64 0, .bool false, .slice none 0 0] 94)
  have HK0 := Lib.hid ((Kp.refl (oneP b) w).alloc (.cells #[.int .i64 0, .int .i64 0, .bool false, .slice none 0 0] 94))
  have HN := Lib.hid hn0
  rw [hn0] at hlb HR0
  have hRb : n0 ≠ b := by omega
  rw [HOP.out]
  go_enter Tryz.func333, Tryz.ntmps333
  go_wp2_with fail
  refine (HPK.out _ HP0.out).mono ?_
  rintro _ w1 ⟨rfl, hpc, hkp⟩
  have HP1 := Lib.hid hpc
  have HR1 := Lib.hid (HR0.out.kp hkp (oneP_ne hRb))
  have HK1 := Lib.hid (HK0.out.trans hkp)
  have HM1 := Lib.hid (HM.out.kp HP.out HK1.out)
  clear hpc hkp HP0 HR0 HK0 HPK HM HP
  go_wp2_with fail
  refine (HIX.out _ HM1.out).mono ?_
  rintro _ _ ⟨rfl, rfl⟩
  have hRl : n0 < w1.heap.size := HR1.out.lt
  have hbl : b < w1.heap.size := HP1.out.lt
  obtain ⟨O, hO⟩ : ∃ O, w1.heap.size = O := ⟨_, rfl⟩
  have HP2 := Lib.hid (HP1.out.below (Bel.alloc (Bel.refl w1) (.cells #[.int .i64 op] 3)))
  have HR2 := Lib.hid (HR1.out.below (Bel.alloc (Bel.refl w1) (.cells #[.int .i64 op] 3)))
  have HO2 := Lib.hid (Cel.new w1 [.int .i64 op] 3)
  have HK2 := Lib.hid (HK1.out.alloc (.cells #[.int .i64 op] 3))
  have HS2 : Hid (w1.heap.size ≤ (w1.alloc (.cells #[.int .i64 op] 3)).heap.size) := by simp [Hid]
  rw [hO] at HO2 hRl hbl HS2
  have hOb : O ≠ b := by omega
  have hOw : w.heap.size ≤ O := by rw [← hO]; exact HK1.out.size
  have hRw : w.heap.size ≤ n0 := by omega
  clear HIX HM1
  go_upto_region 3 with (fail)
  rename_i K9 hK9 K8 hK8
  have HK9 := Lib.hid hK9
  have HK8 := Lib.hid hK8
  clear hK8 hK9
  have hOl : O < (w1.alloc (.cells #[.int .i64 op] 3)).heap.size := HO2.out.lt
  have o0 := HO2.out.cell 0
  simp only [List.getElem?_cons_zero] at o0
  clear HP1 HR1 HK1
  generalize w1.alloc (.cells #[.int .i64 op] 3) = w2 at *
  by_cases h1 : tk.length = 1
  · rw [h1] at hsz
    simp only [h1, decide_true, Bool.true_and] at HV
    by_cases h2 : op < 1
    · have h2d : decide (op < 1) = true := decide_eq_true h2
      simp only [h2d, Bool.not_true, Bool.false_eq_true, if_false] at HV
      go_wp2_with fail
      refine HK8.out _ _ ?_
      go_wp2_with fail
      refine (HF.out _ HP2.out).mono ?_
      rintro _ w3 ⟨rfl, hpc, hkp⟩
      have HO3 := Lib.hid (HO2.out.kp hkp (oneP_ne hOb))
      have HR3 := Lib.hid (HR2.out.kp hkp (oneP_ne hRb))
      have HK3 := Lib.hid (HK2.out.trans hkp)
      have HP3 := Lib.hid hpc
      clear hpc hkp
      go_wp2_with fail
      refine HK9.out _ _ ?_
      exact HEND.out tk op (q.fail 3) HFR.out _ n0 O _ _ _ _ _ _ _ _ _ _ _ _ _ _ _ _ _ _ _ _ _ _ _ _ _ _ _ _ _ _ _ _ _ _ _ _ _ _ _ _ _ _ _ _ _ _ _ _ _ _ _ _ _ _ _ _ _ _ _ _ _ _ _ _ _ _ _ _ _ HV.out HP3.out HO3.out HR3.out hOb hRb hOw hRw HK3.out
    · have h2d : decide (op < 1) = false := decide_eq_false h2
      simp only [h2d, Bool.not_false, if_true] at HV
      go_wp2_with fail
      refine HK8.out _ _ ?_
      go_wp2_with fail
      refine HK9.out _ _ ?_
      exact HEND.out tk op q HSR.out _ n0 O _ _ _ _ _ _ _ _ _ _ _ _ _ _ _ _ _ _ _ _ _ _ _ _ _ _ _ _ _ _ _ _ _ _ _ _ _ _ _ _ _ _ _ _ _ _ _ _ _ _ _ _ _ _ _ _ _ _ _ _ _ _ _ _ _ _ _ _ _ HV.out HP2.out HO2.out HR2.out hOb hRb hOw hRw HK2.out

  · have hz1 : ((tk.length : Int) == 1) = false := by simp; omega
    have hz2 : ((tk.length : Int) != 1) = true := by rw [bne, hz1]; rfl
    simp only [h1, decide_false, Bool.false_and, Bool.false_eq_true, if_false] at HV
    go_wp2_with fail
    refine HK8.out _ _ ?_
    go_wp2_with fail
    refine (HF.out _ HP2.out).mono ?_
    rintro _ w3 ⟨rfl, hpc, hkp⟩
    have HO3 := Lib.hid (HO2.out.kp hkp (oneP_ne hOb))
    have HR3 := Lib.hid (HR2.out.kp hkp (oneP_ne hRb))
    have HK3 := Lib.hid (HK2.out.trans hkp)
    have HP3 := Lib.hid hpc
    clear hpc hkp
    go_wp2_with fail
    refine HK9.out _ _ ?_
    exact HEND.out tk op (q.fail 3) HFR.out _ n0 O _ _ _ _ _ _ _ _ _ _ _ _ _ _ _ _ _ _ _ _ _ _ _ _ _ _ _ _ _ _ _ _ _ _ _ _ _ _ _ _ _ _ _ _ _ _ _ _ _ _ _ _ _ _ _ _ _ _ _ _ _ _ _ _ _ _ _ _ _ HV.out HP3.out HO3.out HR3.out hOb hRb hOw hRw HK3.out
end Go.Proofs.YtmleeodfmmpdgaaGreatDoor
/- Data in blocks of given types: what is told there stays while other blocks are written; rows that grow, with what hangs on them. -/
namespace Go.Proofs.YtmleeodfmmpdgaaGreatDoor
open Go.RowKit
/-- the type of a block's cells -/
def tyAt (w : World) (k : Nat) : Option TypeId :=
  match w.heap[k]? with
  | some (.cells _ T _) => some T
  | _ => none
def seeP (base : Nat) (ts : List TypeId) (w : World) (k : Nat) : Bool := decide (k < base) || !((tyAt w k).elim false fun T => ts.contains T)
/-- the world with the blocks from base on, of the given types -/
def see (base : Nat) (ts : List TypeId) (w : World) : World := hide (seeP base ts w) w
theorem seeP_no {base : Nat} {ts : List TypeId} {w : World} {k : Nat} (h : seeP base ts w k = false) : base ≤ k ∧ ∃ T, tyAt w k = some T ∧ T ∈ ts := by
  unfold seeP at h
  rw [Bool.or_eq_false_iff, decide_eq_false_iff_not, Bool.not_eq_false'] at h
  refine ⟨by omega, ?_⟩
  cases ht : tyAt w k with
  | none => rw [ht] at h; exact absurd h.2 (by simp)
  | some T => rw [ht] at h; exact ⟨T, rfl, by simpa using h.2⟩
theorem seeP_of {base : Nat} {ts : List TypeId} {w : World} {k : Nat} {T : TypeId} (h1 : base ≤ k) (h2 : tyAt w k = some T) (h3 : T ∈ ts) : seeP base ts w k = false := by
  unfold seeP
  rw [Bool.or_eq_false_iff, decide_eq_false_iff_not, Bool.not_eq_false', h2]
  exact ⟨by omega, by simpa using h3⟩
theorem tyAt_cel {w : World} {b : Nat} {T : TypeId} {cs : List Value} (h : Cel w b T cs) : tyAt w b = some T := by
  unfold Cel at h
  simp [tyAt, h]
theorem tyAt_eq {w w' : World} {k : Nat} (h : w'.heap[k]? = w.heap[k]?) : tyAt w' k = tyAt w k := by
  unfold tyAt
  rw [h]
/-- the blocks of the given types are as they were -/
def KpT (base : Nat) (ts : List TypeId) (w w' : World) : Prop := ∀ k, base ≤ k → k < w.heap.size → ∀ T, tyAt w k = some T → T ∈ ts → w'.heap[k]? = w.heap[k]?
theorem KpT.refl (base : Nat) (ts : List TypeId) (w : World) : KpT base ts w w := fun _ _ _ _ _ _ => rfl
theorem KpT.le {base base' : Nat} {ts ts' : List TypeId} {w w' : World} (h : KpT base ts w w') (hb : base ≤ base') (ht : ∀ T, T ∈ ts' → T ∈ ts) : KpT base' ts' w w' :=
  fun k h1 h2 T h3 h4 => h k (by omega) h2 T h3 (ht T h4)
theorem lt_of_tyAt {w : World} {k : Nat} {T : TypeId} (h : tyAt w k = some T) : k < w.heap.size := by
  rcases Nat.lt_or_ge k w.heap.size with g | g
  · exact g
  · rw [tyAt, Array.getElem?_eq_none g] at h
    cases h
theorem KpT.trans {base : Nat} {ts : List TypeId} {a b c : World} (h : KpT base ts a b) (k : KpT base ts b c) : KpT base ts a c := fun i h1 h2 T h3 h4 => by
  have e := h i h1 h2 T h3 h4
  have t : tyAt b i = some T := (tyAt_eq e).trans h3
  exact (k i h1 (lt_of_tyAt t) T t h4).trans e
theorem Kp.kpt {P : Nat → Bool} {w w' : World} (h : Kp P w w') {base : Nat} {ts : List TypeId} (hP : ∀ k T, base ≤ k → P k = true → tyAt w k = some T → T ∉ ts) : KpT base ts w w' := fun k h1 h2 T h3 h4 =>
  h.block k h2 (by
    cases hp : P k with
    | false => rfl
    | true => exact absurd h4 (hP k T h1 hp h3))
theorem Kp.kptO {b : Nat} {w w' : World} (h : Kp (oneP b) w w') {T : TypeId} {cs : List Value} (hc : Cel w b T cs) {base : Nat} {ts : List TypeId} (hT : T ∉ ts) : KpT base ts w w' :=
  h.kpt fun k U _ hk ht => by
    have : k = b := of_decide_eq_true hk
    subst this
    rw [tyAt_cel hc] at ht
    injection ht with ht
    rwa [← ht]
theorem KpT.below {w w' : World} (h : Below w.heap.size w w') (base : Nat) (ts : List TypeId) : KpT base ts w w' := fun k _ h2 _ _ _ => h.block k h2
theorem own_ty {w : World} {base sz : Nat} {E : TypeId} {v : Value} {n : Nat} {xs : List Value} (h : w.ownsRow base E sz v n xs) {k : Nat} (hk : v.ownBlock = some k) : tyAt w k = some E := by
  rcases h.2 with ⟨h2, _⟩ | ⟨g, cap, cur, h1, h2, h3, h4⟩
  · rw [h2] at hk; cases hk
  · rw [h1] at hk
    injection hk with hk
    have hk : g = k := hk
    subst hk
    simp [tyAt, h3]
theorem grown_kpt {w w' : World} {v : Value} (hg : w.grownBy w' v.ownBlock) {base sz : Nat} {E : TypeId} {n : Nat} {xs : List Value} (h : w.ownsRow base E sz v n xs) (base' : Nat) {ts : List TypeId} (hE : E ∉ ts) : KpT base' ts w w' := fun k _ h2 T h3 h4 =>
  hg.block k h2 (fun e => by
    have := own_ty h e.symm
    rw [h3] at this
    injection this with this
    exact hE (this ▸ h4))
theorem KpT.grown {base : Nat} {ts : List TypeId} {a w w' : World} (h : KpT base ts a w) {row : Option Nat} (hg : w.grownBy w' row) (hr : ∀ k, row = some k → a.heap.size ≤ k) : KpT base ts a w' := fun k h1 h2 T h3 h4 => by
  have e := h k h1 h2 T h3 h4
  exact (hg.block k (lt_of_tyAt ((tyAt_eq e).trans h3)) (fun g => by have := hr k g.symm; omega)).trans e
theorem see_sub {base : Nat} {ts : List TypeId} {w w' : World} (h : KpT base ts w w') : Sub (see base ts w) (see base ts w') := fun p v hv => by
  obtain ⟨h1, h2⟩ := hide_cell hv
  obtain ⟨hb, T, ht, hm⟩ := seeP_no h1
  have e := h _ hb (lt_of_tyAt ht) T ht hm
  have hn := seeP_of (w := w') hb ((tyAt_eq e).trans ht) hm
  show (hide (seeP base ts w') w').cell? p = some v
  rw [World.cell?_of_block (hide_not hn), World.cell?_of_block e]
  exact h2
theorem see_le {base base' : Nat} {ts ts' : List TypeId} (w : World) (hb : base' ≤ base) (ht : ∀ T, T ∈ ts → T ∈ ts') : Sub (see base ts w) (see base' ts' w) := fun p v hv => by
  obtain ⟨h1, h2⟩ := hide_cell hv
  obtain ⟨hb', T, h3, hm⟩ := seeP_no h1
  have hn := seeP_of (base := base') (ts := ts') (w := w) (by omega) h3 (ht T hm)
  show (hide (seeP base' ts' w) w).cell? p = some v
  rw [World.cell?_of_block (hide_not hn)]
  exact h2
theorem see_all (base : Nat) (ts : List TypeId) (w : World) : Sub (see base ts w) w := sub_hide _ _
theorem own_see {w : World} {base sz : Nat} {E : TypeId} {v : Value} {n : Nat} {xs : List Value} (h : w.ownsRow base E sz v n xs) {ts : List TypeId} (hE : E ∈ ts) : (see base ts w).ownsRow base E sz v n xs := by
  refine ⟨h.1, ?_⟩
  rcases h.2 with h2 | ⟨g, cap, cur, h1, h2, h3, h4⟩
  · exact .inl h2
  · refine .inr ⟨g, cap, cur, h1, h2, ?_, h4⟩
    have ht : tyAt w g = some E := by simp [tyAt, h3]
    show (hide (seeP base ts w) w).heap[g]? = _
    rw [hide_not (seeP_of h2 ht hE)]
    exact h3
theorem own_kpt {w w' : World} {base sz : Nat} {E : TypeId} {v : Value} {n : Nat} {xs : List Value} (h : w.ownsRow base E sz v n xs) {ts : List TypeId} (hE : E ∈ ts) (k : KpT base ts w w') : w'.ownsRow base E sz v n xs := by
  refine ⟨h.1, ?_⟩
  rcases h.2 with h2 | ⟨g, cap, cur, h1, h2, h3, h4⟩
  · exact .inl h2
  · have ht : tyAt w g = some E := by simp [tyAt, h3]
    exact .inr ⟨g, cap, cur, h1, h2, (k g h2 (lt_of_tyAt ht) E ht hE).trans h3, h4⟩
section
variable {α : Type} {E : TypeId} {k : Nat} {C : World → (Nat → Value) → α → Prop} {base : Nat} {ts : List TypeId} {w w' : World} {v v' : Value} {l : List α}
/-- a row of one's own that reads as a list; what hangs on its elements lies in blocks of other types -/
def Grow (E : TypeId) (k : Nat) (C : World → (Nat → Value) → α → Prop) (base : Nat) (ts : List TypeId) (w : World) (v : Value) (l : List α) : Prop :=
  ∃ f : Nat → Nat → Value, w.ownsRow base E k v l.length (flat k f l.length) ∧ ∀ i x, l[i]? = some x → C (see base ts w) (f i) x
theorem Grow.nil (E : TypeId) (k : Nat) (C : World → (Nat → Value) → α → Prop) (base : Nat) (ts : List TypeId) (w : World) : Grow E k C base ts w (.slice none 0 0) [] :=
  ⟨fun _ _ => undef, ⟨by simp [flat], .inl ⟨rfl, rfl⟩⟩, fun i x h => by simp at h⟩
theorem Grow.shape (h : Grow E k C base ts w v l) : ∃ ad c, v = .slice ad l.length c := by
  obtain ⟨f, h, _⟩ := h
  exact own_shape h
theorem Grow.keep (h : Grow E k C base ts w v l) (hC : ∀ a b x y, Sub a b → C a x y → C b x y) (hk : KpT base (E :: ts) w w') : Grow E k C base ts w' v l := by
  obtain ⟨f, h1, h2⟩ := h
  exact ⟨f, own_kpt h1 List.mem_cons_self hk, fun i x hx => hC _ _ _ _ (see_sub (hk.le (Nat.le_refl _) fun T hT => List.mem_cons_of_mem _ hT)) (h2 i x hx)⟩
theorem Grow.rows (h : Grow E k C base ts w v l) (hC : ∀ a b x y, Sub a b → C a x y → C b x y) (hl : l.length ≤ 140737488351232) : RowsOf k C (see base (E :: ts) w) v l := by
  obtain ⟨f, h1, h2⟩ := h
  obtain ⟨ad, c, rfl⟩ := own_shape h1
  obtain ⟨b, g1, g2, g3, _⟩ := own_rw (own_see h1 (ts := E :: ts) List.mem_cons_self)
  exact ⟨ad, c, f, b, 0, rfl, g1, g2, g3, hl, fun i x hx => hC _ _ _ _ (see_le w (Nat.le_refl _) fun T hT => List.mem_cons_of_mem _ hT) (h2 i x hx)⟩
/-- one more element -/
theorem Grow.snoc {f : Nat → Nat → Value} (h : ∀ i x, l[i]? = some x → C (see base ts w) (f i) x) (hC : ∀ a b x y, Sub a b → C a x y → C b x y) (hs : KpT base ts w w') (g : Nat → Nat → Value)
    (ho : w'.ownsRow base E k v' (l.length + 1) (flat k f l.length ++ flat k g 1)) {x : α} (hx : C (see base ts w) (g 0) x) : Grow E k C base ts w' v' (l ++ [x]) := by
  have hlen : (l ++ [x]).length = l.length + 1 := by simp
  refine ⟨fun i j => if i < l.length then f i j else g (i - l.length) j, ?_, fun i y hy => ?_⟩
  · rw [hlen, ← flat_append]
    exact ho
  · rcases Nat.lt_or_ge i l.length with hi | hi
    · rw [List.getElem?_append_left hi] at hy
      have := hC _ _ _ _ (see_sub hs) (h i y hy)
      simpa only [hi, if_true] using this
    · rw [List.getElem?_append_right hi] at hy
      obtain e0 : i - l.length = 0 := by
        rcases Nat.eq_zero_or_pos (i - l.length) with e | e
        · exact e
        · rw [List.getElem?_eq_none (by simp; omega)] at hy
          cases hy
      rw [e0] at hy
      simp only [List.getElem?_cons_zero, Option.some.injEq] at hy
      subst hy
      have := hC _ _ _ _ (see_sub hs) hx
      simpa only [Nat.not_lt.2 hi, if_false, e0] using this
end
end Go.Proofs.YtmleeodfmmpdgaaGreatDoor
/- Conditions, the program's parser: what a condition is, in plain. -/
namespace Go.Proofs.YtmleeodfmmpdgaaGreatDoor
open Go.RowKit
theorem CP.fail_rel (e : Int) (p : CP) : (p.fail e).rel = p.rel := by unfold CP.fail; split <;> rfl
theorem CP.take_rel (s : List UInt8) (l : List ByteArray) (p : CP) : (p.take s l).2.rel = p.rel := by
  have key : ∀ q : CP, q.rel = p.rel → (if q.err = 0 then (tokI s p.pos, q.adv (tokI s p.pos).length) else ([], q)).2.rel = p.rel := fun q hq => by
    split <;> exact hq
  refine key (if l.contains (bs (tokI s p.pos)) then p.skip s else (p.skip s).fail 3) ?_
  split
  · rfl
  · rw [CP.fail_rel]; rfl
theorem CP.next_rel (s t : List UInt8) (p : CP) : (p.next s t).2.rel = p.rel := by
  unfold CP.next
  split
  · split <;> rfl
  · rfl
theorem CP.num_rel (s : List UInt8) (chk : Int → Int) (p : CP) : (p.number s chk).2.rel = p.rel := by
  have key : ∀ q : CP, q.rel = p.rel → (if q.err = 0 then (if chk (decC (tokI s p.pos)) = 0 then ((decC (tokI s p.pos) : Int), q.adv (tokI s p.pos).length) else (0, q.fail (chk (decC (tokI s p.pos))))) else (0, q)).2.rel = p.rel := fun q hq => by
    split
    · split
      · exact hq
      · show (q.fail _).rel = _
        rw [CP.fail_rel]; exact hq
    · exact hq
  refine key (if numC (tokI s p.pos) then p.skip s else (p.skip s).fail 3) ?_
  split
  · rfl
  · rw [CP.fail_rel]; rfl
theorem CP.span_rel (s : List UInt8) (op : Int) (count : Nat) (p : CP) : (CP.span s op count p).2.rel = p.rel := by
  unfold CP.span
  dsimp only
  split
  · rw [CP.num_rel, CP.next_rel, CP.num_rel]
  · rw [CP.next_rel, CP.num_rel]
theorem CP.spans_rel (s : List UInt8) (op : Int) : ∀ (n : Nat) (l : List (Int × Int)) (p : CP), (CP.spans s op n l p).2.rel = p.rel
  | 0, _, _ => rfl
  | n + 1, l, p => by
    rw [CP.spans]
    split
    · split
      · rw [CP.spans_rel s op n, CP.next_rel, CP.span_rel]
      · show (CP.next s [44] (CP.span s op l.length p).2).2.rel = p.rel
        rw [CP.next_rel, CP.span_rel]
    · rfl
theorem CP.lim_rel (p : CP) : p.lim.rel = p.rel + 1 := by
  unfold CP.lim
  split
  · rw [CP.fail_rel]
  · rfl
theorem CP.head_rel (s : List UInt8) (p : CP) : (p.relHead s).rel = p.rel + 1 := by
  show (CP.lim _).rel = _
  rw [CP.lim_rel]
  split
  · rfl
  · rw [CP.fail_rel]; rfl
theorem CP.relation_rel (s : List UInt8) (p : CP) : (CP.relation s p).2.rel = p.rel + 1 := by
  unfold CP.relation
  dsimp only
  rw [CP.spans_rel, CP.take_rel]
  split
  · rw [CP.num_rel, CP.next_rel, CP.take_rel, CP.head_rel]
  · rw [CP.next_rel, CP.take_rel, CP.head_rel]
theorem CP.take_bad {s : List UInt8} {l : List ByteArray} {p : CP} (he : p.err ≠ 0) : (p.take s l).2.err ≠ 0 := by rw [CP.take_err he]; exact he
theorem CP.next_bad {s t : List UInt8} {p : CP} (he : p.err ≠ 0) : (p.next s t).2.err ≠ 0 := by rw [CP.next_err he]; exact he
theorem CP.head_eq (s : List UInt8) (p : CP) : p.relHead s = CP.lim (if decide ((tokI s p.pos).length = 1) && !decide (Lib.index lettersC (tokI s p.pos) < 1) then p.skip s else (p.skip s).fail 3) := rfl
theorem CP.lim_bad {p : CP} (h : 6 < p.rel + 1) : p.lim.err ≠ 0 := by
  unfold CP.lim
  rw [if_pos h]
  exact CP.fail_e (by decide) _
theorem CP.head_bad {s : List UInt8} {p : CP} (h : 6 < p.rel + 1) : (p.relHead s).err ≠ 0 := by
  rw [CP.head_eq]
  refine CP.lim_bad ?_
  split
  · exact h
  · rw [CP.fail_rel]; exact h
theorem CP.a_bad {s : List UInt8} {chk : Int → Int} {m : Bool × CP} (h : m.2.err ≠ 0) : (if m.1 then CP.number s chk m.2 else (0, m.2)).2.err ≠ 0 := by
  split
  · exact CP.num_grow h
  · exact h
/-- more than six relations are an error -/
theorem CP.relation_lim {s : List UInt8} {p : CP} (h : (CP.relation s p).2.err = 0) : p.rel + 1 ≤ 6 := by
  rcases Nat.lt_or_ge 6 (p.rel + 1) with hg | hg
  · exfalso
    have h0 : (p.relHead s).err ≠ 0 := CP.head_bad hg
    have h1 := CP.take_bad (s := s) (l := [bs (tokI s p.pos)]) h0
    have h2 := CP.next_bad (s := s) (t := [37]) h1
    have h3 := CP.a_bad (s := s) (chk := chk3 (Lib.index lettersC (tokI s p.pos))) h2
    have h4 := CP.take_bad (s := s) (l := [bs [61], bs [33, 61]]) h3
    unfold CP.relation at h
    dsimp only at h
    rw [CP.spans_stop (s := s) (op := Lib.index lettersC (tokI s p.pos)) (l := []) 6 h4] at h
    generalize (CP.take s [bs [61], bs [33, 61]] _).2 = q at h h4
    exact h4 h
  · exact hg
def andB : List UInt8 := [97, 110, 100]
def orB : List UInt8 := [111, 114]
/-- relations with "and" between them -/
def CP.conj (s : List UInt8) : Nat → List Rel → CP → List Rel × CP
  | 0, l, p => (l, p)
  | n + 1, l, p =>
    if p.err = 0 then
      (if (CP.next s andB (CP.relation s p).2).1 then CP.conj s n (l ++ [(CP.relation s p).1]) (CP.next s andB (CP.relation s p).2).2
       else (l ++ [(CP.relation s p).1], (CP.next s andB (CP.relation s p).2).2))
    else (l, p)
/-- and "or" between those -/
def CP.disj (s : List UInt8) : Nat → List (List Rel) → CP → List (List Rel) × CP
  | 0, l, p => (l, p)
  | n + 1, l, p =>
    if p.err = 0 then
      (if (CP.next s orB (CP.conj s 8 [] p).2).1 then CP.disj s n (l ++ [(CP.conj s 8 [] p).1]) (CP.next s orB (CP.conj s 8 [] p).2).2
       else (l ++ [(CP.conj s 8 [] p).1], (CP.next s orB (CP.conj s 8 [] p).2).2))
    else (l, p)
/-- a condition, its place and its error -/
def condParse (s : List UInt8) : List (List Rel) × Int × Int :=
  let d := CP.disj s 8 [] ⟨0, 0, 0⟩
  let q := d.2.skip s
  let q2 := if q.pos < s.length then q.fail 3 else q
  if q2.err = 0 then (d.1, 0, 0) else ([], (q2.pos : Int), q2.err)
theorem CP.conj_stop {s : List UInt8} {l : List Rel} {p : CP} (n : Nat) (he : p.err ≠ 0) : CP.conj s n l p = (l, p) := by
  cases n with
  | zero => rfl
  | succ n => rw [CP.conj, if_neg he]
theorem CP.disj_stop {s : List UInt8} {l : List (List Rel)} {p : CP} (n : Nat) (he : p.err ≠ 0) : CP.disj s n l p = (l, p) := by
  cases n with
  | zero => rfl
  | succ n => rw [CP.disj, if_neg he]
theorem spV_flat (l : List (Int × Int)) : spV l = flat 2 (fun i j => if j = 0 then .int .i64 (l.getD i (0, 0)).1 else .int .i64 (l.getD i (0, 0)).2) l.length := by
  have hr : l = (List.range l.length).map fun i => l.getD i (0, 0) := by
    apply List.ext_getElem
    · simp
    · intro i h1 h2
      simp [List.getD_eq_getElem?_getD, List.getElem?_eq_getElem h1]
  have : spV l = spV ((List.range l.length).map fun i => l.getD i (0, 0)) := congrArg spV hr
  rw [this]
  unfold spV flat
  rw [List.flatMap_map]
  rfl
/-- what a read relation is in memory -/
theorem RelP.rel {b : Nat} {S : ByteArray} {op md : Int} {neg : Bool} {res : List (Int × Int) × CP} {w0 w' : World} {e : Ending} (h : RelP b S op md neg res w0 e w') (hl : res.1.length ≤ 1000) :
    ∃ ad c, e = .returned (.agg #[.int .i64 op, .int .i64 md, .bool neg, .slice ad res.1.length c]) ∧ RelC (see w0.heap.size [152] w') (fun j => (#[.int .i64 op, .int .i64 md, .bool neg, .slice ad res.1.length c] : Array Value).getD j undef) ⟨op, md, neg, res.1⟩ ∧ Pq w' b S res.2 ∧ Kp (oneP b) w0 w' := by
  obtain ⟨ad, c, rfl, h2, h3, h4⟩ := h
  refine ⟨ad, c, rfl, ⟨rfl, rfl, rfl, ?_⟩, h3, h4⟩
  have hf := spV_flat res.1
  rw [hf] at h2
  have g : Grow 152 2 SpanC w0.heap.size [] w' (.slice ad res.1.length c) res.1 := ⟨_, h2, fun i x hx => by
    have : res.1.getD i (0, 0) = x := by rw [List.getD_eq_getElem?_getD, hx]; rfl
    rw [this]
    exact ⟨rfl, rfl⟩⟩
  exact g.rows (fun _ _ _ _ _ h => h) (by omega)
/-- few relations as long as there is no error -/
def CP.few (p : CP) : Prop := p.rel ≤ 7 ∧ (p.err = 0 → p.rel ≤ 6)
theorem CP.few_rel {s : List UInt8} {p : CP} (h : p.few) (he : p.err = 0) : (CP.relation s p).2.few := by
  have := h.2 he
  refine ⟨by rw [CP.relation_rel]; omega, fun g => ?_⟩
  have := CP.relation_lim g
  rw [CP.relation_rel]
  exact this
theorem CP.next_e {s t : List UInt8} {p : CP} (h : (p.next s t).2.err = 0) : p.err = 0 := by
  by_cases he : p.err = 0
  · exact he
  · rw [CP.next_err he] at h; exact h
theorem CP.few_next {s t : List UInt8} {p : CP} (h : p.few) : (p.next s t).2.few := by
  refine ⟨by rw [CP.next_rel]; exact h.1, fun g => ?_⟩
  rw [CP.next_rel]
  exact h.2 (CP.next_e g)
theorem infoRl : (Tryz.prog.info? 94).map (fun i => (i.zero, i.size, i.bytes)) = some (some (.agg #[.int .i64 0, .int .i64 0, .bool false, .slice none 0 0]), 4, 48) := by kernel_rfl
theorem infoRls : (Tryz.prog.info? 91).map (fun i => (i.zero, i.size, i.bytes)) = some (some (.slice none 0 0), 1, 24) := by kernel_rfl
theorem rw_lit (w : World) (cs : Array Value) (T : TypeId) (k : Nat) (hk : cs.size = k) : Rw (w.alloc (.cells cs T)) (some ⟨w.heap.size, 0, none⟩) 1 k (fun _ j => cs.getD j undef) w.heap.size 0 :=
  ⟨by omega, fun _ => rfl, fun i j hi hj => by
    obtain rfl : i = 0 := by omega
    rw [Lib.cell_of_heap (heap_alloc_new w _)]
    simp only [Nat.zero_mul, Nat.zero_add]
    rw [Array.getD_eq_getD_getElem?, Array.getElem?_eq_getElem (by omega)]
    rfl⟩
theorem CP.spans_len (s : List UInt8) (op : Int) : ∀ (n : Nat) (l : List (Int × Int)) (p : CP), (CP.spans s op n l p).1.length ≤ l.length + n
  | 0, _, _ => Nat.le_refl _
  | n + 1, l, p => by
    rw [CP.spans]
    split
    · split
      · refine Nat.le_trans (CP.spans_len s op n _ _) ?_
        rw [List.length_append, List.length_singleton]; omega
      · rw [List.length_append, List.length_singleton]; omega
    · show l.length ≤ _
      omega
theorem CP.relation_len (s : List UInt8) (p : CP) : (CP.relation s p).1.sp.length ≤ 6 := by
  unfold CP.relation
  dsimp only
  refine Nat.le_trans (CP.spans_len s _ 6 [] _) ?_
  simp
end Go.Proofs.YtmleeodfmmpdgaaGreatDoor
/- Walks: conditions, the program's parser whole. -/
namespace Go.Proofs.YtmleeodfmmpdgaaGreatDoor
open Go.RowKit
attribute [local go_sem] Ext.cell Ext.frozen
attribute [local go_sem ↓] Go.wp_at_zero Go.wp_at_succ
def natI : Value → Nat
  | .int _ z => z.toNat
  | _ => 0
set_option maxRecDepth 20000 in
set_option maxHeartbeats 4000000 in
theorem cparse_any (S : ByteArray) (hS : S.size ≤ 200000) (w : World) (hM : MaxLen w) : Calls Tryz.prog 323 #[.string S] w fun e w' => ∃ v, e = .returned (.tuple #[v, .int .i64 (condParse S.data.toList).2.1, .int .i64 (condParse S.data.toList).2.2]) ∧ RowsOf 1 RelsC (see w.heap.size [91, 94, 152] w') v (condParse S.data.toList).1 ∧ Below w.heap.size w w' := by
  have mRl : ∀ a b x y, Sub a b → RelC a x y → RelC b x y := fun _ _ _ _ h g => g.sub h
  have mRls : ∀ a b x y, Sub a b → RelsC a x y → RelsC b x y := fun _ _ _ _ h g => g.sub h
  obtain ⟨b, hb⟩ : ∃ b, w.heap.size = b := ⟨_, rfl⟩
  rw [hb]
  have HS0 : Hid ((w.alloc (.cells #[.string S, .int .i64 0, .int .i64 0, .int .i64 0] 333)).heap.size = b + 1) := by rw [Hid, ← hb]; simp
  have HBL : Hid (Below b w (w.alloc (.cells #[.string S, .int .i64 0, .int .i64 0, .int .i64 0] 333))) := by rw [← hb]; exact Bel.alloc (Bel.refl w) _
  have HQ0 : Hid (Pq (w.alloc (.cells #[.string S, .int .i64 0, .int .i64 0, .int .i64 0] 333)) b S ⟨0, 0, 0⟩) := ⟨by rw [← hb]; exact heap_alloc_new w _, Nat.zero_le _, Nat.zero_le _, hS⟩
  have HM0 : Hid (MaxLen (w.alloc (.cells #[.string S, .int .i64 0, .int .i64 0, .int .i64 0] 333))) := by
    obtain ⟨m, hm⟩ := hM
    exact ⟨m, HBL.out.cell (by rw [← hb]; exact World.block_lt_of_cell? w _ hm) |>.trans hm⟩
  have HRE := Lib.hid (fun p hr W (g : Pq W b S p) gM => crelation_any b S p hr W g gM)
  have HNX := Lib.hid (fun t ht p W (g : Pq W b S p) => cnext_any b S t ht p W g)
  have HSK := Lib.hid (fun p W (g : Pq W b S p) => cskip_any b S p W g)
  have HFL := Lib.hid (fun p W (g : Pq W b S p) => cfail_any b S 3 p W g)
  unfold PqP at HNX HSK HFL
  have HV : Hid (condParse S.data.toList = (let d := CP.disj S.data.toList 8 [] ⟨0, 0, 0⟩
      let q := d.2.skip S.data.toList
      let q2 := if q.pos < S.data.toList.length then q.fail 3 else q
      if q2.err = 0 then (d.1, 0, 0) else ([], (q2.pos : Int), q2.err))) := rfl
  have HMX : Hid (∀ W, Kp (oneP b) (w.alloc (.cells #[.string S, .int .i64 0, .int .i64 0, .int .i64 0] 333)) W → MaxLen W) := fun W k => HM0.out.kp HQ0.out k
  clear hM HM0
  generalize condParse S.data.toList = fin at *
  obtain ⟨res, hres⟩ : ∃ res, CP.disj S.data.toList 8 [] ⟨0, 0, 0⟩ = res := ⟨_, rfl⟩
  rw [hres] at HV
  have HR0 := Lib.hid hres
  clear hres
  go_enter Tryz.func323, Tryz.ntmps323
  go_upto_region 2 with (fail)
  generalize w.alloc (.cells #[.string S, .int .i64 0, .int .i64 0, .int .i64 0] 333) = w0 at *
  go_wp2_with fail
  go_loopw [6, 7, 8, 9] (fun u6 u7 u8 u9 wr => ∃ (c : List (List Rel)) (q : CP) (m : Bool) (n : Nat), u7 = .bool m ∧ c.length ≤ q.rel ∧ q.few ∧ 8 ≤ n + q.rel ∧ (m = true → CP.disj S.data.toList n c q = res) ∧ (m = false → (c, q) = res) ∧ Grow 91 1 RelsC b [94, 152] wr u6 c ∧ Pq wr b S q ∧ Kp (oneP b) w0 wr) (fun u6 u7 u8 u9 wr => boolN u7 * (10 - natI ((wr.cell? ⟨b, 2, none⟩).getD undef)))
  case atStart => exact ⟨[], ⟨0, 0, 0⟩, true, 8, rfl, Nat.le_refl _, ⟨by decide, fun _ => by decide⟩, Nat.le_refl _, fun _ => HR0.out, fun h => (by cases h), Grow.nil _ _ _ _ _ _, HQ0.out, Kp.refl _ _⟩
  case round =>
    obtain ⟨c, q, m, n, rfl, hcl, hfew, hn, hmt, hmf, hc, hq, hkp⟩ := hrel
    obtain ⟨ad0, k0, rfl⟩ := hc.shape
    have HC := Lib.hid hc
    have HQ := Lib.hid hq
    have HK := Lib.hid hkp
    have HMT := Lib.hid hmt
    have HMF := Lib.hid hmf
    have HFQ := Lib.hid hfew
    obtain ⟨_, _, c2, c3, _, _, _⟩ := hq.cells
    have hlb := hq.lt
    have HM0 : Hid (natI ((wr.cell? ⟨b, 2, none⟩).getD undef) = (q.rel : Int).toNat) := by rw [Hid, c2]; rfl
    clear hc hq hkp hmt hmf hfew c2
    cases m with
    | false =>
      have HF := Lib.hid (HMF.out (by trivial))
      clear HMT HMF
      have HV2 := Lib.hid HV.out
      rw [← HF.out] at HV2
      simp only at HV2
      have HSK1 := Lib.hid (HSK.out q)
      have HFL1 := Lib.hid (HFL.out (CP.skip S.data.toList q))
      have hcn : c.length ≤ 7 := by have := HFQ.out.1; omega
      clear HV HF HSK HFL HNX HRE HM0 HFQ
      generalize CP.skip S.data.toList q = qs at *
      rw [ba_len] at HV2
      go_wp2_with fail
      refine (HSK1.out _ HQ.out).mono ?_
      rintro _ w1 ⟨rfl, hq1, hk1⟩
      have HC1 := Lib.hid (HC.out.keep mRls (hk1.kptO HQ.out.1 (by decide)))
      have HQ1 := Lib.hid hq1
      have HK1 := Lib.hid (HK.out.trans hk1)
      obtain ⟨d0, d1, _, d3, _, _, _⟩ := hq1.cells
      have hlb1 := hq1.lt
      clear hq1 hk1 HC HQ HK HSK1
      by_cases hp : qs.pos < S.size
      · rw [if_pos hp] at HV2
        have hpd : decide ((qs.pos : Int) < (S.size : Int)) = true := decide_eq_true (by omega)
        have HNE : Hid ((qs.fail 3).err ≠ 0) := CP.fail_e (by decide) _
        have HV3 := Lib.hid HV2.out
        rw [if_neg HNE.out] at HV3
        clear HV2
        generalize qs.fail 3 = qf at *
        go_wp2_with fail
        refine (HFL1.out _ HQ1.out).mono ?_
        rintro _ w2 ⟨rfl, hq2, hk2⟩
        have HQF := Lib.hid hq2
        have HKF := Lib.hid (HK1.out.trans hk2)
        clear hq2 hk2 HC1 HQ1 HK1 HFL1 d0 d1 d3 hlb1
        have hz1 : (qf.err == 0) = false := by simpa using HNE.out
        have hz2 : (qf.err != 0) = true := by rw [bne, hz1]; rfl
        obtain ⟨_, d1, _, d3, _, _, _⟩ := HQF.out.cells
        have hlb := HQF.out.lt
        go_upto_region 16 with (fail)
        refine wp_region_ext (by kernel_rfl) (by kernel_rfl) ?_
        repeat (go_big_quiet_step (fail))
        refine wpQuiet_nil ?_
        intro _ hw'
        obtain ⟨X9, hw''⟩ := hw'
        subst hw''
        have HKE := Lib.hid (HKF.out.trans (kp_below X9.2))
        go_wp2_with fail
        go_ret3
        exact ⟨.slice none 0 0, by rw [HV3.out]; rfl, by rw [HV3.out]; exact RowsOf.nil _ _ _, HBL.out.trans (HKE.out.below b (by rw [HS0.out]; omega) fun k hk => oneP_ne (by omega))⟩
      · rw [if_neg hp] at HV2
        have hpd : decide ((qs.pos : Int) < (S.size : Int)) = false := decide_eq_false (by omega)
        clear HFL1
        by_cases hqe : qs.err = 0
        · have HV3 := Lib.hid HV2.out
          rw [if_pos hqe] at HV3
          rw [hqe] at d3
          go_wp2_with fail
          go_ret3
          exact ⟨.slice ad0 c.length k0, by rw [HV3.out]; rfl, by rw [HV3.out]; exact HC1.out.rows mRls (by omega), HBL.out.trans (HK1.out.below b (by rw [HS0.out]; omega) fun k hk => oneP_ne (by omega))⟩
        · have HV3 := Lib.hid HV2.out
          rw [if_neg hqe] at HV3
          have HNE := Lib.hid hqe
          have HQF := Lib.hid HQ1.out
          have HKF := Lib.hid HK1.out
          clear d0 d1 d3 hlb1 HQ1 HK1 HC1 HV2 hqe
          have hz1 : (qs.err == 0) = false := by simpa using HNE.out
          have hz2 : (qs.err != 0) = true := by rw [bne, hz1]; rfl
          obtain ⟨_, d1, _, d3, _, _, _⟩ := HQF.out.cells
          have hlb := HQF.out.lt
          go_upto_region 16 with (fail)
          refine wp_region_ext (by kernel_rfl) (by kernel_rfl) ?_
          repeat (go_big_quiet_step (fail))
          refine wpQuiet_nil ?_
          intro _ hw'
          obtain ⟨X9, hw''⟩ := hw'
          subst hw''
          have HKE := Lib.hid (HKF.out.trans (kp_below X9.2))
          go_wp2_with fail
          go_ret3
          exact ⟨.slice none 0 0, by rw [HV3.out]; rfl, by rw [HV3.out]; exact RowsOf.nil _ _ _, HBL.out.trans (HKE.out.below b (by rw [HS0.out]; omega) fun k hk => oneP_ne (by omega))⟩
    | true =>
      have HDJ := Lib.hid (HMT.out (by trivial))
      clear HMT HMF
      by_cases he : q.err = 0
      · rw [he] at c3
        obtain ⟨n, rfl⟩ : ∃ k, n = k + 1 := ⟨n - 1, by have := HFQ.out.1; omega⟩
        have HS := Lib.hid HDJ.out
        rw [CP.disj, if_pos he] at HS
        obtain ⟨res1, hr1⟩ : ∃ r, CP.conj S.data.toList 8 [] q = r := ⟨_, rfl⟩
        rw [hr1] at HS
        have HR1 := Lib.hid hr1
        clear hr1 HDJ
        go_wp2_with fail
        clear c3
        obtain ⟨W0, rfl⟩ : ∃ W, W = wr := ⟨_, rfl⟩
        have hb2 : b ≤ W0.heap.size := by omega
        have hw0 : w0.heap.size ≤ W0.heap.size := HK.out.size
        go_loopw [8, 9] (fun u8 u9 wi => ∃ (l : List Rel) (q1 : CP) (mb : Bool) (n1 : Nat), u9 = .bool mb ∧ l.length + q.rel ≤ q1.rel ∧ q1.few ∧ 8 ≤ n1 + q1.rel ∧ (l = [] → mb = true ∧ q1.err = 0) ∧ (mb = true → CP.conj S.data.toList n1 l q1 = res1) ∧ (mb = false → (l, q1) = res1) ∧ Grow 94 4 RelC W0.heap.size [152] wi u8 l ∧ KpT b [91, 94, 152] W0 wi ∧ W0.heap.size ≤ wi.heap.size ∧ Pq wi b S q1 ∧ Kp (oneP b) w0 wi) (fun u8 u9 wi => boolN u9 * (10 - natI ((wi.cell? ⟨b, 2, none⟩).getD undef)))
        case atStart => exact ⟨[], q, true, 8, rfl, by simp, HFQ.out, by omega, fun _ => ⟨rfl, he⟩, fun _ => HR1.out, fun h => (by cases h), Grow.nil _ _ _ _ _ _, KpT.refl _ _ _, Nat.le_refl _, HQ.out, HK.out⟩
        case round =>
          obtain ⟨l, q1, mb, n1, rfl, hl1, hf1, hn1, hne, hmt, hmf, hg, ht, hsz, hq, hkp⟩ := hrel
          obtain ⟨ad1, k1, rfl⟩ := hg.shape
          clear HQ HK
          have HG := Lib.hid hg
          have HT := Lib.hid ht
          have HQ := Lib.hid hq
          have HK := Lib.hid hkp
          have HF := Lib.hid hf1
          have HNE := Lib.hid hne
          have HMT := Lib.hid hmt
          have HMF := Lib.hid hmf
          obtain ⟨_, _, i2, i3, _, _, _⟩ := hq.cells
          have hlb := hq.lt
          clear hg ht hq hkp hf1 hne hmt hmf
          cases mb with
          | false =>
            have HF1 := Lib.hid (HMF.out (by trivial))
            clear HMT HMF HRE
            have hl0 : l ≠ [] := by
              intro e
              obtain ⟨e1, e2⟩ := HNE.out e
              cases e1
            have hl2 : 1 ≤ l.length := by
              rcases l with _ | ⟨a, t⟩
              · exact absurd rfl hl0
              · simp
            have hf17 : q1.rel ≤ 7 := HF.out.1
            have HNX1 := Lib.hid (HNX.out orB (by decide) q1)
            have HQR : Hid ((CP.next S.data.toList orB q1).2.rel = q1.rel) := CP.next_rel _ _ _
            have HFEW : Hid ((CP.next S.data.toList orB q1).2.few) := CP.few_next HF.out
            have HQ2 := Lib.hid (HQ.out.below (Bel.alloc (Bel.refl wr) (.cells #[.slice ad1 l.length k1] 91)))
            have HG2 := Lib.hid (HG.out.keep mRl (KpT.below (Bel.alloc (Bel.refl wr) (.cells #[.slice ad1 l.length k1] 91)) _ _))
            have HC2 := Lib.hid ((HC.out.keep mRls HT.out).keep mRls (KpT.below (Bel.alloc (Bel.refl wr) (.cells #[.slice ad1 l.length k1] 91)) b _))
            have HK2 := Lib.hid (HK.out.alloc (.cells #[.slice ad1 l.length k1] 91))
            have HLIT := Lib.hid (rw_lit wr #[.slice ad1 l.length k1] 91 1 rfl)
            have HXL : Hid (RelsC (see b [94, 152] (wr.alloc (.cells #[.slice ad1 l.length k1] 91))) (fun j => (#[.slice ad1 l.length k1] : Array Value).getD j undef) l) := (HG2.out.rows mRl (by omega)).sub (see_le _ hb2 fun _ h => h) (fun _ _ h => h.sub (see_le _ hb2 fun _ h => h))
            obtain ⟨f0, hown0, hC0⟩ := HC2.out
            have HOWN := Lib.hid hown0
            have HC0 := Lib.hid hC0
            have hbs : b ≤ (wr.alloc (.cells #[.slice ad1 l.length k1] 91)).heap.size := by have := HQ2.out.lt; omega
            have HRS := Lib.hid HS.out
            rw [← HF1.out] at HRS
            simp only at HRS
            have HRS2 : Hid ((if (CP.next S.data.toList orB q1).1 then CP.disj S.data.toList n (c ++ [l]) (CP.next S.data.toList orB q1).2 else (c ++ [l], (CP.next S.data.toList orB q1).2)) = res) := HRS.out
            clear hown0 hC0 HRS HNE HF HG HC HT HK HQ HG2 HC2
            generalize CP.next S.data.toList orB q1 = nr at *
            obtain ⟨m2, q2⟩ := nr
            simp only at HNX1 HQR
            go_wp2_with (at_builtin; go_must (refine wpList_app_rows rfl (.tmp 38) (.tmp 40) rfl Tryz.underlying48 infoRls rfl (by omega) b ad0 c.length k0 (flat 1 f0 c.length) rfl HOWN.out (some ⟨wr.heap.size, 0, none⟩) 1 1 (fun _ j => (#[.slice ad1 l.length k1] : Array Value).getD j undef) wr.heap.size 0 rfl HLIT.out (fun h => by cases h) (fun i j _ hj => by (obtain rfl : j = 0 := (by omega)); rfl) (by unfold maxLen; omega) (by omega) hbs ?_); intro ad3 k3 w3 hown3 hg3; have HO3 := Lib.hid hown3; have HG3 := Lib.hid hg3; clear hown3 hg3)
            have hnb := own_nb HOWN.out HQ2.out.1 (by decide)
            have HQ3 : Hid (Pq w3 b S q1) := ⟨(HG3.out.block b HQ2.out.lt hnb).trans HQ2.out.1, HQ2.out.2⟩
            have HK3 : Hid (Kp (oneP b) w0 w3) := HK2.out.grown HG3.out (fun k hk => by
              have := (World.ownsRow.lt HOWN.out k hk).1
              rcases Nat.lt_or_ge b k with h | h
              · exact .inl (by rw [HS0.out]; omega)
              · exact .inr (decide_eq_true (by omega)))
            have HC3 : Hid (Grow 91 1 RelsC b [94, 152] w3 (.slice ad3 (c.length + 1) k3) (c ++ [l])) := Grow.snoc HC0.out mRls (grown_kpt HG3.out HOWN.out _ (by decide)) _ HO3.out HXL.out
            clear hnb HQ2 HOWN HC0 HO3 HG3 HK2 HXL HLIT
            go_wp2_with fail
            refine (HNX1.out _ HQ3.out).mono ?_
            rintro _ w4 ⟨rfl, hq4, hk4⟩
            have HC4 := Lib.hid (HC3.out.keep mRls (hk4.kptO HQ3.out.1 (by decide)))
            have HQ4 := Lib.hid hq4
            have HK4 := Lib.hid (HK3.out.trans hk4)
            clear hq4 hk4 HQ3 HC3 HK3
            go_wp2_with fail
            go_roundw
            case rel =>
              refine ⟨c ++ [l], q2, m2, n, rfl, by rw [HQR.out, List.length_append, List.length_singleton]; omega, HFEW.out, by rw [HQR.out]; omega, fun hm => ?_, fun hm => ?_, HC4.out, HQ4.out, HK4.out⟩
              · have := HRS2.out
                subst hm
                rw [if_pos rfl] at this
                exact this
              · have := HRS2.out
                subst hm
                rw [if_neg (by simp)] at this
                exact this
            case measure =>
              obtain ⟨_, _, e2, _, _, _, _⟩ := HQ4.out.cells
              rw [HM0.out, e2]
              show _ < 1 * (10 - ((q.rel : Int)).toNat)
              cases m2
              · show 0 * _ < _
                omega
              · show 1 * (10 - ((q2.rel : Int)).toNat) < _
                rw [HQR.out]
                omega
          | true =>
            have HCJ := Lib.hid (HMT.out (by trivial))
            clear HMT HMF
            by_cases he1 : q1.err = 0
            · rw [he1] at i3
              obtain ⟨n1, rfl⟩ : ∃ k, n1 = k + 1 := ⟨n1 - 1, by have := HF.out.2 he1; omega⟩
              have HCJ2 := Lib.hid HCJ.out
              rw [CP.conj, if_pos he1] at HCJ2
              have hf6 := HF.out.2 he1
              have HRE1 := Lib.hid (HRE.out q1 (by omega) wr HQ.out (HMX.out _ HK.out))
              have HRR : Hid ((CP.relation S.data.toList q1).2.rel = q1.rel + 1) := CP.relation_rel _ _
              have HF2 : Hid ((CP.relation S.data.toList q1).2.few) := CP.few_rel HF.out he1
              have hlen := CP.relation_len S.data.toList q1
              have HM1 : Hid (natI ((wr.cell? ⟨b, 2, none⟩).getD undef) = (q1.rel : Int).toNat) := by rw [Hid, i2]; rfl
              clear HCJ HRE i2
              generalize CP.relation S.data.toList q1 = rr at *
              obtain ⟨⟨op, md, ng, sp⟩, q2⟩ := rr
              simp only at HRE1 HRR HF2 hlen
              have HCJ3 : Hid ((if (CP.next S.data.toList andB q2).1 then CP.conj S.data.toList n1 (l ++ [⟨op, md, ng, sp⟩]) (CP.next S.data.toList andB q2).2 else (l ++ [⟨op, md, ng, sp⟩], (CP.next S.data.toList andB q2).2)) = res1) := HCJ2.out
              have HNX1 := Lib.hid (HNX.out andB (by decide) q2)
              have HQR : Hid ((CP.next S.data.toList andB q2).2.rel = q2.rel) := CP.next_rel _ _ _
              have HFEW : Hid ((CP.next S.data.toList andB q2).2.few) := CP.few_next HF2.out
              have HER : Hid ((CP.next S.data.toList andB q2).1 = true → (CP.next S.data.toList andB q2).2.err = 0) := fun h => (CP.next_true h).1
              clear HCJ2 HF2
              generalize CP.next S.data.toList andB q2 = nr at *
              obtain ⟨m3, q3⟩ := nr
              simp only at HNX1 HQR
              go_wp2_with fail
              refine HRE1.out.mono ?_
              intro e w1 hP
              obtain ⟨ad, k, rfl, hrl, hq2, hk2⟩ := hP.rel (by show sp.length ≤ 1000; omega)
              have HX : Hid (RelC (see W0.heap.size [152] w1) (fun j => (#[.int .i64 op, .int .i64 md, .bool ng, .slice ad sp.length k] : Array Value).getD j undef) ⟨op, md, ng, sp⟩) := hrl.sub (see_le w1 hsz fun _ h => h)
              have HG1 := Lib.hid (HG.out.keep mRl (hk2.kptO HQ.out.1 (by decide)))
              have HT1 := Lib.hid (HT.out.trans (hk2.kptO HQ.out.1 (by decide)))
              have hsz1 : W0.heap.size ≤ w1.heap.size := by have := hk2.size; omega
              have HK1 := Lib.hid (HK.out.trans hk2)
              have HQ1 := Lib.hid hq2
              clear hrl hq2 hk2 hP HG HT HK HQ
              have HQ2 := Lib.hid (HQ1.out.below (Bel.alloc (Bel.refl w1) (.cells #[.int .i64 op, .int .i64 md, .bool ng, .slice ad sp.length k] 94)))
              have HG2 := Lib.hid (HG1.out.keep mRl (KpT.below (Bel.alloc (Bel.refl w1) (.cells #[.int .i64 op, .int .i64 md, .bool ng, .slice ad sp.length k] 94)) _ _))
              have HT2 := Lib.hid (HT1.out.trans (KpT.below (Bel.alloc (Bel.refl w1) (.cells #[.int .i64 op, .int .i64 md, .bool ng, .slice ad sp.length k] 94)) _ _))
              have HK2 := Lib.hid (HK1.out.alloc (.cells #[.int .i64 op, .int .i64 md, .bool ng, .slice ad sp.length k] 94))
              have HX2 : Hid (RelC (see W0.heap.size [152] (w1.alloc (.cells #[.int .i64 op, .int .i64 md, .bool ng, .slice ad sp.length k] 94))) (fun j => (#[.int .i64 op, .int .i64 md, .bool ng, .slice ad sp.length k] : Array Value).getD j undef) ⟨op, md, ng, sp⟩) := HX.out.sub (see_sub (KpT.below (Bel.alloc (Bel.refl w1) (.cells #[.int .i64 op, .int .i64 md, .bool ng, .slice ad sp.length k] 94)) _ _))
              have HLIT := Lib.hid (rw_lit w1 #[.int .i64 op, .int .i64 md, .bool ng, .slice ad sp.length k] 94 4 rfl)
              obtain ⟨f0, hown0, hC0⟩ := HG2.out
              have HOWN := Lib.hid hown0
              have HC0 := Lib.hid hC0
              have hbs : W0.heap.size ≤ (w1.alloc (.cells #[.int .i64 op, .int .i64 md, .bool ng, .slice ad sp.length k] 94)).heap.size := by simp; omega
              clear hown0 hC0 HG1 HT1 HK1 HQ1 HG2 HX
              have hlq := HF.out.1
              go_wp2_with (at_builtin; go_must (refine wpList_app_rows rfl (.tmp 33) (.tmp 36) rfl Tryz.underlying91 infoRl rfl (by omega) W0.heap.size ad1 l.length k1 (flat 4 f0 l.length) rfl HOWN.out (some ⟨w1.heap.size, 0, none⟩) 1 1 (fun _ j => (#[.int .i64 op, .int .i64 md, .bool ng, .slice ad sp.length k] : Array Value).getD j undef) w1.heap.size 0 rfl HLIT.out (fun h => by cases h) (fun i j _ hj => by rcases (by omega : j = 0 ∨ j = 1 ∨ j = 2 ∨ j = 3) with e | e | e | e <;> subst e <;> rfl) (by unfold maxLen; omega) (by omega) hbs ?_); intro ad3 k3 w3 hown3 hg3; have HO3 := Lib.hid hown3; have HG3 := Lib.hid hg3; clear hown3 hg3)
              have hnb := own_nb HOWN.out HQ2.out.1 (by decide)
              have HQ3 : Hid (Pq w3 b S q2) := ⟨(HG3.out.block b HQ2.out.lt hnb).trans HQ2.out.1, HQ2.out.2⟩
              have HK3 : Hid (Kp (oneP b) w0 w3) := HK2.out.grown HG3.out (fun k hk => by
                have := (World.ownsRow.lt HOWN.out k hk).1
                exact .inl (Nat.le_trans hw0 this))
              have HT3 := Lib.hid (HT2.out.grown HG3.out (fun k hk => (World.ownsRow.lt HOWN.out k hk).1))
              have hsz3 : W0.heap.size ≤ w3.heap.size := Nat.le_trans hbs HG3.out.size
              have HR3 : Hid (Grow 94 4 RelC W0.heap.size [152] w3 (.slice ad3 (l.length + 1) k3) (l ++ [⟨op, md, ng, sp⟩])) := Grow.snoc HC0.out mRl (grown_kpt HG3.out HOWN.out _ (by decide)) _ HO3.out HX2.out
              clear hnb HQ2 HOWN HC0 HO3 HG3 HK2 HX2 HLIT HT2
              go_wp2_with fail
              refine (HNX1.out _ HQ3.out).mono ?_
              rintro _ w4 ⟨rfl, hq4, hk4⟩
              have HR4 := Lib.hid (HR3.out.keep mRl (hk4.kptO HQ3.out.1 (by decide)))
              have HT4 := Lib.hid (HT3.out.trans (hk4.kptO HQ3.out.1 (by decide)))
              have hsz4 : W0.heap.size ≤ w4.heap.size := by have := hk4.size; omega
              have HQ4 := Lib.hid hq4
              have HK4 := Lib.hid (HK3.out.trans hk4)
              clear hq4 hk4 HQ3 HT3 HK3 HR3
              go_wp2_with fail
              go_roundw
              case rel =>
                refine ⟨l ++ [⟨op, md, ng, sp⟩], q3, m3, n1, rfl, by rw [HQR.out, HRR.out, List.length_append, List.length_singleton]; omega, HFEW.out, by rw [HQR.out, HRR.out]; omega, fun hm => (by simp at hm), fun hm => ?_, fun hm => ?_, HR4.out, HT4.out, hsz4, HQ4.out, HK4.out⟩
                · have := HCJ3.out
                  subst hm
                  rw [if_pos rfl] at this
                  exact this
                · have := HCJ3.out
                  subst hm
                  rw [if_neg (by simp)] at this
                  exact this
              case measure =>
                obtain ⟨_, _, e2, _, _, _, _⟩ := HQ4.out.cells
                rw [HM1.out, e2]
                show _ < 1 * (10 - ((q1.rel : Int)).toNat)
                cases m3
                · show 0 * _ < _
                  omega
                · show 1 * (10 - ((q3.rel : Int)).toNat) < _
                  rw [HQR.out, HRR.out]
                  omega
            · have HF1 : Hid ((l, q1) = res1) := by have := HCJ.out; rw [CP.conj_stop _ he1] at this; exact this
              have hz : (q1.err == 0) = false := by simpa using he1
              clear HCJ HRE
              have hl0 : l ≠ [] := by
                intro e
                obtain ⟨e1, e2⟩ := HNE.out e
                exact he1 e2
              have hl2 : 1 ≤ l.length := by
                rcases l with _ | ⟨a, t⟩
                · exact absurd rfl hl0
                · simp
              have hf17 : q1.rel ≤ 7 := HF.out.1
              have HNX1 := Lib.hid (HNX.out orB (by decide) q1)
              have HQR : Hid ((CP.next S.data.toList orB q1).2.rel = q1.rel) := CP.next_rel _ _ _
              have HFEW : Hid ((CP.next S.data.toList orB q1).2.few) := CP.few_next HF.out
              have HQ2 := Lib.hid (HQ.out.below (Bel.alloc (Bel.refl wr) (.cells #[.slice ad1 l.length k1] 91)))
              have HG2 := Lib.hid (HG.out.keep mRl (KpT.below (Bel.alloc (Bel.refl wr) (.cells #[.slice ad1 l.length k1] 91)) _ _))
              have HC2 := Lib.hid ((HC.out.keep mRls HT.out).keep mRls (KpT.below (Bel.alloc (Bel.refl wr) (.cells #[.slice ad1 l.length k1] 91)) b _))
              have HK2 := Lib.hid (HK.out.alloc (.cells #[.slice ad1 l.length k1] 91))
              have HLIT := Lib.hid (rw_lit wr #[.slice ad1 l.length k1] 91 1 rfl)
              have HXL : Hid (RelsC (see b [94, 152] (wr.alloc (.cells #[.slice ad1 l.length k1] 91))) (fun j => (#[.slice ad1 l.length k1] : Array Value).getD j undef) l) := (HG2.out.rows mRl (by omega)).sub (see_le _ hb2 fun _ h => h) (fun _ _ h => h.sub (see_le _ hb2 fun _ h => h))
              obtain ⟨f0, hown0, hC0⟩ := HC2.out
              have HOWN := Lib.hid hown0
              have HC0 := Lib.hid hC0
              have hbs : b ≤ (wr.alloc (.cells #[.slice ad1 l.length k1] 91)).heap.size := by have := HQ2.out.lt; omega
              have HRS := Lib.hid HS.out
              rw [← HF1.out] at HRS
              simp only at HRS
              have HRS2 : Hid ((if (CP.next S.data.toList orB q1).1 then CP.disj S.data.toList n (c ++ [l]) (CP.next S.data.toList orB q1).2 else (c ++ [l], (CP.next S.data.toList orB q1).2)) = res) := HRS.out
              clear hown0 hC0 HRS HNE HF HG HC HT HK HQ HG2 HC2
              generalize CP.next S.data.toList orB q1 = nr at *
              obtain ⟨m2, q2⟩ := nr
              simp only at HNX1 HQR
              go_wp2_with (at_builtin; go_must (refine wpList_app_rows rfl (.tmp 38) (.tmp 40) rfl Tryz.underlying48 infoRls rfl (by omega) b ad0 c.length k0 (flat 1 f0 c.length) rfl HOWN.out (some ⟨wr.heap.size, 0, none⟩) 1 1 (fun _ j => (#[.slice ad1 l.length k1] : Array Value).getD j undef) wr.heap.size 0 rfl HLIT.out (fun h => by cases h) (fun i j _ hj => by (obtain rfl : j = 0 := (by omega)); rfl) (by unfold maxLen; omega) (by omega) hbs ?_); intro ad3 k3 w3 hown3 hg3; have HO3 := Lib.hid hown3; have HG3 := Lib.hid hg3; clear hown3 hg3)
              have hnb := own_nb HOWN.out HQ2.out.1 (by decide)
              have HQ3 : Hid (Pq w3 b S q1) := ⟨(HG3.out.block b HQ2.out.lt hnb).trans HQ2.out.1, HQ2.out.2⟩
              have HK3 : Hid (Kp (oneP b) w0 w3) := HK2.out.grown HG3.out (fun k hk => by
                have := (World.ownsRow.lt HOWN.out k hk).1
                rcases Nat.lt_or_ge b k with h | h
                · exact .inl (by rw [HS0.out]; omega)
                · exact .inr (decide_eq_true (by omega)))
              have HC3 : Hid (Grow 91 1 RelsC b [94, 152] w3 (.slice ad3 (c.length + 1) k3) (c ++ [l])) := Grow.snoc HC0.out mRls (grown_kpt HG3.out HOWN.out _ (by decide)) _ HO3.out HXL.out
              clear hnb HQ2 HOWN HC0 HO3 HG3 HK2 HXL HLIT
              go_wp2_with fail
              refine (HNX1.out _ HQ3.out).mono ?_
              rintro _ w4 ⟨rfl, hq4, hk4⟩
              have HC4 := Lib.hid (HC3.out.keep mRls (hk4.kptO HQ3.out.1 (by decide)))
              have HQ4 := Lib.hid hq4
              have HK4 := Lib.hid (HK3.out.trans hk4)
              clear hq4 hk4 HQ3 HC3 HK3
              go_wp2_with fail
              go_roundw
              case rel =>
                refine ⟨c ++ [l], q2, m2, n, rfl, by rw [HQR.out, List.length_append, List.length_singleton]; omega, HFEW.out, by rw [HQR.out]; omega, fun hm => ?_, fun hm => ?_, HC4.out, HQ4.out, HK4.out⟩
                · have := HRS2.out
                  subst hm
                  rw [if_pos rfl] at this
                  exact this
                · have := HRS2.out
                  subst hm
                  rw [if_neg (by simp)] at this
                  exact this
              case measure =>
                obtain ⟨_, _, e2, _, _, _, _⟩ := HQ4.out.cells
                rw [HM0.out, e2]
                show _ < 1 * (10 - ((q.rel : Int)).toNat)
                cases m2
                · show 0 * _ < _
                  omega
                · show 1 * (10 - ((q2.rel : Int)).toNat) < _
                  rw [HQR.out]
                  omega
      · have hz : (q.err == 0) = false := by simpa using he
        have HF : Hid ((c, q) = res) := by have := HDJ.out; rw [CP.disj_stop _ he] at this; exact this
        clear HDJ
        have HV2 := Lib.hid HV.out
        rw [← HF.out] at HV2
        simp only at HV2
        have HSK1 := Lib.hid (HSK.out q)
        have HFL1 := Lib.hid (HFL.out (CP.skip S.data.toList q))
        have hcn : c.length ≤ 7 := by have := HFQ.out.1; omega
        clear HV HF HSK HFL HNX HRE HM0 HFQ
        generalize CP.skip S.data.toList q = qs at *
        rw [ba_len] at HV2
        go_wp2_with fail
        refine (HSK1.out _ HQ.out).mono ?_
        rintro _ w1 ⟨rfl, hq1, hk1⟩
        have HC1 := Lib.hid (HC.out.keep mRls (hk1.kptO HQ.out.1 (by decide)))
        have HQ1 := Lib.hid hq1
        have HK1 := Lib.hid (HK.out.trans hk1)
        obtain ⟨d0, d1, _, d3, _, _, _⟩ := hq1.cells
        have hlb1 := hq1.lt
        clear hq1 hk1 HC HQ HK HSK1
        by_cases hp : qs.pos < S.size
        · rw [if_pos hp] at HV2
          have hpd : decide ((qs.pos : Int) < (S.size : Int)) = true := decide_eq_true (by omega)
          have HNE : Hid ((qs.fail 3).err ≠ 0) := CP.fail_e (by decide) _
          have HV3 := Lib.hid HV2.out
          rw [if_neg HNE.out] at HV3
          clear HV2
          generalize qs.fail 3 = qf at *
          go_wp2_with fail
          refine (HFL1.out _ HQ1.out).mono ?_
          rintro _ w2 ⟨rfl, hq2, hk2⟩
          have HQF := Lib.hid hq2
          have HKF := Lib.hid (HK1.out.trans hk2)
          clear hq2 hk2 HC1 HQ1 HK1 HFL1 d0 d1 d3 hlb1
          have hz1 : (qf.err == 0) = false := by simpa using HNE.out
          have hz2 : (qf.err != 0) = true := by rw [bne, hz1]; rfl
          obtain ⟨_, d1, _, d3, _, _, _⟩ := HQF.out.cells
          have hlb := HQF.out.lt
          go_upto_region 16 with (fail)
          refine wp_region_ext (by kernel_rfl) (by kernel_rfl) ?_
          repeat (go_big_quiet_step (fail))
          refine wpQuiet_nil ?_
          intro _ hw'
          obtain ⟨X9, hw''⟩ := hw'
          subst hw''
          have HKE := Lib.hid (HKF.out.trans (kp_below X9.2))
          go_wp2_with fail
          go_ret3
          exact ⟨.slice none 0 0, by rw [HV3.out]; rfl, by rw [HV3.out]; exact RowsOf.nil _ _ _, HBL.out.trans (HKE.out.below b (by rw [HS0.out]; omega) fun k hk => oneP_ne (by omega))⟩
        · rw [if_neg hp] at HV2
          have hpd : decide ((qs.pos : Int) < (S.size : Int)) = false := decide_eq_false (by omega)
          clear HFL1
          by_cases hqe : qs.err = 0
          · have HV3 := Lib.hid HV2.out
            rw [if_pos hqe] at HV3
            rw [hqe] at d3
            go_wp2_with fail
            go_ret3
            exact ⟨.slice ad0 c.length k0, by rw [HV3.out]; rfl, by rw [HV3.out]; exact HC1.out.rows mRls (by omega), HBL.out.trans (HK1.out.below b (by rw [HS0.out]; omega) fun k hk => oneP_ne (by omega))⟩
          · have HV3 := Lib.hid HV2.out
            rw [if_neg hqe] at HV3
            have HNE := Lib.hid hqe
            have HQF := Lib.hid HQ1.out
            have HKF := Lib.hid HK1.out
            clear d0 d1 d3 hlb1 HQ1 HK1 HC1 HV2 hqe
            have hz1 : (qs.err == 0) = false := by simpa using HNE.out
            have hz2 : (qs.err != 0) = true := by rw [bne, hz1]; rfl
            obtain ⟨_, d1, _, d3, _, _, _⟩ := HQF.out.cells
            have hlb := HQF.out.lt
            go_upto_region 16 with (fail)
            refine wp_region_ext (by kernel_rfl) (by kernel_rfl) ?_
            repeat (go_big_quiet_step (fail))
            refine wpQuiet_nil ?_
            intro _ hw'
            obtain ⟨X9, hw''⟩ := hw'
            subst hw''
            have HKE := Lib.hid (HKF.out.trans (kp_below X9.2))
            go_wp2_with fail
            go_ret3
            exact ⟨.slice none 0 0, by rw [HV3.out]; rfl, by rw [HV3.out]; exact RowsOf.nil _ _ _, HBL.out.trans (HKE.out.below b (by rw [HS0.out]; omega) fun k hk => oneP_ne (by omega))⟩
end Go.Proofs.YtmleeodfmmpdgaaGreatDoor
