/- Walks over a condition in the program: whether it is valid; whether a number lies in spans. -/
import Derived.Test.YtadhblppeaamlaaGreatDoorSB
namespace Go.Proofs.YtadhblppeaamlaaGreatDoor
open Go.RowKit
attribute [local go_sem] Ext.cell Ext.frozen
attribute [local go_sem ↓] Go.wp_at_zero Go.wp_at_succ

theorem nproper_any (x : Nat → Value) (r : Rel) (w : World) (h : RelC w x r) : Calls Tryz.prog 71 #[.agg #[x 0, x 1, x 2, x 3]] w fun e w' => e = .returned (.bool (!properV r)) ∧ Below w.heap.size w w' := by
  have HP : Hid (∀ W, Below w.heap.size w W → Calls Tryz.prog 72 #[.agg #[x 0, x 1, x 2, x 3]] W fun e w' => e = .returned (.bool (properV r)) ∧ Below W.heap.size W w') := fun W hb => proper_any x r W (h.below hb)
  clear h
  generalize properV r = q at *
  generalize x 0 = x0 at *
  generalize x 1 = x1 at *
  generalize x 2 = x2 at *
  generalize x 3 = x3 at *
  go_enter Tryz.func71, Tryz.ntmps71
  go_wp2_with fail
  refine (HP.out _ ((Below.refl _ _).alloc (Nat.le_refl _) _)).mono ?_
  rintro e w' ⟨rfl, hb⟩
  have HB : Hid (Below w.heap.size w w') := ((Below.refl _ _).alloc (Nat.le_refl _) _).trans (hb.mono (by simp))
  clear hb
  go_wp2_with fail
  go_ret
  exact ⟨by cases q <;> rfl, HB.out⟩
theorem all_any {α : Type} (q : α → Bool) (l : List α) : (l.any fun r => !q r) = !l.all q := by
  induction l with
  | nil => rfl
  | cons a l ih => simp only [List.any_cons, List.all_cons, ih, Bool.not_and]
/-- whether a list has an invalid relation -/
theorem crel_any (v : Value) (l : List Rel) (w : World) (h : RowsOf 4 RelC w v l) : Calls Tryz.prog 70 #[v, .func (.func 71) #[] #[]] w fun e w' => e = .returned (.bool (!l.all properV)) ∧ Below w.heap.size w w' := by
  obtain ⟨ad, c, f, b, off, rfl, hr, _, _, _, hf⟩ := h
  have := cont_Rel (fun i => !properV (l.getD i ⟨0, 0, false, []⟩)) 71 #[] (enters_of Tryz.func71 (by kernel_rfl) rfl) ad l.length c f b off w hr (fun W i hi hb => by
    have h1 := RowsOf.get hf hi ⟨0, 0, false, []⟩
    exact nproper_any (f i) _ W (h1.below hb))
  rw [anyP_list (fun r => !properV r), all_any] at this
  exact this
theorem relN_le {c : List (List Rel)} {M : Nat} (h : ∀ l ∈ c, l.length ≤ M) : relN c ≤ c.length * M := by
  induction c with
  | nil => exact Nat.zero_le _
  | cons a c ih =>
    have h1 := h a (List.mem_cons_self ..)
    have h2 := ih fun l hl => h l (List.mem_cons_of_mem _ hl)
    have : relN (a :: c) = a.length + relN c := by simp [relN]
    rw [this, List.length_cons, Nat.succ_mul]
    omega
set_option maxRecDepth 20000 in
set_option maxHeartbeats 4000000 in
theorem cvalid_any (v : Value) (l : List (List Rel)) (w : World) (h : CondAt w v l) (hl : l.length ≤ 30) : Calls Tryz.prog 51 #[v] w fun e w' => e = .returned (.bool (validC l)) ∧ Below w.heap.size w w' := by
  obtain ⟨ad, c, f, b, off, rfl, hr, _, _, _, hf⟩ := h
  obtain ⟨n, hn⟩ : ∃ n, l.length = n := ⟨_, rfl⟩
  rw [hn] at hr hl ⊢
  have hbig : ∀ k, k ≤ n → relN (l.take k) ≤ 30 * 140737488351232 := fun k hk => by
    have h1 := relN_le (c := l.take k) (M := 140737488351232) fun x hx => by
      obtain ⟨i, hi⟩ := List.getElem?_of_mem (List.mem_of_mem_take hx)
      obtain ⟨_, _, _, _, _, _, _, _, _, h5, _⟩ := hf i x hi
      exact h5
    rw [List.length_take] at h1
    exact Nat.le_trans h1 (Nat.mul_le_mul_right _ (by omega))
  have HN := Lib.hid hn
  have HR := Lib.hid hr
  have HF := Lib.hid hf
  have HBG := Lib.hid hbig
  clear hr hf hn hbig
  obtain ⟨q, hq⟩ : ∃ q, validC l = q := ⟨_, rfl⟩
  rw [hq]
  have HQ := Lib.hid hq
  clear hq
  go_enter Tryz.func51, Tryz.ntmps51
  go_wp2_with fail
  go_loopw [3, 8] (fun u v wr => ∃ k : Nat, v = .int .i64 (k : Int) ∧ k ≤ n ∧ u = .int .i64 (relN (l.take k) : Nat) ∧ (∀ i, i < k → listOk (l.getD i []) = true) ∧ Below w.heap.size w wr) (fun _ v _ => n - (intOf v).toNat)
  case atStart => exact ⟨0, rfl, Nat.zero_le _, rfl, fun i hi => absurd hi (Nat.not_lt_zero _), Below.refl _ _⟩
  case round =>
    obtain ⟨k, rfl, hkn, rfl, hal, hbl⟩ := hrel
    have HAL := Lib.hid hal
    have HBL := Lib.hid hbl
    clear hal hbl
    by_cases hlt : k < n
    · have hrr := HR.out.below HBL.out
      have hix := fun W => hrr.ix 78 94 Tryz.underlying78 (by kernel_rfl) (by omega) hlt c W
      rw [Nat.mul_one] at hix
      have c0 : wr.cell? ⟨b, off + k * 1, none⟩ = some (f k 0) := hrr.cell k 0 hlt (by omega)
      rw [Nat.mul_one] at c0
      have hk0 : k < l.length := by rw [HN.out]; exact hlt
      have HL : Hid (RowsOf 4 RelC wr (f k 0) (l.getD k [])) := (RowsOf.get HF.out hk0 []).below HBL.out
      have hbg := HBG.out (k + 1) hlt
      rw [relN_getD hk0] at hbg
      have HEQ : Hid (relN (l.take (k + 1)) = relN (l.take k) + (l.getD k []).length) := relN_getD hk0
      have HNO : Hid (listOk (l.getD k []) = false → q = false) := fun h => HQ.out.symm.trans (validC_no hk0 h)
      have HYES : Hid (listOk (l.getD k []) = true → ∀ i, i < k + 1 → listOk (l.getD i []) = true) := fun h i hi => by
        by_cases e : i = k
        · subst e; exact h
        · exact HAL.out i (by omega)
      clear hrr hk0
      generalize l.getD k [] = ls at *
      have HC := Lib.hid (crel_any (f k 0) ls wr HL.out)
      obtain ⟨ad2, c2, f2, b2, off2, hv2, _, _, _, _, _⟩ := HL.out
      rw [hv2] at c0
      rw [Hid, hv2] at HC
      have HC := Lib.hid HC
      clear hv2 HL
      generalize relN (l.take k) = s at *
      by_cases h0 : ls.length = 0
      · have HO := Lib.hid (HNO.out (by unfold listOk; rw [List.length_eq_zero_iff.1 h0]; rfl))
        rw [h0] at c0
        clear HNO HYES
        go_wp2_with fail
        go_ret
        exact ⟨by rw [HO.out]; rfl, HBL.out⟩
      · have h1 : ¬ ((ls.length : Int) = 0) := by omega
        have HE : Hid (listOk ls = ls.all properV) := by
          unfold Hid listOk
          cases ls with
          | nil => exact absurd rfl h0
          | cons a r => rfl
        rw [Hid, HE.out] at HNO HYES
        have HNO := Lib.hid HNO
        have HYES := Lib.hid HYES
        generalize ls.length = m at *
        cases hp : ls.all properV with
        | false =>
          have HO := Lib.hid (HNO.out hp)
          rw [Hid, hp] at HC
          have HC := Lib.hid HC
          clear HNO HYES HE hp
          go_wp2_with fail
          refine HC.out.mono ?_
          rintro e w' ⟨rfl, hb⟩
          have HB2 := Lib.hid (HBL.out.trans (hb.mono HBL.out.size))
          clear hb
          go_wp2_with fail
          go_ret
          exact ⟨by rw [HO.out]; rfl, HB2.out⟩
        | true =>
          have HO := Lib.hid (HYES.out hp)
          rw [Hid, hp] at HC
          have HC := Lib.hid HC
          clear HNO HYES HE hp
          go_wp2_with fail
          refine HC.out.mono ?_
          rintro e w' ⟨rfl, hb⟩
          have HB2 := Lib.hid (HBL.out.trans (hb.mono HBL.out.size))
          clear hb
          go_wp2_with fail
          go_roundw
          case rel => exact ⟨k + 1, by go_num, by omega, by rw [HEQ.out]; go_num, HO.out, HB2.out⟩
          case measure => simp [intOf]; omega
    · obtain rfl : k = n := by omega
      have HE : Hid (q = (decide (0 < k) && decide (relN l ≤ 6))) := HQ.out.symm.trans (by rw [← HN.out]; exact validC_end (by rw [HN.out]; exact HAL.out))
      have HT : Hid (relN (l.take k) = relN l) := by unfold Hid; rw [← HN.out, List.take_length]
      rw [HT.out]
      generalize relN l = s at *
      by_cases p1 : 0 < k
      · have p2 : 0 < (k : Int) := by omega
        go_wp2_with fail
        go_ret
        exact ⟨by rw [HE.out, decide_eq_true p1]; simp; omega, HBL.out⟩
      · have p2 : ¬ 0 < (k : Int) := by omega
        go_wp2_with fail
        go_ret
        exact ⟨by rw [HE.out, decide_eq_false p1]; rfl, HBL.out⟩
end Go.Proofs.YtadhblppeaamlaaGreatDoor
