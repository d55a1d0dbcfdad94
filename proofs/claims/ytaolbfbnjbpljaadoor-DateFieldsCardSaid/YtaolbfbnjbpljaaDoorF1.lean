/- Walks: a letter; a field without a name. -/
import Derived.Test.YtaolbfbnjbpljaaDoorE4
import Derived.Test.YtaolbfbnjbpljaaDoorB1
import Derived.Test.YtaolbfbnjbpljaaDoorV2
namespace Go.Proofs.YtaolbfbnjbpljaaDoor
open Go.RowKit
attribute [local go_sem] Ext.cell Ext.frozen
attribute [local go_sem ↓] Go.wp_at_zero Go.wp_at_succ

theorem SB.below {B b : Nat} {l : List UInt8} {w w' : World} (h : SB B b l w) (hb : Below w.heap.size w w') : SB B b l w' := by
  have key : ∀ p, Lib.BuilderAt 108 5 B b p (Lib.byteCells l) w → Lib.BuilderAt 108 5 B b p (Lib.byteCells l) w' := fun p h => by
    have hl := h.lt
    obtain ⟨h1, v, h2, h3, h4⟩ := h
    exact ⟨h1, v, (hb.block b hl).trans h2, Own.below h3 hb, h4⟩
  rcases h with h | h
  · exact .inl (key _ h)
  · exact .inr (key _ h)
theorem isL_iff (c : UInt8) : isL c = ((decide (65 ≤ (c.toNat : Int)) && decide ((c.toNat : Int) ≤ 90)) || (decide (97 ≤ (c.toNat : Int)) && decide ((c.toNat : Int) ≤ 122))) := by
  unfold isL
  rw [decide_eq_decide.2 (show 65 ≤ c.toNat ↔ 65 ≤ (c.toNat : Int) by omega), decide_eq_decide.2 (show c.toNat ≤ 90 ↔ (c.toNat : Int) ≤ 90 by omega),
    decide_eq_decide.2 (show 97 ≤ c.toNat ↔ 97 ≤ (c.toNat : Int) by omega), decide_eq_decide.2 (show c.toNat ≤ 122 ↔ (c.toNat : Int) ≤ 122 by omega)]
theorem letter_any (c : UInt8) (w : World) : Calls Tryd.prog 72 #[.int .u8 (c.toNat : Int)] w fun e w' => e = .returned (.bool (isL c)) ∧ w = w' := by
  have HO := Lib.hid (isL_iff c)
  have hc := c.toNat_lt
  generalize (isL c) = O at *
  generalize c.toNat = n at *
  by_cases h0 : n < 65
  · have e1 : decide (65 ≤ (n : Int)) = false := by simp; omega
    have e2 : decide ((n : Int) ≤ 90) = true := by simp; omega
    have e3 : decide (97 ≤ (n : Int)) = false := by simp; omega
    have e4 : decide ((n : Int) ≤ 122) = true := by simp; omega
    rw [e1, e2, e3, e4] at HO
    go_enter Tryd.func72, Tryd.ntmps72
    go_wp2_with fail
    go_ret
    exact ⟨by rw [HO.out]; rfl, rfl⟩
  by_cases h1 : n ≤ 90
  · have e1 : decide (65 ≤ (n : Int)) = true := by simp; omega
    have e2 : decide ((n : Int) ≤ 90) = true := by simp; omega
    have e3 : decide (97 ≤ (n : Int)) = false := by simp; omega
    have e4 : decide ((n : Int) ≤ 122) = true := by simp; omega
    rw [e1, e2, e3, e4] at HO
    go_enter Tryd.func72, Tryd.ntmps72
    go_wp2_with fail
    go_ret
    exact ⟨by rw [HO.out]; rfl, rfl⟩
  by_cases h2 : n < 97
  · have e1 : decide (65 ≤ (n : Int)) = true := by simp; omega
    have e2 : decide ((n : Int) ≤ 90) = false := by simp; omega
    have e3 : decide (97 ≤ (n : Int)) = false := by simp; omega
    have e4 : decide ((n : Int) ≤ 122) = true := by simp; omega
    rw [e1, e2, e3, e4] at HO
    go_enter Tryd.func72, Tryd.ntmps72
    go_wp2_with fail
    go_ret
    exact ⟨by rw [HO.out]; rfl, rfl⟩
  by_cases h3 : n ≤ 122
  · have e1 : decide (65 ≤ (n : Int)) = true := by simp; omega
    have e2 : decide ((n : Int) ≤ 90) = false := by simp; omega
    have e3 : decide (97 ≤ (n : Int)) = true := by simp; omega
    have e4 : decide ((n : Int) ≤ 122) = true := by simp; omega
    rw [e1, e2, e3, e4] at HO
    go_enter Tryd.func72, Tryd.ntmps72
    go_wp2_with fail
    go_ret
    exact ⟨by rw [HO.out]; rfl, rfl⟩
  · have e1 : decide (65 ≤ (n : Int)) = true := by simp; omega
    have e2 : decide ((n : Int) ≤ 90) = false := by simp; omega
    have e3 : decide (97 ≤ (n : Int)) = true := by simp; omega
    have e4 : decide ((n : Int) ≤ 122) = false := by simp; omega
    rw [e1, e2, e3, e4] at HO
    go_enter Tryd.func72, Tryd.ntmps72
    go_wp2_with fail
    go_ret
    exact ⟨by rw [HO.out]; rfl, rfl⟩

set_option maxRecDepth 20000 in
set_option maxHeartbeats 4000000 in
theorem field_y (v0 v1 v2 v3 v4 v5 v6 v7 v8 v9 v10 v11 v12 v13 v14 v15 wd : Value) (y m d : Nat) (w : World) (ht : Tab10 w) (hy : y ≤ 10000) : Calls Tryd.prog 74 #[.agg #[v0, v1, v2, v3, v4, v5, v6, v7, v8, v9, v10, v11, v12, v13, v14, v15, .int .i64 (y : Int), .int .i64 (m : Int), .int .i64 (d : Int), wd], .string ⟨#[121]⟩] w fun e w' => e = .returned (.tuple #[.string (bs (Lib.decDigits y)), .int .i64 0]) ∧ Below w.heap.size w w' := by
  have HI := Lib.hid (fun w (ht : Tab10 w) => itoa_any y w ht (by omega))
  have HT := Lib.hid (ht.on ((Below.refl w.heap.size w).alloc (Nat.le_refl _) (.cells #[v0, v1, v2, v3, v4, v5, v6, v7, v8, v9, v10, v11, v12, v13, v14, v15, .int .i64 (y : Int), .int .i64 (m : Int), .int .i64 (d : Int), wd] 89 (0, 0))))
  go_enter Tryd.func74, Tryd.ntmps74
  go_wp2_with fail
  refine (HI.out _ ?_).mono ?_
  · exact HT.out
  rintro e w2 ⟨rfl, hb2⟩
  go_wp2_with fail
  go_ret2
  exact ⟨rfl, ((Below.refl w.heap.size w).alloc (Nat.le_refl _) _).trans (hb2.mono (by simp))⟩

set_option maxRecDepth 20000 in
set_option maxHeartbeats 4000000 in
theorem field_M (v0 v1 v2 v3 v4 v5 v6 v7 v8 v9 v10 v11 v12 v13 v14 v15 wd : Value) (y m d : Nat) (w : World) (hm : m < 100) : Calls Tryd.prog 74 #[.agg #[v0, v1, v2, v3, v4, v5, v6, v7, v8, v9, v10, v11, v12, v13, v14, v15, .int .i64 (y : Int), .int .i64 (m : Int), .int .i64 (d : Int), wd], .string ⟨#[77]⟩] w fun e w' => e = .returned (.tuple #[.string (bs (Lib.decDigits m)), .int .i64 0]) ∧ Below w.heap.size w w' := by
  have HI := Lib.hid (fun w => itoa_small m w hm)
  go_enter Tryd.func74, Tryd.ntmps74
  go_wp2_with fail
  refine (HI.out _).mono ?_
  rintro e _ ⟨rfl, rfl⟩
  go_wp2_with fail
  go_ret2
  exact ⟨rfl, (Below.refl w.heap.size w).alloc (Nat.le_refl _) _⟩

set_option maxRecDepth 20000 in
set_option maxHeartbeats 4000000 in
theorem field_MM (v0 v1 v2 v3 v4 v5 v6 v7 v8 v9 v10 v11 v12 v13 v14 v15 wd : Value) (y m d : Nat) (w : World) (hm : m < 100) : Calls Tryd.prog 74 #[.agg #[v0, v1, v2, v3, v4, v5, v6, v7, v8, v9, v10, v11, v12, v13, v14, v15, .int .i64 (y : Int), .int .i64 (m : Int), .int .i64 (d : Int), wd], .string ⟨#[77, 77]⟩] w fun e w' => e = .returned (.tuple #[.string (bs (d2 m)), .int .i64 0]) ∧ Below w.heap.size w w' := by
  have HI := Lib.hid (fun w => padded_any m w hm)
  go_enter Tryd.func74, Tryd.ntmps74
  go_wp2_with fail
  refine (HI.out _).mono ?_
  rintro e _ ⟨rfl, rfl⟩
  go_wp2_with fail
  go_ret2
  exact ⟨rfl, (Below.refl w.heap.size w).alloc (Nat.le_refl _) _⟩

set_option maxRecDepth 20000 in
set_option maxHeartbeats 4000000 in
theorem field_d (v0 v1 v2 v3 v4 v5 v6 v7 v8 v9 v10 v11 v12 v13 v14 v15 wd : Value) (y m d : Nat) (w : World) (hd : d < 100) : Calls Tryd.prog 74 #[.agg #[v0, v1, v2, v3, v4, v5, v6, v7, v8, v9, v10, v11, v12, v13, v14, v15, .int .i64 (y : Int), .int .i64 (m : Int), .int .i64 (d : Int), wd], .string ⟨#[100]⟩] w fun e w' => e = .returned (.tuple #[.string (bs (Lib.decDigits d)), .int .i64 0]) ∧ Below w.heap.size w w' := by
  have HI := Lib.hid (fun w => itoa_small d w hd)
  go_enter Tryd.func74, Tryd.ntmps74
  go_wp2_with fail
  refine (HI.out _).mono ?_
  rintro e _ ⟨rfl, rfl⟩
  go_wp2_with fail
  go_ret2
  exact ⟨rfl, (Below.refl w.heap.size w).alloc (Nat.le_refl _) _⟩

set_option maxRecDepth 20000 in
set_option maxHeartbeats 4000000 in
theorem field_dd (v0 v1 v2 v3 v4 v5 v6 v7 v8 v9 v10 v11 v12 v13 v14 v15 wd : Value) (y m d : Nat) (w : World) (hd : d < 100) : Calls Tryd.prog 74 #[.agg #[v0, v1, v2, v3, v4, v5, v6, v7, v8, v9, v10, v11, v12, v13, v14, v15, .int .i64 (y : Int), .int .i64 (m : Int), .int .i64 (d : Int), wd], .string ⟨#[100, 100]⟩] w fun e w' => e = .returned (.tuple #[.string (bs (d2 d)), .int .i64 0]) ∧ Below w.heap.size w w' := by
  have HI := Lib.hid (fun w => padded_any d w hd)
  go_enter Tryd.func74, Tryd.ntmps74
  go_wp2_with fail
  refine (HI.out _).mono ?_
  rintro e _ ⟨rfl, rfl⟩
  go_wp2_with fail
  go_ret2
  exact ⟨rfl, (Below.refl w.heap.size w).alloc (Nat.le_refl _) _⟩
end Go.Proofs.YtaolbfbnjbpljaaDoor
