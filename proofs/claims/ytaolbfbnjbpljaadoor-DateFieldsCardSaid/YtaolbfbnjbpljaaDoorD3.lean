/- Plain: Of, Civil and Parse, as values. -/
import Derived.Test.YtaolbfbnjbpljaaDoorD2
import Derived.Test.YtaolbfbnjbpljaaDoorP1
namespace Go.Proofs.YtaolbfbnjbpljaaDoor

instance (y m d : Nat) : Decidable (vldP y m d) := by unfold vldP; infer_instance
/-- the numbers are those of a date -/
def vldI (y m d : Int) : Prop := 1900 ≤ y ∧ y ≤ 2199 ∧ 1 ≤ m ∧ m ≤ 12 ∧ 1 ≤ d ∧ d ≤ (mlen y.toNat m.toNat : Int)
instance (y m d : Int) : Decidable (vldI y m d) := by unfold vldI; infer_instance
/-- what Of answers -/
def ofV (y m d : Int) : Int × Nat := if vldI y m d then ((num y.toNat m.toNat d.toNat : Int) - 25567, 0) else (0, 2)
theorem vldI_nat {y m d : Nat} : vldI (y : Int) (m : Int) (d : Int) ↔ vldP y m d := by
  unfold vldI vldP
  rw [Int.toNat_natCast, Int.toNat_natCast]
  omega
theorem ofV_nat {y m d : Nat} (h : vldP y m d) : ofV (y : Int) (m : Int) (d : Int) = ((num y m d : Int) - 25567, 0) := by
  unfold ofV; rw [if_pos (vldI_nat.2 h), Int.toNat_natCast, Int.toNat_natCast, Int.toNat_natCast]
theorem ofV_ok {y m d : Int} (h : (ofV y m d).2 = 0) : ∃ a b c : Nat, y = a ∧ m = b ∧ d = c ∧ vldP a b c ∧ ofV y m d = ((num a b c : Int) - 25567, 0) := by
  by_cases hv : vldI y m d
  · have h1 := hv
    unfold vldI at h1
    refine ⟨y.toNat, m.toNat, d.toNat, by omega, by omega, by omega, ?_, ?_⟩
    · unfold vldP; omega
    · unfold ofV; rw [if_pos hv]
  · unfold ofV at h; rw [if_neg hv] at h; cases h

/-- the year, the month and the day of a number of days -/
noncomputable def civil (n : Nat) : Nat × Nat × Nat := if h : n < 109573 then (Classical.choose (civil_ex h), Classical.choose (Classical.choose_spec (civil_ex h)), Classical.choose (Classical.choose_spec (Classical.choose_spec (civil_ex h)))) else (0, 0, 0)
theorem civil_spec {n : Nat} (h : n < 109573) : vldP (civil n).1 (civil n).2.1 (civil n).2.2 ∧ num (civil n).1 (civil n).2.1 (civil n).2.2 = n := by
  unfold civil
  rw [dif_pos h]
  exact Classical.choose_spec (Classical.choose_spec (Classical.choose_spec (civil_ex h)))
theorem civil_of {y m d : Nat} (h : vldP y m d) : civil (num y m d) = (y, m, d) := by
  obtain ⟨h1, h2⟩ := civil_spec (num_lt h)
  obtain ⟨e1, e2, e3⟩ := num_inj h1 h h2
  exact Prod.ext e1 (Prod.ext e2 e3)

theorem dgt_digit {n : Nat} (h : n < 10) : isD (dgt n) = true := by rw [isD_iff, dgt_nat h]; omega
theorem d2_digits {n : Nat} (h : n < 100) : allD (d2 n) = true := by
  simp only [d2, allD, List.all_cons, List.all_nil, Bool.and_true, Bool.and_eq_true]
  exact ⟨dgt_digit (by omega), dgt_digit (by omega)⟩
theorem d4_digits {n : Nat} (h : n < 10000) : allD (d4 n) = true := by
  simp only [d4, allD, List.all_cons, List.all_nil, Bool.and_true, Bool.and_eq_true]
  exact ⟨dgt_digit (by omega), dgt_digit (by omega), dgt_digit (by omega), dgt_digit (by omega)⟩
theorem val_one (c : UInt8) : valD [c] = c.toNat - 48 := by rw [valD_cons]; simp [valD]
theorem d2_val {n : Nat} (h : n < 100) : valD (d2 n) = n := by
  unfold d2
  rw [valD_cons, val_one, dgt_nat (by omega), dgt_nat (by omega)]
  simp; omega
theorem d4_val {n : Nat} (h : n < 10000) : valD (d4 n) = n := by
  unfold d4
  rw [valD_cons, valD_cons, valD_cons, val_one, dgt_nat (by omega), dgt_nat (by omega), dgt_nat (by omega), dgt_nat (by omega)]
  simp; omega
theorem dgt_back {c : UInt8} (h : isD c = true) : dgt (c.toNat - 48) = c := by
  have := (isD_iff c).1 h
  apply UInt8.toNat_inj.1
  rw [dgt_nat (by omega)]; omega
theorem val_d2 {l : List UInt8} (h : allD l = true) (hl : l.length = 2) : d2 (valD l) = l := by
  match l, hl with
  | [a, b], _ =>
    simp only [allD, List.all_cons, List.all_nil, Bool.and_true, Bool.and_eq_true] at h
    obtain ⟨ha, hb⟩ := h
    have h1 := (isD_iff a).1 ha
    have h2 := (isD_iff b).1 hb
    rw [valD_cons, val_one]
    unfold d2
    simp only [List.length_cons, List.length_nil, Nat.zero_add, Nat.pow_one]
    rw [show ((a.toNat - 48) * 10 + (b.toNat - 48)) / 10 = a.toNat - 48 by omega, show ((a.toNat - 48) * 10 + (b.toNat - 48)) % 10 = b.toNat - 48 by omega, dgt_back ha, dgt_back hb]
theorem val_d4 {l : List UInt8} (h : allD l = true) (hl : l.length = 4) : d4 (valD l) = l := by
  match l, hl with
  | [a, b, c, d], _ =>
    simp only [allD, List.all_cons, List.all_nil, Bool.and_true, Bool.and_eq_true] at h
    obtain ⟨ha, hb, hc, hd⟩ := h
    have h1 := (isD_iff a).1 ha
    have h2 := (isD_iff b).1 hb
    have h3 := (isD_iff c).1 hc
    have h4 := (isD_iff d).1 hd
    have e : valD [a, b, c, d] = (a.toNat - 48) * 1000 + ((b.toNat - 48) * 100 + ((c.toNat - 48) * 10 + (d.toNat - 48))) := by
      rw [valD_cons, valD_cons, valD_cons, val_one]
      simp only [List.length_cons, List.length_nil, Nat.zero_add, Nat.reduceAdd, Nat.reducePow, Nat.pow_one]
    rw [e]
    unfold d4
    generalize hx : (a.toNat - 48) * 1000 + ((b.toNat - 48) * 100 + ((c.toNat - 48) * 10 + (d.toNat - 48))) = x
    rw [show x / 1000 = a.toNat - 48 by omega, show x / 100 % 10 = b.toNat - 48 by omega, show x / 10 % 10 = c.toNat - 48 by omega, show x % 10 = d.toNat - 48 by omega, dgt_back ha, dgt_back hb, dgt_back hc, dgt_back hd]

/-- what Parse answers -/
def parseV (l : List UInt8) : Int × Nat :=
  if l.length = 10 ∧ l.getD 4 0 = 45 ∧ l.getD 7 0 = 45 ∧ allD (l.take 4) = true ∧ allD ((l.take 7).drop 5) = true ∧ allD (l.drop 8) = true then
    ofV (valD (l.take 4)) (valD ((l.take 7).drop 5)) (valD (l.drop 8)) else (0, 3)
theorem vld_bd {y m d : Nat} (h : vldP y m d) : y < 10000 ∧ m < 100 ∧ d < 100 := by
  have := mlen_bd (y := y) h.2.2.1 h.2.2.2.1
  unfold vldP at h
  omega
theorem parse_txt {y m d : Nat} (h : vldP y m d) : parseV (txtD y m d) = ((num y m d : Int) - 25567, 0) := by
  obtain ⟨hy, hm, hd⟩ := vld_bd h
  unfold parseV
  have e1 : (txtD y m d).take 4 = d4 y := rfl
  have e2 : ((txtD y m d).take 7).drop 5 = d2 m := rfl
  have e3 : (txtD y m d).drop 8 = d2 d := rfl
  rw [e1, e2, e3, if_pos ⟨rfl, rfl, rfl, d4_digits hy, d2_digits hm, d2_digits hd⟩, d4_val hy, d2_val hm, d2_val hd, ofV_nat h]
theorem parse_ok {l : List UInt8} (h : (parseV l).2 = 0) : ∃ y m d : Nat, vldP y m d ∧ l = txtD y m d ∧ parseV l = ((num y m d : Int) - 25567, 0) := by
  unfold parseV at h ⊢
  by_cases hc : l.length = 10 ∧ l.getD 4 0 = 45 ∧ l.getD 7 0 = 45 ∧ allD (l.take 4) = true ∧ allD ((l.take 7).drop 5) = true ∧ allD (l.drop 8) = true
  · rw [if_pos hc] at h ⊢
    obtain ⟨h10, h4, h7, ha, hb, hd⟩ := hc
    obtain ⟨a, b, c, e1, e2, e3, hv, e4⟩ := ofV_ok h
    refine ⟨a, b, c, hv, ?_, e4⟩
    rw [← Int.ofNat_inj.1 e1, ← Int.ofNat_inj.1 e2, ← Int.ofNat_inj.1 e3]
    unfold txtD
    rw [val_d4 ha (by rw [List.length_take]; omega), val_d2 hb (by rw [List.length_drop, List.length_take]; omega), val_d2 hd (by rw [List.length_drop]; omega)]
    match l, h10 with
    | [c0, c1, c2, c3, c4, c5, c6, c7, c8, c9], _ =>
      have e5 : c4 = 45 := h4
      have e6 : c7 = 45 := h7
      rw [e5, e6]; rfl
  · rw [if_neg hc] at h; cases h
end Go.Proofs.YtaolbfbnjbpljaaDoor
