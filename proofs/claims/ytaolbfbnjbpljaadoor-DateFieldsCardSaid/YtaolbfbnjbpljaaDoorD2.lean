/- Plain: the text of a date. -/
import Derived.Test.YtaolbfbnjbpljaaDoorD1
import Derived.Lib.ItoaNum
import Derived.Below
namespace Go.Proofs.YtaolbfbnjbpljaaDoor

def dgt (n : Nat) : UInt8 := UInt8.ofNat (48 + n)
theorem dgt_nat {n : Nat} (h : n < 10) : (dgt n).toNat = 48 + n := by
  unfold dgt; rw [UInt8.toNat_ofNat']; omega
def d2 (n : Nat) : List UInt8 := [dgt (n / 10), dgt (n % 10)]
def d4 (n : Nat) : List UInt8 := [dgt (n / 1000), dgt (n / 100 % 10), dgt (n / 10 % 10), dgt (n % 10)]
/-- a date's text -/
def txtD (y m d : Nat) : List UInt8 := d4 y ++ 45 :: (d2 m ++ 45 :: d2 d)
theorem dec_1 {n : Nat} (h : n < 10) : Lib.decDigits n = [dgt n] := by rw [Lib.decDigits, dif_pos h]; rfl
theorem dec_2 {n : Nat} (h : 10 ≤ n) (h2 : n < 100) : Lib.decDigits n = d2 n := by
  rw [Lib.decDigits, dif_neg (by omega), dec_1 (by omega)]; rfl
theorem dec_4 {n : Nat} (h : 1000 ≤ n) (h2 : n < 10000) : Lib.decDigits n = d4 n := by
  rw [Lib.decDigits, dif_neg (by omega), Lib.decDigits, dif_neg (by omega), dec_2 (by omega) (by omega)]
  unfold d2 d4
  rw [show n / 10 / 10 / 10 = n / 1000 by omega, show n / 10 / 10 % 10 = n / 100 % 10 by omega]
  rfl
theorem txt_len (y m d : Nat) : (txtD y m d).length = 10 := rfl

theorem less_app : ∀ {a b : List UInt8} (x y : List UInt8), a.length = b.length → Op.bytesLess (a ++ x) (b ++ y) = (Op.bytesLess a b || (a == b && Op.bytesLess x y))
  | [], [], x, y, _ => by simp [Op.bytesLess]
  | [], _ :: _, _, _, h => by simp at h
  | _ :: _, [], _, _, h => by simp at h
  | c :: a, d :: b, x, y, h => by
    have ih := less_app (a := a) (b := b) x y (by simpa using h)
    rw [List.cons_append, List.cons_append, Op.bytesLess, Op.bytesLess, ih]
    by_cases e : c = d
    · subst e
      have : (c :: a == c :: b) = (a == b) := by simp [List.cons_beq_cons]
      rw [this]
      simp
    · have : (c :: a == d :: b) = false := by simp [e]
      have e2 : (c == d) = false := by simpa using e
      rw [this, e2]
      simp
theorem less_one {a b : Nat} (ha : a < 10) (hb : b < 10) (x y : List UInt8) : Op.bytesLess (dgt a :: x) (dgt b :: y) = (decide (a < b) || (decide (a = b) && Op.bytesLess x y)) := by
  have e1 : (dgt a < dgt b) = (a < b) := by rw [UInt8.lt_iff_toNat_lt, dgt_nat ha, dgt_nat hb]; simp
  have e2 : (dgt a == dgt b) = decide (a = b) := by
    rw [Bool.eq_iff_iff, beq_iff_eq, decide_eq_true_eq]
    exact ⟨fun h => by have := congrArg UInt8.toNat h; rw [dgt_nat ha, dgt_nat hb] at this; omega, fun h => by rw [h]⟩
  rw [Op.bytesLess, e2]
  simp only [e1]
theorem less_d2 {m n : Nat} (hm : m < 100) (hn : n < 100) (x y : List UInt8) : Op.bytesLess (d2 m ++ x) (d2 n ++ y) = (decide (m < n) || (decide (m = n) && Op.bytesLess x y)) := by
  unfold d2
  rw [List.cons_append, List.cons_append, List.cons_append, List.cons_append, List.nil_append, List.nil_append, less_one (by omega) (by omega), less_one (by omega) (by omega)]
  generalize Op.bytesLess x y = t
  rw [Bool.eq_iff_iff]
  simp only [Bool.or_eq_true, Bool.and_eq_true, decide_eq_true_eq]
  constructor
  · rintro (h | ⟨h1, h2 | ⟨h2, h3⟩⟩)
    · left; omega
    · left; omega
    · right; exact ⟨by omega, h3⟩
  · rintro (h | ⟨h1, h2⟩)
    · rcases Nat.lt_trichotomy (m / 10) (n / 10) with h3 | h3 | h3
      · exact .inl h3
      · exact .inr ⟨h3, .inl (by omega)⟩
      · omega
    · exact .inr ⟨by omega, .inr ⟨by omega, h2⟩⟩
theorem less_d4 {m n : Nat} (hm : m < 10000) (hn : n < 10000) (x y : List UInt8) : Op.bytesLess (d4 m ++ x) (d4 n ++ y) = (decide (m < n) || (decide (m = n) && Op.bytesLess x y)) := by
  have e : ∀ k (z : List UInt8), k < 10000 → d4 k ++ z = d2 (k / 100) ++ (d2 (k % 100) ++ z) := fun k z hk => by
    unfold d4 d2
    rw [show k / 100 / 10 = k / 1000 by omega, show k % 100 / 10 = k / 10 % 10 by omega, show k % 100 % 10 = k % 10 by omega]
    rfl
  rw [e m x hm, e n y hn, less_d2 (by omega) (by omega), less_d2 (by omega) (by omega)]
  generalize Op.bytesLess x y = t
  rw [Bool.eq_iff_iff]
  simp only [Bool.or_eq_true, Bool.and_eq_true, decide_eq_true_eq]
  constructor
  · rintro (h | ⟨h1, h2 | ⟨h2, h3⟩⟩)
    · left; omega
    · left; omega
    · right; exact ⟨by omega, h3⟩
  · rintro (h | ⟨h1, h2⟩)
    · rcases Nat.lt_trichotomy (m / 100) (n / 100) with h3 | h3 | h3
      · exact .inl h3
      · exact .inr ⟨h3, .inl (by omega)⟩
      · omega
    · exact .inr ⟨by omega, .inr ⟨by omega, h2⟩⟩
theorem less_dash (x y : List UInt8) : Op.bytesLess (45 :: x) (45 :: y) = Op.bytesLess x y := by rw [Op.bytesLess]; simp
/-- a later date has a greater text -/
theorem txt_less {y m d y' m' d' : Nat} (hy : y < 10000) (hm : m < 100) (hd : d < 100) (hy' : y' < 10000) (hm' : m' < 100) (hd' : d' < 100) :
    Op.bytesLess (txtD y m d) (txtD y' m' d') = decide (y < y' ∨ (y = y' ∧ (m < m' ∨ (m = m' ∧ d < d')))) := by
  unfold txtD
  rw [less_d4 hy hy', less_dash, less_d2 hm hm', less_dash, ← List.append_nil (d2 d), ← List.append_nil (d2 d'), less_d2 hd hd']
  rw [Bool.eq_iff_iff]
  simp [Op.bytesLess]
theorem dgt_inj {a b : Nat} (ha : a < 10) (hb : b < 10) (h : dgt a = dgt b) : a = b := by
  have := congrArg UInt8.toNat h; rw [dgt_nat ha, dgt_nat hb] at this; omega
theorem txt_inj {y m d y' m' d' : Nat} (hy : y < 10000) (hm : m < 100) (hd : d < 100) (hy' : y' < 10000) (hm' : m' < 100) (hd' : d' < 100) (h : txtD y m d = txtD y' m' d') : y = y' ∧ m = m' ∧ d = d' := by
  simp only [txtD, d4, d2, List.cons_append, List.nil_append, List.cons.injEq] at h
  obtain ⟨h1, h2, h3, h4, _, h5, h6, _, h7, h8, _⟩ := h
  have e1 := dgt_inj (by omega) (by omega) h1
  have e2 := dgt_inj (by omega) (by omega) h2
  have e3 := dgt_inj (by omega) (by omega) h3
  have e4 := dgt_inj (by omega) (by omega) h4
  have e5 := dgt_inj (by omega) (by omega) h5
  have e6 := dgt_inj (by omega) (by omega) h6
  have e7 := dgt_inj (by omega) (by omega) h7
  have e8 := dgt_inj (by omega) (by omega) h8
  omega
end Go.Proofs.YtaolbfbnjbpljaaDoor
