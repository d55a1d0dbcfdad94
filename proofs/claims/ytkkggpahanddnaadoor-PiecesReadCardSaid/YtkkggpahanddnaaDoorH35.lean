/- What an escaped text is made of; each sequence is read. -/
import Derived.Test.YtkkggpahanddnaaDoorH34
namespace Go.Proofs.YtkkggpahanddnaaDoor
open Go.RowKit
theorem esc_cases (c : UInt8) : (escC c = [c] ∧ c ≠ 92 ∧ c ≠ 34 ∧ c ≠ 10) ∨ (∃ tl, escC c = 92 :: tl ∧ ∀ R : List UInt8, R.length ≤ 100000 → ∀ w, Calls Tryd.prog 66 #[.string (bs (escC c ++ R))] w (RbPost c (escC c).length w)) := by
  unfold escC
  split
  · rename_i h; subst h; exact .inr ⟨_, rfl, fun R hR w => rb_self 92 (.inl rfl) R hR w⟩
  · split
    · rename_i h; subst h; exact .inr ⟨_, rfl, fun R hR w => rb_letter 110 10 (.inl ⟨rfl, rfl⟩) R hR w⟩
    · split
      · rename_i h; subst h; exact .inr ⟨_, rfl, fun R hR w => rb_letter 114 13 (.inr (.inl ⟨rfl, rfl⟩)) R hR w⟩
      · split
        · rename_i h; subst h; exact .inr ⟨_, rfl, fun R hR w => rb_letter 116 9 (.inr (.inr ⟨rfl, rfl⟩)) R hR w⟩
        · split
          · rename_i h; subst h; exact .inr ⟨_, rfl, fun R hR w => rb_self 34 (.inr rfl) R hR w⟩
          · split
            · rename_i h; exact .inr ⟨_, rfl, fun R hR w => rb_hex c (by omega) R hR w⟩
            · rename_i h1 h2 _ _ h3 _; exact .inl ⟨rfl, h1, h3, h2⟩
theorem escS_split (x : List UInt8) {j : Nat} (h : j < x.length) : escS x = escS (x.take j) ++ (escC (x.getD j 0) ++ escS (x.drop (j + 1))) := by
  have e : x = x.take j ++ (x.getD j 0 :: x.drop (j + 1)) := by rw [← drop_at h, List.take_append_drop]
  have k : ∀ a b : List UInt8, escS (a ++ b) = escS a ++ escS b := fun a b => by simp [escS]
  have k2 : ∀ (c : UInt8) (b : List UInt8), escS (c :: b) = escC c ++ escS b := fun c b => by simp [escS]
  conv => lhs; rw [e, k, k2]
theorem at_split (A T : List UInt8) (h : UInt8) (g : A.length < (bs (A ++ h :: T)).size) : (bs (A ++ h :: T))[A.length]'g = h := by
  have e : (bs (A ++ h :: T))[A.length]'g = (A ++ h :: T)[A.length]'(by simp) := rfl
  rw [e]
  simp
theorem cut_split (A B : List UInt8) : (bs (A ++ B)).extract A.length (bs (A ++ B)).size = bs B := by
  rw [bs_extract, bs_size, List.take_length, List.drop_left]
end Go.Proofs.YtkkggpahanddnaaDoor
