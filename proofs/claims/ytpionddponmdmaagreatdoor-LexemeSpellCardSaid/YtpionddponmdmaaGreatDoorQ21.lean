/- What an escaped text is made of; each sequence is read. -/
import Derived.Test.YtpionddponmdmaaGreatDoorQ18
import Derived.Test.YtpionddponmdmaaGreatDoorQ20
namespace Go.Proofs.YtpionddponmdmaaGreatDoor
open Go.RowKit
theorem esc_cases (c : UInt8) : (escC c = [c] ∧ c ≠ 92 ∧ c ≠ 34 ∧ c ≠ 10) ∨ (∃ tl, escC c = 92 :: tl ∧ ∀ R : List UInt8, R.length ≤ 100000 → ∀ w, Calls Tryz.prog 95 #[.string (bs (escC c ++ R))] w (RbPost c (escC c).length w)) := by
  unfold escC
  split
  · rename_i h; subst h; exact .inr ⟨_, rfl, fun R hR w => rb_self 92 (.inl rfl) R hR w⟩
  · split
    · rename_i h; subst h; exact .inr ⟨_, rfl, fun R hR w => rb_letter 110 10 (.inl ⟨rfl, rfl⟩) R hR w⟩
    · split
      · rename_i h; subst h; exact .inr ⟨_, rfl, fun R hR w => rb_letter 114 13 (.inr (.inl ⟨rfl, rfl⟩)) R hR w⟩
      · split
        · rename_i h; subst h; exact .inr ⟨_, rfl, fun R hR w => rb_letter 116 9 (.inr (.inr ⟨rfl, rfl⟩)) R hR w⟩
        · split
          · rename_i h; subst h; exact .inr ⟨_, rfl, fun R hR w => rb_self 34 (.inr rfl) R hR w⟩
          · split
            · rename_i h; exact .inr ⟨_, rfl, fun R hR w => rb_hex c (by omega) R hR w⟩
            · rename_i h1 h2 _ _ h3 _; exact .inl ⟨rfl, h1, h3, h2⟩
theorem escS_split (x : List UInt8) {j : Nat} (h : j < x.length) : escS x = escS (x.take j) ++ (escC (x.getD j 0) ++ escS (x.drop (j + 1))) := by
  have e : x = x.take j ++ (x.getD j 0 :: x.drop (j + 1)) := by rw [← drop_at h, List.take_append_drop]
  have k : ∀ a b : List UInt8, escS (a ++ b) = escS a ++ escS b := fun a b => by simp [escS]
  have k2 : ∀ (c : UInt8) (b : List UInt8), escS (c :: b) = escC c ++ escS b := fun c b => by simp [escS]
  conv => lhs; rw [e, k, k2]
theorem at_split (A T : List UInt8) (h : UInt8) (g : A.length < (bs (A ++ h :: T)).size) : (bs (A ++ h :: T))[A.length]'g = h := by
  have e : (bs (A ++ h :: T))[A.length]'g = (A ++ h :: T)[A.length]'(by simp) := rfl
  rw [e]
  simp
theorem cut_split (A B : List UInt8) : (bs (A ++ B)).extract A.length (bs (A ++ B)).size = bs B := by
  rw [bs_extract, bs_size, List.take_length, List.drop_left]
end Go.Proofs.YtpionddponmdmaaGreatDoor
/- Plain: an escaped string is read back. -/
namespace Go.Proofs.YtpionddponmdmaaGreatDoor
open Go.RowKit
theorem num_hex : ∀ f : Fin 128, numV [hexD (f.1 / 16), hexD (f.1 % 16)] = some f.1 := by decide +kernel
theorem rbV_x (a : UInt8) (r : List UInt8) (h : 2 ≤ r.length) : rbV (a :: 120 :: r) = (match numV (r.take 2) with | some n => if n ≤ 127 then (([UInt8.ofNat n], 4) : List UInt8 × Nat) else ([], 0) | none => ([], 0)) := by
  show (if 2 ≤ r.length then _ else _) = _
  rw [if_pos h]
  cases numV (r.take 2) <;> rfl
theorem rbV_esc (c : UInt8) : (escC c = [c] ∧ c ≠ 92 ∧ c ≠ 10 ∧ c ≠ 34) ∨ ((∃ tl, escC c = 92 :: tl) ∧ ∀ R : List UInt8, rbV (escC c ++ R) = ([c], (escC c).length)) := by
  unfold escC
  split
  · rename_i h; subst h; exact .inr ⟨⟨_, rfl⟩, fun R => rfl⟩
  · split
    · rename_i h; subst h; exact .inr ⟨⟨_, rfl⟩, fun R => rfl⟩
    · split
      · rename_i h; subst h; exact .inr ⟨⟨_, rfl⟩, fun R => rfl⟩
      · split
        · rename_i h; subst h; exact .inr ⟨⟨_, rfl⟩, fun R => rfl⟩
        · split
          · rename_i h; subst h; exact .inr ⟨⟨_, rfl⟩, fun R => rfl⟩
          · split
            · rename_i h
              refine .inr ⟨⟨_, rfl⟩, fun R => ?_⟩
              have hc : c.toNat < 128 := by omega
              have hn := num_hex ⟨c.toNat, hc⟩
              have hl : 2 ≤ (hexD (c.toNat / 16) :: hexD (c.toNat % 16) :: R).length := by simp
              show rbV (92 :: 120 :: (hexD (c.toNat / 16) :: hexD (c.toNat % 16) :: R)) = _
              rw [rbV_x _ _ hl]
              show (match numV [hexD (c.toNat / 16), hexD (c.toNat % 16)] with | some n => if n ≤ 127 then (([UInt8.ofNat n], 4) : List UInt8 × Nat) else ([], 0) | none => ([], 0)) = ([c], 4)
              rw [hn]
              show (if c.toNat ≤ 127 then (([UInt8.ofNat c.toNat], 4) : List UInt8 × Nat) else ([], 0)) = ([c], 4)
              rw [if_pos (by omega)]
              simp
            · rename_i h1 h2 _ _ h3 _; exact .inl ⟨rfl, h1, h2, h3⟩
theorem getD_split (A T : List UInt8) (h : UInt8) : (A ++ h :: T).getD A.length 0 = h := by simp [List.getD]
theorem unescN_esc_of (x : List UInt8) : ∀ (m j f : Nat), x.length - j = m → j ≤ x.length → (escS x).length - (escS (x.take j)).length < f → unescN (escS x) f (escS (x.take j)).length (x.take j) = (x, 0, 0)
  | 0, j, f, hm, hj, hf => by
    obtain rfl : j = x.length := by omega
    rw [List.take_length, unescN_end (Nat.lt_irrefl _)]
  | m + 1, j, f, hm, hj, hf => by
    have hlt : j < x.length := by omega
    have hsp := escS_split x hlt
    have htk := escS_take x j hlt
    have htx : x.take (j + 1) = x.take j ++ [x.getD j 0] := by
      rw [List.take_succ_eq_append_getElem hlt]
      simp [List.getD, List.getElem?_eq_getElem hlt]
    have hR : ∃ R, escS (x.drop (j + 1)) = R := ⟨_, rfl⟩
    obtain ⟨R, hR⟩ := hR
    rw [hR] at hsp
    obtain ⟨c, hc⟩ : ∃ c, x.getD j 0 = c := ⟨_, rfl⟩
    rw [hc] at hsp htk htx
    have hlen : (escS x).length = (escS (x.take j)).length + ((escC c).length + R.length) := by rw [hsp, List.length_append, List.length_append]
    have hpos : 1 ≤ (escC c).length := by
      rcases rbV_esc c with ⟨e, _⟩ | ⟨⟨tl, e⟩, _⟩ <;> rw [e] <;> simp
    obtain ⟨g, rfl⟩ : ∃ g, f = g + 1 := ⟨f - 1, by omega⟩
    have hi : (escS (x.take j)).length < (escS x).length := by omega
    have htl : (escS (x.take (j + 1))).length = (escS (x.take j)).length + (escC c).length := by rw [htk, List.length_append]
    have ih := unescN_esc_of x m (j + 1) g (by omega) hlt (by omega)
    rw [htl, htx] at ih
    rcases rbV_esc c with ⟨e, n1, n2, n3⟩ | ⟨⟨tl, e⟩, hrb⟩
    · have hg : (escS x).getD (escS (x.take j)).length 0 = c := by rw [hsp, e]; exact getD_split _ R c
      rw [unescN_one hi (by rw [hg]; exact n1) (by rw [hg]; exact n2) (by rw [hg]; exact n3), hg]
      rw [e] at ih
      exact ih
    · have hg : (escS x).getD (escS (x.take j)).length 0 = 92 := by rw [hsp, e]; exact getD_split _ (tl ++ R) 92
      have hd : (escS x).drop (escS (x.take j)).length = escC c ++ R := by rw [hsp, List.drop_left]
      rw [unescN_esc hi hg (by rw [hd, hrb]; show (escC c).length ≠ 0; omega), hd, hrb]
      exact ih
theorem unescV_esc (x : List UInt8) : unescV (escS x) = (x, 0, 0) := unescN_esc_of x x.length 0 _ rfl (Nat.zero_le _) (by show (escS x).length - 0 < (escS x).length + 1; omega)
end Go.Proofs.YtpionddponmdmaaGreatDoor
