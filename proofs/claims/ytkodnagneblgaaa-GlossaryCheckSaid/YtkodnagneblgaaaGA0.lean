/- Findings read as cells. -/
import Derived.Test.YtkodnagneblgaaaGP
namespace Go.Proofs.Ytkodnagneblgaaa
open Go.RowKit Go.Maps Go.Sort
/-- findings as cells -/
theorem FnR.at {E : TypeId} {w : World} {base : Nat} {ad : Option Addr} {n c : Nat} {fs : List (Nat × Nat)} (h : FnR E w base (.slice ad n c) fs) : PrAt w ad n fs := by
  have hn : fs.length = n := by
    rcases h.2 with ⟨e, h0⟩ | ⟨g, cap, cur, e, _⟩
    · injection e with _ e2 _; omega
    · injection e with _ e2 _; exact e2.symm
  unfold FnR at h
  rw [prV_flat, hn] at h
  obtain ⟨b, hr, _⟩ := own_rw h
  exact ⟨hn, b, 0, hr⟩
theorem none_of (ts : List Tm) (source target : ByteArray) (h : findL ((ts.map (·.s)).map wordsB) (wordsB source) = []) : pfindings ts source target = [] := by
  have hc : cntS ts source = fun _ => 0 := by
    unfold cntS
    rw [h]
    rfl
  unfold pfindings
  rw [hc]
  generalize ts.length = n
  induction n with
  | zero => rfl
  | succ n ih =>
    rw [chkF_succ, ih]
    have e1 : missV ts (fun _ => 0) (cntT ts target) n = false := by unfold missV; simp
    have e2 : wrongV ts (fun _ => 0) (cntT ts target) n = false := by unfold wrongV; simp
    rw [e1, e2]
    rfl
theorem mem_chkF {m w : Nat → Bool} {n : Nat} {p : Nat × Nat} (h : p ∈ chkF m w n) : p.2 < n ∧ ((p.1 = 1 ∧ m p.2 = true) ∨ (p.1 = 2 ∧ w p.2 = true)) := by
  unfold chkF at h
  obtain ⟨i, hi, hp⟩ := List.mem_flatMap.1 h
  have hi := List.mem_range.1 hi
  unfold oneF at hp
  rcases List.mem_append.1 hp with h1 | h1
  · split at h1
    · rename_i hm
      rw [List.mem_singleton.1 h1]
      exact ⟨hi, .inl ⟨rfl, hm⟩⟩
    · cases h1
  · split at h1
    · rename_i hm
      rw [List.mem_singleton.1 h1]
      exact ⟨hi, .inr ⟨rfl, hm⟩⟩
    · cases h1
theorem forb_of (ts : List Tm) (source target : ByteArray) (p : Nat × Nat) (hp : p ∈ pfindings ts source target) (h : p.1 = 2) : ts.any (·.f) = true := by
  obtain ⟨h1, ⟨h2, _⟩ | ⟨_, h2⟩⟩ := mem_chkF hp
  · omega
  · unfold wrongV at h2
    rw [Bool.and_eq_true, Bool.and_eq_true, Bool.and_eq_true] at h2
    exact List.any_eq_true.2 ⟨_, getD_mem ts p.2 tm0 h1, h2.1.1.1⟩
end Go.Proofs.Ytkodnagneblgaaa
