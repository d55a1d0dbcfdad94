/- Plain: different valid layouts have different texts; the laid tables of the rows of Text. -/
import Derived.Test.YtkkggpahanddnaaDoorH39
namespace Go.Proofs.YtkkggpahanddnaaDoor
open Go.RowKit
theorem escC_pre : ∀ c d : Fin 256, (escC (UInt8.ofNat c.1)).isPrefixOf (escC (UInt8.ofNat d.1)) = true → c = d := by decide +kernel
theorem u8_fin (c : UInt8) : ∃ f : Fin 256, UInt8.ofNat f.1 = c := ⟨⟨c.toNat, c.toNat_lt⟩, by simp⟩
theorem escC_prefix {c d : UInt8} (h : escC c <+: escC d) : c = d := by
  obtain ⟨f, rfl⟩ := u8_fin c
  obtain ⟨g, rfl⟩ := u8_fin d
  rw [escC_pre f g (List.isPrefixOf_iff_prefix.2 h)]
theorem escC_ne (c : UInt8) : escC c ≠ [] := by unfold escC; (repeat' split) <;> simp
theorem escS_inj : ∀ {x y : List UInt8}, escS x = escS y → x = y
  | [], [], _ => rfl
  | [], d :: y, h => by
    have : escS (d :: y) = escC d ++ escS y := rfl
    rw [this] at h
    exact absurd (List.append_eq_nil_iff.1 h.symm).1 (escC_ne d)
  | c :: x, [], h => by
    have : escS (c :: x) = escC c ++ escS x := rfl
    rw [this] at h
    exact absurd (List.append_eq_nil_iff.1 h).1 (escC_ne c)
  | c :: x, d :: y, h => by
    have h1 : escC c ++ escS x = escC d ++ escS y := h
    have h2 : c = d := by
      have p1 : escC c <+: escC c ++ escS x := List.prefix_append _ _
      have p2 : escC d <+: escC c ++ escS x := by rw [h1]; exact List.prefix_append _ _
      by_cases hl : (escC c).length ≤ (escC d).length
      · exact escC_prefix (List.prefix_of_prefix_length_le p1 p2 hl)
      · exact (escC_prefix (List.prefix_of_prefix_length_le p2 p1 (by omega))).symm
    subst h2
    rw [escS_inj (List.append_cancel_left h1)]
theorem txtP_inj {p q : Int × ByteArray} {R T : List UInt8} (hp : 0 ≤ p.1 ∧ p.1 ≤ 1001) (hq : 0 ≤ q.1 ∧ q.1 ≤ 1001) (h : txtP p ++ R = txtP q ++ T) : p = q ∧ R = T := by
  have k : ∀ (p : Int × ByteArray), 0 ≤ p.1 ∧ p.1 ≤ 1001 → ∀ R, Lib.cut (txtP p ++ R) [32, 34] = (Lib.itoa p.1, escS p.2.data.toList ++ 34 :: R, true) ∧ Lib.atoi (Lib.itoa p.1) = some p.1 := by
    intro p hp R
    have e : ((p.1.toNat : Nat) : Int) = p.1 := by omega
    obtain ⟨hat, hno, -⟩ := itoa_le p.1.toNat (by omega)
    rw [e] at hat hno
    refine ⟨?_, hat⟩
    have := cut_at (Lib.itoa p.1) (escS p.2.data.toList ++ 34 :: R) (fun c hc => by have := List.all_eq_true.1 hno c hc; simpa using this)
    rw [← this]
    congr 1
    simp [txtP]
  have h1 := (k p hp R).1
  rw [h, (k q hq T).1] at h1
  injection h1 with e1 e2
  injection e2 with e2 _
  have e3 : p.1 = q.1 := by
    have := (k p hp R).2
    rw [← e1, (k q hq T).2] at this
    exact (Option.some.inj this).symm
  have e4 : (escS p.2.data.toList).length = (escS q.2.data.toList).length := by
    have := endL_escS p.2.data.toList R
    rw [← e2, endL_escS q.2.data.toList T] at this
    exact (Option.some.inj this).symm
  obtain ⟨e5, e6⟩ := List.append_inj e2 e4.symm
  have e7 := escS_inj e5
  have e8 : q.2 = p.2 := ByteArray.ext (Array.toList_inj.1 e7)
  exact ⟨Prod.ext e3 e8.symm, by injection e6 with _ e; exact e.symm⟩
theorem textV_inj : ∀ {ps qs : List (Int × ByteArray)}, Good ps → Good qs → textV ps = textV qs → ps = qs
  | [], [], _, _, _ => rfl
  | [], q :: qs, _, _, h => by
    rw [textV_cons, textV_nil] at h
    have h1 := congrArg List.length h
    have := txtP_pos q
    rw [List.length_append, List.length_nil] at h1
    omega
  | p :: ps, [], _, _, h => by
    rw [textV_cons, textV_nil] at h
    have h1 := congrArg List.length h
    have := txtP_pos p
    rw [List.length_append, List.length_nil] at h1
    omega
  | p :: ps, q :: qs, hp, hq, h => by
    rw [textV_cons, textV_cons] at h
    obtain ⟨e1, e2⟩ := txtP_inj ⟨(hp p (List.mem_cons_self ..)).1, (hp p (List.mem_cons_self ..)).2.1⟩ ⟨(hq q (List.mem_cons_self ..)).1, (hq q (List.mem_cons_self ..)).2.1⟩ h
    have e3 : textV ps = textV qs := by rw [← trim_tailV ps, ← trim_tailV qs, e2]
    rw [e1, textV_inj (fun r hr => hp r (List.mem_cons_of_mem _ hr)) (fun r hr => hq r (List.mem_cons_of_mem _ hr)) e3]
theorem good_of {ps : List (Int × ByteArray)} (hv : validV ps 1000 = true) (hs : ∀ p ∈ ps, p.2.size ≤ 2000) : Good ps := fun p hp => by
  obtain ⟨i, hi, rfl⟩ := List.getElem_of_mem hp
  have := validV_at hv hi
  simp only [List.getD, List.getElem?_eq_getElem hi, Option.getD_some] at this
  exact ⟨this.1, by omega, hs _ hp⟩
end Go.Proofs.YtkkggpahanddnaaDoor
