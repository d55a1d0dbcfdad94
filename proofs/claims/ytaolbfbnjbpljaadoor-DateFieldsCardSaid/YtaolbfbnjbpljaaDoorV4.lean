/- Walks: the kinds of fields, by the program. -/
import Derived.Test.YtaolbfbnjbpljaaDoorV3
import Derived.Lib.OwnBridge
namespace Go.Proofs.YtaolbfbnjbpljaaDoor
open Go.RowKit Go.Sort
attribute [local go_sem] Ext.cell Ext.frozen
attribute [local go_sem ↓] Go.wp_at_zero Go.wp_at_succ

theorem cellsStr : Tryd.prog.cellsOf 9 = 1 := by kernel_rfl
/-- the first letters, in order, each once -/
def headsL (fs : List (List UInt8)) : List (List UInt8) := fs.map (·.take 1)
def sortL (l : List (List UInt8)) : List (List UInt8) := l.mergeSort fun x y => decide (x ≤ y)
def kindsV (fs : List (List UInt8)) : List UInt8 × Bool := (Lib.join (Lib.compact (sortL (headsL fs))) [], decide ((Lib.compact (sortL (headsL fs))).length = fs.length))
theorem enc_bs (l : List (List UInt8)) : l.map encStr = strs (l.map bs) := by
  unfold strs; rw [List.map_map]; rfl
theorem sort_len (l : List (List UInt8)) : (sortL l).length = l.length := List.length_mergeSort ..

theorem below_grow0 (B : Nat) (w : World) (os : Array Obj) (hB : B ≤ w.heap.size) : Below B w (grow w os) :=
  ⟨rfl, rfl, rfl, by show w.heap.size ≤ (w.heap ++ os).size; rw [Array.size_append]; omega, fun k hk => by show (w.heap ++ os)[k]? = _; rw [Array.getElem?_append_left (by omega)]⟩
/-- slices.Sort of a slice of the call's own -/
theorem sort_own (ad : Option Addr) (n c base : Nat) (ss : List (List UInt8)) (w : World) (h : w.ownsRow base 9 1 (.slice ad n c) n (strs (ss.map bs))) (hn : 0 < n) (hn2 : n ≤ 1000000) (hb : base ≤ w.heap.size) :
    Calls Tryd.prog 56 #[.slice ad n c] w fun e w' => e = .returned (.tuple #[]) ∧ w'.ownsRow base 9 1 (.slice ad n c) n (strs ((sortL ss).map bs)) ∧ Below base w w' := by
  rw [← enc_bs] at h
  obtain ⟨g, cap, hv, hbg, hgl, hnc, hcm, hl, hH⟩ := Lib.holds_of_ownsRow h (by intro e; injection e with _ e2 _; omega)
  injection hv with hv1 _ hv3
  subst hv1 hv3
  subst hl
  refine (Tryd.slices_Sort_string g 0 c ss w hH hgl (by omega)).mono ?_
  rintro e w' ⟨he, q, os, hw⟩
  subst hw
  have h1 := Lib.ownsRow_putRow (q := q) h (ys := sortL ss) (sort_len ss) (Nat.le_refl _)
  rw [List.take_of_length_le (by rw [sort_len]; exact Nat.le_refl _), enc_bs] at h1
  have h2 := Lib.below_putRow (q := q) (d := (sortL ss).toArray) (enc := encStr) (Below.refl base w) hbg
  have h3 : Below (putRow encStr (Sort.ahead w q) g 0 (sortL ss).toArray).heap.size (putRow encStr (Sort.ahead w q) g 0 (sortL ss).toArray) (grow (putRow encStr (Sort.ahead w q) g 0 (sortL ss).toArray) os) :=
    below_grow0 _ _ os (Nat.le_refl _)
  exact ⟨he, Own.below h1 h3, h2.trans (h3.mono (Nat.le_trans hb h2.size))⟩

/-- slices.Clone, then slices.Compact, of a slice of the call's own -/
theorem clone_own (ad : Option Addr) (n c base : Nat) (ss : List (List UInt8)) (w : World) (h : w.ownsRow base 9 1 (.slice ad n c) n (strs (ss.map bs))) (hn : 0 < n) (hn2 : n ≤ 1000000) :
    Calls Tryd.prog 58 #[.slice ad n c] w fun e w' => ∃ ad' c', e = .returned (.slice ad' n c') ∧ w'.ownsRow w.heap.size 9 1 (.slice ad' n c') n (strs (ss.map bs)) ∧ Below w.heap.size w w' := by
  obtain ⟨b, off, hs⟩ := Own.sl h
  have hl := hs.len
  rw [strs_length] at hl
  have had := hs.adr (by omega)
  subst had
  refine (Tryd.slices_Clone_string b off n c (ss.map bs) w (by omega) (by omega) ?_).mono ?_
  · intro j hj
    have := hs.cell j (by omega)
    rw [strs_getD _ _ hj] at this
    exact this
  rintro e w' ⟨v, he, hown, _, hb⟩
  obtain ⟨ad', c', rfl⟩ := own_form hown
  rw [List.take_of_length_le (by omega)] at hown
  exact ⟨ad', c', he, hown, hb⟩
theorem compact_own (ad : Option Addr) (n c base : Nat) (ss : List (List UInt8)) (w : World) (h : w.ownsRow base 9 1 (.slice ad n c) n (strs (ss.map bs))) (hn : 0 < n) (hn2 : n ≤ 1000000) (_hb : base ≤ w.heap.size) (hc : (Lib.compact ss).length ≤ ss.length) :
    Calls Tryd.prog 57 #[.slice ad n c] w fun e w' => e = .returned (.slice ad (Lib.compact ss).length c) ∧ w'.ownsRow base 9 1 (.slice ad (Lib.compact ss).length c) (Lib.compact ss).length (strs ((Lib.compact ss).map bs)) ∧ Below base w w' := by
  rw [← enc_bs] at h
  obtain ⟨g, cap, hv, hbg, hgl, hnc, hcm, hl, hH⟩ := Lib.holds_of_ownsRow h (by intro e; injection e with _ e2 _; omega)
  injection hv with hv1 _ hv3
  subst hv1 hv3
  subst hl
  refine (Tryd.slices_Compact_string g 0 c ss w hH (by omega) hnc).mono ?_
  rintro e w' ⟨he, q, hw⟩
  subst hw
  have h1 := Lib.ownsRow_putRow (q := q) h (ys := Lib.compact ss ++ List.replicate (ss.length - (Lib.compact ss).length) []) (k := (Lib.compact ss).length) (by rw [List.length_append, List.length_replicate]; omega) hc
  rw [List.take_left, enc_bs] at h1
  exact ⟨he, h1, Lib.below_putRow (Below.refl base w) hbg⟩
theorem join_own (ad : Option Addr) (n c base : Nat) (ss : List (List UInt8)) (w : World) (h : w.ownsRow base 9 1 (.slice ad n c) n (strs (ss.map bs))) (hn : 0 < n) (hn2 : n ≤ 1000000) (hlen : (Lib.join ss []).length ≤ 1000000) :
    Calls Tryd.prog 59 #[.slice ad n c, .string ⟨#[]⟩] w fun e w' => e = .returned (.string (bs (Lib.join ss []))) ∧ Below w.heap.size w w' := by
  obtain ⟨g, cap, hv, hbg, hgl, hnc, hcm, hl, hH⟩ := Lib.holds_of_ownsRow (by rw [← enc_bs] at h; exact h) (by intro e; injection e with _ e2 _; omega)
  injection hv with hv1 _ hv3
  subst hv1 hv3
  obtain ⟨b, off, hs⟩ := Own.sl h
  have had := hs.adr (by omega)
  injection had with had
  injection had with had1 had2
  subst had1 had2
  have hl2 : (ss.map bs).length = n := by rw [List.length_map]; exact hl
  subst hl2
  have hm : (ss.map bs).map (·.data.toList) = ss := by rw [List.map_map]; exact List.map_id _
  have := Tryd.strings_Join g 0 c (ss.map bs) ⟨#[]⟩ w (fun j x hx => by
    obtain ⟨hj, hx⟩ := List.getElem?_eq_some_iff.1 hx
    have := hs.cell j hj
    rw [strs_getD _ _ hj] at this
    rw [this, ← hx]
    simp [List.getD, List.getElem?_eq_getElem hj]) hgl (by omega) hnc (by rw [hm]; exact Nat.le_trans hlen (by omega))
  rw [hm] at this
  exact this
end Go.Proofs.YtaolbfbnjbpljaaDoor
