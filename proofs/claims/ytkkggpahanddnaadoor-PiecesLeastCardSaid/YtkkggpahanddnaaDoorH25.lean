/- Plain laws for PiecesOther: the body of a document with one piece replaced. -/
import Derived.Test.YtkkggpahanddnaaDoorH23
namespace Go.Proofs.YtkkggpahanddnaaDoor
theorem take_set_drop {α : Type} (l : List α) (k : Nat) (s : α) (h : k < l.length) : l.set k s = l.take k ++ s :: l.drop (k + 1) := by
  rw [List.set_eq_take_append_cons_drop, if_pos h]
theorem catV_cons (x : ByteArray) (l : List ByteArray) : catV (x :: l) = x.data.toList ++ catV l := rfl
theorem catV_set (l : List ByteArray) (k : Nat) (s : ByteArray) (h : k < l.length) : catV (l.set k s) = catV (l.take k) ++ s.data.toList ++ catV (l.drop (k + 1)) := by
  rw [take_set_drop l k s h, catV_app, catV_cons, List.append_assoc]
theorem catV_at (l : List ByteArray) (k : Nat) (h : k < l.length) : catV l = catV (l.take k) ++ (l.getD k .empty).data.toList ++ catV (l.drop (k + 1)) := by
  have h1 : l.set k (l.getD k .empty) = l := by
    apply List.ext_getElem?
    intro i
    rw [List.getElem?_set]
    split
    · subst_vars
      first
        | (rw [if_pos h]; simp [List.getD, List.getElem?_eq_getElem h])
        | simp [List.getD, List.getElem?_eq_getElem h]
    · rfl
  have h2 := catV_set l k (l.getD k .empty) h
  rwa [h1] at h2
theorem bs_ba (s : ByteArray) : bs s.data.toList = s := by cases s; rfl
theorem body_at (l : List ByteArray) (k : Nat) (h : k < l.length) : bs (catV l) = bs (catV (l.take k)) ++ l.getD k .empty ++ bs (catV (l.drop (k + 1))) := by
  rw [catV_at l k h, ← bs_append, ← bs_append, bs_ba]
theorem body_set (l : List ByteArray) (k : Nat) (s : ByteArray) (h : k < l.length) : bs (catV (l.set k s)) = bs (catV (l.take k)) ++ s ++ bs (catV (l.drop (k + 1))) := by
  rw [catV_set l k s h, ← bs_append, ← bs_append, bs_ba]
theorem few_set {l : List ByteArray} {k : Nat} {s : ByteArray} (hf : fewV l = true) (hs : s.size ≤ 2000) : fewV (l.set k s) = true := by
  obtain ⟨h1, h2⟩ := fewV_facts hf
  unfold fewV
  rw [List.length_set, decide_eq_true h2, Bool.and_true, List.all_eq_true]
  intro x hx
  rcases List.mem_or_eq_of_mem_set hx with g | g
  · exact decide_eq_true (h1 x g)
  · subst g; exact decide_eq_true hs
theorem getD_set_ne (l : List ByteArray) {k j : Nat} (s : ByteArray) (h : j ≠ k) : (l.set k s).getD j .empty = l.getD j .empty := by
  simp [List.getD, Ne.symm h]
theorem getD_set_eq (l : List ByteArray) {k : Nat} (s : ByteArray) (h : k < l.length) : (l.set k s).getD k .empty = s := by
  simp [List.getD, h]
theorem ba_pre (a b : ByteArray) : (a ++ b).extract 0 a.size = a := by
  rw [ByteArray.extract_append_eq_left rfl]
theorem ba_suf (a b : ByteArray) : (a ++ b).extract a.size (a.size + b.size) = b := by
  rw [ByteArray.extract_append_eq_right rfl rfl]
/-- the bytes ahead of the piece k, behind m rounds -/
def aheadV (l : List ByteArray) (k m : Nat) : Nat := (catV (l.take (min m k))).length
theorem ahead_lo {l : List ByteArray} {k m : Nat} (h : m < k) (hl : m < l.length) : aheadV l k (m + 1) = aheadV l k m + (l.getD m .empty).size := by
  unfold aheadV
  rw [Nat.min_eq_left (by omega : m + 1 ≤ k), Nat.min_eq_left (by omega : m ≤ k), catV_take_succ l m hl, List.length_append]
  rfl
theorem ahead_hi {l : List ByteArray} {k m : Nat} (h : k ≤ m) : aheadV l k m = (bs (catV (l.take k))).size := by
  unfold aheadV
  rw [Nat.min_eq_right h, bs_size]
theorem ahead_le {l : List ByteArray} (hf : fewV l = true) (k m : Nat) : aheadV l k m ≤ 44000 := by
  obtain ⟨h1, h2⟩ := fewV_facts hf
  have h3 := catV_le (l := l.take (min m k)) (m := 2000) (fun x hx => h1 x (List.mem_of_mem_take hx))
  unfold aheadV
  have h4 : (l.take (min m k)).length ≤ 22 := by rw [List.length_take]; omega
  have h5 : (l.take (min m k)).length * 2000 ≤ 22 * 2000 := Nat.mul_le_mul_right _ h4
  omega
end Go.Proofs.YtkkggpahanddnaaDoor
