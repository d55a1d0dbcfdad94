/- Plain: what the loops over rules, conditions and keys compute. -/
import Derived.Test.YtadhblppeaamlaaGreatDoorS3
namespace Go.Proofs.YtadhblppeaamlaaGreatDoor
open Go.RowKit

theorem RowsOf.get {α : Type} {C : World → (Nat → Value) → α → Prop} {w : World} {l : List α} {f : Nat → Nat → Value} (h : ∀ i x, l[i]? = some x → C w (f i) x) {i : Nat} (hi : i < l.length) (d : α) : C w (f i) (l.getD i d) :=
  h i _ (by rw [List.getElem?_eq_getElem hi]; simp [List.getD, List.getElem?_eq_getElem hi])
theorem all_getD {α : Type} {q : α → Bool} {l : List α} (d : α) (h : ∀ i, i < l.length → q (l.getD i d) = true) : l.all q = true := by
  rw [List.all_eq_true]
  intro x hx
  obtain ⟨i, hi, rfl⟩ := List.getElem_of_mem hx
  have := h i hi
  rwa [show l.getD i d = l[i] from by simp [List.getD, List.getElem?_eq_getElem hi]] at this
theorem all_not {α : Type} {q : α → Bool} {l : List α} (d : α) {i : Nat} (hi : i < l.length) (h : q (l.getD i d) = false) : l.all q = false := by
  rw [← Bool.not_eq_true, List.all_eq_true]
  intro hc
  rw [hc _ (getD_mem l i d hi)] at h
  cases h
theorem any_getD {α : Type} {q : α → Bool} {l : List α} (d : α) {i : Nat} (hi : i < l.length) (h : q (l.getD i d) = true) : l.any q = true :=
  List.any_eq_true.2 ⟨_, getD_mem l i d hi, h⟩
theorem any_not {α : Type} {q : α → Bool} {l : List α} (d : α) (h : ∀ i, i < l.length → q (l.getD i d) = false) : l.any q = false := by
  rw [← Bool.not_eq_true, List.any_eq_true]
  rintro ⟨x, hx, e⟩
  obtain ⟨i, hi, rfl⟩ := List.getElem_of_mem hx
  have := h i hi
  rw [show l.getD i d = l[i] from by simp [List.getD, List.getElem?_eq_getElem hi], e] at this
  cases this
theorem relN_getD {c : List (List Rel)} {k : Nat} (hk : k < c.length) : relN (c.take (k + 1)) = relN (c.take k) + (c.getD k []).length :=
  relN_take (by simp [List.getD, List.getElem?_eq_getElem hk])
theorem relN_all (c : List (List Rel)) : relN (c.take c.length) = relN c := by rw [List.take_length]
theorem validC_no {c : List (List Rel)} {k : Nat} (hk : k < c.length) (h : listOk (c.getD k []) = false) : validC c = false := by
  unfold validC
  rw [all_not [] hk h]
  rfl
theorem validC_end {c : List (List Rel)} (h : ∀ i, i < c.length → listOk (c.getD i []) = true) : validC c = (decide (0 < c.length) && decide (relN c ≤ 6)) := by
  unfold validC
  rw [all_getD [] h]
  cases c <;> simp
theorem validR_no {rs : List (ByteArray × List (List Rel))} {k : Nat} (hk : k < rs.length) (h : ruleOk rs k = false) : validR rs = false := by
  unfold validR
  rw [← Bool.not_eq_true, List.all_eq_true]
  intro hc
  rw [hc k (List.mem_range.2 hk)] at h
  cases h
theorem validR_end {rs : List (ByteArray × List (List Rel))} (h : ∀ i, i < rs.length → ruleOk rs i = true) : validR rs = true :=
  List.all_eq_true.2 fun i hi => h i (List.mem_range.1 hi)
/-- the rules ahead of the k-th one have another class -/
theorem ruleOk_eq (rs : List (ByteArray × List (List Rel))) (k : Nat) (hk : k < rs.length) : ruleOk rs k = (knownC (rs.getD k (.empty, [])).1 && validC (rs.getD k (.empty, [])).2 && !(anyP (fun j => (rs.getD j (.empty, [])).1 == (rs.getD k (.empty, [])).1) k)) := by
  have e1 : ((rs.take k).any fun x => x.1 == (rs.getD k (.empty, [])).1) = anyP (fun j => (rs.getD j (.empty, [])).1 == (rs.getD k (.empty, [])).1) k := by
    have e := anyP_list (fun x : ByteArray × List (List Rel) => x.1 == (rs.getD k (.empty, [])).1) (rs.take k) (.empty, [])
    rw [← e, List.length_take, Nat.min_eq_left (by omega)]
    apply anyP_congr
    intro i hi
    simp [List.getD, hi]
  rw [← e1]
  rfl
theorem holdsC_hit {s : List UInt8} {c : List (List Rel)} {k : Nat} (hk : k < c.length) (h : (c.getD k []).all (holdsR s) = true) : holdsC s c = true := any_getD [] hk h
theorem holdsC_miss {s : List UInt8} {c : List (List Rel)} (h : ∀ i, i < c.length → (c.getD i []).all (holdsR s) = false) : holdsC s c = false := any_not [] h
theorem classOf_hit {rs : List (ByteArray × List (List Rel))} {s : List UInt8} {k : Nat} (hk : k < rs.length) (h : holdsC s (rs.getD k (.empty, [])).2 = true) (hm : ∀ i, i < k → holdsC s (rs.getD i (.empty, [])).2 = false) : classOf rs s = (rs.getD k (.empty, [])).1 := by
  have e : rs = rs.take k ++ rs.getD k (.empty, []) :: rs.drop (k + 1) := by
    rw [show rs.getD k (.empty, []) = rs[k] from by simp [List.getD, List.getElem?_eq_getElem hk], ← List.drop_eq_getElem_cons hk, List.take_append_drop]
  have h0 : (rs.take k).find? (fun r => holdsC s r.2) = none := List.find?_eq_none.2 fun x hx => by
    obtain ⟨i, hi, rfl⟩ := List.getElem_of_mem hx
    have hik : i < k := by simp at hi; omega
    have := hm i hik
    rw [show rs.getD i (.empty, []) = (rs.take k)[i] from by simp [List.getD, List.getElem?_eq_getElem (show i < rs.length by omega)]] at this
    rw [this]
    simp
  unfold classOf
  have : rs.find? (fun r => holdsC s r.2) = some (rs.getD k (.empty, [])) := by
    conv => lhs; rw [e]
    rw [List.find?_append, h0, List.find?_cons_of_pos (p := fun r : ByteArray × List (List Rel) => holdsC s r.2) h]
    rfl
  rw [this]
theorem classOf_miss {rs : List (ByteArray × List (List Rel))} {s : List UInt8} (hm : ∀ i, i < rs.length → holdsC s (rs.getD i (.empty, [])).2 = false) : classOf rs s = otherB := by
  unfold classOf
  have : rs.find? (fun r => holdsC s r.2) = none := List.find?_eq_none.2 fun x hx => by
    obtain ⟨i, hi, rfl⟩ := List.getElem_of_mem hx
    have := hm i hi
    rw [show rs.getD i (.empty, []) = rs[i] from by simp [List.getD, List.getElem?_eq_getElem hi]] at this
    rw [this]
    simp
  rw [this]
theorem classV_yes {rs : List (ByteArray × List (List Rel))} {s : List UInt8} (h1 : validR rs = true) (h2 : dOk s = true) : classV rs s = (classOf rs s, 0) := by unfold classV; rw [h1, h2]; rfl
theorem classV_no {rs : List (ByteArray × List (List Rel))} {s : List UInt8} (h1 : validR rs = false) : classV rs s = (.empty, 1) := by unfold classV; rw [h1]; rfl
theorem classV_no2 {rs : List (ByteArray × List (List Rel))} {s : List UInt8} (h2 : dOk s = false) : classV rs s = (.empty, 1) := by unfold classV; rw [h2, Bool.and_false]; rfl
end Go.Proofs.YtadhblppeaamlaaGreatDoor
