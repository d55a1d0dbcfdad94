/- A range over a map of slices; a row of numbers before and behind the sort. -/
import Derived.Test.YtkodnagneblgaaaD4
namespace Go.Proofs.Ytkodnagneblgaaa
open Go.RowKit Go.Maps Go.Sort
theorem grown_none_but {w w' : World} (h : w.grownBy w' none) (row : Option Nat) : w.grownBy w' row := h.but row
/-- 'range' -/
theorem range_gm {ops : Array Oper} {rest : List Oper} {o : Oper} {a : Act} {Q : Exit → Act → World → Prop} {w : World} (hg : o.guard = none) (m : Operand) (hop : o.op = Op.range 78 m) (M n : Nat) (hd : ByteArray → Value)
    (hm : a.eval m = .map (some M)) (h : GM w M n hd)
    (hK : ∀ w' left cnt, GR w' M w.heap.size n hd left cnt → (∀ s : ByteArray, s.size ≤ maxLen → left (.string s.data.toList) = false → hd s = .slice none 0 0) → w.grownBy w' none → w'.heap.size = w.heap.size + 1 →
      wpList Try.prog ops Q rest (a.put o.dst (.pointer (some ⟨w.heap.size, 0, none⟩))) w') : wpList Try.prog ops Q (o :: rest) a w := by
  obtain ⟨D, h1, h2, h3, h4⟩ := h
  refine wpList_range_own w hg m 78 hop 9 93 lawStr Try.underlying78 hdR M n D hm h1 ?_
  intro w' hr hgr hsz
  refine hK w' _ _ ⟨D, hr, h3, h4⟩ (fun s hs hl => ?_) hgr hsz
  have := h3 s hs
  rw [atKey_of_not_has hl] at this
  exact hdR_inj this (show hdR (.slice none 0 0) = some (.nil, []) from rfl)
/-- 'next' -/
theorem next_gr {ops : Array Oper} {rest : List Oper} {o : Oper} {a : Act} {Q : Exit → Act → World → Prop} {w : World} (hg : o.guard = none) (it : Operand) (hop : o.op = Op.next it false) (M r n : Nat) (hd : ByteArray → Value) (left : Lit → Bool) (cnt : Nat)
    (hit : a.eval it = .pointer (some ⟨r, 0, none⟩)) (h : GR w M r n hd left cnt)
    (hDone : (∀ kl, left kl = false) → wpList Try.prog ops Q rest (a.put o.dst (.tuple #[.bool false])) w)
    (hMore : ∀ (x : ByteArray) (w' : World) (cnt' : Nat), x.size ≤ maxLen → left (.string x.data.toList) = true → hd x ≠ .slice none 0 0 → GR w' M r n hd (fun z => left z && !z.sameKey (.string x.data.toList)) cnt' → cnt' < cnt → w.grownBy w' (some r) → w'.heap.size = w.heap.size →
      (Instr.entry (.pointer (some ⟨r, 0, none⟩))).run Try.prog w' = .ok (.tuple #[.string x, hd x]) w' → wpList Try.prog ops Q rest (a.put o.dst (.tuple #[.bool true, .string x, hd x])) w') : wpList Try.prog ops Q (o :: rest) a w := by
  obtain ⟨D, h1, h3, h4⟩ := h
  refine wpList_next_ranges (α := ByteArray) (β := Value) w hg it hop 9 lawStr hdR Value.string id (fun key kl hk => ?_) (fun v y _ => ⟨v, rfl⟩) M r n D left cnt hit h1 (fun _ hl => hDone hl) ?_
  · unfold keyOf at hk
    cases key <;> simp [Try.underlying9, mapKey] at hk
    exact ⟨_, rfl⟩
  · intro x c kl y w' cnt' hkey hlk hv hat hrg hlt hgr hsz hen
    have hxs : x.size ≤ maxLen ∧ kl = .string x.data.toList := by
      unfold keyOf at hkey
      simp [Try.underlying9, mapKey] at hkey
      exact ⟨hkey.1, hkey.2.symm⟩
    obtain ⟨hx, rfl⟩ := hxs
    have hcx : c = hd x := by
      have e1 := h3 x hx
      rw [hat] at e1
      have e2 := hdR_places hv
      rw [e2] at hv
      exact hdR_inj hv e1
    subst hcx
    exact hMore x w' cnt' hx hlk (h4 x hx (has_true_of_atKey hat)) ⟨D, hrg, h3, h4⟩ hlt hgr hsz hen
theorem GR.left_eq {w : World} {M r n : Nat} {hd : ByteArray → Value} {left : Lit → Bool} {cnt : Nat} (h : GR w M r n hd left cnt) : w.rangeLeft M r = cnt := by
  obtain ⟨D, h1, _⟩ := h
  exact h1.left_eq
theorem GR.lt {w : World} {M r n : Nat} {hd : ByteArray → Value} {left : Lit → Bool} {cnt : Nat} (h : GR w M r n hd left cnt) : r < w.heap.size := by
  obtain ⟨D, h1, _⟩ := h
  exact h1.lt
theorem sameKey_str {s x : ByteArray} : (Lit.string s.data.toList).sameKey (.string x.data.toList) = decide (s = x) := by
  by_cases h : s = x
  · subst h
    rw [decide_eq_true rfl]
    simp [Lit.sameKey]
  · rw [decide_eq_false h]
    exact sameKey_ne (fun e => h (by injection e with e; exact ByteArray.ext (Array.ext' e)))
/-- ahead in the order of the terms: more words, or as many and the less number -/
def RW (lists : List (List ByteArray)) (x y : Nat) : Prop := lnW lists y < lnW lists x ∨ (lnW lists x = lnW lists y ∧ x < y)
def RI (lists : List (List ByteArray)) (x y : Int) : Prop := lnW lists y.toNat < lnW lists x.toNat ∨ (lnW lists x.toNat = lnW lists y.toNat ∧ x < y)
theorem ord_RI (lists : List (List ByteArray)) : Ord (RI lists) (fun _ => True) where
  tr := fun x y z h1 h2 => by unfold RI at *; omega
  tot := fun x y _ _ h => by unfold RI; omega
theorem RI_nat {lists : List (List ByteArray)} {x y : Nat} : RI lists (x : Int) (y : Int) ↔ RW lists x y := by
  unfold RI RW
  simp
/-- the members of a group, in order -/
def SortG (lists : List (List ByteArray)) (s : ByteArray) (ns : List Nat) : Prop := (∀ j, j ∈ ns ↔ j ∈ grp lists lists.length s) ∧ ns.Pairwise (RW lists)
/-- the row as the sort sees it -/
def finA (K : Nat) (ns : List Nat) : Array (Fin (K + 1)) := (ns.map (Fin.ofNat (K + 1))).toArray
theorem finA_size (K : Nat) (ns : List Nat) : (finA K ns).size = ns.length := by simp [finA]
theorem finA_at {K : Nat} {ns : List Nat} (h : ∀ k ∈ ns, k < K + 1) {j : Nat} (hj : j < ns.length) : zOf (finA K ns) j = ((ns.getD j 0 : Nat) : Int) := by
  unfold zOf finA
  have hm := h _ (getD_mem ns j 0 hj)
  rw [getElem!_pos _ j (by simpa using hj)]
  simp only [List.getElem_toArray, List.getElem_map, Fin.ofNat]
  rw [List.getD_eq_getElem?_getD, List.getElem?_eq_getElem hj] at hm ⊢
  simp only [Option.getD_some] at hm ⊢
  rw [Nat.mod_eq_of_lt hm]
theorem finA_enc {K : Nat} {ns : List Nat} (h : ∀ k ∈ ns, k < K + 1) : (finA K ns).toList.map encI = ns.map fun (k : Nat) => Value.int .i64 (k : Int) := by
  unfold finA
  rw [List.map_map]
  refine List.map_congr_left fun k hk => ?_
  simp only [Function.comp, encI, Fin.ofNat]
  rw [Nat.mod_eq_of_lt (h k hk)]
theorem holds_row {K : Nat} {w : World} {base g n cap : Nat} {d : Array (Fin (K + 1))} (h : w.ownsRow base 3 1 (.slice (some ⟨g, 0, none⟩) n cap) n (d.toList.map encI)) : Holds encI w g 0 d := by
  obtain ⟨hl, ⟨h1, _⟩ | ⟨g', cap', cur, h1, h2, h3, h4, h5, h6, h7⟩⟩ := h
  · cases h1
  · injection h1 with e1 e2 e3
    injection e1 with e1
    injection e1 with e1
    subst e1
    intro j hj
    refine ⟨?_, by simp [World.frozen?, h3]⟩
    have hk : (d.toList.map encI)[j]? = some (encI d[j]!) := by
      rw [List.getElem?_map, Array.getElem?_toList, Array.getElem?_eq_getElem hj, getElem!_pos d j hj]; rfl
    rw [← h7, List.getElem?_take] at hk
    simp only [World.cell?, h3, Nat.zero_add]
    split at hk
    · simpa using hk
    · cases hk
theorem own_putRow {K : Nat} {w : World} {base g n cap q : Nat} {xs : List Value} {d' : Array (Fin (K + 1))} (h : w.ownsRow base 3 1 (.slice (some ⟨g, 0, none⟩) n cap) n xs) (hd : d'.size = n) :
    ((putRow encI w g 0 d').drewN q).ownsRow base 3 1 (.slice (some ⟨g, 0, none⟩) n cap) n (d'.toList.map encI) := by
  obtain ⟨hl, ⟨h1, _⟩ | ⟨g', cap', cur, h1, h2, h3, h4, h5, h6, h7⟩⟩ := h
  · cases h1
  · injection h1 with e1 e2 e3
    injection e1 with e1
    injection e1 with e1
    subst e1 e3
    refine ⟨by simp [hd], .inr ⟨g, cap, putCells encI 0 d' cur, rfl, h2, ?_, h4, h5, by simp [putCells, h6], ?_⟩⟩
    · show (putRow encI w g 0 d').heap[g]? = _
      simp [putRow, mapBlock, Array.getElem?_modify, h3, onCells]
    · rw [Nat.mul_one]
      apply List.ext_getElem?
      intro j
      by_cases hj : j < n
      · rw [List.getElem?_take_of_lt hj, Array.getElem?_toList]
        have hj2 : j < cur.size := by omega
        simp [putCells, hj2, hd, hj]
      · rw [List.getElem?_take_eq_none (by omega), List.getElem?_eq_none (by simp [hd]; omega)]
theorem grown_putRow {K : Nat} (w : World) (g q : Nat) (d' : Array (Fin (K + 1))) : w.grownBy ((putRow encI w g 0 d').drewN q) (some g) := by
  refine ⟨rfl, rfl, rfl, ?_, fun k hk hne => ?_⟩
  · show w.heap.size ≤ (putRow encI w g 0 d').heap.size
    simp [putRow, mapBlock]
  · have : g ≠ k := fun e => hne (by rw [e])
    show (putRow encI w g 0 d').heap[k]? = _
    simp [putRow, mapBlock, Array.getElem?_modify, this]
/-- what the sort leaves is the group in order -/
theorem sortG_of {K : Nat} {lists : List (List ByteArray)} (hK : lists.length = K + 1) {s : ByteArray} {d' : Array (Fin (K + 1))} (hsz : d'.size = (grp lists lists.length s).length)
    (ht : SortO (RI lists) (zOf d') 0 (grp lists lists.length s).length) (hm : MemO (zOf (finA K (grp lists lists.length s))) (zOf d') 0 (grp lists lists.length s).length) : SortG lists s (d'.toList.map Fin.val) := by
  have hlt : ∀ k ∈ grp lists lists.length s, k < K + 1 := fun k hk => by have := (grp_mem.1 hk).1; omega
  have hz : ∀ j, j < d'.size → zOf d' j = ((d'.toList.map Fin.val).getD j 0 : Nat) := fun j hj => by
    unfold zOf
    rw [getElem!_pos d' j hj, List.getD_eq_getElem?_getD, List.getElem?_map, Array.getElem?_toList, Array.getElem?_eq_getElem hj]; rfl
  refine ⟨fun j => ⟨fun hj => ?_, fun hj => ?_⟩, ?_⟩
  · obtain ⟨x, hx, rfl⟩ := List.mem_map.1 hj
    obtain ⟨i, hi, rfl⟩ := List.getElem_of_mem hx
    have hi' : i < d'.size := by simpa using hi
    obtain ⟨y, y1, y2, ey⟩ := hm.1 i (Nat.zero_le _) (by omega)
    rw [finA_at hlt y2] at ey
    have : ((d'.toList[i]).val : Int) = zOf d' i := by unfold zOf; rw [getElem!_pos d' i hi']; rfl
    rw [ey] at this
    have h2 : (d'.toList[i]).val = (grp lists lists.length s).getD y 0 := by omega
    rw [h2]
    exact getD_mem _ _ _ y2
  · obtain ⟨y, hy, rfl⟩ := List.getElem_of_mem hj
    obtain ⟨i, i1, i2, ei⟩ := hm.2 y (Nat.zero_le _) hy
    rw [finA_at hlt hy, hz i (by omega)] at ei
    have h2 : (grp lists lists.length s)[y] = (d'.toList.map Fin.val).getD i 0 := by
      have : (grp lists lists.length s).getD y 0 = (grp lists lists.length s)[y] := by rw [List.getD_eq_getElem?_getD, List.getElem?_eq_getElem hy]; rfl
      omega
    rw [h2]
    exact getD_mem _ _ _ (by simp; omega)
  · rw [List.pairwise_iff_getElem]
    intro i j hi hj hij
    have hi' : i < d'.size := by simpa using hi
    have hj' : j < d'.size := by simpa using hj
    have := ht i j (Nat.zero_le _) hij (by omega)
    rw [hz i hi', hz j hj'] at this
    have h1 := RI_nat.1 this
    rw [List.getD_eq_getElem?_getD, List.getElem?_eq_getElem hi, List.getD_eq_getElem?_getD, List.getElem?_eq_getElem hj] at h1
    simpa using h1
theorem rise_grp {K : Nat} {lists : List (List ByteArray)} (hK : lists.length = K + 1) (s : ByteArray) : RiseO (zOf (finA K (grp lists lists.length s))) 0 (finA K (grp lists lists.length s)).size := by
  have hlt : ∀ k ∈ grp lists lists.length s, k < K + 1 := fun k hk => by have := (grp_mem.1 hk).1; omega
  rw [finA_size]
  intro i j _ hij hj
  rw [finA_at hlt (by omega), finA_at hlt hj]
  have hp : (grp lists lists.length s).Pairwise (· < ·) := List.Pairwise.filter _ List.pairwise_lt_range
  have := List.pairwise_iff_getElem.1 hp i j (by omega) hj hij
  rw [List.getD_eq_getElem?_getD, List.getElem?_eq_getElem (by omega), List.getD_eq_getElem?_getD, List.getElem?_eq_getElem hj]
  simp only [Option.getD_some]
  omega
end Go.Proofs.Ytkodnagneblgaaa
