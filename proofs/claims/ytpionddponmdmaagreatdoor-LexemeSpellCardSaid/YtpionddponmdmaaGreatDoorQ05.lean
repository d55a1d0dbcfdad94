/- Slices of strings in regions that draw their order: one slice behind a row of the call's own. -/
import Derived.Test.YtpionddponmdmaaGreatDoorQ00
import Derived.Test.YtpionddponmdmaaGreatDoorQ04
import Derived.Deep.RegionHeld3
import Derived.Deep.AppendLies
import Derived.Deep.DrawnRows
import Derived.Laws.AppendOwnNone
namespace Go.Proofs.YtpionddponmdmaaGreatDoor
open Go.RowKit
theorem wp_at_worldH {P : Program} {c : Code} {Q : Exit → Act → World → Prop} {a : Act} {w : World} (h : ∀ W, W = w → c.wp P Q a W) : c.wp P Q a w := h w rfl
theorem infoS : (Tryz.prog.info? 9).map (fun i => (i.zero, i.size, i.bytes)) = some (some (.string .empty), 1, 16) := by kernel_rfl
theorem cellsS : Tryz.prog.cellsOf 9 = 1 := by kernel_rfl
theorem bytesS : Tryz.prog.bytesOf 9 = 16 := by kernel_rfl
theorem strs_app (l m : List ByteArray) : strs (l ++ m) = strs l ++ strs m := by simp [strs]
theorem strs_one (l : List ByteArray) : ∀ u ∈ strs l, u.oneCell' = true := by
  intro u hu
  obtain ⟨s, _, rfl⟩ := List.mem_map.1 hu
  rfl
theorem add_flat (b off j : Nat) : (⟨b, off, none⟩ : Addr).add j = ⟨b, off + j, none⟩ := by
  unfold Addr.add
  split
  · rename_i h; subst h; rfl
  · rfl
/-- a row of the call's own behind which another slice is laid -/
theorem run_app_strs {w : World} (ty : TypeId) (base : Nat) (ad : Option Addr) (k c : Nat) (ys : List Value) (hown : w.ownsRow base 9 1 (.slice ad k c) k ys) (ad2 : Option Addr) (n c2 : Nat) (xs : List ByteArray)
    (hx : Sl w ad2 n (strs xs)) (hc : ad2 = none → c2 = 0) (hr : (k + n) * 16 ≤ 140737488355328) (hb : base ≤ w.heap.size) :
    ∃ ad' c' w', (Builtin.append_ #[40, 40] ty #[.slice ad k c, .slice ad2 n c2]).run Tryz.prog w = .ok (.slice ad' (k + n) c') w' ∧
      w'.ownsRow base 9 1 (.slice ad' (k + n) c') (k + n) (ys ++ strs xs) ∧ w.grownBy w' (Value.ownBlock (.slice ad k c)) ∧ (ad' = none → ad = none) := by
  obtain ⟨i0, hi, hz0, hz1, hz2⟩ := info_parts infoS
  obtain ⟨b, off, hs⟩ := hx
  have hl : xs.length = n := by have := hs.len; rw [strs_length] at this; exact this
  cases ad2 with
  | none =>
    have h0 : n = 0 := by
      rcases Nat.eq_zero_or_pos n with h | h
      · exact h
      · have := hs.adr (by omega); cases this
    obtain rfl := hc rfl
    subst h0
    have hxs : xs = [] := List.eq_nil_of_length_eq_zero hl
    subst hxs
    refine ⟨ad, c, w, run_append_owned_none w base 40 ty 9 i0 1 Tryz.underlying40 hi (.slice ad k c) k ys hown, by simpa [strs] using hown, World.grownBy.refl _ _, fun h => h⟩
  | some A2 =>
    have news : ∀ j u, (strs xs)[j]? = some u → w.cell? (A2.add j) = some u := by
      intro j u hu
      have hj : j < (strs xs).length := (List.getElem?_eq_some_iff.1 hu).1
      rw [strs_length, hl] at hj
      have ha : A2 = ⟨b, off, none⟩ := by have := hs.adr (by omega); injection this
      rw [ha, add_flat, hs.cell j hj, List.getD, hu]; rfl
    obtain ⟨v', w', h1, h2, h3, h4⟩ := run_append_own (P := Tryz.prog) (w := w) base 40 ty 9 i0 (.string .empty) 1 16 Tryz.underlying40 hi hz0 hz1 hz2 rfl (by omega) (.slice ad k c) k ys hown A2 n c2 (strs xs)
      (by rw [strs_length, hl]; omega) news (strs_one xs) (by unfold maxLen; omega) hr hb
    obtain ⟨ad', c', rfl⟩ := own_form h2
    refine ⟨ad', c', w', h1, h2, h3, fun h => ?_⟩
    subst h
    rcases h2.2 with ⟨e, _⟩ | ⟨g, cap, cur, e, _⟩
    · exact (Value.slice.inj (h4.1 e).1).1
    · cases (Value.slice.inj e).1
/-- at an operation -/
theorem wp_app_strs {o : Oper} {a : Act} {w : World} {K : Act → World → Prop} {Q : Exit → Act → World → Prop} (s x : Operand)
    (ho : o.op = .call { callee := .builtin .append, args := #[s, x], argTypes := #[40, 40] })
    (base : Nat) (ad : Option Addr) (k c : Nat) (ys : List Value) (hs : a.eval s = .slice ad k c) (hown : w.ownsRow base 9 1 (.slice ad k c) k ys) (ad2 : Option Addr) (n c2 : Nat) (xs : List ByteArray)
    (hxe : a.eval x = .slice ad2 n c2) (hx : Sl w ad2 n (strs xs)) (hc : ad2 = none → c2 = 0) (hr : (k + n) * 16 ≤ 140737488355328) (hb : base ≤ w.heap.size)
    (h : ∀ ad' c' w', w'.ownsRow base 9 1 (.slice ad' (k + n) c') (k + n) (ys ++ strs xs) → w.grownBy w' (Value.ownBlock (.slice ad k c)) → (ad' = none → ad = none) → K (a.put o.dst (.slice ad' (k + n) c')) w') : o.wp Tryz.prog a w K Q := by
  obtain ⟨ad', c', w', h1, h2, h3, h4⟩ := run_app_strs o.type base ad k c ys hown ad2 n c2 xs hx hc hr hb
  unfold Oper.wp execOp
  simp only [ho, resolve, invoke, builtin, Sem.run_bind, Sem.run_pure, Result.andThen_ok, List.map_toArray, List.map_cons, List.map_nil, hs, hxe, h1]
  exact h ad' c' w' h2 h3 h4
/-- at a step of a region that draws its order -/
theorem step_app_strs {ops : Array Oper} {o : Oper} {a : Act} {w : World} {K : Act → World → Prop} {Q : Exit → Act → World → Prop} {E : Prop} (hgd : o.guard = none) (s x : Operand)
    (ho : o.op = .call { callee := .builtin .append, args := #[s, x], argTypes := #[40, 40] })
    (base : Nat) (ad : Option Addr) (k c : Nat) (ys : List Value) (hs : a.eval s = .slice ad k c) (hown : w.ownsRow base 9 1 (.slice ad k c) k ys) (ad2 : Option Addr) (n c2 : Nat) (xs : List ByteArray)
    (hxe : a.eval x = .slice ad2 n c2) (hx : Sl w ad2 n (strs xs)) (hc : ad2 = none → c2 = 0) (hr : (k + n) * 16 ≤ 140737488355328) (hb : base ≤ w.heap.size)
    (h : ∀ ad' c' w', w'.ownsRow base 9 1 (.slice ad' (k + n) c') (k + n) (ys ++ strs xs) → w.grownBy w' (Value.ownBlock (.slice ad k c)) → (ad' = none → ad = none) → K (a.put o.dst (.slice ad' (k + n) c')) w') :
    if Region.wanted o (yielded ops a.tmps) = true then Oper.wp Tryz.prog o a w K Q else E := by
  have hw : Region.wanted o (yielded ops a.tmps) = true := by simp [Region.wanted, hgd]
  rw [if_pos hw]
  exact wp_app_strs s x ho base ad k c ys hs hown ad2 n c2 xs hxe hx hc hr hb h
/-- in a list of operations -/
theorem wpList_app_strs {ops : Array Oper} {rest : List Oper} {o : Oper} {a : Act} {w : World} {Q : Exit → Act → World → Prop} (hgd : o.guard = none) (s x : Operand)
    (ho : o.op = .call { callee := .builtin .append, args := #[s, x], argTypes := #[40, 40] })
    (base : Nat) (ad : Option Addr) (k c : Nat) (ys : List Value) (hs : a.eval s = .slice ad k c) (hown : w.ownsRow base 9 1 (.slice ad k c) k ys) (ad2 : Option Addr) (n c2 : Nat) (xs : List ByteArray)
    (hxe : a.eval x = .slice ad2 n c2) (hx : Sl w ad2 n (strs xs)) (hc : ad2 = none → c2 = 0) (hr : (k + n) * 16 ≤ 140737488355328) (hb : base ≤ w.heap.size)
    (h : ∀ ad' c' w', w'.ownsRow base 9 1 (.slice ad' (k + n) c') (k + n) (ys ++ strs xs) → w.grownBy w' (Value.ownBlock (.slice ad k c)) → (ad' = none → ad = none) → wpList Tryz.prog ops Q rest (a.put o.dst (.slice ad' (k + n) c')) w') : wpList Tryz.prog ops Q (o :: rest) a w :=
  wpList_plain hgd fun _ hK => wp_app_strs s x ho base ad k c ys hs hown ad2 n c2 xs hxe hx hc hr hb fun ad' c' w' h2 h3 h4 => hK _ _ (h ad' c' w' h2 h3 h4)
/-- the cells of a block that is known whole -/
theorem row_cells {w : World} {B : Nat} {cs : Array Value} {t : TypeId} (hb : w.heap[B]? = some (.cells cs t (0, 0))) (j : Nat) : w.cell? ⟨B, j, none⟩ = cs[j]? := by
  simp [World.cell?, hb]
theorem row_frozen {w : World} {B : Nat} {cs : Array Value} {t : TypeId} (hb : w.heap[B]? = some (.cells cs t (0, 0))) (j : Nat) : w.frozen? ⟨B, j, none⟩ = false := by
  simp [World.frozen?, hb]
theorem row_new (w : World) (cs : Array Value) (t : TypeId) : (w.alloc (.cells cs t)).heap[w.heap.size]? = some (.cells cs t (0, 0)) := by show (w.heap.push _)[w.heap.size]? = _; simp
theorem row_new2 (w : World) (o : Obj) (cs : Array Value) (t : TypeId) : ((w.alloc o).alloc (.cells cs t)).heap[w.heap.size + 1]? = some (.cells cs t (0, 0)) := by
  have := row_new (w.alloc o) cs t
  rwa [World.size_alloc] at this
/-- .. behind a store -/
theorem row_set {w : World} {B : Nat} {cs : Array Value} {t : TypeId} (hb : w.heap[B]? = some (.cells cs t (0, 0))) (j : Nat) (v : Value) : (w.setCell ⟨B, j, none⟩ v).heap[B]? = some (.cells (cs.setIfInBounds j v) t (0, 0)) := by
  simp [World.setCell, Array.getElem?_modify, hb]
/-- a row of the call's own is another block than one of another type -/
theorem own_other {w : World} {base : Nat} {E T : TypeId} {size : Nat} {v : Value} {n : Nat} {xs : List Value} {b : Nat} {cs : Array Value} {fr : Nat × Nat} (hown : w.ownsRow base E size v n xs) (hb : w.heap[b]? = some (.cells cs T fr)) (hTe : T ≠ E) : v.ownBlock ≠ some b := by
  rcases hown.2 with ⟨rfl, _⟩ | ⟨g, cap, cur, rfl, _, hg, _⟩
  · simp [Value.ownBlock]
  · intro h
    simp only [Value.ownBlock, Option.some.injEq] at h
    subst h
    rw [hg] at hb
    simp only [Option.some.injEq, Obj.cells.injEq] at hb
    exact hTe hb.2.1.symm
theorem own_set {w : World} {base : Nat} {E T : TypeId} {size : Nat} {v : Value} {n : Nat} {xs : List Value} {b : Nat} {cs : Array Value} {fr : Nat × Nat} (hown : w.ownsRow base E size v n xs) (hb : w.heap[b]? = some (.cells cs T fr)) (hTe : T ≠ E) (j : Nat) (u : Value) : (w.setCell ⟨b, j, none⟩ u).ownsRow base E size v n xs :=
  hown.kept (row := some b) ⟨rfl, rfl, rfl, by simp [World.setCell], fun k _ hk => Below.heap_setCell _ _ _ _ (fun e => hk (by simp [e]))⟩ (Or.inr (own_other hown hb hTe))
/-- what lay ahead of a new row is as it was -/
theorem app_below {W w' : World} {o : Obj} {n c : Nat} (hg : ((W.alloc o).drew).grownBy w' (Value.ownBlock (.slice (some ⟨W.heap.size, 0, none⟩) n c))) : Below W.heap.size W w' :=
  (((Below.refl W.heap.size W).alloc (Nat.le_refl _) o).drew).grown hg (by simp) (fun k hk => by simp [Value.ownBlock] at hk; omega)
/-- an empty slice that was made just now -/
theorem own_empty (w : World) (E : TypeId) : (w.alloc (.cells #[] E)).ownsRow w.heap.size E 1 (.slice (some ⟨w.heap.size, 0, none⟩) 0 0) 0 [] :=
  ⟨rfl, .inr ⟨w.heap.size, 0, #[], rfl, Nat.le_refl _, by show (w.heap.push _)[w.heap.size]? = some _; simp, Nat.le_refl _, by unfold maxLen; omega, rfl, rfl⟩⟩
theorem own_one (w : World) (E : TypeId) (v : Value) : (w.alloc (.cells #[v] E)).ownsRow w.heap.size E 1 (.slice (some ⟨w.heap.size, 0, none⟩) 1 1) 1 [v] :=
  ⟨rfl, .inr ⟨w.heap.size, 1, #[v], rfl, Nat.le_refl _, by show (w.heap.push _)[w.heap.size]? = some _; simp, Nat.le_refl _, by unfold maxLen; omega, rfl, rfl⟩⟩
/-- .. of one element, behind a draw, and beside another block -/
theorem own_one_d (w : World) (E : TypeId) (v : Value) : ((w.alloc (.cells #[v] E)).drew).ownsRow w.heap.size E 1 (.slice (some ⟨w.heap.size, 0, none⟩) 1 1) 1 [v] := Own.below (own_one w E v) (below_drew1 _)
theorem own_one_a (w : World) (E : TypeId) (v : Value) (o : Obj) : (((w.alloc (.cells #[v] E)).alloc o).drew).ownsRow w.heap.size E 1 (.slice (some ⟨w.heap.size, 0, none⟩) 1 1) 1 [v] :=
  Own.below (own_one w E v) (((Below.refl _ _).alloc (Nat.le_refl _) _).drew)
theorem own_one_b (w : World) (E : TypeId) (v : Value) (o : Obj) : (((w.alloc o).alloc (.cells #[v] E)).drew).ownsRow w.heap.size E 1 (.slice (some ⟨w.heap.size + 1, 0, none⟩) 1 1) 1 [v] := by
  have := own_one_d (w.alloc o) E v
  rw [World.size_alloc] at this
  exact Own.rebase this (by omega)
theorem sl_one {w : World} {B : Nat} {E : TypeId} {s : ByteArray} (hb : w.heap[B]? = some (.cells #[.string s] E (0, 0))) : Sl w (some ⟨B, 0, none⟩) 1 (strs [s]) :=
  ⟨B, 0, ⟨rfl, by omega, fun _ => rfl, fun i hi => by
    obtain rfl : i = 0 := by omega
    rw [Nat.zero_add, row_cells hb]; rfl⟩⟩
/-- what an append to a new row leaves, where another block was laid beside -/
theorem app_below2 {W w' : World} {o o' : Obj} {k n c : Nat} (hk : W.heap.size ≤ k) (hg : (((W.alloc o).alloc o').drew).grownBy w' (Value.ownBlock (.slice (some ⟨k, 0, none⟩) n c))) : Below W.heap.size W w' :=
  ((((Below.refl W.heap.size W).alloc (Nat.le_refl _) o).alloc (by simp) o').drew).grown hg (by simp; omega) (fun q hq => by simp [Value.ownBlock] at hq; omega)
theorem app_side {W w' : World} {o o' : Obj} {n c : Nat} (hg : (((W.alloc o).alloc o').drew).grownBy w' (Value.ownBlock (.slice (some ⟨W.heap.size, 0, none⟩) n c))) : w'.heap[W.heap.size + 1]? = some o' := by
  rw [hg.block (W.heap.size + 1) (by simp) (by simp [Value.ownBlock])]
  have h1 : ((W.alloc o).alloc o').heap[(W.alloc o).heap.size]? = some o' := Array.getElem?_push_size
  rw [World.size_alloc] at h1
  exact h1
theorem app_side2 {W w' : World} {o o' : Obj} {n c : Nat} (hg : (((W.alloc o).alloc o').drew).grownBy w' (Value.ownBlock (.slice (some ⟨W.heap.size + 1, 0, none⟩) n c))) : w'.heap[W.heap.size]? = some o := by
  rw [hg.block W.heap.size (by simp; omega) (by simp [Value.ownBlock])]
  have h1 : (W.alloc o).heap[W.heap.size]? = some o := Array.getElem?_push_size
  exact (Below.heap_alloc (W.alloc o) o' W.heap.size (by simp)).trans h1
end Go.Proofs.YtpionddponmdmaaGreatDoor
/- Walks: documents from one package to the other; all pieces of a document. -/
namespace Go.Proofs.YtpionddponmdmaaGreatDoor
open Go.RowKit
attribute [local go_sem] Ext.cell Ext.frozen
attribute [local go_sem ↓] Go.wp_at_zero Go.wp_at_succ

/-- a document is answered: its items in a row of the call's own -/
def DocPost (w : World) (h : ByteArray) (xs : List ByteArray) (t : ByteArray) (e : Ending) (w' : World) : Prop :=
  ∃ ad c, e = .returned (.agg #[.string h, .slice ad xs.length c, .string t]) ∧ w'.ownsRow w.heap.size 9 1 (.slice ad xs.length c) xs.length (strs xs) ∧ ad ≠ none ∧ Below w.heap.size w w'

/-- a slice of strings is answered, in a row of the call's own -/
def SlPost (w : World) (l : List ByteArray) (e : Ending) (w' : World) : Prop :=
  ∃ ad c, e = .returned (.slice ad l.length c) ∧ w'.ownsRow w.heap.size 9 1 (.slice ad l.length c) l.length (strs l) ∧ Below w.heap.size w w'

theorem all_end {w W w6 : World} {h t : ByteArray} {xs : List ByteArray} {n c6 : Nat} {ad6 : Option Addr} (hB : Below w.heap.size w W) (hB6 : Below W.heap.size W w6) (hz : w.heap.size ≤ W.heap.size) (hl : xs.length = n)
    (ho : w6.ownsRow W.heap.size 9 1 (.slice ad6 (1 + n + 1) c6) (1 + n + 1) ([.string h] ++ strs xs ++ strs [t])) : SlPost w (allV h xs t) (.returned (.slice ad6 (1 + n + 1) c6)) w6 := by
  have e : (allV h xs t).length = 1 + n + 1 := by rw [allV_len]; omega
  refine ⟨ad6, c6, by rw [e], ?_, hB.trans (hB6.mono hz)⟩
  rw [e]
  have e2 : strs (allV h xs t) = [.string h] ++ strs xs ++ strs [t] := by simp [allV, strs]
  rw [e2]
  exact Own.rebase ho hz
end Go.Proofs.YtpionddponmdmaaGreatDoor
