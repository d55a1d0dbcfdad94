/- Two rows of strings of the call's own that grow by turns. -/
import Derived.Test.YtkodnagneblgaaaF9
namespace Go.Proofs.Ytkodnagneblgaaa
open Go.RowKit Go.Maps Go.Sort
/-- two rows in different blocks -/
structure Two (w : World) (base : Nat) (v1 : Value) (xs : List ByteArray) (v2 : Value) (ys : List ByteArray) : Prop where
  r1 : StrR w base v1 xs
  r2 : StrR w base v2 ys
  ap : ∀ b, v1.ownBlock = some b → v2.ownBlock ≠ some b
theorem Two.swap {w : World} {base : Nat} {v1 v2 : Value} {xs ys : List ByteArray} (h : Two w base v1 xs v2 ys) : Two w base v2 ys v1 xs := ⟨h.r2, h.r1, fun b e1 e2 => h.ap b e2 e1⟩
theorem Two.below {w w' : World} {base : Nat} {v1 v2 : Value} {xs ys : List ByteArray} (h : Two w base v1 xs v2 ys) (hb : Below w.heap.size w w') : Two w' base v1 xs v2 ys := ⟨own_below h.r1 hb, own_below h.r2 hb, h.ap⟩
theorem Two.start (w : World) (base : Nat) : Two w base (.slice none 0 0) [] (.slice none 0 0) [] := ⟨⟨rfl, .inl ⟨rfl, rfl⟩⟩, ⟨rfl, .inl ⟨rfl, rfl⟩⟩, fun b h => by cases h⟩
theorem infoStrG : (Try.prog.info? 9).map (fun i => (i.zero, i.size, i.bytes)) = some (some (.string .empty), 1, 16) := by kernel_rfl
theorem Two.push {w w' : World} {base : Nat} {v1 v2 v1' : Value} {xs ys zs : List ByteArray} (h : Two w base v1 xs v2 ys) (hn : StrR w' base v1' zs) (hg : w.grownBy w' v1.ownBlock) (hl : v1'.ownBlock = v1.ownBlock ∨ v1'.ownBlock = some w.heap.size) : Two w' base v1' zs v2 ys := by
  refine ⟨hn, World.ownsRow.kept h.r2 hg ?_, fun b e1 e2 => ?_⟩
  · rcases hq : v2.ownBlock with _ | b
    · exact .inl rfl
    · exact .inr (fun e => h.ap b e.symm hq)
  · rcases hl with e | e
    · exact h.ap b (e ▸ e1) e2
    · rw [e] at e1
      injection e1 with e1
      subst e1
      exact absurd (World.ownsRow.lt h.r2 _ e2).2 (by omega)
/-- an append to the first of two rows, as a step of a region -/
theorem step_two {w : World} {ops : Array Oper} {o : Oper} {a : Act} {K : Act → World → Prop} {Q : Exit → Act → World → Prop} {R : Prop} (hgd : o.guard = none) (s x : Operand) (ho : o.op = .call { callee := .builtin .append, args := #[s, x], argTypes := #[39, 39] })
    (base : Nat) (v1 v2 : Value) (xs ys : List ByteArray) (hs : a.eval s = v1) (h2 : Two w base v1 xs v2 ys) (B : Nat) (t : ByteArray) (hx : a.eval x = .slice (some ⟨B, 0, none⟩) 1 1) (hB : w.heap[B]? = some (.cells #[.string t] 9 (0, 0))) (hlen : xs.length ≤ 100000) (hbase : base ≤ w.heap.size)
    (h : ∀ v1' w', Two w' base v1' (xs ++ [t]) v2 ys → w.grownBy w' v1.ownBlock → Below base w w' → K (a.put o.dst v1') w') :
    if Region.wanted o (yielded ops a.tmps) = true then Oper.wp Try.prog o a w K Q else R := by
  refine step_app_at hgd s x ho Try.underlying39 infoStrG rfl base v1 xs.length (strs xs) hs h2.r1 ⟨B, 0, none⟩ 1 1 [.string t] hx rfl ?_ (by intro u hu; rw [List.mem_singleton.1 hu]; rfl) (by unfold maxLen; omega) (by omega) hbase ?_
  · intro j u hj
    cases j with
    | zero =>
      simp only [List.getElem?_cons_zero, Option.some.injEq] at hj
      subst hj
      have := row_cells hB 0
      simpa [Addr.add] using this
    | succ j => simp at hj
  · intro v' w' ho' hg hl
    refine h v' w' (h2.push ?_ hg hl) hg ((Below.refl base w).grown hg hbase (fun k hk => (World.ownsRow.lt h2.r1 k hk).1))
    unfold StrR
    rw [List.length_append, strs_snoc]
    exact ho'
/-- a block made in between is not the row's -/
theorem Two.far {w : World} {base : Nat} {v1 v2 : Value} {xs ys : List ByteArray} (h : Two w base v1 xs v2 ys) {B : Nat} (hB : w.heap.size ≤ B) : v1.ownBlock ≠ some B := fun e => by
  have := (World.ownsRow.lt h.r1 B e).2
  omega
end Go.Proofs.Ytkodnagneblgaaa
