/- Walks inside a fence: the program's Get. -/
import Derived.Test.YtkkggpahanddnaaDoorH15
namespace Go.Proofs.YtkkggpahanddnaaDoor
open Go.RowKit Go.Shelf
attribute [local go_sem] Oper.semAt_some

/-- the blocks of a document that is iterated over -/
def SDoc (Bd b m : Nat) (k : Nat) : Prop := k = Bd ∨ (k = b ∧ m ≠ 0)
theorem SDoc.lt {Bd b m B : Nat} (h1 : Bd < B) (h2 : m ≠ 0 → b < B) : ∀ k, SDoc Bd b m k → k < B := fun k h => by
  rcases h with rfl | ⟨rfl, h⟩
  · exact h1
  · exact h2 h
theorem pieceF_mem {l : List ByteArray} {k : Nat} {x : Nat × ByteArray} (h : x ∈ upto (pieceF l) k) : x.1 < k ∧ x.2 = l.getD x.1 .empty := by
  obtain ⟨j, hj, rfl⟩ := List.mem_map.1 h
  exact ⟨List.mem_range.1 hj, rfl⟩
theorem wpIn_at_world {F : Fence} {n : Nat} {P : Program} {c : Code} {Q : Exit → Act → World → Prop} {a : Act} {w : World} (h : ∀ W, W = w → c.wpIn F n P Q a W) : c.wpIn F n P Q a w := h w rfl
theorem box_kept {W W' : World} {row : Option Nat} {B : Nat} {t : TypeId} {v : Value} (h : Boxed W B t v) (hg : W.grownBy W' row) (hr : ∀ r, row = some r → ∃ o : Obj, W.heap[r]? = some o ∧ o.isCells = false) : Boxed W' B t v :=
  (boxed_own (β := Unit) B t (fun _ => v)) () W W' row h hg hr
set_option maxRecDepth 100000 in
set_option maxHeartbeats 4000000 in
theorem pget_any (h t : ByteArray) (ad : Option Addr) (m c : Nat) (xs : List ByteArray) (i : Int) (w : World) (hx : Sl w ad m (strs xs)) (hm : m ≤ 1000000) :
    Calls Tryd.prog 17 #[.agg #[.string h, .slice ad m c, .string t], .int .i64 i] w fun e w' => e = .returned (getR (getV (allV h xs t) i)) ∧ Below w.heap.size w w' := by
  obtain ⟨b, off, hx⟩ := hx
  have hl : xs.length = m := by have := hx.len; rwa [strs_length] at this
  have hbk : m ≠ 0 → b < w.heap.size := fun h => hx.block h
  have HX := Lib.hid hx
  have HLL : Hid ((allV h xs t).length = m + 2) := by unfold Hid; rw [allV_len, hl]
  clear hx hl
  refine (callsIn_wide (n := 5)).1 ?_
  refine callsIn_of_wp_marks Tryd.func17 rfl trivial ?_ rfl
  simp only [Tryd.ntmps17, List.size_toArray, List.length_cons, List.length_nil, Nat.reduceAdd, Nat.reduceSub, Array.replicate_succ, Array.replicate_zero, List.push_toArray, List.append_toArray, List.nil_append, List.cons_append]
  gi_wp2_with (refine ⟨trivial, ?_⟩; gi_at_call 34; refine (pall_in 4 h t ad m c _).mono ?_; rintro e w' ⟨rfl, rfl⟩)
  refine wpIn_at_world ?_
  intro V hV
  have kd : V.heap[w.heap.size + 1 + 1 + 1 + 1]? = some (.cells #[.string h, .slice ad m c, .string t] 31 (0, 0)) := by
    rw [hV]
    have := row_new ((((w.alloc (.cells #[.string h, .slice ad m c, .string t] 31)).alloc (.cells #[.int .i64 i] 3)).alloc (.cells #[.string ⟨#[]⟩] 9)).alloc (.cells #[.bool false] 4)) #[.string h, .slice ad m c, .string t] 31
    simpa only [World.size_alloc] using this
  have b1 : Boxed V (w.heap.size + 1) 3 (.int .i64 i) := by
    rw [hV]
    have := Boxed.new (w.alloc (.cells #[.string h, .slice ad m c, .string t] 31)) 3 (.int .i64 i)
    rw [World.size_alloc] at this
    exact ((this.alloc _).alloc _).alloc _
  have b2 : Boxed V (w.heap.size + 1 + 1) 9 (.string ⟨#[]⟩) := by
    rw [hV]
    have := Boxed.new ((w.alloc (.cells #[.string h, .slice ad m c, .string t] 31)).alloc (.cells #[.int .i64 i] 3)) 9 (.string ⟨#[]⟩)
    rw [World.size_alloc, World.size_alloc] at this
    exact (this.alloc _).alloc _
  have b3 : Boxed V (w.heap.size + 1 + 1 + 1) 4 (.bool false) := by
    rw [hV]
    have := Boxed.new (((w.alloc (.cells #[.string h, .slice ad m c, .string t] 31)).alloc (.cells #[.int .i64 i] 3)).alloc (.cells #[.string ⟨#[]⟩] 9)) 4 (.bool false)
    rw [World.size_alloc, World.size_alloc, World.size_alloc] at this
    exact this.alloc _
  have hB0 : Below w.heap.size w V := by
    rw [hV]
    exact (((((Below.refl _ w).alloc (Nat.le_refl _) _).alloc (by simp) _).alloc (by simp; omega) _).alloc (by simp; omega) _).alloc (by simp; omega) _
  have hzV : w.heap.size + 1 + 1 + 1 + 1 < V.heap.size := by rw [hV]; simp
  clear hV
  refine wpIn_rangeFunc_ownG rfl (by omega) (gf := 45) (lb := #[.pointer (some ⟨w.heap.size + 1 + 1 + 1 + 1, 0, none⟩)]) rfl trivial (enters_of Tryd.func45 (by kernel_rfl) rfl)
    (pall_stops 4 (by omega) (w.heap.size + 1 + 1 + 1 + 1) (SDoc (w.heap.size + 1 + 1 + 1 + 1) b m) h t ad m c b off xs V hm (.inl rfl) (fun h => .inr ⟨rfl, h⟩) kd (HX.out.below hB0)) (fun h1 h2 => KeepS.trans h1 h2) (KeepS.put (SDoc.lt hzV (fun h => by have := hbk h; omega))) (Below.refl _ _) (fun _ => rfl)
    (fun pre W => ((∀ p ∈ pre, (p.1 : Int) ≠ i) ∧ Boxed W (w.heap.size + 1) 3 (.int .i64 i) ∧ Boxed W (w.heap.size + 1 + 1) 9 (.string ⟨#[]⟩) ∧ Boxed W (w.heap.size + 1 + 1 + 1) 4 (.bool false)) ∧ Below w.heap.size w W)
    (fun c pre W => (c = .ret ∧ ∃ ini last, pre = ini ++ [last] ∧ ((last : Nat × ByteArray).1 : Int) = i ∧ Boxed W (w.heap.size + 1 + 1) 9 (.string last.2) ∧ Boxed W (w.heap.size + 1 + 1 + 1) 4 (.bool true)) ∧ Below w.heap.size w W)
    (OwnFrom.and (Own.from (fun s A B row hs hg hr => ⟨hs.1, box_kept hs.2.1 hg hr, box_kept hs.2.2.1 hg hr, box_kept hs.2.2.2 hg hr⟩) _) (ownFrom_below (Nat.le_refl _) (by omega)))
    (fun c => OwnFrom.and (Own.from (fun s A B row hs hg hr => by obtain ⟨hc, ini, last, e1, e2, e3, e4⟩ := hs; exact ⟨hc, ini, last, e1, e2, box_kept e3 hg hr, box_kept e4 hg hr⟩) _) (ownFrom_below (Nat.le_refl _) (by omega)))
    ⟨⟨by simp, b1, b2, b3⟩, hB0⟩
    (fun x => { tmps := #[.agg #[.string h, .slice ad m c, .string t], .int .i64 i, .pointer (some ⟨w.heap.size, 0, none⟩), .pointer (some ⟨w.heap.size + 1, 0, none⟩), .pointer (some ⟨w.heap.size + 1 + 1, 0, none⟩), .pointer (some ⟨w.heap.size + 1 + 1 + 1, 0, none⟩), .int .i64 (x.1 : Int), .string x.2,
      .agg #[.string h, .slice ad m c, .string t], .func (.func 45) #[] #[.pointer (some ⟨w.heap.size + 1 + 1 + 1 + 1, 0, none⟩)], .int .i64 (x.1 : Int), .string x.2, undef, undef, undef, undef], defers := [] }) ?assign ?body ?done ?stop
  case assign =>
    intro l x W K hK
    gi_wp2
    exact hK
  case body =>
    rintro l pre x W ⟨⟨hp, x1, x2, x3⟩, hB⟩ _
    have k1 := x1.cell
    have k2 := x2.cell
    have k3 := x3.cell
    have z2 := x2.frozen
    have z3 := x3.frozen
    by_cases hxi : (x.1 : Int) = i
    · have y2 : Boxed ((W.setCell ⟨w.heap.size + 1 + 1, 0, none⟩ (.string x.2)).setCell ⟨w.heap.size + 1 + 1 + 1, 0, none⟩ (.bool true)) (w.heap.size + 1 + 1) 9 (.string x.2) := (x2.set _).other (by omega) _
      have y3 : Boxed ((W.setCell ⟨w.heap.size + 1 + 1, 0, none⟩ (.string x.2)).setCell ⟨w.heap.size + 1 + 1 + 1, 0, none⟩ (.bool true)) (w.heap.size + 1 + 1 + 1) 4 (.bool true) := (x3.other (by omega) _).set _
      have hBB : Below w.heap.size w ((W.setCell ⟨w.heap.size + 1 + 1, 0, none⟩ (.string x.2)).setCell ⟨w.heap.size + 1 + 1 + 1, 0, none⟩ (.bool true)) := (hB.setCell (p := ⟨w.heap.size + 1 + 1, 0, none⟩) (by show w.heap.size ≤ w.heap.size + 1 + 1; omega) _).setCell (p := ⟨w.heap.size + 1 + 1 + 1, 0, none⟩) (by show w.heap.size ≤ w.heap.size + 1 + 1 + 1; omega) _
      gi_wp2
      exact ⟨((KeepsOthers.setCell _ _ _).trans (KeepsOthers.setCell _ _ _)).from _, ⟨rfl, pre, x, rfl, hxi, y2, y3⟩, hBB⟩
    · gi_wp2
      exact ⟨KeepsFrom.refl _ _, KeepS.refl _ _, ⟨fun p hp' => (List.mem_append.1 hp').elim (hp p) (fun e => by rw [List.mem_singleton.1 e]; exact hxi), x1, x2, x3⟩, hB⟩
  case done =>
    rintro D ys W hD rfl ⟨⟨hne, x1, x2, x3⟩, hB⟩ hK
    have k2 := x2.cell
    have k3 := x3.cell
    have z2 := x2.frozen
    have z3 := x3.frozen
    have y2 : Boxed ((W.setCell ⟨w.heap.size + 1 + 1, 0, none⟩ (.string ⟨#[]⟩)).setCell ⟨w.heap.size + 1 + 1 + 1, 0, none⟩ (.bool false)) (w.heap.size + 1 + 1) 9 (.string ⟨#[]⟩) := (x2.set _).other (by omega) _
    have y3 : Boxed ((W.setCell ⟨w.heap.size + 1 + 1, 0, none⟩ (.string ⟨#[]⟩)).setCell ⟨w.heap.size + 1 + 1 + 1, 0, none⟩ (.bool false)) (w.heap.size + 1 + 1 + 1) 4 (.bool false) := (x3.other (by omega) _).set _
    have hBB : Below w.heap.size w ((W.setCell ⟨w.heap.size + 1 + 1, 0, none⟩ (.string ⟨#[]⟩)).setCell ⟨w.heap.size + 1 + 1 + 1, 0, none⟩ (.bool false)) := (hB.setCell (p := ⟨w.heap.size + 1 + 1, 0, none⟩) (by show w.heap.size ≤ w.heap.size + 1 + 1; omega) _).setCell (p := ⟨w.heap.size + 1 + 1 + 1, 0, none⟩) (by show w.heap.size ≤ w.heap.size + 1 + 1 + 1; omega) _
    have hK' := ((KeepsOthers.setCell W ⟨w.heap.size + 1 + 1, 0, none⟩ (.string ⟨#[]⟩)).trans (KeepsOthers.setCell _ ⟨w.heap.size + 1 + 1 + 1, 0, none⟩ (.bool false))).same D _ hK rfl
    have HG : Hid (getV (allV h xs t) i = (.empty, false)) := getV_out (by
      rw [HLL.out]
      by_cases h0 : i < 0
      · exact .inl h0
      · refine .inr ?_
        rcases Int.lt_or_le i ((m + 2 : Nat) : Int) with h1 | h1
        · exact absurd (show (i.toNat : Int) = i by omega) (hne (pieceF (allV h xs t) i.toNat) (List.mem_map.2 ⟨i.toNat, List.mem_range.2 (by omega), rfl⟩))
        · exact h1)
    gi_wp2
    refine ⟨by simp, .inl ⟨_, _, rfl, run_takeDeferred hK', ?_⟩⟩
    have hc2 := cell_kept y2.cell (grownBy_putObj' _ D (.deferred none)) (fun r e => by cases e; exact ⟨_, hK', rfl⟩)
    have hc3 := cell_kept y3.cell (grownBy_putObj' _ D (.deferred none)) (fun r e => by cases e; exact ⟨_, hK', rfl⟩)
    refine ⟨.tuple #[.string ⟨#[]⟩, .bool false], ?_, by rw [HG.out]; rfl, hBB.trans (belowK_b (w := w) (Nat.le_refl _) _ D _ _ (by omega) hK' rfl rfl)⟩
    simp [results, Tryd.f17, go_sem, hc2, hc3]
  case stop =>
    rintro D c pre W hD ⟨k, hk, rfl⟩ ⟨⟨rfl, ini, last, e1, e2, x2, x3⟩, hB⟩ hK
    obtain ⟨q1, q2⟩ := pieceF_mem (show last ∈ upto (pieceF (allV h xs t)) k by rw [e1]; simp)
    have HG : Hid (getV (allV h xs t) i = (last.2, true)) := by
      unfold Hid
      rw [← e2, q2]
      exact getV_in (by rw [HLL.out]; omega)
    clear e1 q2
    gi_wp2
    refine ⟨by simp, .inl ⟨_, _, rfl, run_takeDeferred hK, ?_⟩⟩
    have hc2 := cell_kept x2.cell (grownBy_putObj' _ D (.deferred none)) (fun r e => by cases e; exact ⟨_, hK, rfl⟩)
    have hc3 := cell_kept x3.cell (grownBy_putObj' _ D (.deferred none)) (fun r e => by cases e; exact ⟨_, hK, rfl⟩)
    refine ⟨.tuple #[.string last.2, .bool true], ?_, by rw [HG.out]; rfl, hB.trans (belowK_b (w := w) (Nat.le_refl _) _ D _ _ (by omega) hK rfl rfl)⟩
    simp [results, Tryd.f17, go_sem, hc2, hc3]
end Go.Proofs.YtkkggpahanddnaaDoor
