/- Walks: the program's Apply. -/
import Derived.Test.YtkkggpahanddnaaGreatDoorQ03
import Derived.RangeFuncNested
import Derived.RangeFuncBound
import Derived.RangeFuncCalls
import Derived.RangeFuncLeaves
import Derived.RangeFuncBox
import Derived.Shelf.Abstract
import Derived.Shelf.RegionOpen
import Derived.WalkKit
import Derived.OwnWalkIn
import Derived.TacticsInMore
import Derived.LoopNIn
import Derived.LoopIn
import Derived.Test.YtkkggpahanddnaaGreatDoorQ00
import Derived.Lib.ConvBytes
import Derived.Lib.LaidTab
import Derived.LoopN
namespace Go.Proofs.YtkkggpahanddnaaGreatDoor
open Go.RowKit
attribute [local go_sem] Ext.cell Ext.frozen
attribute [local go_sem ↓] Go.wp_at_zero Go.wp_at_succ

end Go.Proofs.YtkkggpahanddnaaGreatDoor
/- Walks inside a fence: the iterator over the pieces of a document. -/
namespace Go.Proofs.YtkkggpahanddnaaGreatDoor
open Go.RowKit Go.Shelf
attribute [local go_sem] Oper.semAt_some

/-- the first k values of a function -/
def upto {α : Type} (f : Nat → α) (k : Nat) : List α := (List.range k).map f
theorem upto_succ {α : Type} (f : Nat → α) (k : Nat) : upto f (k + 1) = upto f k ++ [f k] := by simp [upto, List.range_succ]
theorem upto_length {α : Type} (f : Nat → α) (k : Nat) : (upto f k).length = k := by simp [upto]
/-- some blocks are as they were -/
def KeepS (S : Nat → Prop) (W W' : World) : Prop := ∀ k, S k → W'.heap[k]? = W.heap[k]?
theorem KeepS.refl (S : Nat → Prop) (W : World) : KeepS S W W := fun _ _ => rfl
theorem KeepS.trans {S : Nat → Prop} {A B C : World} (h : KeepS S A B) (k : KeepS S B C) : KeepS S A C := fun i hi => (k i hi).trans (h i hi)
theorem KeepS.put {S : Nat → Prop} {B : Nat} (hS : ∀ k, S k → k < B) (W : World) (l : Nat) (_o o' : Obj) (hl : B ≤ l) (_h : W.heap[l]? = some _o) (_hc : _o.isCells = false) (_hw : _o.isWalk = false) : KeepS S W (W.putObj l o') :=
  fun k hk => World.putObj_heap_other (fun e => by have := hS k hk; omega)
theorem KeepS.cell {S : Nat → Prop} {W W' : World} (h : KeepS S W W') {b : Nat} (hb : S b) (o : Nat) : W'.cell? ⟨b, o, none⟩ = W.cell? ⟨b, o, none⟩ := World.cell?_of_block (h b hb)
/-- a piece with its index -/
def pieceF (l : List ByteArray) (j : Nat) : Nat × ByteArray := (j, l.getD j .empty)
abbrev pieceE (x : Nat × ByteArray) : Array Value := #[.int .i64 (x.1 : Int), .string x.2]

set_option maxRecDepth 100000 in
set_option maxHeartbeats 2000000 in
theorem alliter_in {α : Type} (q : α → Nat × ByteArray) (f : Nat → α) (n : Nat) (hn : 1 ≤ n) (l Bd : Nat) (S : Nat → Prop) (h t : ByteArray) (ad : Option Addr) (m c b off : Nat) (xs : List ByteArray) (hm : m ≤ 1000000) (hSd : S Bd) (hSb : m ≠ 0 → S b) (hf : ∀ j, j < m + 2 → q (f j) = pieceF (allV h xs t) j) (J Jx : List α → World → Prop)
    (hY : ∀ pre x W, J pre W → pre.length < m + 2 → YieldAt Fence.wide (n - 1) Tryz.prog l (pieceE (q x)) W fun e W' =>
      (e = .returned (.bool true) ∧ J (pre ++ [x]) W' ∧ KeepS S W W') ∨ (e = .returned (.bool false) ∧ Jx (pre ++ [x]) W'))
    (W : World) (hB : W.heap[Bd]? = some (.cells #[.string h, .slice ad m c, .string t] 40 (0, 0))) (hx : SlAt W ad m (strs xs) b off) (h0 : J [] W) :
    CallsIn Fence.wide n Tryz.prog 42 #[.func (.yield l) #[] #[], .pointer (some ⟨Bd, 0, none⟩)] W fun e W' => (∃ v, e = .returned v) ∧
      ((∃ ys, ys = upto f (m + 2) ∧ J ys W') ∨ (∃ pre, (∃ k, k ≤ m + 2 ∧ pre = upto f k) ∧ Jx pre W')) := by
  have hl : xs.length = m := by have := hx.len; rwa [strs_length] at this
  have e0 : q (f 0) = (0, h) := hf 0 (by omega)
  have el : q (f (m + 1)) = (m + 1, t) := by rw [hf _ (by omega)]; unfold pieceF; rw [← hl, allV_last]
  have em : ∀ k, k < m → q (f (k + 1)) = (k + 1, xs.getD k .empty) := fun k hk => by rw [hf _ (by omega)]; unfold pieceF; rw [allV_mid _ _ _ (by omega)]
  have HL := Lib.hid hl
  have HX := Lib.hid hx
  have HE0 := Lib.hid e0
  have HEL := Lib.hid el
  have HEM := Lib.hid em
  have HB := Lib.hid hB
  clear hl hx e0 el em hB hf
  have c0 := row_cells HB.out 0
  have c1 := row_cells HB.out 1
  have c2 := row_cells HB.out 2
  refine callsIn_of_wp Tryz.func42 rfl trivial ?_ rfl
  simp only [Tryz.ntmps42, List.size_toArray, List.length_cons, List.length_nil, Nat.reduceAdd, Nat.reduceSub, Array.replicate_succ, Array.replicate_zero, List.push_toArray, List.append_toArray, List.nil_append, List.cons_append]
  obtain ⟨fn1, tm1, as1, bo1, hy1, hR1⟩ := hY [] (f 0) W h0 (by simp)
  rw [HE0.out] at hy1
  dsimp only [pieceE] at hy1
  simp only [Int.natCast_zero] at hy1
  gi_wp2
  refine hR1.mono ?_
  rintro e W1 (⟨rfl, hJ1, hk1⟩ | ⟨rfl, hJx1⟩)
  · have HB1 := Lib.hid ((hk1 Bd hSd).trans HB.out)
    have d0 := row_cells HB1.out 0
    have d1 := row_cells HB1.out 1
    have d2 := row_cells HB1.out 2
    have HJ1 : Hid (J (upto f 1) W1) := hJ1
    have HK1 := Lib.hid hk1
    clear hJ1 hk1 hR1 hy1 c0 c1 c2
    gi_wp2
    gi_loopw [13] (fun i wr => ∃ k : Nat, k ≤ m ∧ i = .int .i64 k ∧ J (upto f (k + 1)) wr ∧ KeepS S W wr)
      (fun i _ => m - (intOf i).toNat)
    case atStart => exact ⟨0, Nat.zero_le _, rfl, HJ1.out, HK1.out⟩
    case round =>
      obtain ⟨k, hk, rfl, hJs, hnx⟩ := hrel
      have HBR := Lib.hid ((hnx Bd hSd).trans HB.out)
      by_cases hlt : k < m
      · have hcx : wr.cell? ⟨b, off + k, none⟩ = some (.string (xs.getD k .empty)) := by
          rw [hnx.cell (hSb (by omega)), HX.out.cell k hlt, strs_getD _ _ (by rw [HL.out]; exact hlt)]
        have hix := fun W => HX.out.ix (c := c) 38 9 Tryz.underlying38 cellsS hlt (W := W)
        obtain ⟨fn, tmps, assign, body, hy, hR⟩ := hY _ (f (k + 1)) wr hJs (by rw [upto_length]; omega)
        rw [HEM.out k hlt] at hy
        dsimp only [pieceE] at hy
        simp only [Int.natCast_add, Int.natCast_one] at hy
        generalize xs.getD k .empty = x at *
        gi_wp2
        refine hR.mono ?_
        rintro e W3 (⟨rfl, hJ3, hk3⟩ | ⟨rfl, hJx3⟩)
        · gi_wp2
          go_roundw
          case rel => exact ⟨k + 1, by omega, by simp, by rw [upto_succ]; exact hJ3, hnx.trans hk3⟩
          case measure => simp [intOf]; omega
        · gi_wp2
          refine bodyPost_ret (results_none rfl _ _ _) rfl ?_
          exact ⟨⟨_, rfl⟩, .inr ⟨_, ⟨k + 1 + 1, by omega, by rw [upto_succ f (k + 1)]⟩, hJx3⟩⟩
      · obtain rfl : k = m := by omega
        have d0 := row_cells HBR.out 0
        have d1 := row_cells HBR.out 1
        have d2 := row_cells HBR.out 2
        obtain ⟨fn, tmps, assign, body, hy, hR⟩ := hY _ (f (k + 1)) wr hJs (by rw [upto_length]; omega)
        rw [HEL.out] at hy
        dsimp only [pieceE] at hy
        simp only [Int.natCast_add, Int.natCast_one] at hy
        gi_wp2
        refine hR.mono ?_
        rintro e W3 (⟨rfl, hJ3, hk3⟩ | ⟨rfl, hJx3⟩)
        · gi_wp2
          go_end0
          exact ⟨⟨_, rfl⟩, .inl ⟨_, rfl, by rw [upto_succ]; exact hJ3⟩⟩
        · gi_wp2
          go_end0
          exact ⟨⟨_, rfl⟩, .inr ⟨_, ⟨k + 1 + 1, Nat.le_refl _, by rw [upto_succ f (k + 1)]⟩, hJx3⟩⟩
  · gi_wp2
    refine bodyPost_ret (results_none rfl _ _ _) rfl ?_
    exact ⟨⟨_, rfl⟩, .inr ⟨_, ⟨1, by omega, rfl⟩, hJx1⟩⟩
theorem pall_in (n : Nat) (h t : ByteArray) (ad : Option Addr) (m c : Nat) (w : World) :
    CallsIn Fence.wide n Tryz.prog 24 #[.agg #[.string h, .slice ad m c, .string t]] w fun e w' => e = .returned (.func (.func 42) #[] #[.pointer (some ⟨w.heap.size, 0, none⟩)]) ∧ w' = w.alloc (.cells #[.string h, .slice ad m c, .string t] 40) := by
  refine callsIn_of_wp Tryz.func24 rfl trivial ?_ rfl
  simp only [Tryz.ntmps24, List.size_toArray, List.length_cons, List.length_nil, Nat.reduceAdd, Nat.reduceSub, Array.replicate_succ, Array.replicate_zero, List.push_toArray, List.append_toArray, List.nil_append, List.cons_append]
  gi_wp2
  go_ret
  exact ⟨rfl, rfl⟩
/-- **the iterator over the pieces of a document, for every body that keeps its block and its items** -/
theorem pall_stopsG {α : Type} (q : α → Nat × ByteArray) (f : Nat → α) (n : Nat) (hn : 1 ≤ n) (Bd : Nat) (S : Nat → Prop) (h t : ByteArray) (ad : Option Addr) (m c b off : Nat) (xs : List ByteArray) (w : World) (hm : m ≤ 1000000) (hSd : S Bd) (hSb : m ≠ 0 → S b)
    (hf : ∀ j, j < m + 2 → q (f j) = pieceF (allV h xs t) j) (hB : w.heap[Bd]? = some (.cells #[.string h, .slice ad m c, .string t] 40 (0, 0))) (hx : SlAt w ad m (strs xs) b off) :
    SeqStopsK Fence.wide n Tryz.prog 42 #[.pointer (some ⟨Bd, 0, none⟩)] (fun x => pieceE (q x)) (KeepS S) (fun ys => ys = upto f (m + 2)) (fun pre => ∃ k, k ≤ m + 2 ∧ pre = upto f k) (m + 2) w := fun l J Jx W hW _ _ hY h0 =>
  alliter_in q f n hn l Bd S h t ad m c b off xs hm hSd hSb hf J Jx hY W ((hW.block Bd (Array.getElem?_eq_some_iff.1 hB).1).trans hB) (hx.below hW) h0
theorem pall_stops (n : Nat) (hn : 1 ≤ n) (Bd : Nat) (S : Nat → Prop) (h t : ByteArray) (ad : Option Addr) (m c b off : Nat) (xs : List ByteArray) (w : World) (hm : m ≤ 1000000) (hSd : S Bd) (hSb : m ≠ 0 → S b)
    (hB : w.heap[Bd]? = some (.cells #[.string h, .slice ad m c, .string t] 40 (0, 0))) (hx : SlAt w ad m (strs xs) b off) :
    SeqStopsK Fence.wide n Tryz.prog 42 #[.pointer (some ⟨Bd, 0, none⟩)] pieceE (KeepS S) (fun ys => ys = upto (pieceF (allV h xs t)) (m + 2)) (fun pre => ∃ k, k ≤ m + 2 ∧ pre = upto (pieceF (allV h xs t)) k) (m + 2) w :=
  pall_stopsG (fun x => x) (pieceF (allV h xs t)) n hn Bd S h t ad m c b off xs w hm hSd hSb (fun _ _ => rfl) hB hx
end Go.Proofs.YtkkggpahanddnaaGreatDoor
/- Walks inside a fence: the program's Get. -/
namespace Go.Proofs.YtkkggpahanddnaaGreatDoor
open Go.RowKit Go.Shelf
attribute [local go_sem] Oper.semAt_some

/-- the blocks of a document that is iterated over -/
def SDoc (Bd b m : Nat) (k : Nat) : Prop := k = Bd ∨ (k = b ∧ m ≠ 0)
theorem SDoc.lt {Bd b m B : Nat} (h1 : Bd < B) (h2 : m ≠ 0 → b < B) : ∀ k, SDoc Bd b m k → k < B := fun k h => by
  rcases h with rfl | ⟨rfl, h⟩
  · exact h1
  · exact h2 h
theorem pieceF_mem {l : List ByteArray} {k : Nat} {x : Nat × ByteArray} (h : x ∈ upto (pieceF l) k) : x.1 < k ∧ x.2 = l.getD x.1 .empty := by
  obtain ⟨j, hj, rfl⟩ := List.mem_map.1 h
  exact ⟨List.mem_range.1 hj, rfl⟩
theorem wpIn_at_world {F : Fence} {n : Nat} {P : Program} {c : Code} {Q : Exit → Act → World → Prop} {a : Act} {w : World} (h : ∀ W, W = w → c.wpIn F n P Q a W) : c.wpIn F n P Q a w := h w rfl
theorem box_kept {W W' : World} {row : Option Nat} {B : Nat} {t : TypeId} {v : Value} (h : Boxed W B t v) (hg : W.grownBy W' row) (hr : ∀ r, row = some r → ∃ o : Obj, W.heap[r]? = some o ∧ o.isCells = false) : Boxed W' B t v :=
  (boxed_own (β := Unit) B t (fun _ => v)) () W W' row h hg hr
set_option maxRecDepth 100000 in
set_option maxHeartbeats 4000000 in
theorem pget_any (h t : ByteArray) (ad : Option Addr) (m c : Nat) (xs : List ByteArray) (i : Int) (w : World) (hx : Sl w ad m (strs xs)) (hm : m ≤ 1000000) :
    Calls Tryz.prog 25 #[.agg #[.string h, .slice ad m c, .string t], .int .i64 i] w fun e w' => e = .returned (getR (getV (allV h xs t) i)) ∧ Below w.heap.size w w' := by
  obtain ⟨b, off, hx⟩ := hx
  have hl : xs.length = m := by have := hx.len; rwa [strs_length] at this
  have hbk : m ≠ 0 → b < w.heap.size := fun h => hx.block h
  have HX := Lib.hid hx
  have HLL : Hid ((allV h xs t).length = m + 2) := by unfold Hid; rw [allV_len, hl]
  clear hx hl
  refine (callsIn_wide (n := 5)).1 ?_
  refine callsIn_of_wp_marks Tryz.func25 rfl trivial ?_ rfl
  simp only [Tryz.ntmps25, List.size_toArray, List.length_cons, List.length_nil, Nat.reduceAdd, Nat.reduceSub, Array.replicate_succ, Array.replicate_zero, List.push_toArray, List.append_toArray, List.nil_append, List.cons_append]
  gi_wp2_with (refine ⟨trivial, ?_⟩; gi_at_call 24; refine (pall_in 4 h t ad m c _).mono ?_; rintro e w' ⟨rfl, rfl⟩)
  refine wpIn_at_world ?_
  intro V hV
  have kd : V.heap[w.heap.size + 1 + 1 + 1 + 1]? = some (.cells #[.string h, .slice ad m c, .string t] 40 (0, 0)) := by
    rw [hV]
    have := row_new ((((w.alloc (.cells #[.string h, .slice ad m c, .string t] 40)).alloc (.cells #[.int .i64 i] 3)).alloc (.cells #[.string ⟨#[]⟩] 9)).alloc (.cells #[.bool false] 4)) #[.string h, .slice ad m c, .string t] 40
    simpa only [World.size_alloc] using this
  have b1 : Boxed V (w.heap.size + 1) 3 (.int .i64 i) := by
    rw [hV]
    have := Boxed.new (w.alloc (.cells #[.string h, .slice ad m c, .string t] 40)) 3 (.int .i64 i)
    rw [World.size_alloc] at this
    exact ((this.alloc _).alloc _).alloc _
  have b2 : Boxed V (w.heap.size + 1 + 1) 9 (.string ⟨#[]⟩) := by
    rw [hV]
    have := Boxed.new ((w.alloc (.cells #[.string h, .slice ad m c, .string t] 40)).alloc (.cells #[.int .i64 i] 3)) 9 (.string ⟨#[]⟩)
    rw [World.size_alloc, World.size_alloc] at this
    exact (this.alloc _).alloc _
  have b3 : Boxed V (w.heap.size + 1 + 1 + 1) 4 (.bool false) := by
    rw [hV]
    have := Boxed.new (((w.alloc (.cells #[.string h, .slice ad m c, .string t] 40)).alloc (.cells #[.int .i64 i] 3)).alloc (.cells #[.string ⟨#[]⟩] 9)) 4 (.bool false)
    rw [World.size_alloc, World.size_alloc, World.size_alloc] at this
    exact this.alloc _
  have hB0 : Below w.heap.size w V := by
    rw [hV]
    exact (((((Below.refl _ w).alloc (Nat.le_refl _) _).alloc (by simp) _).alloc (by simp; omega) _).alloc (by simp; omega) _).alloc (by simp; omega) _
  have hzV : w.heap.size + 1 + 1 + 1 + 1 < V.heap.size := by rw [hV]; simp
  clear hV
  refine wpIn_rangeFunc_ownG rfl (by omega) (gf := 42) (lb := #[.pointer (some ⟨w.heap.size + 1 + 1 + 1 + 1, 0, none⟩)]) rfl trivial (enters_of Tryz.func42 (by kernel_rfl) rfl)
    (pall_stops 4 (by omega) (w.heap.size + 1 + 1 + 1 + 1) (SDoc (w.heap.size + 1 + 1 + 1 + 1) b m) h t ad m c b off xs V hm (.inl rfl) (fun h => .inr ⟨rfl, h⟩) kd (HX.out.below hB0)) (fun h1 h2 => KeepS.trans h1 h2) (KeepS.put (SDoc.lt hzV (fun h => by have := hbk h; omega))) (Below.refl _ _) (fun _ => rfl)
    (fun pre W => ((∀ p ∈ pre, (p.1 : Int) ≠ i) ∧ Boxed W (w.heap.size + 1) 3 (.int .i64 i) ∧ Boxed W (w.heap.size + 1 + 1) 9 (.string ⟨#[]⟩) ∧ Boxed W (w.heap.size + 1 + 1 + 1) 4 (.bool false)) ∧ Below w.heap.size w W)
    (fun c pre W => (c = .ret ∧ ∃ ini last, pre = ini ++ [last] ∧ ((last : Nat × ByteArray).1 : Int) = i ∧ Boxed W (w.heap.size + 1 + 1) 9 (.string last.2) ∧ Boxed W (w.heap.size + 1 + 1 + 1) 4 (.bool true)) ∧ Below w.heap.size w W)
    (OwnFrom.and (Own.from (fun s A B row hs hg hr => ⟨hs.1, box_kept hs.2.1 hg hr, box_kept hs.2.2.1 hg hr, box_kept hs.2.2.2 hg hr⟩) _) (ownFrom_below (Nat.le_refl _) (by omega)))
    (fun c => OwnFrom.and (Own.from (fun s A B row hs hg hr => by obtain ⟨hc, ini, last, e1, e2, e3, e4⟩ := hs; exact ⟨hc, ini, last, e1, e2, box_kept e3 hg hr, box_kept e4 hg hr⟩) _) (ownFrom_below (Nat.le_refl _) (by omega)))
    ⟨⟨by simp, b1, b2, b3⟩, hB0⟩
    (fun x => { tmps := #[.agg #[.string h, .slice ad m c, .string t], .int .i64 i, .pointer (some ⟨w.heap.size, 0, none⟩), .pointer (some ⟨w.heap.size + 1, 0, none⟩), .pointer (some ⟨w.heap.size + 1 + 1, 0, none⟩), .pointer (some ⟨w.heap.size + 1 + 1 + 1, 0, none⟩), .int .i64 (x.1 : Int), .string x.2,
      .agg #[.string h, .slice ad m c, .string t], .func (.func 42) #[] #[.pointer (some ⟨w.heap.size + 1 + 1 + 1 + 1, 0, none⟩)], .int .i64 (x.1 : Int), .string x.2, undef, undef, undef, undef], defers := [] }) ?assign ?body ?done ?stop
  case assign =>
    intro l x W K hK
    gi_wp2
    exact hK
  case body =>
    rintro l pre x W ⟨⟨hp, x1, x2, x3⟩, hB⟩ _
    have k1 := x1.cell
    have k2 := x2.cell
    have k3 := x3.cell
    have z2 := x2.frozen
    have z3 := x3.frozen
    by_cases hxi : (x.1 : Int) = i
    · have y2 : Boxed ((W.setCell ⟨w.heap.size + 1 + 1, 0, none⟩ (.string x.2)).setCell ⟨w.heap.size + 1 + 1 + 1, 0, none⟩ (.bool true)) (w.heap.size + 1 + 1) 9 (.string x.2) := (x2.set _).other (by omega) _
      have y3 : Boxed ((W.setCell ⟨w.heap.size + 1 + 1, 0, none⟩ (.string x.2)).setCell ⟨w.heap.size + 1 + 1 + 1, 0, none⟩ (.bool true)) (w.heap.size + 1 + 1 + 1) 4 (.bool true) := (x3.other (by omega) _).set _
      have hBB : Below w.heap.size w ((W.setCell ⟨w.heap.size + 1 + 1, 0, none⟩ (.string x.2)).setCell ⟨w.heap.size + 1 + 1 + 1, 0, none⟩ (.bool true)) := (hB.setCell (p := ⟨w.heap.size + 1 + 1, 0, none⟩) (by show w.heap.size ≤ w.heap.size + 1 + 1; omega) _).setCell (p := ⟨w.heap.size + 1 + 1 + 1, 0, none⟩) (by show w.heap.size ≤ w.heap.size + 1 + 1 + 1; omega) _
      gi_wp2
      exact ⟨((KeepsOthers.setCell _ _ _).trans (KeepsOthers.setCell _ _ _)).from _, ⟨rfl, pre, x, rfl, hxi, y2, y3⟩, hBB⟩
    · gi_wp2
      exact ⟨KeepsFrom.refl _ _, KeepS.refl _ _, ⟨fun p hp' => (List.mem_append.1 hp').elim (hp p) (fun e => by rw [List.mem_singleton.1 e]; exact hxi), x1, x2, x3⟩, hB⟩
  case done =>
    rintro D ys W hD rfl ⟨⟨hne, x1, x2, x3⟩, hB⟩ hK
    have k2 := x2.cell
    have k3 := x3.cell
    have z2 := x2.frozen
    have z3 := x3.frozen
    have y2 : Boxed ((W.setCell ⟨w.heap.size + 1 + 1, 0, none⟩ (.string ⟨#[]⟩)).setCell ⟨w.heap.size + 1 + 1 + 1, 0, none⟩ (.bool false)) (w.heap.size + 1 + 1) 9 (.string ⟨#[]⟩) := (x2.set _).other (by omega) _
    have y3 : Boxed ((W.setCell ⟨w.heap.size + 1 + 1, 0, none⟩ (.string ⟨#[]⟩)).setCell ⟨w.heap.size + 1 + 1 + 1, 0, none⟩ (.bool false)) (w.heap.size + 1 + 1 + 1) 4 (.bool false) := (x3.other (by omega) _).set _
    have hBB : Below w.heap.size w ((W.setCell ⟨w.heap.size + 1 + 1, 0, none⟩ (.string ⟨#[]⟩)).setCell ⟨w.heap.size + 1 + 1 + 1, 0, none⟩ (.bool false)) := (hB.setCell (p := ⟨w.heap.size + 1 + 1, 0, none⟩) (by show w.heap.size ≤ w.heap.size + 1 + 1; omega) _).setCell (p := ⟨w.heap.size + 1 + 1 + 1, 0, none⟩) (by show w.heap.size ≤ w.heap.size + 1 + 1 + 1; omega) _
    have hK' := ((KeepsOthers.setCell W ⟨w.heap.size + 1 + 1, 0, none⟩ (.string ⟨#[]⟩)).trans (KeepsOthers.setCell _ ⟨w.heap.size + 1 + 1 + 1, 0, none⟩ (.bool false))).same D _ hK rfl
    have HG : Hid (getV (allV h xs t) i = (.empty, false)) := getV_out (by
      rw [HLL.out]
      by_cases h0 : i < 0
      · exact .inl h0
      · refine .inr ?_
        rcases Int.lt_or_le i ((m + 2 : Nat) : Int) with h1 | h1
        · exact absurd (show (i.toNat : Int) = i by omega) (hne (pieceF (allV h xs t) i.toNat) (List.mem_map.2 ⟨i.toNat, List.mem_range.2 (by omega), rfl⟩))
        · exact h1)
    gi_wp2
    refine ⟨by simp, .inl ⟨_, _, rfl, run_takeDeferred hK', ?_⟩⟩
    have hc2 := cell_kept y2.cell (grownBy_putObj' _ D (.deferred none)) (fun r e => by cases e; exact ⟨_, hK', rfl⟩)
    have hc3 := cell_kept y3.cell (grownBy_putObj' _ D (.deferred none)) (fun r e => by cases e; exact ⟨_, hK', rfl⟩)
    refine ⟨.tuple #[.string ⟨#[]⟩, .bool false], ?_, by rw [HG.out]; rfl, hBB.trans (belowK_b (w := w) (Nat.le_refl _) _ D _ _ (by omega) hK' rfl rfl)⟩
    simp [results, Tryz.f25, go_sem, hc2, hc3]
  case stop =>
    rintro D c pre W hD ⟨k, hk, rfl⟩ ⟨⟨rfl, ini, last, e1, e2, x2, x3⟩, hB⟩ hK
    obtain ⟨q1, q2⟩ := pieceF_mem (show last ∈ upto (pieceF (allV h xs t)) k by rw [e1]; simp)
    have HG : Hid (getV (allV h xs t) i = (last.2, true)) := by
      unfold Hid
      rw [← e2, q2]
      exact getV_in (by rw [HLL.out]; omega)
    clear e1 q2
    gi_wp2
    refine ⟨by simp, .inl ⟨_, _, rfl, run_takeDeferred hK, ?_⟩⟩
    have hc2 := cell_kept x2.cell (grownBy_putObj' _ D (.deferred none)) (fun r e => by cases e; exact ⟨_, hK, rfl⟩)
    have hc3 := cell_kept x3.cell (grownBy_putObj' _ D (.deferred none)) (fun r e => by cases e; exact ⟨_, hK, rfl⟩)
    refine ⟨.tuple #[.string last.2, .bool true], ?_, by rw [HG.out]; rfl, hB.trans (belowK_b (w := w) (Nat.le_refl _) _ D _ _ (by omega) hK rfl rfl)⟩
    simp [results, Tryz.f25, go_sem, hc2, hc3]
end Go.Proofs.YtkkggpahanddnaaGreatDoor
/- Walks: what writes into a strings.Builder, and what else stays as it was. -/
namespace Go.Proofs.YtkkggpahanddnaaGreatDoor
open Go.RowKit

/-- whatever is no bytes lies as it lay, but for block b -/
structure KeepT (b : Nat) (w w' : World) : Prop where
  size : w.heap.size ≤ w'.heap.size
  same : ∀ (k : Nat) (o : Obj), w.heap[k]? = some o → k ≠ b → (∀ cs fr, o ≠ .cells cs 5 fr) → w'.heap[k]? = some o
theorem KeepT.refl (b : Nat) (w : World) : KeepT b w w := ⟨Nat.le_refl _, fun _ _ h _ _ => h⟩
theorem KeepT.trans {b : Nat} {A B C : World} (h : KeepT b A B) (k : KeepT b B C) : KeepT b A C := ⟨Nat.le_trans h.size k.size, fun i o h0 h1 h2 => k.same i o (h.same i o h0 h1 h2) h1 h2⟩
theorem KeepT.set (b : Nat) (w : World) (o : Nat) (v : Value) : KeepT b w (w.setCell ⟨b, o, none⟩ v) := ⟨by rw [World.size_setCell]; exact Nat.le_refl _, fun k _ h h1 _ => (Below.heap_setCell w ⟨b, o, none⟩ v k h1).trans h⟩
theorem KeepT.grown (b : Nat) {w w' : World} {base : Nat} {v : Value} {n : Nat} {xs : List Value} (hown : w.ownsRow base 5 1 v n xs) (hg : w.grownBy w' v.ownBlock) : KeepT b w w' :=
  ⟨hg.size, fun k o h _ h2 => (hg.block k (Array.getElem?_eq_some_iff.1 h).1 (fun e => by
    rcases hown.2 with ⟨rfl, _⟩ | ⟨g, cap, cur, rfl, _, hgb, _⟩
    · simp [Value.ownBlock] at e
    · simp only [Value.ownBlock, Option.some.injEq] at e
      subst e
      rw [h] at hgb
      injection hgb with hgb
      exact h2 _ _ hgb)).trans h⟩
theorem KeepT.others {b : Nat} {w w' : World} (h : KeepT b w w') (hb : ∀ o, w.heap[b]? = some o → o.isCells = true) : KeepsOthers w w' :=
  ⟨h.size, fun k o hk ho => h.same k o hk (fun e => by subst e; rw [hb o hk] at ho; cases ho) (fun cs fr e => by subst e; cases ho)⟩
abbrev SB (B b : Nat) (l : List UInt8) (w : World) : Prop := Lib.IsBuilder 72 5 B b (Lib.byteCells l) w

theorem infoSB : ∃ j, Tryz.prog.info? 72 = some j ∧ j.size ≠ 0 := by
  obtain ⟨j, hj, hjs⟩ := Option.map_eq_some_iff.1 Tryz.Builder_Extra_169.sizeBuilder
  exact ⟨j, hj, by rw [hjs]; decide⟩
set_option maxHeartbeats 1000000 in
set_option maxRecDepth 100000 in
theorem check_used (b : Nat) (w : World) (h0 : w.cell? ⟨b, 0, none⟩ = some (.pointer (some ⟨b, 0, none⟩))) :
    Calls Tryz.prog 55 #[.pointer (some ⟨b, 0, none⟩)] w fun e w' => e = .returned (.tuple #[]) ∧ w' = w := by
  obtain ⟨j, hj, _⟩ := infoSB
  go_enter Tryz.func55, Tryz.ntmps55
  go_wp2_with fail
  rw [Lib.run_neq_ptr_same w _ Tryz.underlying69 hj]
  go_wp2_with fail
  go_end0
  exact ⟨rfl, rfl⟩
set_option maxHeartbeats 1000000 in
set_option maxRecDepth 100000 in
theorem check_fresh (b : Nat) (w : World) (h0 : w.cell? ⟨b, 0, none⟩ = some (.pointer none)) (hsh : w.shape? b = some (72, 2)) (hfz : w.frozen? ⟨b, 0, none⟩ = false) :
    Calls Tryz.prog 55 #[.pointer (some ⟨b, 0, none⟩)] w fun e w' => e = .returned (.tuple #[]) ∧ w' = w.setCell ⟨b, 0, none⟩ (.pointer (some ⟨b, 0, none⟩)) := by
  obtain ⟨j, hj, hjs⟩ := infoSB
  go_enter Tryz.func55, Tryz.ntmps55
  go_wp2_with fail
  rw [Lib.run_to_unsafe w ⟨b, 0, none⟩ Tryz.underlying69 Tryz.underlying108 hj hjs hsh (Nat.zero_lt_succ 1)]
  simp only [Result.andThen]
  rw [Oper.upon_value]
  go_wp2_with fail
  rw [run_callFunc_extern Tryz.func78 (by kernel_rfl) (by kernel_rfl) (by kernel_rfl) (e := Extern.AbiNoEscape.same) (by kernel_rfl)]
  rw [Lib.run_noEscape]
  simp only [Result.andThen]
  rw [Oper.upon_value]
  go_wp2_with fail
  rw [Lib.run_from_unsafe w ⟨b, 0, none⟩ Tryz.underlying108 Tryz.underlying69 hj hsh Tryz.Builder_Extra_169.liesBuilder]
  simp only [Result.andThen]
  rw [Oper.upon_value]
  go_wp2_with fail
  go_end0
  exact ⟨rfl, rfl⟩
theorem check_any (B b : Nat) (bs : List Value) (w : World) (h : Lib.IsBuilder 72 5 B b bs w) :
    Calls Tryz.prog 55 #[.pointer (some ⟨b, 0, none⟩)] w fun e w' => e = .returned (.tuple #[]) ∧ (Lib.BuilderAt 72 5 B b (.pointer (some ⟨b, 0, none⟩)) bs w' ∧ Below B w w' ∧ KeepT b w w') := by
  rcases h with h | h
  · refine (check_fresh b w h.cell0 h.shape h.frozen0).mono ?_
    rintro e w' ⟨rfl, rfl⟩
    exact ⟨rfl, h.used _, (Below.refl B w).setCell (p := ⟨b, 0, none⟩) h.1 _, KeepT.set b w 0 _⟩
  · refine (check_used b w h.cell0).mono ?_
    rintro e w' ⟨rfl, rfl⟩
    exact ⟨rfl, h, Below.refl B _, KeepT.refl b _⟩
set_option maxHeartbeats 2000000 in
set_option maxRecDepth 100000 in
theorem wstring_any (B b : Nat) (bs : List Value) (s : ByteArray) (w : World) (h : Lib.IsBuilder 72 5 B b bs w) (hlen : bs.length + s.size ≤ 140737488355328) (hBw : B ≤ w.heap.size) :
    Calls Tryz.prog 35 #[.pointer (some ⟨b, 0, none⟩), .string s] w fun e w' => e = .returned (.tuple #[.int .i64 s.size, .nilIface]) ∧ (Lib.BuilderAt 72 5 B b (.pointer (some ⟨b, 0, none⟩)) (bs ++ Lib.strCells s) w' ∧ Below B w w' ∧ KeepT b w w') := by
  obtain ⟨i0, hi, hz0, hz1, hz2⟩ := info_parts Tryz.Builder_Extra_169.infoByte
  have HC := Lib.hid (check_any B b bs w h)
  clear h
  go_enter Tryz.func35, Tryz.ntmps35
  go_wp2_with fail
  refine HC.out.mono ?_
  rintro e w1 ⟨rfl, h1, hb1, hkt1⟩
  have HKT := Lib.hid hkt1
  clear hkt1
  obtain ⟨hB, v, hbk, hown, hne⟩ := h1
  have c0 : w1.cell? ⟨b, 0, none⟩ = some (.pointer (some ⟨b, 0, none⟩)) := by rw [Lib.cell_of_heap hbk]; rfl
  have c1 : w1.cell? ⟨b, 1, none⟩ = some v := by rw [Lib.cell_of_heap hbk]; rfl
  go_wp2_with (at_builtin; refine Lib.wpList_append_own_string _ rfl _ _ 70 9 rfl B 5 i0 Tryz.underlying70 Tryz.underlying9 hi hz0 hz1 hz2 _ _ _ rfl hown s rfl ?c3 ?c4 ?c5 ?_)
  case c3 => unfold maxLen; omega
  case c4 => omega
  case c5 => have := hb1.size; omega
  intro v' w2 hown' hgrow _
  have hlt : b < w1.heap.size := by
    rcases Nat.lt_or_ge b w1.heap.size with h' | h'
    · exact h'
    · simp [Array.getElem?_eq_none h'] at hbk
  have hb2 : w2.heap[b]? = some (.cells #[.pointer (some ⟨b, 0, none⟩), v] 72 (0, 0)) := by
    rw [hgrow.block b hlt (fun e => hne e.symm)]
    exact hbk
  have d0 : w2.cell? ⟨b, 0, none⟩ = some (.pointer (some ⟨b, 0, none⟩)) := by rw [Lib.cell_of_heap hb2]; rfl
  have d1 : w2.cell? ⟨b, 1, none⟩ = some v := by rw [Lib.cell_of_heap hb2]; rfl
  have f1 : w2.frozen? ⟨b, 1, none⟩ = false := Lib.frozen_of_heap hb2 1
  obtain ⟨ao, n', cap, rfl⟩ : ∃ ao n' cap, v' = .slice ao n' cap := by
    rcases hown'.2 with ⟨hv, _⟩ | ⟨g, cap, cur, hv, _⟩
    · exact ⟨_, _, _, hv⟩
    · exact ⟨_, _, _, hv⟩
  go_wp2_with fail
  go_ret2
  refine ⟨rfl, ?_, ?_, (HKT.out.trans (KeepT.grown b hown hgrow)).trans (KeepT.set b _ 1 _)⟩
  · exact Lib.BuilderAt.put (T := 72) (e := 5) hB hb2 (bs' := bs ++ Lib.strCells s) (by simpa [Lib.strCells_length] using hown') (by decide)
  · exact (hb1.grown hgrow (by have := hb1.size; omega) (fun k hk => (hown.lt k hk).1)).setCell (p := ⟨b, 1, none⟩) hB _
end Go.Proofs.YtkkggpahanddnaaGreatDoor
/- Walks: how a byte is escaped in quotation marks, where it is no control character or a blank one. -/
namespace Go.Proofs.YtkkggpahanddnaaGreatDoor
open Go.RowKit
attribute [local go_sem] Ext.cell Ext.frozen
attribute [local go_sem ↓] Go.wp_at_zero Go.wp_at_succ

def hexD (n : Nat) : UInt8 := if n < 10 then UInt8.ofNat (48 + n) else UInt8.ofNat (87 + n)
/-- a byte, escaped -/
def escC (c : UInt8) : List UInt8 :=
  if c = 92 then [92, 92] else if c = 10 then [92, 110] else if c = 13 then [92, 114] else if c = 9 then [92, 116] else if c = 34 then [92, 34]
  else if c.toNat < 32 ∨ c.toNat = 127 then [92, 120, hexD (c.toNat / 16), hexD (c.toNat % 16)] else [c]
theorem neU {c : UInt8} {k : Nat} [OfNat UInt8 k] (h : ¬ c = OfNat.ofNat k) (hk : (OfNat.ofNat k : UInt8).toNat = k := by rfl) : ((c.toNat : Int) == (k : Int)) = false := by
  simp only [beq_eq_false_iff_ne]
  intro e
  exact h (UInt8.toNat_inj.1 (by rw [hk]; omega))
theorem convH (z : Int) (c : UInt8) (hz : z = (c.toNat : Int)) (W : World) :
    (convert 70 9 (.slice (some ⟨W.heap.size, 0, none⟩) 1 1)).run Tryz.prog (W.alloc (.cells #[.int .u8 z] 5)) = .ok (.string (bs [c])) (W.alloc (.cells #[.int .u8 z] 5)) := by
  refine run_convert_bytes_back _ 70 9 5 ⟨W.heap.size, 0, none⟩ 1 [c] Tryz.underlying70 Tryz.underlying5 Tryz.underlying9 ?_
  intro j hj
  obtain rfl : j = 0 := by simp at hj; exact hj
  subst hz
  simp [go_sem, Addr.add]
theorem style_any (w : World) : Calls Tryz.prog 34 #[.int .i64 2] w fun e w' => e = .returned (.bool true) ∧ w = w' := by
  go_enter Tryz.func34, Tryz.ntmps34
  go_wp2_with fail
  go_ret
  exact ⟨rfl, rfl⟩
theorem control_any (c : Nat) (w : World) : Calls Tryz.prog 56 #[.int .u8 (c : Int)] w fun e w' => e = .returned (.bool (decide (c < 32) || decide (c = 127))) ∧ w = w' := by
  by_cases h : c < 32
  · have h1 : (c : Int) < 32 := by omega
    have h2 : decide (c < 32) = true := decide_eq_true h
    rw [h2]
    go_enter Tryz.func56, Tryz.ntmps56
    go_wp2_with fail
    go_ret
    exact ⟨rfl, rfl⟩
  · have h1 : ¬ (c : Int) < 32 := by omega
    have h2 : decide (c < 32) = false := decide_eq_false h
    have h3 : decide (c = 127) = ((c : Int) == 127) := by
      rw [Bool.eq_iff_iff]; simp; omega
    rw [h2, h3]
    go_enter Tryz.func56, Tryz.ntmps56
    go_wp2_with fail
    go_ret
    exact ⟨by simp, rfl⟩
set_option maxRecDepth 20000 in
set_option maxHeartbeats 4000000 in
theorem bsl_easy (c : UInt8) (b : Bool) (hc : ¬ (c.toNat < 32 ∨ c.toNat = 127) ∨ c = 10 ∨ c = 13 ∨ c = 9) (w : World) : Calls Tryz.prog 37 #[.int .i64 2, .int .u8 (c.toNat : Int), .bool b] w fun e w' => e = .returned (.string (bs (escC c))) ∧ Below w.heap.size w w' := by
  by_cases h92 : c = 92
  · subst h92
    go_enter Tryz.func37, Tryz.ntmps37
    go_wp2_with fail
    go_ret
    exact ⟨rfl, Below.refl _ _⟩
  · by_cases h10 : c = 10
    · subst h10
      go_enter Tryz.func37, Tryz.ntmps37
      go_wp2_with fail
      go_ret
      exact ⟨rfl, Below.refl _ _⟩
    · by_cases h13 : c = 13
      · subst h13
        go_enter Tryz.func37, Tryz.ntmps37
        go_wp2_with fail
        go_ret
        exact ⟨rfl, Below.refl _ _⟩
      · by_cases h9 : c = 9
        · subst h9
          go_enter Tryz.func37, Tryz.ntmps37
          go_wp2_with fail
          go_ret
          exact ⟨rfl, Below.refl _ _⟩
        · have HIB := Lib.hid (fun w => Tryz.strings_IndexByte ⟨#[34]⟩ (c.toNat : Int) w)
          by_cases h34 : c = 34
          · subst h34
            have e1 : Lib.indexByte [34] 34 = 0 := by decide
            have kc := convH 34 34 rfl
            go_enter Tryz.func37, Tryz.ntmps37
            go_wp2_with fail
            refine (HIB.out _).mono ?_
            rintro e w1 ⟨rfl, rfl⟩
            go_wp2_with fail
            go_ret
            exact ⟨rfl, (Below.refl _ _).alloc (Nat.le_refl _) _⟩
          · have hc2 : ¬ (c.toNat < 32 ∨ c.toNat = 127) := by
              rcases hc with h | h | h | h
              · exact h
              · exact absurd h h10
              · exact absurd h h13
              · exact absurd h h9
            have HO : Hid (escC c = [c]) := by unfold Hid escC; rw [if_neg h92, if_neg h10, if_neg h13, if_neg h9, if_neg h34, if_neg hc2]
            have e1 : Lib.indexByte [34] (c.toNat : Int).toNat.toUInt8 = -1 := by
              rw [Int.toNat_natCast]
              have : c.toNat.toUInt8 = c := by simp
              rw [this]
              have h34' : ¬ (34 : UInt8) = c := fun e => h34 e.symm
              simp [Lib.indexByte, h34']
            have g92 : ((c.toNat : Int) == 92) = false := neU h92
            have g10 : ((c.toNat : Int) == 10) = false := neU h10
            have g13 : ((c.toNat : Int) == 13) = false := neU h13
            have g9 : ((c.toNat : Int) == 9) = false := neU h9
            have HCT := Lib.hid (fun w => control_any c.toNat w)
            have d1 : decide (c.toNat < 32) = false := decide_eq_false (fun e => hc2 (.inl e))
            have d2 : decide (c.toNat = 127) = false := decide_eq_false (fun e => hc2 (.inr e))
            rw [d1, d2] at HCT
            have kc := convH (c.toNat : Int) c rfl
            simp only [e1] at HIB
            clear hc hc2 h92 h10 h13 h9 h34 d1 d2 e1
            generalize escC c = ec at *
            generalize (c.toNat : Int) = z at *
            go_enter Tryz.func37, Tryz.ntmps37
            go_wp2_with fail
            refine (HIB.out _).mono ?_
            rintro e w1 ⟨rfl, rfl⟩
            go_wp2_with fail
            refine (HCT.out _).mono ?_
            rintro e _ ⟨rfl, rfl⟩
            go_wp2_with fail
            refine (HCT.out _).mono ?_
            rintro e _ ⟨rfl, rfl⟩
            go_wp2_with fail
            go_ret
            exact ⟨by rw [HO.out]; rfl, (Below.refl _ _).alloc (Nat.le_refl _) _⟩
end Go.Proofs.YtkkggpahanddnaaGreatDoor
/- Walks: a byte in base 16. -/
namespace Go.Proofs.YtkkggpahanddnaaGreatDoor
open Go.RowKit
attribute [local go_sem ↓] Go.wp_at_zero Go.wp_at_succ
def deTab : List Int := [0, 1, 56, 2, 57, 49, 28, 3, 61, 58, 42, 50, 38, 29, 17, 4, 62, 47, 59, 36, 45, 43, 51, 22, 53, 39, 33, 30, 24, 18, 12, 5, 63, 55, 48, 27, 60, 41, 37, 16, 46, 35, 44, 21, 52, 32, 23, 11, 54, 26, 40, 15, 34, 20, 31, 10, 25, 14, 19, 9, 13, 8, 7, 6]
def TabDe (w : World) : Prop := Lib.TabIs Tryz.prog w "math/bits.deBruijn64tab" .u8 deTab
theorem trail16 (w : World) (ht : TabDe w) : Calls Tryz.prog 108 #[.int .u64 16] w fun e w' => e = .returned (.int .i64 4) ∧ w = w' := by
  have hc : w.cell? ⟨5, 15, none⟩ = some (.int .u8 4) := by
    rw [Lib.TabIs.cell ht (by kernel_rfl) 15 (by decide)]; rfl
  have e1 : bits BinOp.and IntKind.u64 16 (IntKind.u64.wrap (-16)) = 16 := by decide +kernel
  have e2 : IntKind.u64.wrap (16 * 285870213051353865) = 4573923408821661840 := by decide +kernel
  have e3 : IntKind.u64.wrap 4573923408821661840 = 4573923408821661840 := by decide +kernel
  go_enter Tryz.func108, Tryz.ntmps108
  go_wp2_with fail
  go_ret
  exact ⟨rfl, rfl⟩
theorem trail (w : World) (ht : TabDe w) : Calls Tryz.prog 97 #[.int .u64 16] w fun e w' => e = .returned (.int .i64 4) ∧ w = w' := by
  go_enter Tryz.func97, Tryz.ntmps97
  go_wp2_with fail
  refine (trail16 w ht).mono ?_
  rintro e w' ⟨rfl, rfl⟩
  go_wp2_with fail
  go_ret
  exact ⟨rfl, rfl⟩
theorem pow2_16 (w : World) : Calls Tryz.prog 96 #[.int .i64 16] w fun e w' => e = .returned (.bool true) ∧ w = w' := by
  go_enter Tryz.func96, Tryz.ntmps96
  go_wp2_with fail
  go_ret
  exact ⟨rfl, rfl⟩
end Go.Proofs.YtkkggpahanddnaaGreatDoor
