/- Walks inside a fence: the iterator over the pieces of a document. -/
import Derived.RangeFuncNested
import Derived.RangeFuncBound
import Derived.RangeFuncCalls
import Derived.RangeFuncLeaves
import Derived.RangeFuncBox
import Derived.Shelf.Abstract
import Derived.Shelf.RegionOpen
import Derived.WalkKit
import Derived.OwnWalkIn
import Derived.TacticsInMore
import Derived.LoopNIn
import Derived.LoopIn
import Derived.Test.YtkkggpahanddnaaDoorH14
namespace Go.Proofs.YtkkggpahanddnaaDoor
open Go.RowKit Go.Shelf
attribute [local go_sem] Oper.semAt_some

/-- the first k values of a function -/
def upto {α : Type} (f : Nat → α) (k : Nat) : List α := (List.range k).map f
theorem upto_succ {α : Type} (f : Nat → α) (k : Nat) : upto f (k + 1) = upto f k ++ [f k] := by simp [upto, List.range_succ]
theorem upto_length {α : Type} (f : Nat → α) (k : Nat) : (upto f k).length = k := by simp [upto]
/-- some blocks are as they were -/
def KeepS (S : Nat → Prop) (W W' : World) : Prop := ∀ k, S k → W'.heap[k]? = W.heap[k]?
theorem KeepS.refl (S : Nat → Prop) (W : World) : KeepS S W W := fun _ _ => rfl
theorem KeepS.trans {S : Nat → Prop} {A B C : World} (h : KeepS S A B) (k : KeepS S B C) : KeepS S A C := fun i hi => (k i hi).trans (h i hi)
theorem KeepS.put {S : Nat → Prop} {B : Nat} (hS : ∀ k, S k → k < B) (W : World) (l : Nat) (_o o' : Obj) (hl : B ≤ l) (_h : W.heap[l]? = some _o) (_hc : _o.isCells = false) (_hw : _o.isWalk = false) : KeepS S W (W.putObj l o') :=
  fun k hk => World.putObj_heap_other (fun e => by have := hS k hk; omega)
theorem KeepS.cell {S : Nat → Prop} {W W' : World} (h : KeepS S W W') {b : Nat} (hb : S b) (o : Nat) : W'.cell? ⟨b, o, none⟩ = W.cell? ⟨b, o, none⟩ := World.cell?_of_block (h b hb)
/-- a piece with its index -/
def pieceF (l : List ByteArray) (j : Nat) : Nat × ByteArray := (j, l.getD j .empty)
abbrev pieceE (x : Nat × ByteArray) : Array Value := #[.int .i64 (x.1 : Int), .string x.2]

set_option maxRecDepth 100000 in
set_option maxHeartbeats 2000000 in
theorem alliter_in {α : Type} (q : α → Nat × ByteArray) (f : Nat → α) (n : Nat) (hn : 1 ≤ n) (l Bd : Nat) (S : Nat → Prop) (h t : ByteArray) (ad : Option Addr) (m c b off : Nat) (xs : List ByteArray) (hm : m ≤ 1000000) (hSd : S Bd) (hSb : m ≠ 0 → S b) (hf : ∀ j, j < m + 2 → q (f j) = pieceF (allV h xs t) j) (J Jx : List α → World → Prop)
    (hY : ∀ pre x W, J pre W → pre.length < m + 2 → YieldAt Fence.wide (n - 1) Tryd.prog l (pieceE (q x)) W fun e W' =>
      (e = .returned (.bool true) ∧ J (pre ++ [x]) W' ∧ KeepS S W W') ∨ (e = .returned (.bool false) ∧ Jx (pre ++ [x]) W'))
    (W : World) (hB : W.heap[Bd]? = some (.cells #[.string h, .slice ad m c, .string t] 31 (0, 0))) (hx : SlAt W ad m (strs xs) b off) (h0 : J [] W) :
    CallsIn Fence.wide n Tryd.prog 45 #[.func (.yield l) #[] #[], .pointer (some ⟨Bd, 0, none⟩)] W fun e W' => (∃ v, e = .returned v) ∧
      ((∃ ys, ys = upto f (m + 2) ∧ J ys W') ∨ (∃ pre, (∃ k, k ≤ m + 2 ∧ pre = upto f k) ∧ Jx pre W')) := by
  have hl : xs.length = m := by have := hx.len; rwa [strs_length] at this
  have e0 : q (f 0) = (0, h) := hf 0 (by omega)
  have el : q (f (m + 1)) = (m + 1, t) := by rw [hf _ (by omega)]; unfold pieceF; rw [← hl, allV_last]
  have em : ∀ k, k < m → q (f (k + 1)) = (k + 1, xs.getD k .empty) := fun k hk => by rw [hf _ (by omega)]; unfold pieceF; rw [allV_mid _ _ _ (by omega)]
  have HL := Lib.hid hl
  have HX := Lib.hid hx
  have HE0 := Lib.hid e0
  have HEL := Lib.hid el
  have HEM := Lib.hid em
  have HB := Lib.hid hB
  clear hl hx e0 el em hB hf
  have c0 := row_cells HB.out 0
  have c1 := row_cells HB.out 1
  have c2 := row_cells HB.out 2
  refine callsIn_of_wp Tryd.func45 rfl trivial ?_ rfl
  simp only [Tryd.ntmps45, List.size_toArray, List.length_cons, List.length_nil, Nat.reduceAdd, Nat.reduceSub, Array.replicate_succ, Array.replicate_zero, List.push_toArray, List.append_toArray, List.nil_append, List.cons_append]
  obtain ⟨fn1, tm1, as1, bo1, hy1, hR1⟩ := hY [] (f 0) W h0 (by simp)
  rw [HE0.out] at hy1
  dsimp only [pieceE] at hy1
  simp only [Int.natCast_zero] at hy1
  gi_wp2
  refine hR1.mono ?_
  rintro e W1 (⟨rfl, hJ1, hk1⟩ | ⟨rfl, hJx1⟩)
  · have HB1 := Lib.hid ((hk1 Bd hSd).trans HB.out)
    have d0 := row_cells HB1.out 0
    have d1 := row_cells HB1.out 1
    have d2 := row_cells HB1.out 2
    have HJ1 : Hid (J (upto f 1) W1) := hJ1
    have HK1 := Lib.hid hk1
    clear hJ1 hk1 hR1 hy1 c0 c1 c2
    gi_wp2
    gi_loopw [13] (fun i wr => ∃ k : Nat, k ≤ m ∧ i = .int .i64 k ∧ J (upto f (k + 1)) wr ∧ KeepS S W wr)
      (fun i _ => m - (intOf i).toNat)
    case atStart => exact ⟨0, Nat.zero_le _, rfl, HJ1.out, HK1.out⟩
    case round =>
      obtain ⟨k, hk, rfl, hJs, hnx⟩ := hrel
      have HBR := Lib.hid ((hnx Bd hSd).trans HB.out)
      by_cases hlt : k < m
      · have hcx : wr.cell? ⟨b, off + k, none⟩ = some (.string (xs.getD k .empty)) := by
          rw [hnx.cell (hSb (by omega)), HX.out.cell k hlt, strs_getD _ _ (by rw [HL.out]; exact hlt)]
        have hix := fun W => HX.out.ix (c := c) 22 9 Tryd.underlying22 cellsS hlt (W := W)
        obtain ⟨fn, tmps, assign, body, hy, hR⟩ := hY _ (f (k + 1)) wr hJs (by rw [upto_length]; omega)
        rw [HEM.out k hlt] at hy
        dsimp only [pieceE] at hy
        simp only [Int.natCast_add, Int.natCast_one] at hy
        generalize xs.getD k .empty = x at *
        gi_wp2
        refine hR.mono ?_
        rintro e W3 (⟨rfl, hJ3, hk3⟩ | ⟨rfl, hJx3⟩)
        · gi_wp2
          go_roundw
          case rel => exact ⟨k + 1, by omega, by simp, by rw [upto_succ]; exact hJ3, hnx.trans hk3⟩
          case measure => simp [intOf]; omega
        · gi_wp2
          refine bodyPost_ret (results_none rfl _ _ _) rfl ?_
          exact ⟨⟨_, rfl⟩, .inr ⟨_, ⟨k + 1 + 1, by omega, by rw [upto_succ f (k + 1)]⟩, hJx3⟩⟩
      · obtain rfl : k = m := by omega
        have d0 := row_cells HBR.out 0
        have d1 := row_cells HBR.out 1
        have d2 := row_cells HBR.out 2
        obtain ⟨fn, tmps, assign, body, hy, hR⟩ := hY _ (f (k + 1)) wr hJs (by rw [upto_length]; omega)
        rw [HEL.out] at hy
        dsimp only [pieceE] at hy
        simp only [Int.natCast_add, Int.natCast_one] at hy
        gi_wp2
        refine hR.mono ?_
        rintro e W3 (⟨rfl, hJ3, hk3⟩ | ⟨rfl, hJx3⟩)
        · gi_wp2
          go_end0
          exact ⟨⟨_, rfl⟩, .inl ⟨_, rfl, by rw [upto_succ]; exact hJ3⟩⟩
        · gi_wp2
          go_end0
          exact ⟨⟨_, rfl⟩, .inr ⟨_, ⟨k + 1 + 1, Nat.le_refl _, by rw [upto_succ f (k + 1)]⟩, hJx3⟩⟩
  · gi_wp2
    refine bodyPost_ret (results_none rfl _ _ _) rfl ?_
    exact ⟨⟨_, rfl⟩, .inr ⟨_, ⟨1, by omega, rfl⟩, hJx1⟩⟩
theorem pall_in (n : Nat) (h t : ByteArray) (ad : Option Addr) (m c : Nat) (w : World) :
    CallsIn Fence.wide n Tryd.prog 34 #[.agg #[.string h, .slice ad m c, .string t]] w fun e w' => e = .returned (.func (.func 45) #[] #[.pointer (some ⟨w.heap.size, 0, none⟩)]) ∧ w' = w.alloc (.cells #[.string h, .slice ad m c, .string t] 31) := by
  refine callsIn_of_wp Tryd.func34 rfl trivial ?_ rfl
  simp only [Tryd.ntmps34, List.size_toArray, List.length_cons, List.length_nil, Nat.reduceAdd, Nat.reduceSub, Array.replicate_succ, Array.replicate_zero, List.push_toArray, List.append_toArray, List.nil_append, List.cons_append]
  gi_wp2
  go_ret
  exact ⟨rfl, rfl⟩
/-- **the iterator over the pieces of a document, for every body that keeps its block and its items** -/
theorem pall_stopsG {α : Type} (q : α → Nat × ByteArray) (f : Nat → α) (n : Nat) (hn : 1 ≤ n) (Bd : Nat) (S : Nat → Prop) (h t : ByteArray) (ad : Option Addr) (m c b off : Nat) (xs : List ByteArray) (w : World) (hm : m ≤ 1000000) (hSd : S Bd) (hSb : m ≠ 0 → S b)
    (hf : ∀ j, j < m + 2 → q (f j) = pieceF (allV h xs t) j) (hB : w.heap[Bd]? = some (.cells #[.string h, .slice ad m c, .string t] 31 (0, 0))) (hx : SlAt w ad m (strs xs) b off) :
    SeqStopsK Fence.wide n Tryd.prog 45 #[.pointer (some ⟨Bd, 0, none⟩)] (fun x => pieceE (q x)) (KeepS S) (fun ys => ys = upto f (m + 2)) (fun pre => ∃ k, k ≤ m + 2 ∧ pre = upto f k) (m + 2) w := fun l J Jx W hW _ _ hY h0 =>
  alliter_in q f n hn l Bd S h t ad m c b off xs hm hSd hSb hf J Jx hY W ((hW.block Bd (Array.getElem?_eq_some_iff.1 hB).1).trans hB) (hx.below hW) h0
theorem pall_stops (n : Nat) (hn : 1 ≤ n) (Bd : Nat) (S : Nat → Prop) (h t : ByteArray) (ad : Option Addr) (m c b off : Nat) (xs : List ByteArray) (w : World) (hm : m ≤ 1000000) (hSd : S Bd) (hSb : m ≠ 0 → S b)
    (hB : w.heap[Bd]? = some (.cells #[.string h, .slice ad m c, .string t] 31 (0, 0))) (hx : SlAt w ad m (strs xs) b off) :
    SeqStopsK Fence.wide n Tryd.prog 45 #[.pointer (some ⟨Bd, 0, none⟩)] pieceE (KeepS S) (fun ys => ys = upto (pieceF (allV h xs t)) (m + 2)) (fun pre => ∃ k, k ≤ m + 2 ∧ pre = upto (pieceF (allV h xs t)) k) (m + 2) w :=
  pall_stopsG (fun x => x) (pieceF (allV h xs t)) n hn Bd S h t ad m c b off xs w hm hSd hSb (fun _ _ => rfl) hB hx
end Go.Proofs.YtkkggpahanddnaaDoor
