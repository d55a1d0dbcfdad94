/- Walks: findings turned into findings; two equal lists of findings. -/
import Derived.Test.YtkodnagneblgaaaGA0
import Derived.Test.YtkodnagneblgaaaH1
import Derived.Test.YtkodnagneblgaaaG5B
namespace Go.Proofs.Ytkodnagneblgaaa
open Go.RowKit Go.Maps Go.Sort
attribute [local go_sem] Ext.cell Ext.frozen
attribute [local go_sem ↓] Go.wp_at_zero Go.wp_at_succ
set_option maxHeartbeats 2000000 in
theorem from_any (fs : List (Nat × Nat)) (ad : Option Addr) (n c : Nat) (w : World) (ht : PrAt w ad n fs) (hn : n ≤ 1000) :
    Calls Try.prog 14 #[.slice ad n c] w fun e w' => ∃ ad' c', e = .returned (.slice ad' n c') ∧ FnR 63 w' w.heap.size (.slice ad' n c') fs ∧ Below w.heap.size w w' := by
  obtain ⟨hl, b, off, hrw⟩ := ht
  have HR := Lib.hid hrw
  have HL := Lib.hid hl
  clear hrw hl
  go_enter Try.func14, Try.ntmps14
  go_wp2_with fail
  go_loopw [3, 8] (fun v u wr => ∃ (i : Nat) (ad' : Option Addr) (c' : Nat), u = .int .i64 (i : Int) ∧ v = .slice ad' i c' ∧ i ≤ n ∧ FnR 63 wr w.heap.size (.slice ad' i c') (fs.take i) ∧ Below w.heap.size w wr) (fun _ u _ => n - (intOf u).toNat)
  case atStart => exact ⟨0, none, 0, rfl, rfl, Nat.zero_le _, World.ownsRow_nil _ _ _ _, Below.refl _ _⟩
  case round =>
    obtain ⟨i, ad', c', rfl, rfl, hin, htr, hbl⟩ := hrel
    have HT := Lib.hid htr
    have HB := Lib.hid hbl
    have hzr := hbl.size
    clear htr hbl
    by_cases hlt : i < n
    · have hr := HR.out.below HB.out
      have hix := fun W => hr.ix 25 51 Try.underlying25 cellsFnP (by omega) hlt c W
      have h0 := hr.cell i 0 hlt (by omega)
      have h1 := hr.cell i 1 hlt (by omega)
      rw [Nat.add_zero] at h0
      simp only [prC] at h0 h1
      have HTK : Hid (fs.take (i + 1) = fs.take i ++ [fs.getD i (0, 0)]) := take_snoc fs i (0, 0) (by rw [HL.out]; exact hlt)
      have HTL : Hid ((fs.take i).length = i) := by rw [Hid, List.length_take, HL.out]; omega
      have hlz : (i : Int) < (n : Int) := by omega
      clear hr
      generalize fs.getD i (0, 0) = x at *
      obtain ⟨a, b⟩ := x
      simp only at h0 h1
      go_upto_region 5 with (fail)
      have hbk : Below wr.heap.size wr (wr.alloc (.cells #[.int .i64 (a : Int), .int .i64 (b : Int)] 51)) := Bel.alloc (Bel.refl wr) _
      have HT2 := Lib.hid (HT.out.below hbk)
      have HB2 := Lib.hid (HB.out.trans (hbk.mono hzr))
      have HX : Hid ((wr.alloc (.cells #[.int .i64 (a : Int), .int .i64 (b : Int)] 51)).heap[wr.heap.size]? = some (.cells #[.int .i64 (a : Int), .int .i64 (b : Int)] 51 (0, 0))) := heap_alloc_new wr _
      generalize wr.alloc (.cells #[.int .i64 (a : Int), .int .i64 (b : Int)] 51) = w2 at *
      have x0 := row_cells HX.out 0
      have x1 := row_cells HX.out 1
      clear hbk
      go_wp2_with (at_builtin; refine appFindR rfl _ _ rfl w.heap.size _ _ _ (fs.take i) HTL.out rfl HT2.out a b _ rfl (by omega) HB2.out.size ?_; intro ad7 c7 w7 htr7 hb7; have HT7 := Lib.hid htr7; have HB7 := Lib.hid hb7; clear htr7 hb7)
      go_roundw
      case rel => exact ⟨i + 1, ad7, c7, by go_num, rfl, by omega, by rw [HTK.out]; exact HT7.out, HB2.out.trans HB7.out⟩
      case measure => simp [intOf]; omega
    · obtain rfl : i = n := by omega
      go_wp2_with fail
      go_ret
      have := HT.out
      rw [List.take_of_length_le (by rw [HL.out]; exact Nat.le_refl _)] at this
      exact ⟨ad', c', rfl, this, HB.out⟩
set_option maxHeartbeats 2000000 in
theorem same_eq (fs : List (Nat × Nat)) (hf : ∀ p ∈ fs, p.1 ≤ 1000 ∧ p.2 ≤ 1000) (ad : Option Addr) (n c : Nat) (ad' : Option Addr) (c' : Nat) (w : World) (hp : PrAt w ad n fs) (hq : PrAt w ad' n fs) (hn : n ≤ 1000) :
    Calls Try.prog 13 #[.slice ad n c, .slice ad' n c'] w fun e w' => e = .returned (.bool true) ∧ Below w.heap.size w w' := by
  have HP := Lib.hid hp
  have HQ := Lib.hid hq
  have HL := Lib.hid hp.1
  have HF := Lib.hid hf
  clear hp hq hf
  go_enter Try.func13, Try.ntmps13
  go_wp2_with fail
  go_loopw [5] (fun u wr => ∃ i : Nat, u = .int .i64 (i : Int) ∧ i ≤ n ∧ Below w.heap.size w wr) (fun u _ => n - (intOf u).toNat)
  case atStart => exact ⟨0, rfl, Nat.zero_le _, Below.refl _ _⟩
  case round =>
    obtain ⟨i, rfl, hin, hbl⟩ := hrel
    have HB := Lib.hid hbl
    clear hbl
    by_cases hlt : i < n
    · obtain ⟨_, pb, po, hrp⟩ := HP.out.below HB.out
      obtain ⟨_, qb, qo, hrq⟩ := HQ.out.below HB.out
      have hixp := fun W => hrp.ix 31 63 Try.underlying31 cellsFnR (by omega) hlt c W
      have hixq := fun W => hrq.ix 31 63 Try.underlying31 cellsFnR (by omega) hlt c' W
      have p0 := hrp.cell i 0 hlt (by omega)
      have p1 := hrp.cell i 1 hlt (by omega)
      have q0 := hrq.cell i 0 hlt (by omega)
      have q1 := hrq.cell i 1 hlt (by omega)
      rw [Nat.add_zero] at p0 q0
      simp only [prC] at p0 p1 q0 q1
      have hpb : pb < wr.heap.size := World.block_lt_of_cell? wr _ p0
      have hqb : qb < wr.heap.size := World.block_lt_of_cell? wr _ q0
      obtain ⟨f1, f2⟩ := HF.out (fs.getD i (0, 0)) (getD_mem _ _ _ (by rw [HL.out]; exact hlt))
      have hlz : (i : Int) < (n : Int) := by omega
      clear hrp hrq
      generalize fs.getD i (0, 0) = x at *
      obtain ⟨a, b⟩ := x
      simp only at p0 p1 q0 q1 f1 f2
      have heq : ∀ W, (Op.equalIn 10000 63 (.agg #[.int .i64 (a : Int), .int .i64 (b : Int)]) (.agg #[.int .i64 (a : Int), .int .i64 (b : Int)])).run Try.prog W = .ok true W := fun W => by simpa using eq_fn (a : Int) (b : Int) (a : Int) (b : Int) W (wf_nat (by omega)) (wf_nat (by omega)) (wf_nat (by omega)) (wf_nat (by omega))
      go_wp2_with fail
      refine wp_region_ext (by kernel_rfl) (by kernel_rfl) ?_
      repeat (go_big_quiet_step (fail))
      refine wpQuiet_nil ?_
      intro _ hw'
      obtain ⟨X9, hw''⟩ := hw'
      subst hw''
      go_wp2_with fail
      go_roundw
      case rel => exact ⟨i + 1, by go_num, by omega, HB.out.trans (X9.2.mono HB.out.size)⟩
      case measure => simp [intOf]; omega
    · obtain rfl : i = n := by omega
      go_wp2_with fail
      go_ret
      exact ⟨rfl, HB.out⟩
end Go.Proofs.Ytkodnagneblgaaa
