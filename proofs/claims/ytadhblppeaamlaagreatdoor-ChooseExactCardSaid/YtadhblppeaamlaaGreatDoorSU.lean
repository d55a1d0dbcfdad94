/- Walks: the keys that a value wants; the key that is chosen. -/
import Derived.Test.YtadhblppeaamlaaGreatDoorST
import Derived.Test.YtadhblppeaamlaaGreatDoorSQ
import Derived.Test.YtadhblppeaamlaaGreatDoorSJ
import Derived.Test.YtadhblppeaamlaaGreatDoorR
namespace Go.Proofs.YtadhblppeaamlaaGreatDoor
open Go.RowKit
attribute [local go_sem] Ext.cell Ext.frozen
attribute [local go_sem ↓] Go.wp_at_zero Go.wp_at_succ

theorem wpQuiet_load {P : Program} {ops : Array Oper} {C : World → Prop} {Q : Act → Prop} {o : Oper} {rest : List Oper} {a : Act} (ty : TypeId) (x : Operand) (ho : o.op = .load ty x) (hgd : o.guard = none) (p : Addr)
    (hx : a.eval x = .pointer (some p)) (v : Value) (hl : ∀ w, C w → (loadVar ty p).run P w = .ok v w) (h : wpQuiet P ops C Q rest (a.put o.dst v)) : wpQuiet P ops C Q (o :: rest) a := by
  refine BigFrame.wpQuiet_want (by simp [Region.wanted, hgd]) ?_
  intro K hK
  refine ⟨v, fun w hC => ?_, hK _ h⟩
  show Oper.quietUpon P C w v ((execOp a.eval o).run P w)
  unfold execOp
  simp only [ho, hx, Instr.loadAt, Instr.sureAddr, Sem.run_bind, Sem.run_pure, Result.andThen_ok, hl w hC]
  exact ⟨rfl, rfl⟩
/-- a slice of strings of the call's own -/
def WantP (w : World) (l : List ByteArray) (e : Ending) (w' : World) : Prop := ∃ ad n c, e = .returned (.slice ad n c) ∧ Sl w' ad n (strs l) ∧ Below w.heap.size w w'
theorem sl_madeAt (w : World) (l : List Value) (e : TypeId) (B : Nat) (hB : B = w.heap.size) (hl : l.length ≤ 9223372036854775807) : Sl (w.alloc (.cells l.toArray e)) (some ⟨B, 0, none⟩) l.length l := by
  subst hB
  exact sl_made w l e hl
theorem two_le (a b : ByteArray) : (strs [a, b]).length ≤ 9223372036854775807 := Nat.le_of_ble_eq_true rfl
theorem three_le (a b c : ByteArray) : (strs [a, b, c]).length ≤ 9223372036854775807 := Nat.le_of_ble_eq_true rfl
theorem few_rules {a b : List (ByteArray × List (List Rel))} (ha : FewC a) (hb : FewC b) (kind : Int) : FewC (rulesV kind a b) := by
  unfold rulesV
  split
  · exact ha
  · split
    · exact hb
    · exact fun r hr => absurd hr List.not_mem_nil
set_option maxRecDepth 20000 in
set_option maxHeartbeats 4000000 in
theorem wanted_any (x y : Nat → Value) (a b : List (ByteArray × List (List Rel))) (kind : Int) (v : Vl) (w : World) (h : LocC w x a b) (hv : ValC w y v) (ha : FewC a) (hb : FewC b) (hs : v.tx.size ≤ 1000) :
    Calls Tryz.prog 54 #[.agg #[x 0, x 1, x 2, x 3, x 4, x 5, x 6, x 7, x 8, x 9, x 10, x 11, x 12, x 13, x 14, x 15], .int .i64 kind, .agg #[y 0, y 1, y 2, y 3, y 4]] w (WantP w (wantV kind (rulesV kind a b) v.tx)) := by
  have y2 := hv.2.2.2.1
  clear hv
  by_cases h9 : kind = 9
  · have HO : Hid (wantV kind (rulesV kind a b) v.tx = [v.tx, otherB]) := if_pos h9
    rw [HO.out, y2]
    subst h9
    clear HO h hs y2
    generalize v.tx = tx at *
    generalize x 0 = x0 at *
    generalize x 1 = x1 at *
    generalize x 2 = x2 at *
    generalize x 3 = x3 at *
    generalize x 4 = x4 at *
    generalize x 5 = x5 at *
    generalize x 6 = x6 at *
    generalize x 7 = x7 at *
    generalize x 8 = x8 at *
    generalize x 9 = x9 at *
    generalize x 10 = x10 at *
    generalize x 11 = x11 at *
    generalize x 12 = x12 at *
    generalize x 13 = x13 at *
    generalize x 14 = x14 at *
    generalize x 15 = x15 at *
    generalize y 0 = y0 at *
    generalize y 1 = y1 at *
    generalize y 3 = y3 at *
    generalize y 4 = y4 at *
    go_enter Tryz.func54, Tryz.ntmps54
    go_wp2_with fail
    go_ret
    exact ⟨_, _, _, rfl, sl_madeAt _ (strs [tx, otherB]) _ _ (by simp) (two_le _ _), by show Bel w _; repeat (first | exact Bel.refl _ | refine Bel.drew ?_ | refine Bel.drewN ?_ _ | refine Bel.alloc ?_ _ | refine Bel.ext ?_ _)⟩
  · have HO : Hid (wantV kind (rulesV kind a b) v.tx = [bs (61 :: v.tx.data.toList), (classV (rulesV kind a b) v.tx.data.toList).1, otherB]) := if_neg h9
    rw [HO.out, y2]
    have e9 : (kind == 9) = false := by rw [beq_eq_false_iff_ne]; exact h9
    have HR : Hid (∀ W, Calls Tryz.prog 26 #[.agg #[x 0, x 1, x 2, x 3, x 4, x 5, x 6, x 7, x 8, x 9, x 10, x 11, x 12, x 13, x 14, x 15], .int .i64 kind] W fun e w' => e = .returned (valR x kind) ∧ Below W.heap.size W w') := fun W => crules_any x kind W
    have HC : Hid (∀ W, Below w.heap.size w W → Calls Tryz.prog 39 #[valR x kind, .string v.tx] W fun e w' => e = .returned (.tuple #[.string (classV (rulesV kind a b) v.tx.data.toList).1, .int .i64 ((classV (rulesV kind a b) v.tx.data.toList).2 : Nat)]) ∧ Below W.heap.size W w') := fun W g => pclass_any _ _ v.tx W ((rules_at h kind).below g) (few_rules ha hb kind) hs
    have HEQ : Hid ((⟨#[61]⟩ : ByteArray) ++ v.tx = bs (61 :: v.tx.data.toList)) := by
      have := bs_append [61] v.tx.data.toList
      rw [bs_self] at this
      exact this
    have aa := fun w => run_string_add_sum (P := Tryz.prog) (w := w) ⟨#[61]⟩ v.tx (by rw [show (⟨#[61]⟩ : ByteArray).size = 1 from rfl]; omega)
    clear HO h hs y2 h9 ha hb
    generalize classV (rulesV kind a b) v.tx.data.toList = cv at *
    obtain ⟨cl, er⟩ := cv
    simp only at HC ⊢
    rw [← HEQ.out]
    generalize valR x kind = vr at *
    clear HEQ
    generalize v.tx = tx at *
    generalize x 0 = x0 at *
    generalize x 1 = x1 at *
    generalize x 2 = x2 at *
    generalize x 3 = x3 at *
    generalize x 4 = x4 at *
    generalize x 5 = x5 at *
    generalize x 6 = x6 at *
    generalize x 7 = x7 at *
    generalize x 8 = x8 at *
    generalize x 9 = x9 at *
    generalize x 10 = x10 at *
    generalize x 11 = x11 at *
    generalize x 12 = x12 at *
    generalize x 13 = x13 at *
    generalize x 14 = x14 at *
    generalize x 15 = x15 at *
    generalize y 0 = y0 at *
    generalize y 1 = y1 at *
    generalize y 3 = y3 at *
    generalize y 4 = y4 at *
    go_enter Tryz.func54, Tryz.ntmps54
    go_wp2_with fail
    refine wp_at_worldT ?_
    intro W hW
    have HBW : Hid (Below w.heap.size w W) := by rw [hW]; show Bel w _; repeat (first | exact Bel.refl _ | refine Bel.drew ?_ | refine Bel.drewN ?_ _ | refine Bel.alloc ?_ _ | refine Bel.ext ?_ _)
    have HRW : Hid (W.heap[w.heap.size]? = some (.cells #[x0, x1, x2, x3, x4, x5, x6, x7, x8, x9, x10, x11, x12, x13, x14, x15] 30 (0, 0))) := by
      rw [hW]
      show ((w.heap.push _).push _)[w.heap.size]? = _
      rw [Array.getElem?_push, if_neg (by simp), Array.getElem?_push, if_pos (by simp)]
    have k2 : W.cell? ⟨w.heap.size + 1, 2, none⟩ = some (.string tx) := by rw [hW]; simp [go_sem]
    have hwz : w.heap.size + 1 < W.heap.size := by rw [hW]; simp
    clear hW
    have HLD : Hid (∀ w', (∃ x : Ext W, w' = x.1) → (loadVar 30 ⟨w.heap.size, 0, none⟩).run Tryz.prog w' = .ok (.agg #[x0, x1, x2, x3, x4, x5, x6, x7, x8, x9, x10, x11, x12, x13, x14, x15]) w') := by
      rintro _ ⟨x, rfl⟩
      refine run_loadVar_row x.1 w.heap.size 30 30 _ (0, 0) _ ?_ Tryz.underlying30 rfl (by kernel_rfl)
      rw [x.2.block _ (by omega)]
      exact HRW.out
    refine wp_region_ext (by kernel_rfl) (by kernel_rfl) ?_
    refine wpQuiet_load 30 (.tmp 3) rfl rfl ⟨w.heap.size, 0, none⟩ rfl _ HLD.out ?_
    simp only [Act.put, List.setIfInBounds_toArray, List.set_cons_succ, List.set_cons_zero]
    repeat (go_big_quiet_step (first | (go_at_call 26; exact Calls.ext (HR.out _)) | (go_at_call 39; refine Calls.ext (HC.out _ ?_); show Bel w _; exact Bel.ext HBW.out _)))
    refine wpQuiet_nil ?_
    intro _ hw'
    obtain ⟨X9, hw''⟩ := hw'
    subst hw''
    have HX9 : Hid (Below w.heap.size w X9.1) := Bel.ext HBW.out _
    go_wp2_with fail
    go_ret
    exact ⟨_, _, _, rfl, sl_made _ (strs [⟨#[61]⟩ ++ tx, cl, otherB]) _ (three_le _ _ _), Bel.alloc HX9.out _⟩
set_option maxRecDepth 20000 in
set_option maxHeartbeats 4000000 in
theorem rwanted_any (x y : Nat → Value) (a b : List (ByteArray × List (List Rel))) (kind : Int) (v : Vl) (w : World) (h : LocC w x a b) (hv : ValC w y v) (ha : FewC a) (hb : FewC b) (hs : v.tx.size ≤ 1000) :
    Calls Tryz.prog 35 #[.agg #[x 0, x 1, x 2, x 3, x 4, x 5, x 6, x 7, x 8, x 9, x 10, x 11, x 12, x 13, x 14, x 15], .int .i64 kind, .agg #[y 0, y 1, y 2, y 3, y 4]] w (WantP w (wantV kind (rulesV kind a b) v.tx)) := by
  have y2 := hv.2.2.2.1
  clear hv
  by_cases h9 : kind = 9
  · have HO : Hid (wantV kind (rulesV kind a b) v.tx = [v.tx, otherB]) := if_pos h9
    rw [HO.out, y2]
    subst h9
    clear HO h hs y2
    generalize v.tx = tx at *
    generalize x 0 = x0 at *
    generalize x 1 = x1 at *
    generalize x 2 = x2 at *
    generalize x 3 = x3 at *
    generalize x 4 = x4 at *
    generalize x 5 = x5 at *
    generalize x 6 = x6 at *
    generalize x 7 = x7 at *
    generalize x 8 = x8 at *
    generalize x 9 = x9 at *
    generalize x 10 = x10 at *
    generalize x 11 = x11 at *
    generalize x 12 = x12 at *
    generalize x 13 = x13 at *
    generalize x 14 = x14 at *
    generalize x 15 = x15 at *
    generalize y 0 = y0 at *
    generalize y 1 = y1 at *
    generalize y 3 = y3 at *
    generalize y 4 = y4 at *
    go_enter Tryz.func35, Tryz.ntmps35
    go_wp2_with fail
    go_ret
    exact ⟨_, _, _, rfl, sl_madeAt _ (strs [tx, otherB]) _ _ (by simp) (two_le _ _), by show Bel w _; repeat (first | exact Bel.refl _ | refine Bel.drew ?_ | refine Bel.drewN ?_ _ | refine Bel.alloc ?_ _ | refine Bel.ext ?_ _)⟩
  · have HO : Hid (wantV kind (rulesV kind a b) v.tx = [bs (61 :: v.tx.data.toList), (classV (rulesV kind a b) v.tx.data.toList).1, otherB]) := if_neg h9
    rw [HO.out, y2]
    have e9 : (kind == 9) = false := by rw [beq_eq_false_iff_ne]; exact h9
    have HR : Hid (∀ W, Calls Tryz.prog 32 #[.agg #[x 0, x 1, x 2, x 3, x 4, x 5, x 6, x 7, x 8, x 9, x 10, x 11, x 12, x 13, x 14, x 15], .int .i64 kind] W fun e w' => e = .returned (valR x kind) ∧ Below W.heap.size W w') := fun W => rcrules_any x kind W
    have HC : Hid (∀ W, Below w.heap.size w W → Calls Tryz.prog 43 #[valR x kind, .string v.tx] W fun e w' => e = .returned (.tuple #[.string (classV (rulesV kind a b) v.tx.data.toList).1, .int .i64 ((classV (rulesV kind a b) v.tx.data.toList).2 : Nat)]) ∧ Below W.heap.size W w') := fun W g => rclassr_any _ _ v.tx W ((rules_at h kind).below g) (few_rules ha hb kind) hs
    have HEQ : Hid ((⟨#[61]⟩ : ByteArray) ++ v.tx = bs (61 :: v.tx.data.toList)) := by
      have := bs_append [61] v.tx.data.toList
      rw [bs_self] at this
      exact this
    have aa := fun w => run_string_add_sum (P := Tryz.prog) (w := w) ⟨#[61]⟩ v.tx (by rw [show (⟨#[61]⟩ : ByteArray).size = 1 from rfl]; omega)
    clear HO h hs y2 h9 ha hb
    generalize classV (rulesV kind a b) v.tx.data.toList = cv at *
    obtain ⟨cl, er⟩ := cv
    simp only at HC ⊢
    rw [← HEQ.out]
    generalize valR x kind = vr at *
    clear HEQ
    generalize v.tx = tx at *
    generalize x 0 = x0 at *
    generalize x 1 = x1 at *
    generalize x 2 = x2 at *
    generalize x 3 = x3 at *
    generalize x 4 = x4 at *
    generalize x 5 = x5 at *
    generalize x 6 = x6 at *
    generalize x 7 = x7 at *
    generalize x 8 = x8 at *
    generalize x 9 = x9 at *
    generalize x 10 = x10 at *
    generalize x 11 = x11 at *
    generalize x 12 = x12 at *
    generalize x 13 = x13 at *
    generalize x 14 = x14 at *
    generalize x 15 = x15 at *
    generalize y 0 = y0 at *
    generalize y 1 = y1 at *
    generalize y 3 = y3 at *
    generalize y 4 = y4 at *
    go_enter Tryz.func35, Tryz.ntmps35
    go_wp2_with fail
    refine wp_at_worldT ?_
    intro W hW
    have HBW : Hid (Below w.heap.size w W) := by rw [hW]; show Bel w _; repeat (first | exact Bel.refl _ | refine Bel.drew ?_ | refine Bel.drewN ?_ _ | refine Bel.alloc ?_ _ | refine Bel.ext ?_ _)
    have HRW : Hid (W.heap[w.heap.size]? = some (.cells #[x0, x1, x2, x3, x4, x5, x6, x7, x8, x9, x10, x11, x12, x13, x14, x15] 30 (0, 0))) := by
      rw [hW]
      show ((w.heap.push _).push _)[w.heap.size]? = _
      rw [Array.getElem?_push, if_neg (by simp), Array.getElem?_push, if_pos (by simp)]
    have k2 : W.cell? ⟨w.heap.size + 1, 2, none⟩ = some (.string tx) := by rw [hW]; simp [go_sem]
    have hwz : w.heap.size + 1 < W.heap.size := by rw [hW]; simp
    clear hW
    have HLD : Hid (∀ w', (∃ x : Ext W, w' = x.1) → (loadVar 30 ⟨w.heap.size, 0, none⟩).run Tryz.prog w' = .ok (.agg #[x0, x1, x2, x3, x4, x5, x6, x7, x8, x9, x10, x11, x12, x13, x14, x15]) w') := by
      rintro _ ⟨x, rfl⟩
      refine run_loadVar_row x.1 w.heap.size 30 30 _ (0, 0) _ ?_ Tryz.underlying30 rfl (by kernel_rfl)
      rw [x.2.block _ (by omega)]
      exact HRW.out
    refine wp_region_ext (by kernel_rfl) (by kernel_rfl) ?_
    refine wpQuiet_load 30 (.tmp 3) rfl rfl ⟨w.heap.size, 0, none⟩ rfl _ HLD.out ?_
    simp only [Act.put, List.setIfInBounds_toArray, List.set_cons_succ, List.set_cons_zero]
    repeat (go_big_quiet_step (first | (go_at_call 32; exact Calls.ext (HR.out _)) | (go_at_call 43; refine Calls.ext (HC.out _ ?_); show Bel w _; exact Bel.ext HBW.out _)))
    refine wpQuiet_nil ?_
    intro _ hw'
    obtain ⟨X9, hw''⟩ := hw'
    subst hw''
    have HX9 : Hid (Below w.heap.size w X9.1) := Bel.ext HBW.out _
    go_wp2_with fail
    go_ret
    exact ⟨_, _, _, rfl, sl_made _ (strs [⟨#[61]⟩ ++ tx, cl, otherB]) _ (three_le _ _ _), Bel.alloc HX9.out _⟩
end Go.Proofs.YtadhblppeaamlaaGreatDoor
