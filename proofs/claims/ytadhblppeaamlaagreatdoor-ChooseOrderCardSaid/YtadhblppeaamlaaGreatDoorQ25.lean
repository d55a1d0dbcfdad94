/- Walks: the class of a number by the rules for a kind, in the program. -/
import Derived.Test.YtadhblppeaamlaaGreatDoorQ15
import Derived.Test.YtadhblppeaamlaaGreatDoorQ18
namespace Go.Proofs.YtadhblppeaamlaaGreatDoor
open Go.RowKit
attribute [local go_sem] Ext.cell Ext.frozen
attribute [local go_sem ↓] Go.wp_at_zero Go.wp_at_succ

theorem RowsOf.nil {α : Type} {k : Nat} {C : World → (Nat → Value) → α → Prop} (w : World) : RowsOf k C w (.slice none 0 0) [] := ⟨none, 0, fun _ _ => undef, 0, 0, rfl, ⟨Nat.zero_le _, fun h => absurd rfl h, fun i j hi => absurd hi (Nat.not_lt_zero _)⟩, fun _ => rfl, Nat.le_refl _, Nat.zero_le _, fun i x h => (by simp at h)⟩
set_option maxRecDepth 20000 in
set_option maxHeartbeats 8000000 in
theorem cclass_any_7a (x : Nat → Value) (a b : List (ByteArray × List (List Rel))) (kind : Int) (s : ByteArray) (w : World) (h : LocC w x a b) (ha : FewC a) (hb : FewC b) (hs : s.size ≤ 1000) (_hkd : kind = 7 ∨ kind = 8) (e7 : (kind != 7) = false) (hd : dOk s.data.toList = false) :
    Calls Tryz.prog 16 #[.agg #[x 0, x 1, x 2, x 3, x 4, x 5, x 6, x 7, x 8, x 9, x 10, x 11, x 12, x 13, x 14, x 15], .int .i64 kind, .string s] w fun e w' => e = .returned (.tuple #[.string (clsV kind (rulesV kind a b) s.data.toList).1, .int .i64 ((clsV kind (rulesV kind a b) s.data.toList).2 : Nat)]) ∧ Below w.heap.size w w' := by
  have HRU : Hid (∀ W, Calls Tryz.prog 26 #[.agg #[x 0, x 1, x 2, x 3, x 4, x 5, x 6, x 7, x 8, x 9, x 10, x 11, x 12, x 13, x 14, x 15], .int .i64 kind] W fun e w' => e = .returned (valR x kind) ∧ Below W.heap.size W w') := fun W => crules_any x kind W
  have HVA : Hid (∀ W, Below w.heap.size w W → Calls Tryz.prog 25 #[valR x kind] W fun e w' => e = .returned (.bool (validR (rulesV kind a b))) ∧ Below W.heap.size W w') := fun W g => pvalid_any _ _ W ((rules_at h kind).below g) (few_rules ha hb kind)
  have HCL : Hid (∀ W, Below w.heap.size w W → Calls Tryz.prog 39 #[valR x kind, .string s] W fun e w' => e = .returned (.tuple #[.string (classV (rulesV kind a b) s.data.toList).1, .int .i64 ((classV (rulesV kind a b) s.data.toList).2 : Nat)]) ∧ Below W.heap.size W w') := fun W g => pclass_any _ _ s W ((rules_at h kind).below g) (few_rules ha hb kind) hs
  have HPR : Hid (∀ W, Below w.heap.size w W → Calls Tryz.prog 38 #[.agg #[.string ⟨#[]⟩, .int .i64 2, .string s, .int .i64 0, .slice none 0 0]] W fun e w' => e = .returned (.bool (dOk s.data.toList)) ∧ Below W.heap.size W w') := fun W g => by
    have := vproper_any (fun i => (#[.string ⟨#[]⟩, .int .i64 2, .string s, .int .i64 0, .slice none 0 0] : Array Value).getD i undef) ⟨⟨#[]⟩, 2, s, 0, []⟩ W ⟨rfl, Nat.zero_le _, rfl, rfl, Nat.le_trans hs (Nat.le_of_ble_eq_true rfl), rfl, RowsOf.nil W⟩ hs
    rw [show properVl ⟨⟨#[]⟩, 2, s, 0, []⟩ = dOk s.data.toList from by unfold properVl; simp] at this
    exact this
  clear h ha hb hs
  generalize valR x kind = vr at *
  generalize x 0 = x0 at *
  generalize x 1 = x1 at *
  generalize x 2 = x2 at *
  generalize x 3 = x3 at *
  generalize x 4 = x4 at *
  generalize x 5 = x5 at *
  generalize x 6 = x6 at *
  generalize x 7 = x7 at *
  generalize x 8 = x8 at *
  generalize x 9 = x9 at *
  generalize x 10 = x10 at *
  generalize x 11 = x11 at *
  generalize x 12 = x12 at *
  generalize x 13 = x13 at *
  generalize x 14 = x14 at *
  generalize x 15 = x15 at *
  have HO : Hid (clsV kind (rulesV kind a b) s.data.toList = (.empty, 1)) := by unfold Hid clsV; rw [if_neg fun h => by rw [hd] at h; cases h.2]
  rw [Hid, hd] at HPR
  replace HPR := Lib.hid HPR
  generalize clsV kind (rulesV kind a b) s.data.toList = q at *
  clear hd
  go_enter Tryz.func16, Tryz.ntmps16
  go_wp2_with fail
  refine (Calls.toExt (HPR.out _ ?_)).mono ?_
  · show Bel w _; repeat (first | exact Bel.refl _ | refine Bel.drew ?_ | refine Bel.drewN ?_ _ | refine Bel.alloc ?_ _ | refine Bel.ext ?_ _)
  rintro e _ ⟨rfl, u1, rfl⟩
  have hx1 : w.heap.size < u1.1.heap.size := by have := u1.2.size; simp at this; omega
  go_wp2_with fail
  go_ret2
  exact ⟨by rw [HO.out]; rfl, by show Bel w _; repeat (first | exact Bel.refl _ | refine Bel.drew ?_ | refine Bel.drewN ?_ _ | refine Bel.alloc ?_ _ | refine Bel.ext ?_ _)⟩
set_option maxRecDepth 20000 in
set_option maxHeartbeats 8000000 in
theorem cclass_any_7b (x : Nat → Value) (a b : List (ByteArray × List (List Rel))) (kind : Int) (s : ByteArray) (w : World) (h : LocC w x a b) (ha : FewC a) (hb : FewC b) (hs : s.size ≤ 1000) (hkd : kind = 7 ∨ kind = 8) (e7 : (kind != 7) = false) (hd : dOk s.data.toList = true) (hva : validR (rulesV kind a b) = false) :
    Calls Tryz.prog 16 #[.agg #[x 0, x 1, x 2, x 3, x 4, x 5, x 6, x 7, x 8, x 9, x 10, x 11, x 12, x 13, x 14, x 15], .int .i64 kind, .string s] w fun e w' => e = .returned (.tuple #[.string (clsV kind (rulesV kind a b) s.data.toList).1, .int .i64 ((clsV kind (rulesV kind a b) s.data.toList).2 : Nat)]) ∧ Below w.heap.size w w' := by
  have HRU : Hid (∀ W, Calls Tryz.prog 26 #[.agg #[x 0, x 1, x 2, x 3, x 4, x 5, x 6, x 7, x 8, x 9, x 10, x 11, x 12, x 13, x 14, x 15], .int .i64 kind] W fun e w' => e = .returned (valR x kind) ∧ Below W.heap.size W w') := fun W => crules_any x kind W
  have HVA : Hid (∀ W, Below w.heap.size w W → Calls Tryz.prog 25 #[valR x kind] W fun e w' => e = .returned (.bool (validR (rulesV kind a b))) ∧ Below W.heap.size W w') := fun W g => pvalid_any _ _ W ((rules_at h kind).below g) (few_rules ha hb kind)
  have HCL : Hid (∀ W, Below w.heap.size w W → Calls Tryz.prog 39 #[valR x kind, .string s] W fun e w' => e = .returned (.tuple #[.string (classV (rulesV kind a b) s.data.toList).1, .int .i64 ((classV (rulesV kind a b) s.data.toList).2 : Nat)]) ∧ Below W.heap.size W w') := fun W g => pclass_any _ _ s W ((rules_at h kind).below g) (few_rules ha hb kind) hs
  have HPR : Hid (∀ W, Below w.heap.size w W → Calls Tryz.prog 38 #[.agg #[.string ⟨#[]⟩, .int .i64 2, .string s, .int .i64 0, .slice none 0 0]] W fun e w' => e = .returned (.bool (dOk s.data.toList)) ∧ Below W.heap.size W w') := fun W g => by
    have := vproper_any (fun i => (#[.string ⟨#[]⟩, .int .i64 2, .string s, .int .i64 0, .slice none 0 0] : Array Value).getD i undef) ⟨⟨#[]⟩, 2, s, 0, []⟩ W ⟨rfl, Nat.zero_le _, rfl, rfl, Nat.le_trans hs (Nat.le_of_ble_eq_true rfl), rfl, RowsOf.nil W⟩ hs
    rw [show properVl ⟨⟨#[]⟩, 2, s, 0, []⟩ = dOk s.data.toList from by unfold properVl; simp] at this
    exact this
  clear h ha hb hs
  generalize valR x kind = vr at *
  generalize x 0 = x0 at *
  generalize x 1 = x1 at *
  generalize x 2 = x2 at *
  generalize x 3 = x3 at *
  generalize x 4 = x4 at *
  generalize x 5 = x5 at *
  generalize x 6 = x6 at *
  generalize x 7 = x7 at *
  generalize x 8 = x8 at *
  generalize x 9 = x9 at *
  generalize x 10 = x10 at *
  generalize x 11 = x11 at *
  generalize x 12 = x12 at *
  generalize x 13 = x13 at *
  generalize x 14 = x14 at *
  generalize x 15 = x15 at *
  rw [Hid, hd] at HPR
  replace HPR := Lib.hid HPR
  have HO : Hid (clsV kind (rulesV kind a b) s.data.toList = (.empty, 18)) := by unfold Hid clsV; rw [if_pos ⟨hkd, hd⟩, if_neg (by rw [hva]; simp)]
  rw [Hid, hva] at HVA
  replace HVA := Lib.hid HVA
  generalize clsV kind (rulesV kind a b) s.data.toList = q at *
  clear hkd hd hva
  go_enter Tryz.func16, Tryz.ntmps16
  go_wp2_with fail
  refine (Calls.toExt (HPR.out _ ?_)).mono ?_
  · show Bel w _; repeat (first | exact Bel.refl _ | refine Bel.drew ?_ | refine Bel.drewN ?_ _ | refine Bel.alloc ?_ _ | refine Bel.ext ?_ _)
  rintro e _ ⟨rfl, u1, rfl⟩
  have hx1 : w.heap.size < u1.1.heap.size := by have := u1.2.size; simp at this; omega
  go_wp2_with fail
  refine (Calls.toExt (HRU.out _)).mono ?_
  rintro e _ ⟨rfl, u2, rfl⟩
  go_wp2_with fail
  refine (Calls.toExt (HVA.out _ ?_)).mono ?_
  · show Bel w _; repeat (first | exact Bel.refl _ | refine Bel.drew ?_ | refine Bel.drewN ?_ _ | refine Bel.alloc ?_ _ | refine Bel.ext ?_ _)
  rintro e _ ⟨rfl, u3, rfl⟩
  have hx2 : w.heap.size < u2.1.heap.size := by have := u2.2.size; omega
  have hx3 : w.heap.size < u3.1.heap.size := by have := u3.2.size; omega
  go_wp2_with fail
  go_ret2
  exact ⟨by rw [HO.out]; rfl, by show Bel w _; repeat (first | exact Bel.refl _ | refine Bel.drew ?_ | refine Bel.drewN ?_ _ | refine Bel.alloc ?_ _ | refine Bel.ext ?_ _)⟩
set_option maxRecDepth 20000 in
set_option maxHeartbeats 8000000 in
theorem cclass_any_7c (x : Nat → Value) (a b : List (ByteArray × List (List Rel))) (kind : Int) (s : ByteArray) (w : World) (h : LocC w x a b) (ha : FewC a) (hb : FewC b) (hs : s.size ≤ 1000) (hkd : kind = 7 ∨ kind = 8) (e7 : (kind != 7) = false) (hd : dOk s.data.toList = true) (hva : validR (rulesV kind a b) = true) :
    Calls Tryz.prog 16 #[.agg #[x 0, x 1, x 2, x 3, x 4, x 5, x 6, x 7, x 8, x 9, x 10, x 11, x 12, x 13, x 14, x 15], .int .i64 kind, .string s] w fun e w' => e = .returned (.tuple #[.string (clsV kind (rulesV kind a b) s.data.toList).1, .int .i64 ((clsV kind (rulesV kind a b) s.data.toList).2 : Nat)]) ∧ Below w.heap.size w w' := by
  have HRU : Hid (∀ W, Calls Tryz.prog 26 #[.agg #[x 0, x 1, x 2, x 3, x 4, x 5, x 6, x 7, x 8, x 9, x 10, x 11, x 12, x 13, x 14, x 15], .int .i64 kind] W fun e w' => e = .returned (valR x kind) ∧ Below W.heap.size W w') := fun W => crules_any x kind W
  have HVA : Hid (∀ W, Below w.heap.size w W → Calls Tryz.prog 25 #[valR x kind] W fun e w' => e = .returned (.bool (validR (rulesV kind a b))) ∧ Below W.heap.size W w') := fun W g => pvalid_any _ _ W ((rules_at h kind).below g) (few_rules ha hb kind)
  have HCL : Hid (∀ W, Below w.heap.size w W → Calls Tryz.prog 39 #[valR x kind, .string s] W fun e w' => e = .returned (.tuple #[.string (classV (rulesV kind a b) s.data.toList).1, .int .i64 ((classV (rulesV kind a b) s.data.toList).2 : Nat)]) ∧ Below W.heap.size W w') := fun W g => pclass_any _ _ s W ((rules_at h kind).below g) (few_rules ha hb kind) hs
  have HPR : Hid (∀ W, Below w.heap.size w W → Calls Tryz.prog 38 #[.agg #[.string ⟨#[]⟩, .int .i64 2, .string s, .int .i64 0, .slice none 0 0]] W fun e w' => e = .returned (.bool (dOk s.data.toList)) ∧ Below W.heap.size W w') := fun W g => by
    have := vproper_any (fun i => (#[.string ⟨#[]⟩, .int .i64 2, .string s, .int .i64 0, .slice none 0 0] : Array Value).getD i undef) ⟨⟨#[]⟩, 2, s, 0, []⟩ W ⟨rfl, Nat.zero_le _, rfl, rfl, Nat.le_trans hs (Nat.le_of_ble_eq_true rfl), rfl, RowsOf.nil W⟩ hs
    rw [show properVl ⟨⟨#[]⟩, 2, s, 0, []⟩ = dOk s.data.toList from by unfold properVl; simp] at this
    exact this
  clear h ha hb hs
  generalize valR x kind = vr at *
  generalize x 0 = x0 at *
  generalize x 1 = x1 at *
  generalize x 2 = x2 at *
  generalize x 3 = x3 at *
  generalize x 4 = x4 at *
  generalize x 5 = x5 at *
  generalize x 6 = x6 at *
  generalize x 7 = x7 at *
  generalize x 8 = x8 at *
  generalize x 9 = x9 at *
  generalize x 10 = x10 at *
  generalize x 11 = x11 at *
  generalize x 12 = x12 at *
  generalize x 13 = x13 at *
  generalize x 14 = x14 at *
  generalize x 15 = x15 at *
  rw [Hid, hd] at HPR
  replace HPR := Lib.hid HPR
  have HO : Hid (clsV kind (rulesV kind a b) s.data.toList = (classOf (rulesV kind a b) s.data.toList, 0)) := by unfold Hid clsV; rw [if_pos ⟨hkd, hd⟩, if_pos hva]
  rw [Hid, hva] at HVA
  replace HVA := Lib.hid HVA
  rw [Hid, classV_yes hva hd] at HCL
  replace HCL := Lib.hid HCL
  generalize clsV kind (rulesV kind a b) s.data.toList = q at *
  generalize classOf (rulesV kind a b) s.data.toList = cl at *
  clear hkd hd hva
  go_enter Tryz.func16, Tryz.ntmps16
  go_wp2_with fail
  refine (Calls.toExt (HPR.out _ ?_)).mono ?_
  · show Bel w _; repeat (first | exact Bel.refl _ | refine Bel.drew ?_ | refine Bel.drewN ?_ _ | refine Bel.alloc ?_ _ | refine Bel.ext ?_ _)
  rintro e _ ⟨rfl, u1, rfl⟩
  have hx1 : w.heap.size < u1.1.heap.size := by have := u1.2.size; simp at this; omega
  go_wp2_with fail
  refine (Calls.toExt (HRU.out _)).mono ?_
  rintro e _ ⟨rfl, u2, rfl⟩
  go_wp2_with fail
  refine (Calls.toExt (HVA.out _ ?_)).mono ?_
  · show Bel w _; repeat (first | exact Bel.refl _ | refine Bel.drew ?_ | refine Bel.drewN ?_ _ | refine Bel.alloc ?_ _ | refine Bel.ext ?_ _)
  rintro e _ ⟨rfl, u3, rfl⟩
  have hx2 : w.heap.size < u2.1.heap.size := by have := u2.2.size; omega
  have hx3 : w.heap.size < u3.1.heap.size := by have := u3.2.size; omega
  go_wp2_with fail
  refine (Calls.toExt (HRU.out _)).mono ?_
  rintro e _ ⟨rfl, u4, rfl⟩
  go_wp2_with fail
  refine (Calls.toExt (HCL.out _ ?_)).mono ?_
  · show Bel w _; repeat (first | exact Bel.refl _ | refine Bel.drew ?_ | refine Bel.drewN ?_ _ | refine Bel.alloc ?_ _ | refine Bel.ext ?_ _)
  rintro e _ ⟨rfl, u5, rfl⟩
  go_wp2_with fail
  go_ret2
  exact ⟨by rw [HO.out]; rfl, by show Bel w _; repeat (first | exact Bel.refl _ | refine Bel.drew ?_ | refine Bel.drewN ?_ _ | refine Bel.alloc ?_ _ | refine Bel.ext ?_ _)⟩
set_option maxRecDepth 20000 in
set_option maxHeartbeats 8000000 in
theorem cclass_any_8a (x : Nat → Value) (a b : List (ByteArray × List (List Rel))) (kind : Int) (s : ByteArray) (w : World) (h : LocC w x a b) (ha : FewC a) (hb : FewC b) (hs : s.size ≤ 1000) (_hkd : kind = 7 ∨ kind = 8) (e7 : (kind != 7) = true) (e8 : (kind != 8) = false) (hd : dOk s.data.toList = false) :
    Calls Tryz.prog 16 #[.agg #[x 0, x 1, x 2, x 3, x 4, x 5, x 6, x 7, x 8, x 9, x 10, x 11, x 12, x 13, x 14, x 15], .int .i64 kind, .string s] w fun e w' => e = .returned (.tuple #[.string (clsV kind (rulesV kind a b) s.data.toList).1, .int .i64 ((clsV kind (rulesV kind a b) s.data.toList).2 : Nat)]) ∧ Below w.heap.size w w' := by
  have HRU : Hid (∀ W, Calls Tryz.prog 26 #[.agg #[x 0, x 1, x 2, x 3, x 4, x 5, x 6, x 7, x 8, x 9, x 10, x 11, x 12, x 13, x 14, x 15], .int .i64 kind] W fun e w' => e = .returned (valR x kind) ∧ Below W.heap.size W w') := fun W => crules_any x kind W
  have HVA : Hid (∀ W, Below w.heap.size w W → Calls Tryz.prog 25 #[valR x kind] W fun e w' => e = .returned (.bool (validR (rulesV kind a b))) ∧ Below W.heap.size W w') := fun W g => pvalid_any _ _ W ((rules_at h kind).below g) (few_rules ha hb kind)
  have HCL : Hid (∀ W, Below w.heap.size w W → Calls Tryz.prog 39 #[valR x kind, .string s] W fun e w' => e = .returned (.tuple #[.string (classV (rulesV kind a b) s.data.toList).1, .int .i64 ((classV (rulesV kind a b) s.data.toList).2 : Nat)]) ∧ Below W.heap.size W w') := fun W g => pclass_any _ _ s W ((rules_at h kind).below g) (few_rules ha hb kind) hs
  have HPR : Hid (∀ W, Below w.heap.size w W → Calls Tryz.prog 38 #[.agg #[.string ⟨#[]⟩, .int .i64 2, .string s, .int .i64 0, .slice none 0 0]] W fun e w' => e = .returned (.bool (dOk s.data.toList)) ∧ Below W.heap.size W w') := fun W g => by
    have := vproper_any (fun i => (#[.string ⟨#[]⟩, .int .i64 2, .string s, .int .i64 0, .slice none 0 0] : Array Value).getD i undef) ⟨⟨#[]⟩, 2, s, 0, []⟩ W ⟨rfl, Nat.zero_le _, rfl, rfl, Nat.le_trans hs (Nat.le_of_ble_eq_true rfl), rfl, RowsOf.nil W⟩ hs
    rw [show properVl ⟨⟨#[]⟩, 2, s, 0, []⟩ = dOk s.data.toList from by unfold properVl; simp] at this
    exact this
  clear h ha hb hs
  generalize valR x kind = vr at *
  generalize x 0 = x0 at *
  generalize x 1 = x1 at *
  generalize x 2 = x2 at *
  generalize x 3 = x3 at *
  generalize x 4 = x4 at *
  generalize x 5 = x5 at *
  generalize x 6 = x6 at *
  generalize x 7 = x7 at *
  generalize x 8 = x8 at *
  generalize x 9 = x9 at *
  generalize x 10 = x10 at *
  generalize x 11 = x11 at *
  generalize x 12 = x12 at *
  generalize x 13 = x13 at *
  generalize x 14 = x14 at *
  generalize x 15 = x15 at *
  have HO : Hid (clsV kind (rulesV kind a b) s.data.toList = (.empty, 1)) := by unfold Hid clsV; rw [if_neg fun h => by rw [hd] at h; cases h.2]
  rw [Hid, hd] at HPR
  replace HPR := Lib.hid HPR
  generalize clsV kind (rulesV kind a b) s.data.toList = q at *
  clear hd
  go_enter Tryz.func16, Tryz.ntmps16
  go_wp2_with fail
  refine (Calls.toExt (HPR.out _ ?_)).mono ?_
  · show Bel w _; repeat (first | exact Bel.refl _ | refine Bel.drew ?_ | refine Bel.drewN ?_ _ | refine Bel.alloc ?_ _ | refine Bel.ext ?_ _)
  rintro e _ ⟨rfl, u1, rfl⟩
  have hx1 : w.heap.size < u1.1.heap.size := by have := u1.2.size; simp at this; omega
  go_wp2_with fail
  go_ret2
  exact ⟨by rw [HO.out]; rfl, by show Bel w _; repeat (first | exact Bel.refl _ | refine Bel.drew ?_ | refine Bel.drewN ?_ _ | refine Bel.alloc ?_ _ | refine Bel.ext ?_ _)⟩
set_option maxRecDepth 20000 in
set_option maxHeartbeats 8000000 in
theorem cclass_any_8b (x : Nat → Value) (a b : List (ByteArray × List (List Rel))) (kind : Int) (s : ByteArray) (w : World) (h : LocC w x a b) (ha : FewC a) (hb : FewC b) (hs : s.size ≤ 1000) (hkd : kind = 7 ∨ kind = 8) (e7 : (kind != 7) = true) (e8 : (kind != 8) = false) (hd : dOk s.data.toList = true) (hva : validR (rulesV kind a b) = false) :
    Calls Tryz.prog 16 #[.agg #[x 0, x 1, x 2, x 3, x 4, x 5, x 6, x 7, x 8, x 9, x 10, x 11, x 12, x 13, x 14, x 15], .int .i64 kind, .string s] w fun e w' => e = .returned (.tuple #[.string (clsV kind (rulesV kind a b) s.data.toList).1, .int .i64 ((clsV kind (rulesV kind a b) s.data.toList).2 : Nat)]) ∧ Below w.heap.size w w' := by
  have HRU : Hid (∀ W, Calls Tryz.prog 26 #[.agg #[x 0, x 1, x 2, x 3, x 4, x 5, x 6, x 7, x 8, x 9, x 10, x 11, x 12, x 13, x 14, x 15], .int .i64 kind] W fun e w' => e = .returned (valR x kind) ∧ Below W.heap.size W w') := fun W => crules_any x kind W
  have HVA : Hid (∀ W, Below w.heap.size w W → Calls Tryz.prog 25 #[valR x kind] W fun e w' => e = .returned (.bool (validR (rulesV kind a b))) ∧ Below W.heap.size W w') := fun W g => pvalid_any _ _ W ((rules_at h kind).below g) (few_rules ha hb kind)
  have HCL : Hid (∀ W, Below w.heap.size w W → Calls Tryz.prog 39 #[valR x kind, .string s] W fun e w' => e = .returned (.tuple #[.string (classV (rulesV kind a b) s.data.toList).1, .int .i64 ((classV (rulesV kind a b) s.data.toList).2 : Nat)]) ∧ Below W.heap.size W w') := fun W g => pclass_any _ _ s W ((rules_at h kind).below g) (few_rules ha hb kind) hs
  have HPR : Hid (∀ W, Below w.heap.size w W → Calls Tryz.prog 38 #[.agg #[.string ⟨#[]⟩, .int .i64 2, .string s, .int .i64 0, .slice none 0 0]] W fun e w' => e = .returned (.bool (dOk s.data.toList)) ∧ Below W.heap.size W w') := fun W g => by
    have := vproper_any (fun i => (#[.string ⟨#[]⟩, .int .i64 2, .string s, .int .i64 0, .slice none 0 0] : Array Value).getD i undef) ⟨⟨#[]⟩, 2, s, 0, []⟩ W ⟨rfl, Nat.zero_le _, rfl, rfl, Nat.le_trans hs (Nat.le_of_ble_eq_true rfl), rfl, RowsOf.nil W⟩ hs
    rw [show properVl ⟨⟨#[]⟩, 2, s, 0, []⟩ = dOk s.data.toList from by unfold properVl; simp] at this
    exact this
  clear h ha hb hs
  generalize valR x kind = vr at *
  generalize x 0 = x0 at *
  generalize x 1 = x1 at *
  generalize x 2 = x2 at *
  generalize x 3 = x3 at *
  generalize x 4 = x4 at *
  generalize x 5 = x5 at *
  generalize x 6 = x6 at *
  generalize x 7 = x7 at *
  generalize x 8 = x8 at *
  generalize x 9 = x9 at *
  generalize x 10 = x10 at *
  generalize x 11 = x11 at *
  generalize x 12 = x12 at *
  generalize x 13 = x13 at *
  generalize x 14 = x14 at *
  generalize x 15 = x15 at *
  rw [Hid, hd] at HPR
  replace HPR := Lib.hid HPR
  have HO : Hid (clsV kind (rulesV kind a b) s.data.toList = (.empty, 18)) := by unfold Hid clsV; rw [if_pos ⟨hkd, hd⟩, if_neg (by rw [hva]; simp)]
  rw [Hid, hva] at HVA
  replace HVA := Lib.hid HVA
  generalize clsV kind (rulesV kind a b) s.data.toList = q at *
  clear hkd hd hva
  go_enter Tryz.func16, Tryz.ntmps16
  go_wp2_with fail
  refine (Calls.toExt (HPR.out _ ?_)).mono ?_
  · show Bel w _; repeat (first | exact Bel.refl _ | refine Bel.drew ?_ | refine Bel.drewN ?_ _ | refine Bel.alloc ?_ _ | refine Bel.ext ?_ _)
  rintro e _ ⟨rfl, u1, rfl⟩
  have hx1 : w.heap.size < u1.1.heap.size := by have := u1.2.size; simp at this; omega
  go_wp2_with fail
  refine (Calls.toExt (HRU.out _)).mono ?_
  rintro e _ ⟨rfl, u2, rfl⟩
  go_wp2_with fail
  refine (Calls.toExt (HVA.out _ ?_)).mono ?_
  · show Bel w _; repeat (first | exact Bel.refl _ | refine Bel.drew ?_ | refine Bel.drewN ?_ _ | refine Bel.alloc ?_ _ | refine Bel.ext ?_ _)
  rintro e _ ⟨rfl, u3, rfl⟩
  have hx2 : w.heap.size < u2.1.heap.size := by have := u2.2.size; omega
  have hx3 : w.heap.size < u3.1.heap.size := by have := u3.2.size; omega
  go_wp2_with fail
  go_ret2
  exact ⟨by rw [HO.out]; rfl, by show Bel w _; repeat (first | exact Bel.refl _ | refine Bel.drew ?_ | refine Bel.drewN ?_ _ | refine Bel.alloc ?_ _ | refine Bel.ext ?_ _)⟩
set_option maxRecDepth 20000 in
set_option maxHeartbeats 8000000 in
theorem cclass_any_8c (x : Nat → Value) (a b : List (ByteArray × List (List Rel))) (kind : Int) (s : ByteArray) (w : World) (h : LocC w x a b) (ha : FewC a) (hb : FewC b) (hs : s.size ≤ 1000) (hkd : kind = 7 ∨ kind = 8) (e7 : (kind != 7) = true) (e8 : (kind != 8) = false) (hd : dOk s.data.toList = true) (hva : validR (rulesV kind a b) = true) :
    Calls Tryz.prog 16 #[.agg #[x 0, x 1, x 2, x 3, x 4, x 5, x 6, x 7, x 8, x 9, x 10, x 11, x 12, x 13, x 14, x 15], .int .i64 kind, .string s] w fun e w' => e = .returned (.tuple #[.string (clsV kind (rulesV kind a b) s.data.toList).1, .int .i64 ((clsV kind (rulesV kind a b) s.data.toList).2 : Nat)]) ∧ Below w.heap.size w w' := by
  have HRU : Hid (∀ W, Calls Tryz.prog 26 #[.agg #[x 0, x 1, x 2, x 3, x 4, x 5, x 6, x 7, x 8, x 9, x 10, x 11, x 12, x 13, x 14, x 15], .int .i64 kind] W fun e w' => e = .returned (valR x kind) ∧ Below W.heap.size W w') := fun W => crules_any x kind W
  have HVA : Hid (∀ W, Below w.heap.size w W → Calls Tryz.prog 25 #[valR x kind] W fun e w' => e = .returned (.bool (validR (rulesV kind a b))) ∧ Below W.heap.size W w') := fun W g => pvalid_any _ _ W ((rules_at h kind).below g) (few_rules ha hb kind)
  have HCL : Hid (∀ W, Below w.heap.size w W → Calls Tryz.prog 39 #[valR x kind, .string s] W fun e w' => e = .returned (.tuple #[.string (classV (rulesV kind a b) s.data.toList).1, .int .i64 ((classV (rulesV kind a b) s.data.toList).2 : Nat)]) ∧ Below W.heap.size W w') := fun W g => pclass_any _ _ s W ((rules_at h kind).below g) (few_rules ha hb kind) hs
  have HPR : Hid (∀ W, Below w.heap.size w W → Calls Tryz.prog 38 #[.agg #[.string ⟨#[]⟩, .int .i64 2, .string s, .int .i64 0, .slice none 0 0]] W fun e w' => e = .returned (.bool (dOk s.data.toList)) ∧ Below W.heap.size W w') := fun W g => by
    have := vproper_any (fun i => (#[.string ⟨#[]⟩, .int .i64 2, .string s, .int .i64 0, .slice none 0 0] : Array Value).getD i undef) ⟨⟨#[]⟩, 2, s, 0, []⟩ W ⟨rfl, Nat.zero_le _, rfl, rfl, Nat.le_trans hs (Nat.le_of_ble_eq_true rfl), rfl, RowsOf.nil W⟩ hs
    rw [show properVl ⟨⟨#[]⟩, 2, s, 0, []⟩ = dOk s.data.toList from by unfold properVl; simp] at this
    exact this
  clear h ha hb hs
  generalize valR x kind = vr at *
  generalize x 0 = x0 at *
  generalize x 1 = x1 at *
  generalize x 2 = x2 at *
  generalize x 3 = x3 at *
  generalize x 4 = x4 at *
  generalize x 5 = x5 at *
  generalize x 6 = x6 at *
  generalize x 7 = x7 at *
  generalize x 8 = x8 at *
  generalize x 9 = x9 at *
  generalize x 10 = x10 at *
  generalize x 11 = x11 at *
  generalize x 12 = x12 at *
  generalize x 13 = x13 at *
  generalize x 14 = x14 at *
  generalize x 15 = x15 at *
  rw [Hid, hd] at HPR
  replace HPR := Lib.hid HPR
  have HO : Hid (clsV kind (rulesV kind a b) s.data.toList = (classOf (rulesV kind a b) s.data.toList, 0)) := by unfold Hid clsV; rw [if_pos ⟨hkd, hd⟩, if_pos hva]
  rw [Hid, hva] at HVA
  replace HVA := Lib.hid HVA
  rw [Hid, classV_yes hva hd] at HCL
  replace HCL := Lib.hid HCL
  generalize clsV kind (rulesV kind a b) s.data.toList = q at *
  generalize classOf (rulesV kind a b) s.data.toList = cl at *
  clear hkd hd hva
  go_enter Tryz.func16, Tryz.ntmps16
  go_wp2_with fail
  refine (Calls.toExt (HPR.out _ ?_)).mono ?_
  · show Bel w _; repeat (first | exact Bel.refl _ | refine Bel.drew ?_ | refine Bel.drewN ?_ _ | refine Bel.alloc ?_ _ | refine Bel.ext ?_ _)
  rintro e _ ⟨rfl, u1, rfl⟩
  have hx1 : w.heap.size < u1.1.heap.size := by have := u1.2.size; simp at this; omega
  go_wp2_with fail
  refine (Calls.toExt (HRU.out _)).mono ?_
  rintro e _ ⟨rfl, u2, rfl⟩
  go_wp2_with fail
  refine (Calls.toExt (HVA.out _ ?_)).mono ?_
  · show Bel w _; repeat (first | exact Bel.refl _ | refine Bel.drew ?_ | refine Bel.drewN ?_ _ | refine Bel.alloc ?_ _ | refine Bel.ext ?_ _)
  rintro e _ ⟨rfl, u3, rfl⟩
  have hx2 : w.heap.size < u2.1.heap.size := by have := u2.2.size; omega
  have hx3 : w.heap.size < u3.1.heap.size := by have := u3.2.size; omega
  go_wp2_with fail
  refine (Calls.toExt (HRU.out _)).mono ?_
  rintro e _ ⟨rfl, u4, rfl⟩
  go_wp2_with fail
  refine (Calls.toExt (HCL.out _ ?_)).mono ?_
  · show Bel w _; repeat (first | exact Bel.refl _ | refine Bel.drew ?_ | refine Bel.drewN ?_ _ | refine Bel.alloc ?_ _ | refine Bel.ext ?_ _)
  rintro e _ ⟨rfl, u5, rfl⟩
  go_wp2_with fail
  go_ret2
  exact ⟨by rw [HO.out]; rfl, by show Bel w _; repeat (first | exact Bel.refl _ | refine Bel.drew ?_ | refine Bel.drewN ?_ _ | refine Bel.alloc ?_ _ | refine Bel.ext ?_ _)⟩
set_option maxRecDepth 20000 in
set_option maxHeartbeats 8000000 in
theorem cclass_any_no (x : Nat → Value) (a b : List (ByteArray × List (List Rel))) (kind : Int) (s : ByteArray) (w : World) (h : LocC w x a b) (ha : FewC a) (hb : FewC b) (hs : s.size ≤ 1000) (hkd : ¬ (kind = 7 ∨ kind = 8)) :
    Calls Tryz.prog 16 #[.agg #[x 0, x 1, x 2, x 3, x 4, x 5, x 6, x 7, x 8, x 9, x 10, x 11, x 12, x 13, x 14, x 15], .int .i64 kind, .string s] w fun e w' => e = .returned (.tuple #[.string (clsV kind (rulesV kind a b) s.data.toList).1, .int .i64 ((clsV kind (rulesV kind a b) s.data.toList).2 : Nat)]) ∧ Below w.heap.size w w' := by
  have HRU : Hid (∀ W, Calls Tryz.prog 26 #[.agg #[x 0, x 1, x 2, x 3, x 4, x 5, x 6, x 7, x 8, x 9, x 10, x 11, x 12, x 13, x 14, x 15], .int .i64 kind] W fun e w' => e = .returned (valR x kind) ∧ Below W.heap.size W w') := fun W => crules_any x kind W
  have HVA : Hid (∀ W, Below w.heap.size w W → Calls Tryz.prog 25 #[valR x kind] W fun e w' => e = .returned (.bool (validR (rulesV kind a b))) ∧ Below W.heap.size W w') := fun W g => pvalid_any _ _ W ((rules_at h kind).below g) (few_rules ha hb kind)
  have HCL : Hid (∀ W, Below w.heap.size w W → Calls Tryz.prog 39 #[valR x kind, .string s] W fun e w' => e = .returned (.tuple #[.string (classV (rulesV kind a b) s.data.toList).1, .int .i64 ((classV (rulesV kind a b) s.data.toList).2 : Nat)]) ∧ Below W.heap.size W w') := fun W g => pclass_any _ _ s W ((rules_at h kind).below g) (few_rules ha hb kind) hs
  have HPR : Hid (∀ W, Below w.heap.size w W → Calls Tryz.prog 38 #[.agg #[.string ⟨#[]⟩, .int .i64 2, .string s, .int .i64 0, .slice none 0 0]] W fun e w' => e = .returned (.bool (dOk s.data.toList)) ∧ Below W.heap.size W w') := fun W g => by
    have := vproper_any (fun i => (#[.string ⟨#[]⟩, .int .i64 2, .string s, .int .i64 0, .slice none 0 0] : Array Value).getD i undef) ⟨⟨#[]⟩, 2, s, 0, []⟩ W ⟨rfl, Nat.zero_le _, rfl, rfl, Nat.le_trans hs (Nat.le_of_ble_eq_true rfl), rfl, RowsOf.nil W⟩ hs
    rw [show properVl ⟨⟨#[]⟩, 2, s, 0, []⟩ = dOk s.data.toList from by unfold properVl; simp] at this
    exact this
  clear h ha hb hs
  generalize valR x kind = vr at *
  generalize x 0 = x0 at *
  generalize x 1 = x1 at *
  generalize x 2 = x2 at *
  generalize x 3 = x3 at *
  generalize x 4 = x4 at *
  generalize x 5 = x5 at *
  generalize x 6 = x6 at *
  generalize x 7 = x7 at *
  generalize x 8 = x8 at *
  generalize x 9 = x9 at *
  generalize x 10 = x10 at *
  generalize x 11 = x11 at *
  generalize x 12 = x12 at *
  generalize x 13 = x13 at *
  generalize x 14 = x14 at *
  generalize x 15 = x15 at *
  have hk7 : ¬ kind = 7 := fun h => hkd (.inl h)
  have hk8 : ¬ kind = 8 := fun h => hkd (.inr h)
  have e7 : (kind != 7) = true := by simpa using hk7
  have e8 : (kind != 8) = true := by simpa using hk8
  have HO : Hid (clsV kind (rulesV kind a b) s.data.toList = (.empty, 1)) := by unfold Hid clsV; rw [if_neg fun h => hkd h.1]
  generalize clsV kind (rulesV kind a b) s.data.toList = q at *
  clear hkd hk7 hk8
  go_enter Tryz.func16, Tryz.ntmps16
  go_wp2_with fail
  go_ret2
  exact ⟨by rw [HO.out]; rfl, by show Bel w _; repeat (first | exact Bel.refl _ | refine Bel.drew ?_ | refine Bel.drewN ?_ _ | refine Bel.alloc ?_ _ | refine Bel.ext ?_ _)⟩
theorem cclass_any (x : Nat → Value) (a b : List (ByteArray × List (List Rel))) (kind : Int) (s : ByteArray) (w : World) (h : LocC w x a b) (ha : FewC a) (hb : FewC b) (hs : s.size ≤ 1000) :
    Calls Tryz.prog 16 #[.agg #[x 0, x 1, x 2, x 3, x 4, x 5, x 6, x 7, x 8, x 9, x 10, x 11, x 12, x 13, x 14, x 15], .int .i64 kind, .string s] w fun e w' => e = .returned (.tuple #[.string (clsV kind (rulesV kind a b) s.data.toList).1, .int .i64 ((clsV kind (rulesV kind a b) s.data.toList).2 : Nat)]) ∧ Below w.heap.size w w' := by
  by_cases hkd : kind = 7 ∨ kind = 8
  · have hkb : (kind != 7) = false ∨ (kind != 7) = true ∧ (kind != 8) = false := by
      rcases hkd with h | h
      · left; subst h; rfl
      · right; subst h; exact ⟨rfl, rfl⟩
    cases hd : dOk s.data.toList with
    | false => exact hkb.elim (fun e7 => cclass_any_7a x a b kind s w h ha hb hs hkd e7 hd) (fun e => cclass_any_8a x a b kind s w h ha hb hs hkd e.1 e.2 hd)
    | true =>
      cases hva : validR (rulesV kind a b) with
      | false => exact hkb.elim (fun e7 => cclass_any_7b x a b kind s w h ha hb hs hkd e7 hd hva) (fun e => cclass_any_8b x a b kind s w h ha hb hs hkd e.1 e.2 hd hva)
      | true => exact hkb.elim (fun e7 => cclass_any_7c x a b kind s w h ha hb hs hkd e7 hd hva) (fun e => cclass_any_8c x a b kind s w h ha hb hs hkd e.1 e.2 hd hva)
  · exact cclass_any_no x a b kind s w h ha hb hs hkd
end Go.Proofs.YtadhblppeaamlaaGreatDoor
/- Walks: the example of the document. -/
namespace Go.Proofs.YtadhblppeaamlaaGreatDoor
open Go.RowKit
attribute [local go_sem] Ext.cell Ext.frozen
attribute [local go_sem ↓] Go.wp_at_zero Go.wp_at_succ

def locZ (i : Nat) : Value := (#[.string ⟨#[]⟩, .string ⟨#[]⟩, .string ⟨#[]⟩, .slice none 0 0, .slice none 0 0, .string ⟨#[]⟩, .string ⟨#[]⟩, .string ⟨#[]⟩, .string ⟨#[]⟩, .int .i64 0, .int .i64 0, .slice none 0 0, .slice none 0 0, .slice none 0 0, .slice none 0 0, .slice none 0 0] : Array Value).getD i undef
def partZ (B0 : Nat) (i : Nat) : Value := (#[.int .i64 9, .string ⟨#[]⟩, .string ⟨#[103]⟩, .string ⟨#[]⟩, .slice (some ⟨B0, 0, none⟩) 2 2, .slice none 0 0] : Array Value).getD i undef
def valZ (i : Nat) : Value := (#[.string ⟨#[103]⟩, .int .i64 1, .string ⟨#[98]⟩, .int .i64 0, .slice none 0 0] : Array Value).getD i undef
def vlZ : Vl := ⟨⟨#[103]⟩, 1, ⟨#[98]⟩, 0, []⟩
def keysZ : List ByteArray := [⟨#[97]⟩, otherB]
theorem z_first : firstK keysZ (wantV 9 (rulesV 9 [] []) vlZ.tx) = ((1 : Nat) : Int) := by decide
theorem z_suit : suitV 9 vlZ = true := by decide
theorem z_few : FewC [] := fun _ hr => absurd hr List.not_mem_nil
theorem valZ_ok (W : World) : ValC W valZ vlZ := ⟨rfl, by decide, rfl, rfl, by decide, rfl, RowsOf.nil W⟩
theorem choose_awake (B0 B2 : Nat) (w : World) (c0 : w.cell? ⟨B0, 0, none⟩ = some (.string ⟨#[97]⟩)) (c1 : w.cell? ⟨B0, 1, none⟩ = some (.slice none 0 0)) (c2 : w.cell? ⟨B0, 2, none⟩ = some (.string ⟨#[111, 116, 104, 101, 114]⟩)) (c3 : w.cell? ⟨B0, 3, none⟩ = some (.slice none 0 0))
    (v0 : w.cell? ⟨B2, 0, none⟩ = some (.string ⟨#[103]⟩)) (v1 : w.cell? ⟨B2, 1, none⟩ = some (.int .i64 1)) (v2 : w.cell? ⟨B2, 2, none⟩ = some (.string ⟨#[98]⟩)) (v3 : w.cell? ⟨B2, 3, none⟩ = some (.int .i64 0)) (v4 : w.cell? ⟨B2, 4, none⟩ = some (.slice none 0 0)) :
    Calls Tryz.prog 11 #[.agg #[.string ⟨#[]⟩, .string ⟨#[]⟩, .string ⟨#[]⟩, .slice none 0 0, .slice none 0 0, .string ⟨#[]⟩, .string ⟨#[]⟩, .string ⟨#[]⟩, .string ⟨#[]⟩, .int .i64 0, .int .i64 0, .slice none 0 0, .slice none 0 0, .slice none 0 0, .slice none 0 0, .slice none 0 0], .agg #[.int .i64 9, .string ⟨#[]⟩, .string ⟨#[103]⟩, .string ⟨#[]⟩, .slice (some ⟨B0, 0, none⟩) 2 2, .slice none 0 0], .slice (some ⟨B2, 0, none⟩) 1 1] w fun e w' => e = .returned (.tuple #[.int .i64 1, .int .i64 0]) ∧ Below w.heap.size w w' := by
  have hb : B2 < w.heap.size := World.block_lt_of_cell? _ _ v0
  exact choose_yes locZ (partZ B0) valZ [] [] 9 ⟨#[103]⟩ keysZ vlZ (.slice (some ⟨B2, 0, none⟩) 1 1) 1 w ⟨RulesAt.nil w, RulesAt.nil w⟩ rfl rfl
    ⟨some ⟨B0, 0, none⟩, 2, fun i j => (#[#[.string ⟨#[97]⟩, .slice none 0 0], #[.string ⟨#[111, 116, 104, 101, 114]⟩, .slice none 0 0]] : Array (Array Value)).getD i #[] |>.getD j undef, B0, 0, rfl, ⟨by decide, fun _ => rfl, fun i j hi hj => by
      have hi : i < 2 := hi
      rcases (by omega : i = 0 ∨ i = 1) with h | h <;> subst h <;> rcases (by omega : j = 0 ∨ j = 1) with h | h <;> subst h
      · exact c0
      · exact c1
      · exact c2
      · exact c3⟩, (fun h => by cases h), by decide, by decide, fun i x hx => by
      match i, hx with
      | 0, hx => cases hx; exact ⟨rfl, none, 0, 0, rfl⟩
      | 1, hx => cases hx; exact ⟨rfl, none, 0, 0, rfl⟩⟩
    (by decide) (fun W hbW => (get_one B2 ⟨#[103]⟩ ⟨#[98]⟩ 1 0 W ((hbW.cell (p := ⟨B2, 0, none⟩) hb).trans v0) ((hbW.cell (p := ⟨B2, 1, none⟩) hb).trans v1) ((hbW.cell (p := ⟨B2, 2, none⟩) hb).trans v2) ((hbW.cell (p := ⟨B2, 3, none⟩) hb).trans v3) ((hbW.cell (p := ⟨B2, 4, none⟩) hb).trans v4)).mono fun _ w' h => ⟨h.1, h.2, valZ_ok w'⟩) z_few z_few (by decide)
    (by decide) (by decide) z_suit z_first
theorem awake31_any (w : World) : Calls Tryz.prog 9 #[] w fun e w' => e = .returned (.bool true) ∧ Below w.heap.size w w' := by
  have HC := Lib.hid choose_awake
  go_enter Tryz.func9, Tryz.ntmps9
  go_wp2_with fail
  refine (HC.out _ _ _ ?_ ?_ ?_ ?_ ?_ ?_ ?_ ?_ ?_).mono ?_
  iterate 9 (· simp [go_sem])
  rintro e w' ⟨rfl, hb⟩
  have HB : Hid (Below w.heap.size w w') := Below.trans (by show Bel w _; repeat (first | exact Bel.refl _ | refine Bel.alloc ?_ _)) (hb.mono (by simp; omega))
  clear hb
  go_wp2_with fail
  go_ret
  exact ⟨rfl, HB.out⟩
end Go.Proofs.YtadhblppeaamlaaGreatDoor
