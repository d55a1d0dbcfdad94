/- Walks: the class of a number by the rules for a kind, in the program. -/
import Derived.Test.YtadhblppeaamlaaGreatDoorQ15
import Derived.Test.YtadhblppeaamlaaGreatDoorQ18
import Derived.Test.YtadhblppeaamlaaGreatDoorQ24
import Derived.Test.YtadhblppeaamlaaGreatDoorQ25
import Derived.Test.YtadhblppeaamlaaGreatDoorQ26
import Derived.Deep.DeepCutAuto
namespace Go.Proofs.YtadhblppeaamlaaGreatDoor
open Go.RowKit
attribute [local go_sem] Ext.cell Ext.frozen
attribute [local go_sem ↓] Go.wp_at_zero Go.wp_at_succ

theorem RowsOf.nil {α : Type} {k : Nat} {C : World → (Nat → Value) → α → Prop} (w : World) : RowsOf k C w (.slice none 0 0) [] := ⟨none, 0, fun _ _ => undef, 0, 0, rfl, ⟨Nat.zero_le _, fun h => absurd rfl h, fun i j hi => absurd hi (Nat.not_lt_zero _)⟩, fun _ => rfl, Nat.le_refl _, Nat.zero_le _, fun i x h => (by simp at h)⟩
set_option maxRecDepth 20000 in
set_option maxHeartbeats 8000000 in
theorem cclass_any_7a (x : Nat → Value) (a b : List (ByteArray × List (List Rel))) (kind : Int) (s : ByteArray) (w : World) (h : LocC w x a b) (ha : FewC a) (hb : FewC b) (hs : s.size ≤ 1000) (_hkd : kind = 7 ∨ kind = 8) (e7 : (kind != 7) = false) (hd : dOk s.data.toList = false) :
    Calls Tryz.prog 16 #[.agg #[x 0, x 1, x 2, x 3, x 4, x 5, x 6, x 7, x 8, x 9, x 10, x 11, x 12, x 13, x 14, x 15], .int .i64 kind, .string s] w fun e w' => e = .returned (.tuple #[.string (clsV kind (rulesV kind a b) s.data.toList).1, .int .i64 ((clsV kind (rulesV kind a b) s.data.toList).2 : Nat)]) ∧ Below w.heap.size w w' := by
  have HRU : Hid (∀ W, Calls Tryz.prog 26 #[.agg #[x 0, x 1, x 2, x 3, x 4, x 5, x 6, x 7, x 8, x 9, x 10, x 11, x 12, x 13, x 14, x 15], .int .i64 kind] W fun e w' => e = .returned (valR x kind) ∧ Below W.heap.size W w') := fun W => crules_any x kind W
  have HVA : Hid (∀ W, Below w.heap.size w W → Calls Tryz.prog 25 #[valR x kind] W fun e w' => e = .returned (.bool (validR (rulesV kind a b))) ∧ Below W.heap.size W w') := fun W g => pvalid_any _ _ W ((rules_at h kind).below g) (few_rules ha hb kind)
  have HCL : Hid (∀ W, Below w.heap.size w W → Calls Tryz.prog 39 #[valR x kind, .string s] W fun e w' => e = .returned (.tuple #[.string (classV (rulesV kind a b) s.data.toList).1, .int .i64 ((classV (rulesV kind a b) s.data.toList).2 : Nat)]) ∧ Below W.heap.size W w') := fun W g => pclass_any _ _ s W ((rules_at h kind).below g) (few_rules ha hb kind) hs
  have HPR : Hid (∀ W, Below w.heap.size w W → Calls Tryz.prog 38 #[.agg #[.string ⟨#[]⟩, .int .i64 2, .string s, .int .i64 0, .slice none 0 0]] W fun e w' => e = .returned (.bool (dOk s.data.toList)) ∧ Below W.heap.size W w') := fun W g => by
    have := vproper_any (fun i => (#[.string ⟨#[]⟩, .int .i64 2, .string s, .int .i64 0, .slice none 0 0] : Array Value).getD i undef) ⟨⟨#[]⟩, 2, s, 0, []⟩ W ⟨rfl, Nat.zero_le _, rfl, rfl, Nat.le_trans hs (Nat.le_of_ble_eq_true rfl), rfl, RowsOf.nil W⟩ hs
    rw [show properVl ⟨⟨#[]⟩, 2, s, 0, []⟩ = dOk s.data.toList from by unfold properVl; simp] at this
    exact this
  clear h ha hb hs
  generalize valR x kind = vr at *
  generalize x 0 = x0 at *
  generalize x 1 = x1 at *
  generalize x 2 = x2 at *
  generalize x 3 = x3 at *
  generalize x 4 = x4 at *
  generalize x 5 = x5 at *
  generalize x 6 = x6 at *
  generalize x 7 = x7 at *
  generalize x 8 = x8 at *
  generalize x 9 = x9 at *
  generalize x 10 = x10 at *
  generalize x 11 = x11 at *
  generalize x 12 = x12 at *
  generalize x 13 = x13 at *
  generalize x 14 = x14 at *
  generalize x 15 = x15 at *
  have HO : Hid (clsV kind (rulesV kind a b) s.data.toList = (.empty, 1)) := by unfold Hid clsV; rw [if_neg fun h => by rw [hd] at h; cases h.2]
  rw [Hid, hd] at HPR
  replace HPR := Lib.hid HPR
  generalize clsV kind (rulesV kind a b) s.data.toList = q at *
  clear hd
  go_enter Tryz.func16, Tryz.ntmps16
  go_wp2_with fail
  refine (Calls.toExt (HPR.out _ ?_)).mono ?_
  · show Bel w _; repeat (first | exact Bel.refl _ | refine Bel.drew ?_ | refine Bel.drewN ?_ _ | refine Bel.alloc ?_ _ | refine Bel.ext ?_ _)
  rintro e _ ⟨rfl, u1, rfl⟩
  have hx1 : w.heap.size < u1.1.heap.size := by have := u1.2.size; simp at this; omega
  go_wp2_with fail
  go_ret2
  exact ⟨by rw [HO.out]; rfl, by show Bel w _; repeat (first | exact Bel.refl _ | refine Bel.drew ?_ | refine Bel.drewN ?_ _ | refine Bel.alloc ?_ _ | refine Bel.ext ?_ _)⟩
set_option maxRecDepth 20000 in
set_option maxHeartbeats 8000000 in
theorem cclass_any_7b (x : Nat → Value) (a b : List (ByteArray × List (List Rel))) (kind : Int) (s : ByteArray) (w : World) (h : LocC w x a b) (ha : FewC a) (hb : FewC b) (hs : s.size ≤ 1000) (hkd : kind = 7 ∨ kind = 8) (e7 : (kind != 7) = false) (hd : dOk s.data.toList = true) (hva : validR (rulesV kind a b) = false) :
    Calls Tryz.prog 16 #[.agg #[x 0, x 1, x 2, x 3, x 4, x 5, x 6, x 7, x 8, x 9, x 10, x 11, x 12, x 13, x 14, x 15], .int .i64 kind, .string s] w fun e w' => e = .returned (.tuple #[.string (clsV kind (rulesV kind a b) s.data.toList).1, .int .i64 ((clsV kind (rulesV kind a b) s.data.toList).2 : Nat)]) ∧ Below w.heap.size w w' := by
  have HRU : Hid (∀ W, Calls Tryz.prog 26 #[.agg #[x 0, x 1, x 2, x 3, x 4, x 5, x 6, x 7, x 8, x 9, x 10, x 11, x 12, x 13, x 14, x 15], .int .i64 kind] W fun e w' => e = .returned (valR x kind) ∧ Below W.heap.size W w') := fun W => crules_any x kind W
  have HVA : Hid (∀ W, Below w.heap.size w W → Calls Tryz.prog 25 #[valR x kind] W fun e w' => e = .returned (.bool (validR (rulesV kind a b))) ∧ Below W.heap.size W w') := fun W g => pvalid_any _ _ W ((rules_at h kind).below g) (few_rules ha hb kind)
  have HCL : Hid (∀ W, Below w.heap.size w W → Calls Tryz.prog 39 #[valR x kind, .string s] W fun e w' => e = .returned (.tuple #[.string (classV (rulesV kind a b) s.data.toList).1, .int .i64 ((classV (rulesV kind a b) s.data.toList).2 : Nat)]) ∧ Below W.heap.size W w') := fun W g => pclass_any _ _ s W ((rules_at h kind).below g) (few_rules ha hb kind) hs
  have HPR : Hid (∀ W, Below w.heap.size w W → Calls Tryz.prog 38 #[.agg #[.string ⟨#[]⟩, .int .i64 2, .string s, .int .i64 0, .slice none 0 0]] W fun e w' => e = .returned (.bool (dOk s.data.toList)) ∧ Below W.heap.size W w') := fun W g => by
    have := vproper_any (fun i => (#[.string ⟨#[]⟩, .int .i64 2, .string s, .int .i64 0, .slice none 0 0] : Array Value).getD i undef) ⟨⟨#[]⟩, 2, s, 0, []⟩ W ⟨rfl, Nat.zero_le _, rfl, rfl, Nat.le_trans hs (Nat.le_of_ble_eq_true rfl), rfl, RowsOf.nil W⟩ hs
    rw [show properVl ⟨⟨#[]⟩, 2, s, 0, []⟩ = dOk s.data.toList from by unfold properVl; simp] at this
    exact this
  clear h ha hb hs
  generalize valR x kind = vr at *
  generalize x 0 = x0 at *
  generalize x 1 = x1 at *
  generalize x 2 = x2 at *
  generalize x 3 = x3 at *
  generalize x 4 = x4 at *
  generalize x 5 = x5 at *
  generalize x 6 = x6 at *
  generalize x 7 = x7 at *
  generalize x 8 = x8 at *
  generalize x 9 = x9 at *
  generalize x 10 = x10 at *
  generalize x 11 = x11 at *
  generalize x 12 = x12 at *
  generalize x 13 = x13 at *
  generalize x 14 = x14 at *
  generalize x 15 = x15 at *
  rw [Hid, hd] at HPR
  replace HPR := Lib.hid HPR
  have HO : Hid (clsV kind (rulesV kind a b) s.data.toList = (.empty, 18)) := by unfold Hid clsV; rw [if_pos ⟨hkd, hd⟩, if_neg (by rw [hva]; simp)]
  rw [Hid, hva] at HVA
  replace HVA := Lib.hid HVA
  generalize clsV kind (rulesV kind a b) s.data.toList = q at *
  clear hkd hd hva
  go_enter Tryz.func16, Tryz.ntmps16
  go_wp2_with fail
  refine (Calls.toExt (HPR.out _ ?_)).mono ?_
  · show Bel w _; repeat (first | exact Bel.refl _ | refine Bel.drew ?_ | refine Bel.drewN ?_ _ | refine Bel.alloc ?_ _ | refine Bel.ext ?_ _)
  rintro e _ ⟨rfl, u1, rfl⟩
  have hx1 : w.heap.size < u1.1.heap.size := by have := u1.2.size; simp at this; omega
  go_wp2_with fail
  refine (Calls.toExt (HRU.out _)).mono ?_
  rintro e _ ⟨rfl, u2, rfl⟩
  go_wp2_with fail
  refine (Calls.toExt (HVA.out _ ?_)).mono ?_
  · show Bel w _; repeat (first | exact Bel.refl _ | refine Bel.drew ?_ | refine Bel.drewN ?_ _ | refine Bel.alloc ?_ _ | refine Bel.ext ?_ _)
  rintro e _ ⟨rfl, u3, rfl⟩
  have hx2 : w.heap.size < u2.1.heap.size := by have := u2.2.size; omega
  have hx3 : w.heap.size < u3.1.heap.size := by have := u3.2.size; omega
  go_wp2_with fail
  go_ret2
  exact ⟨by rw [HO.out]; rfl, by show Bel w _; repeat (first | exact Bel.refl _ | refine Bel.drew ?_ | refine Bel.drewN ?_ _ | refine Bel.alloc ?_ _ | refine Bel.ext ?_ _)⟩
set_option maxRecDepth 20000 in
set_option maxHeartbeats 8000000 in
theorem cclass_any_7c (x : Nat → Value) (a b : List (ByteArray × List (List Rel))) (kind : Int) (s : ByteArray) (w : World) (h : LocC w x a b) (ha : FewC a) (hb : FewC b) (hs : s.size ≤ 1000) (hkd : kind = 7 ∨ kind = 8) (e7 : (kind != 7) = false) (hd : dOk s.data.toList = true) (hva : validR (rulesV kind a b) = true) :
    Calls Tryz.prog 16 #[.agg #[x 0, x 1, x 2, x 3, x 4, x 5, x 6, x 7, x 8, x 9, x 10, x 11, x 12, x 13, x 14, x 15], .int .i64 kind, .string s] w fun e w' => e = .returned (.tuple #[.string (clsV kind (rulesV kind a b) s.data.toList).1, .int .i64 ((clsV kind (rulesV kind a b) s.data.toList).2 : Nat)]) ∧ Below w.heap.size w w' := by
  have HRU : Hid (∀ W, Calls Tryz.prog 26 #[.agg #[x 0, x 1, x 2, x 3, x 4, x 5, x 6, x 7, x 8, x 9, x 10, x 11, x 12, x 13, x 14, x 15], .int .i64 kind] W fun e w' => e = .returned (valR x kind) ∧ Below W.heap.size W w') := fun W => crules_any x kind W
  have HVA : Hid (∀ W, Below w.heap.size w W → Calls Tryz.prog 25 #[valR x kind] W fun e w' => e = .returned (.bool (validR (rulesV kind a b))) ∧ Below W.heap.size W w') := fun W g => pvalid_any _ _ W ((rules_at h kind).below g) (few_rules ha hb kind)
  have HCL : Hid (∀ W, Below w.heap.size w W → Calls Tryz.prog 39 #[valR x kind, .string s] W fun e w' => e = .returned (.tuple #[.string (classV (rulesV kind a b) s.data.toList).1, .int .i64 ((classV (rulesV kind a b) s.data.toList).2 : Nat)]) ∧ Below W.heap.size W w') := fun W g => pclass_any _ _ s W ((rules_at h kind).below g) (few_rules ha hb kind) hs
  have HPR : Hid (∀ W, Below w.heap.size w W → Calls Tryz.prog 38 #[.agg #[.string ⟨#[]⟩, .int .i64 2, .string s, .int .i64 0, .slice none 0 0]] W fun e w' => e = .returned (.bool (dOk s.data.toList)) ∧ Below W.heap.size W w') := fun W g => by
    have := vproper_any (fun i => (#[.string ⟨#[]⟩, .int .i64 2, .string s, .int .i64 0, .slice none 0 0] : Array Value).getD i undef) ⟨⟨#[]⟩, 2, s, 0, []⟩ W ⟨rfl, Nat.zero_le _, rfl, rfl, Nat.le_trans hs (Nat.le_of_ble_eq_true rfl), rfl, RowsOf.nil W⟩ hs
    rw [show properVl ⟨⟨#[]⟩, 2, s, 0, []⟩ = dOk s.data.toList from by unfold properVl; simp] at this
    exact this
  clear h ha hb hs
  generalize valR x kind = vr at *
  generalize x 0 = x0 at *
  generalize x 1 = x1 at *
  generalize x 2 = x2 at *
  generalize x 3 = x3 at *
  generalize x 4 = x4 at *
  generalize x 5 = x5 at *
  generalize x 6 = x6 at *
  generalize x 7 = x7 at *
  generalize x 8 = x8 at *
  generalize x 9 = x9 at *
  generalize x 10 = x10 at *
  generalize x 11 = x11 at *
  generalize x 12 = x12 at *
  generalize x 13 = x13 at *
  generalize x 14 = x14 at *
  generalize x 15 = x15 at *
  rw [Hid, hd] at HPR
  replace HPR := Lib.hid HPR
  have HO : Hid (clsV kind (rulesV kind a b) s.data.toList = (classOf (rulesV kind a b) s.data.toList, 0)) := by unfold Hid clsV; rw [if_pos ⟨hkd, hd⟩, if_pos hva]
  rw [Hid, hva] at HVA
  replace HVA := Lib.hid HVA
  rw [Hid, classV_yes hva hd] at HCL
  replace HCL := Lib.hid HCL
  generalize clsV kind (rulesV kind a b) s.data.toList = q at *
  generalize classOf (rulesV kind a b) s.data.toList = cl at *
  clear hkd hd hva
  go_enter Tryz.func16, Tryz.ntmps16
  go_wp2_with fail
  refine (Calls.toExt (HPR.out _ ?_)).mono ?_
  · show Bel w _; repeat (first | exact Bel.refl _ | refine Bel.drew ?_ | refine Bel.drewN ?_ _ | refine Bel.alloc ?_ _ | refine Bel.ext ?_ _)
  rintro e _ ⟨rfl, u1, rfl⟩
  have hx1 : w.heap.size < u1.1.heap.size := by have := u1.2.size; simp at this; omega
  go_wp2_with fail
  refine (Calls.toExt (HRU.out _)).mono ?_
  rintro e _ ⟨rfl, u2, rfl⟩
  go_wp2_with fail
  refine (Calls.toExt (HVA.out _ ?_)).mono ?_
  · show Bel w _; repeat (first | exact Bel.refl _ | refine Bel.drew ?_ | refine Bel.drewN ?_ _ | refine Bel.alloc ?_ _ | refine Bel.ext ?_ _)
  rintro e _ ⟨rfl, u3, rfl⟩
  have hx2 : w.heap.size < u2.1.heap.size := by have := u2.2.size; omega
  have hx3 : w.heap.size < u3.1.heap.size := by have := u3.2.size; omega
  go_wp2_with fail
  refine (Calls.toExt (HRU.out _)).mono ?_
  rintro e _ ⟨rfl, u4, rfl⟩
  go_wp2_with fail
  refine (Calls.toExt (HCL.out _ ?_)).mono ?_
  · show Bel w _; repeat (first | exact Bel.refl _ | refine Bel.drew ?_ | refine Bel.drewN ?_ _ | refine Bel.alloc ?_ _ | refine Bel.ext ?_ _)
  rintro e _ ⟨rfl, u5, rfl⟩
  go_wp2_with fail
  go_ret2
  exact ⟨by rw [HO.out]; rfl, by show Bel w _; repeat (first | exact Bel.refl _ | refine Bel.drew ?_ | refine Bel.drewN ?_ _ | refine Bel.alloc ?_ _ | refine Bel.ext ?_ _)⟩
set_option maxRecDepth 20000 in
set_option maxHeartbeats 8000000 in
theorem cclass_any_8a (x : Nat → Value) (a b : List (ByteArray × List (List Rel))) (kind : Int) (s : ByteArray) (w : World) (h : LocC w x a b) (ha : FewC a) (hb : FewC b) (hs : s.size ≤ 1000) (_hkd : kind = 7 ∨ kind = 8) (e7 : (kind != 7) = true) (e8 : (kind != 8) = false) (hd : dOk s.data.toList = false) :
    Calls Tryz.prog 16 #[.agg #[x 0, x 1, x 2, x 3, x 4, x 5, x 6, x 7, x 8, x 9, x 10, x 11, x 12, x 13, x 14, x 15], .int .i64 kind, .string s] w fun e w' => e = .returned (.tuple #[.string (clsV kind (rulesV kind a b) s.data.toList).1, .int .i64 ((clsV kind (rulesV kind a b) s.data.toList).2 : Nat)]) ∧ Below w.heap.size w w' := by
  have HRU : Hid (∀ W, Calls Tryz.prog 26 #[.agg #[x 0, x 1, x 2, x 3, x 4, x 5, x 6, x 7, x 8, x 9, x 10, x 11, x 12, x 13, x 14, x 15], .int .i64 kind] W fun e w' => e = .returned (valR x kind) ∧ Below W.heap.size W w') := fun W => crules_any x kind W
  have HVA : Hid (∀ W, Below w.heap.size w W → Calls Tryz.prog 25 #[valR x kind] W fun e w' => e = .returned (.bool (validR (rulesV kind a b))) ∧ Below W.heap.size W w') := fun W g => pvalid_any _ _ W ((rules_at h kind).below g) (few_rules ha hb kind)
  have HCL : Hid (∀ W, Below w.heap.size w W → Calls Tryz.prog 39 #[valR x kind, .string s] W fun e w' => e = .returned (.tuple #[.string (classV (rulesV kind a b) s.data.toList).1, .int .i64 ((classV (rulesV kind a b) s.data.toList).2 : Nat)]) ∧ Below W.heap.size W w') := fun W g => pclass_any _ _ s W ((rules_at h kind).below g) (few_rules ha hb kind) hs
  have HPR : Hid (∀ W, Below w.heap.size w W → Calls Tryz.prog 38 #[.agg #[.string ⟨#[]⟩, .int .i64 2, .string s, .int .i64 0, .slice none 0 0]] W fun e w' => e = .returned (.bool (dOk s.data.toList)) ∧ Below W.heap.size W w') := fun W g => by
    have := vproper_any (fun i => (#[.string ⟨#[]⟩, .int .i64 2, .string s, .int .i64 0, .slice none 0 0] : Array Value).getD i undef) ⟨⟨#[]⟩, 2, s, 0, []⟩ W ⟨rfl, Nat.zero_le _, rfl, rfl, Nat.le_trans hs (Nat.le_of_ble_eq_true rfl), rfl, RowsOf.nil W⟩ hs
    rw [show properVl ⟨⟨#[]⟩, 2, s, 0, []⟩ = dOk s.data.toList from by unfold properVl; simp] at this
    exact this
  clear h ha hb hs
  generalize valR x kind = vr at *
  generalize x 0 = x0 at *
  generalize x 1 = x1 at *
  generalize x 2 = x2 at *
  generalize x 3 = x3 at *
  generalize x 4 = x4 at *
  generalize x 5 = x5 at *
  generalize x 6 = x6 at *
  generalize x 7 = x7 at *
  generalize x 8 = x8 at *
  generalize x 9 = x9 at *
  generalize x 10 = x10 at *
  generalize x 11 = x11 at *
  generalize x 12 = x12 at *
  generalize x 13 = x13 at *
  generalize x 14 = x14 at *
  generalize x 15 = x15 at *
  have HO : Hid (clsV kind (rulesV kind a b) s.data.toList = (.empty, 1)) := by unfold Hid clsV; rw [if_neg fun h => by rw [hd] at h; cases h.2]
  rw [Hid, hd] at HPR
  replace HPR := Lib.hid HPR
  generalize clsV kind (rulesV kind a b) s.data.toList = q at *
  clear hd
  go_enter Tryz.func16, Tryz.ntmps16
  go_wp2_with fail
  refine (Calls.toExt (HPR.out _ ?_)).mono ?_
  · show Bel w _; repeat (first | exact Bel.refl _ | refine Bel.drew ?_ | refine Bel.drewN ?_ _ | refine Bel.alloc ?_ _ | refine Bel.ext ?_ _)
  rintro e _ ⟨rfl, u1, rfl⟩
  have hx1 : w.heap.size < u1.1.heap.size := by have := u1.2.size; simp at this; omega
  go_wp2_with fail
  go_ret2
  exact ⟨by rw [HO.out]; rfl, by show Bel w _; repeat (first | exact Bel.refl _ | refine Bel.drew ?_ | refine Bel.drewN ?_ _ | refine Bel.alloc ?_ _ | refine Bel.ext ?_ _)⟩
set_option maxRecDepth 20000 in
set_option maxHeartbeats 8000000 in
theorem cclass_any_8b (x : Nat → Value) (a b : List (ByteArray × List (List Rel))) (kind : Int) (s : ByteArray) (w : World) (h : LocC w x a b) (ha : FewC a) (hb : FewC b) (hs : s.size ≤ 1000) (hkd : kind = 7 ∨ kind = 8) (e7 : (kind != 7) = true) (e8 : (kind != 8) = false) (hd : dOk s.data.toList = true) (hva : validR (rulesV kind a b) = false) :
    Calls Tryz.prog 16 #[.agg #[x 0, x 1, x 2, x 3, x 4, x 5, x 6, x 7, x 8, x 9, x 10, x 11, x 12, x 13, x 14, x 15], .int .i64 kind, .string s] w fun e w' => e = .returned (.tuple #[.string (clsV kind (rulesV kind a b) s.data.toList).1, .int .i64 ((clsV kind (rulesV kind a b) s.data.toList).2 : Nat)]) ∧ Below w.heap.size w w' := by
  have HRU : Hid (∀ W, Calls Tryz.prog 26 #[.agg #[x 0, x 1, x 2, x 3, x 4, x 5, x 6, x 7, x 8, x 9, x 10, x 11, x 12, x 13, x 14, x 15], .int .i64 kind] W fun e w' => e = .returned (valR x kind) ∧ Below W.heap.size W w') := fun W => crules_any x kind W
  have HVA : Hid (∀ W, Below w.heap.size w W → Calls Tryz.prog 25 #[valR x kind] W fun e w' => e = .returned (.bool (validR (rulesV kind a b))) ∧ Below W.heap.size W w') := fun W g => pvalid_any _ _ W ((rules_at h kind).below g) (few_rules ha hb kind)
  have HCL : Hid (∀ W, Below w.heap.size w W → Calls Tryz.prog 39 #[valR x kind, .string s] W fun e w' => e = .returned (.tuple #[.string (classV (rulesV kind a b) s.data.toList).1, .int .i64 ((classV (rulesV kind a b) s.data.toList).2 : Nat)]) ∧ Below W.heap.size W w') := fun W g => pclass_any _ _ s W ((rules_at h kind).below g) (few_rules ha hb kind) hs
  have HPR : Hid (∀ W, Below w.heap.size w W → Calls Tryz.prog 38 #[.agg #[.string ⟨#[]⟩, .int .i64 2, .string s, .int .i64 0, .slice none 0 0]] W fun e w' => e = .returned (.bool (dOk s.data.toList)) ∧ Below W.heap.size W w') := fun W g => by
    have := vproper_any (fun i => (#[.string ⟨#[]⟩, .int .i64 2, .string s, .int .i64 0, .slice none 0 0] : Array Value).getD i undef) ⟨⟨#[]⟩, 2, s, 0, []⟩ W ⟨rfl, Nat.zero_le _, rfl, rfl, Nat.le_trans hs (Nat.le_of_ble_eq_true rfl), rfl, RowsOf.nil W⟩ hs
    rw [show properVl ⟨⟨#[]⟩, 2, s, 0, []⟩ = dOk s.data.toList from by unfold properVl; simp] at this
    exact this
  clear h ha hb hs
  generalize valR x kind = vr at *
  generalize x 0 = x0 at *
  generalize x 1 = x1 at *
  generalize x 2 = x2 at *
  generalize x 3 = x3 at *
  generalize x 4 = x4 at *
  generalize x 5 = x5 at *
  generalize x 6 = x6 at *
  generalize x 7 = x7 at *
  generalize x 8 = x8 at *
  generalize x 9 = x9 at *
  generalize x 10 = x10 at *
  generalize x 11 = x11 at *
  generalize x 12 = x12 at *
  generalize x 13 = x13 at *
  generalize x 14 = x14 at *
  generalize x 15 = x15 at *
  rw [Hid, hd] at HPR
  replace HPR := Lib.hid HPR
  have HO : Hid (clsV kind (rulesV kind a b) s.data.toList = (.empty, 18)) := by unfold Hid clsV; rw [if_pos ⟨hkd, hd⟩, if_neg (by rw [hva]; simp)]
  rw [Hid, hva] at HVA
  replace HVA := Lib.hid HVA
  generalize clsV kind (rulesV kind a b) s.data.toList = q at *
  clear hkd hd hva
  go_enter Tryz.func16, Tryz.ntmps16
  go_wp2_with fail
  refine (Calls.toExt (HPR.out _ ?_)).mono ?_
  · show Bel w _; repeat (first | exact Bel.refl _ | refine Bel.drew ?_ | refine Bel.drewN ?_ _ | refine Bel.alloc ?_ _ | refine Bel.ext ?_ _)
  rintro e _ ⟨rfl, u1, rfl⟩
  have hx1 : w.heap.size < u1.1.heap.size := by have := u1.2.size; simp at this; omega
  go_wp2_with fail
  refine (Calls.toExt (HRU.out _)).mono ?_
  rintro e _ ⟨rfl, u2, rfl⟩
  go_wp2_with fail
  refine (Calls.toExt (HVA.out _ ?_)).mono ?_
  · show Bel w _; repeat (first | exact Bel.refl _ | refine Bel.drew ?_ | refine Bel.drewN ?_ _ | refine Bel.alloc ?_ _ | refine Bel.ext ?_ _)
  rintro e _ ⟨rfl, u3, rfl⟩
  have hx2 : w.heap.size < u2.1.heap.size := by have := u2.2.size; omega
  have hx3 : w.heap.size < u3.1.heap.size := by have := u3.2.size; omega
  go_wp2_with fail
  go_ret2
  exact ⟨by rw [HO.out]; rfl, by show Bel w _; repeat (first | exact Bel.refl _ | refine Bel.drew ?_ | refine Bel.drewN ?_ _ | refine Bel.alloc ?_ _ | refine Bel.ext ?_ _)⟩
set_option maxRecDepth 20000 in
set_option maxHeartbeats 8000000 in
theorem cclass_any_8c (x : Nat → Value) (a b : List (ByteArray × List (List Rel))) (kind : Int) (s : ByteArray) (w : World) (h : LocC w x a b) (ha : FewC a) (hb : FewC b) (hs : s.size ≤ 1000) (hkd : kind = 7 ∨ kind = 8) (e7 : (kind != 7) = true) (e8 : (kind != 8) = false) (hd : dOk s.data.toList = true) (hva : validR (rulesV kind a b) = true) :
    Calls Tryz.prog 16 #[.agg #[x 0, x 1, x 2, x 3, x 4, x 5, x 6, x 7, x 8, x 9, x 10, x 11, x 12, x 13, x 14, x 15], .int .i64 kind, .string s] w fun e w' => e = .returned (.tuple #[.string (clsV kind (rulesV kind a b) s.data.toList).1, .int .i64 ((clsV kind (rulesV kind a b) s.data.toList).2 : Nat)]) ∧ Below w.heap.size w w' := by
  have HRU : Hid (∀ W, Calls Tryz.prog 26 #[.agg #[x 0, x 1, x 2, x 3, x 4, x 5, x 6, x 7, x 8, x 9, x 10, x 11, x 12, x 13, x 14, x 15], .int .i64 kind] W fun e w' => e = .returned (valR x kind) ∧ Below W.heap.size W w') := fun W => crules_any x kind W
  have HVA : Hid (∀ W, Below w.heap.size w W → Calls Tryz.prog 25 #[valR x kind] W fun e w' => e = .returned (.bool (validR (rulesV kind a b))) ∧ Below W.heap.size W w') := fun W g => pvalid_any _ _ W ((rules_at h kind).below g) (few_rules ha hb kind)
  have HCL : Hid (∀ W, Below w.heap.size w W → Calls Tryz.prog 39 #[valR x kind, .string s] W fun e w' => e = .returned (.tuple #[.string (classV (rulesV kind a b) s.data.toList).1, .int .i64 ((classV (rulesV kind a b) s.data.toList).2 : Nat)]) ∧ Below W.heap.size W w') := fun W g => pclass_any _ _ s W ((rules_at h kind).below g) (few_rules ha hb kind) hs
  have HPR : Hid (∀ W, Below w.heap.size w W → Calls Tryz.prog 38 #[.agg #[.string ⟨#[]⟩, .int .i64 2, .string s, .int .i64 0, .slice none 0 0]] W fun e w' => e = .returned (.bool (dOk s.data.toList)) ∧ Below W.heap.size W w') := fun W g => by
    have := vproper_any (fun i => (#[.string ⟨#[]⟩, .int .i64 2, .string s, .int .i64 0, .slice none 0 0] : Array Value).getD i undef) ⟨⟨#[]⟩, 2, s, 0, []⟩ W ⟨rfl, Nat.zero_le _, rfl, rfl, Nat.le_trans hs (Nat.le_of_ble_eq_true rfl), rfl, RowsOf.nil W⟩ hs
    rw [show properVl ⟨⟨#[]⟩, 2, s, 0, []⟩ = dOk s.data.toList from by unfold properVl; simp] at this
    exact this
  clear h ha hb hs
  generalize valR x kind = vr at *
  generalize x 0 = x0 at *
  generalize x 1 = x1 at *
  generalize x 2 = x2 at *
  generalize x 3 = x3 at *
  generalize x 4 = x4 at *
  generalize x 5 = x5 at *
  generalize x 6 = x6 at *
  generalize x 7 = x7 at *
  generalize x 8 = x8 at *
  generalize x 9 = x9 at *
  generalize x 10 = x10 at *
  generalize x 11 = x11 at *
  generalize x 12 = x12 at *
  generalize x 13 = x13 at *
  generalize x 14 = x14 at *
  generalize x 15 = x15 at *
  rw [Hid, hd] at HPR
  replace HPR := Lib.hid HPR
  have HO : Hid (clsV kind (rulesV kind a b) s.data.toList = (classOf (rulesV kind a b) s.data.toList, 0)) := by unfold Hid clsV; rw [if_pos ⟨hkd, hd⟩, if_pos hva]
  rw [Hid, hva] at HVA
  replace HVA := Lib.hid HVA
  rw [Hid, classV_yes hva hd] at HCL
  replace HCL := Lib.hid HCL
  generalize clsV kind (rulesV kind a b) s.data.toList = q at *
  generalize classOf (rulesV kind a b) s.data.toList = cl at *
  clear hkd hd hva
  go_enter Tryz.func16, Tryz.ntmps16
  go_wp2_with fail
  refine (Calls.toExt (HPR.out _ ?_)).mono ?_
  · show Bel w _; repeat (first | exact Bel.refl _ | refine Bel.drew ?_ | refine Bel.drewN ?_ _ | refine Bel.alloc ?_ _ | refine Bel.ext ?_ _)
  rintro e _ ⟨rfl, u1, rfl⟩
  have hx1 : w.heap.size < u1.1.heap.size := by have := u1.2.size; simp at this; omega
  go_wp2_with fail
  refine (Calls.toExt (HRU.out _)).mono ?_
  rintro e _ ⟨rfl, u2, rfl⟩
  go_wp2_with fail
  refine (Calls.toExt (HVA.out _ ?_)).mono ?_
  · show Bel w _; repeat (first | exact Bel.refl _ | refine Bel.drew ?_ | refine Bel.drewN ?_ _ | refine Bel.alloc ?_ _ | refine Bel.ext ?_ _)
  rintro e _ ⟨rfl, u3, rfl⟩
  have hx2 : w.heap.size < u2.1.heap.size := by have := u2.2.size; omega
  have hx3 : w.heap.size < u3.1.heap.size := by have := u3.2.size; omega
  go_wp2_with fail
  refine (Calls.toExt (HRU.out _)).mono ?_
  rintro e _ ⟨rfl, u4, rfl⟩
  go_wp2_with fail
  refine (Calls.toExt (HCL.out _ ?_)).mono ?_
  · show Bel w _; repeat (first | exact Bel.refl _ | refine Bel.drew ?_ | refine Bel.drewN ?_ _ | refine Bel.alloc ?_ _ | refine Bel.ext ?_ _)
  rintro e _ ⟨rfl, u5, rfl⟩
  go_wp2_with fail
  go_ret2
  exact ⟨by rw [HO.out]; rfl, by show Bel w _; repeat (first | exact Bel.refl _ | refine Bel.drew ?_ | refine Bel.drewN ?_ _ | refine Bel.alloc ?_ _ | refine Bel.ext ?_ _)⟩
set_option maxRecDepth 20000 in
set_option maxHeartbeats 8000000 in
theorem cclass_any_no (x : Nat → Value) (a b : List (ByteArray × List (List Rel))) (kind : Int) (s : ByteArray) (w : World) (h : LocC w x a b) (ha : FewC a) (hb : FewC b) (hs : s.size ≤ 1000) (hkd : ¬ (kind = 7 ∨ kind = 8)) :
    Calls Tryz.prog 16 #[.agg #[x 0, x 1, x 2, x 3, x 4, x 5, x 6, x 7, x 8, x 9, x 10, x 11, x 12, x 13, x 14, x 15], .int .i64 kind, .string s] w fun e w' => e = .returned (.tuple #[.string (clsV kind (rulesV kind a b) s.data.toList).1, .int .i64 ((clsV kind (rulesV kind a b) s.data.toList).2 : Nat)]) ∧ Below w.heap.size w w' := by
  have HRU : Hid (∀ W, Calls Tryz.prog 26 #[.agg #[x 0, x 1, x 2, x 3, x 4, x 5, x 6, x 7, x 8, x 9, x 10, x 11, x 12, x 13, x 14, x 15], .int .i64 kind] W fun e w' => e = .returned (valR x kind) ∧ Below W.heap.size W w') := fun W => crules_any x kind W
  have HVA : Hid (∀ W, Below w.heap.size w W → Calls Tryz.prog 25 #[valR x kind] W fun e w' => e = .returned (.bool (validR (rulesV kind a b))) ∧ Below W.heap.size W w') := fun W g => pvalid_any _ _ W ((rules_at h kind).below g) (few_rules ha hb kind)
  have HCL : Hid (∀ W, Below w.heap.size w W → Calls Tryz.prog 39 #[valR x kind, .string s] W fun e w' => e = .returned (.tuple #[.string (classV (rulesV kind a b) s.data.toList).1, .int .i64 ((classV (rulesV kind a b) s.data.toList).2 : Nat)]) ∧ Below W.heap.size W w') := fun W g => pclass_any _ _ s W ((rules_at h kind).below g) (few_rules ha hb kind) hs
  have HPR : Hid (∀ W, Below w.heap.size w W → Calls Tryz.prog 38 #[.agg #[.string ⟨#[]⟩, .int .i64 2, .string s, .int .i64 0, .slice none 0 0]] W fun e w' => e = .returned (.bool (dOk s.data.toList)) ∧ Below W.heap.size W w') := fun W g => by
    have := vproper_any (fun i => (#[.string ⟨#[]⟩, .int .i64 2, .string s, .int .i64 0, .slice none 0 0] : Array Value).getD i undef) ⟨⟨#[]⟩, 2, s, 0, []⟩ W ⟨rfl, Nat.zero_le _, rfl, rfl, Nat.le_trans hs (Nat.le_of_ble_eq_true rfl), rfl, RowsOf.nil W⟩ hs
    rw [show properVl ⟨⟨#[]⟩, 2, s, 0, []⟩ = dOk s.data.toList from by unfold properVl; simp] at this
    exact this
  clear h ha hb hs
  generalize valR x kind = vr at *
  generalize x 0 = x0 at *
  generalize x 1 = x1 at *
  generalize x 2 = x2 at *
  generalize x 3 = x3 at *
  generalize x 4 = x4 at *
  generalize x 5 = x5 at *
  generalize x 6 = x6 at *
  generalize x 7 = x7 at *
  generalize x 8 = x8 at *
  generalize x 9 = x9 at *
  generalize x 10 = x10 at *
  generalize x 11 = x11 at *
  generalize x 12 = x12 at *
  generalize x 13 = x13 at *
  generalize x 14 = x14 at *
  generalize x 15 = x15 at *
  have hk7 : ¬ kind = 7 := fun h => hkd (.inl h)
  have hk8 : ¬ kind = 8 := fun h => hkd (.inr h)
  have e7 : (kind != 7) = true := by simpa using hk7
  have e8 : (kind != 8) = true := by simpa using hk8
  have HO : Hid (clsV kind (rulesV kind a b) s.data.toList = (.empty, 1)) := by unfold Hid clsV; rw [if_neg fun h => hkd h.1]
  generalize clsV kind (rulesV kind a b) s.data.toList = q at *
  clear hkd hk7 hk8
  go_enter Tryz.func16, Tryz.ntmps16
  go_wp2_with fail
  go_ret2
  exact ⟨by rw [HO.out]; rfl, by show Bel w _; repeat (first | exact Bel.refl _ | refine Bel.drew ?_ | refine Bel.drewN ?_ _ | refine Bel.alloc ?_ _ | refine Bel.ext ?_ _)⟩
theorem cclass_any (x : Nat → Value) (a b : List (ByteArray × List (List Rel))) (kind : Int) (s : ByteArray) (w : World) (h : LocC w x a b) (ha : FewC a) (hb : FewC b) (hs : s.size ≤ 1000) :
    Calls Tryz.prog 16 #[.agg #[x 0, x 1, x 2, x 3, x 4, x 5, x 6, x 7, x 8, x 9, x 10, x 11, x 12, x 13, x 14, x 15], .int .i64 kind, .string s] w fun e w' => e = .returned (.tuple #[.string (clsV kind (rulesV kind a b) s.data.toList).1, .int .i64 ((clsV kind (rulesV kind a b) s.data.toList).2 : Nat)]) ∧ Below w.heap.size w w' := by
  by_cases hkd : kind = 7 ∨ kind = 8
  · have hkb : (kind != 7) = false ∨ (kind != 7) = true ∧ (kind != 8) = false := by
      rcases hkd with h | h
      · left; subst h; rfl
      · right; subst h; exact ⟨rfl, rfl⟩
    cases hd : dOk s.data.toList with
    | false => exact hkb.elim (fun e7 => cclass_any_7a x a b kind s w h ha hb hs hkd e7 hd) (fun e => cclass_any_8a x a b kind s w h ha hb hs hkd e.1 e.2 hd)
    | true =>
      cases hva : validR (rulesV kind a b) with
      | false => exact hkb.elim (fun e7 => cclass_any_7b x a b kind s w h ha hb hs hkd e7 hd hva) (fun e => cclass_any_8b x a b kind s w h ha hb hs hkd e.1 e.2 hd hva)
      | true => exact hkb.elim (fun e7 => cclass_any_7c x a b kind s w h ha hb hs hkd e7 hd hva) (fun e => cclass_any_8c x a b kind s w h ha hb hs hkd e.1 e.2 hd hva)
  · exact cclass_any_no x a b kind s w h ha hb hs hkd
end Go.Proofs.YtadhblppeaamlaaGreatDoor
/- Walks: the example of the document. -/
namespace Go.Proofs.YtadhblppeaamlaaGreatDoor
open Go.RowKit
attribute [local go_sem] Ext.cell Ext.frozen
attribute [local go_sem ↓] Go.wp_at_zero Go.wp_at_succ

def locZ (i : Nat) : Value := (#[.string ⟨#[]⟩, .string ⟨#[]⟩, .string ⟨#[]⟩, .slice none 0 0, .slice none 0 0, .string ⟨#[]⟩, .string ⟨#[]⟩, .string ⟨#[]⟩, .string ⟨#[]⟩, .int .i64 0, .int .i64 0, .slice none 0 0, .slice none 0 0, .slice none 0 0, .slice none 0 0, .slice none 0 0] : Array Value).getD i undef
def partZ (B0 : Nat) (i : Nat) : Value := (#[.int .i64 9, .string ⟨#[]⟩, .string ⟨#[103]⟩, .string ⟨#[]⟩, .slice (some ⟨B0, 0, none⟩) 2 2, .slice none 0 0] : Array Value).getD i undef
def valZ (i : Nat) : Value := (#[.string ⟨#[103]⟩, .int .i64 1, .string ⟨#[98]⟩, .int .i64 0, .slice none 0 0] : Array Value).getD i undef
def vlZ : Vl := ⟨⟨#[103]⟩, 1, ⟨#[98]⟩, 0, []⟩
def keysZ : List ByteArray := [⟨#[97]⟩, otherB]
theorem z_first : firstK keysZ (wantV 9 (rulesV 9 [] []) vlZ.tx) = ((1 : Nat) : Int) := by decide
theorem z_suit : suitV 9 vlZ = true := by decide
theorem z_few : FewC [] := fun _ hr => absurd hr List.not_mem_nil
theorem valZ_ok (W : World) : ValC W valZ vlZ := ⟨rfl, by decide, rfl, rfl, by decide, rfl, RowsOf.nil W⟩
theorem choose_awake (B0 B2 : Nat) (w : World) (c0 : w.cell? ⟨B0, 0, none⟩ = some (.string ⟨#[97]⟩)) (c1 : w.cell? ⟨B0, 1, none⟩ = some (.slice none 0 0)) (c2 : w.cell? ⟨B0, 2, none⟩ = some (.string ⟨#[111, 116, 104, 101, 114]⟩)) (c3 : w.cell? ⟨B0, 3, none⟩ = some (.slice none 0 0))
    (v0 : w.cell? ⟨B2, 0, none⟩ = some (.string ⟨#[103]⟩)) (v1 : w.cell? ⟨B2, 1, none⟩ = some (.int .i64 1)) (v2 : w.cell? ⟨B2, 2, none⟩ = some (.string ⟨#[98]⟩)) (v3 : w.cell? ⟨B2, 3, none⟩ = some (.int .i64 0)) (v4 : w.cell? ⟨B2, 4, none⟩ = some (.slice none 0 0)) :
    Calls Tryz.prog 11 #[.agg #[.string ⟨#[]⟩, .string ⟨#[]⟩, .string ⟨#[]⟩, .slice none 0 0, .slice none 0 0, .string ⟨#[]⟩, .string ⟨#[]⟩, .string ⟨#[]⟩, .string ⟨#[]⟩, .int .i64 0, .int .i64 0, .slice none 0 0, .slice none 0 0, .slice none 0 0, .slice none 0 0, .slice none 0 0], .agg #[.int .i64 9, .string ⟨#[]⟩, .string ⟨#[103]⟩, .string ⟨#[]⟩, .slice (some ⟨B0, 0, none⟩) 2 2, .slice none 0 0], .slice (some ⟨B2, 0, none⟩) 1 1] w fun e w' => e = .returned (.tuple #[.int .i64 1, .int .i64 0]) ∧ Below w.heap.size w w' := by
  have hb : B2 < w.heap.size := World.block_lt_of_cell? _ _ v0
  exact choose_yes locZ (partZ B0) valZ [] [] 9 ⟨#[103]⟩ keysZ vlZ (.slice (some ⟨B2, 0, none⟩) 1 1) 1 w ⟨RulesAt.nil w, RulesAt.nil w⟩ rfl rfl
    ⟨some ⟨B0, 0, none⟩, 2, fun i j => (#[#[.string ⟨#[97]⟩, .slice none 0 0], #[.string ⟨#[111, 116, 104, 101, 114]⟩, .slice none 0 0]] : Array (Array Value)).getD i #[] |>.getD j undef, B0, 0, rfl, ⟨by decide, fun _ => rfl, fun i j hi hj => by
      have hi : i < 2 := hi
      rcases (by omega : i = 0 ∨ i = 1) with h | h <;> subst h <;> rcases (by omega : j = 0 ∨ j = 1) with h | h <;> subst h
      · exact c0
      · exact c1
      · exact c2
      · exact c3⟩, (fun h => by cases h), by decide, by decide, fun i x hx => by
      match i, hx with
      | 0, hx => cases hx; exact ⟨rfl, none, 0, 0, rfl⟩
      | 1, hx => cases hx; exact ⟨rfl, none, 0, 0, rfl⟩⟩
    (by decide) (fun W hbW => (get_one B2 ⟨#[103]⟩ ⟨#[98]⟩ 1 0 W ((hbW.cell (p := ⟨B2, 0, none⟩) hb).trans v0) ((hbW.cell (p := ⟨B2, 1, none⟩) hb).trans v1) ((hbW.cell (p := ⟨B2, 2, none⟩) hb).trans v2) ((hbW.cell (p := ⟨B2, 3, none⟩) hb).trans v3) ((hbW.cell (p := ⟨B2, 4, none⟩) hb).trans v4)).mono fun _ w' h => ⟨h.1, h.2, valZ_ok w'⟩) z_few z_few (by decide)
    (by decide) (by decide) z_suit z_first
theorem awake31_any (w : World) : Calls Tryz.prog 9 #[] w fun e w' => e = .returned (.bool true) ∧ Below w.heap.size w w' := by
  have HC := Lib.hid choose_awake
  go_enter Tryz.func9, Tryz.ntmps9
  go_wp2_with fail
  refine (HC.out _ _ _ ?_ ?_ ?_ ?_ ?_ ?_ ?_ ?_ ?_).mono ?_
  iterate 9 (· simp [go_sem])
  rintro e w' ⟨rfl, hb⟩
  have HB : Hid (Below w.heap.size w w') := Below.trans (by show Bel w _; repeat (first | exact Bel.refl _ | refine Bel.alloc ?_ _)) (hb.mono (by simp; omega))
  clear hb
  go_wp2_with fail
  go_ret
  exact ⟨rfl, HB.out⟩
end Go.Proofs.YtadhblppeaamlaaGreatDoor
/- ChooseMore: laws, and the text of its parts. -/
namespace Go.Proofs.YtadhblppeaamlaaGreatDoor
open Go.RowKit
attribute [local go_sem] Ext.cell Ext.frozen
attribute [local go_sem ↓] Go.wp_at_zero Go.wp_at_succ
theorem case_one {w : World} {x : Nat → Value} {s : ByteArray} (h : CaseC w x s) : ∀ j, j < 2 → (x j).oneCell' = true := by
  obtain ⟨e0, a, m, c, e1⟩ := h
  intro j hj
  rcases (by omega : j = 0 ∨ j = 1) with e | e <;> subst e
  · rw [e0]; rfl
  · rw [e1]; rfl
theorem wpAnyH_world {P : Program} {md : Region.Mode} {ops : Array Oper} {Q : Exit → Act → World → Prop} {S : World → Prop} {g : Nat} {L : Array Bool} {a : Act} {w : World} (h : ∀ W, W = w → wpAnyH P md ops Q S g L a W) : wpAnyH P md ops Q S g L a w := h w rfl
theorem cast_own {w : World} {base sz : Nat} {E : TypeId} {ad : Option Addr} {c n m : Nat} {xs ys : List Value} (hn : n = m) (hx : xs = ys) (h : w.ownsRow base E sz (.slice ad n c) n xs) : w.ownsRow base E sz (.slice ad m c) m ys := by
  subst hn
  subst hx
  exact h
theorem more_rows {W w : World} {base n : Nat} {ad : Option Addr} {c : Nat} {cf : Nat → Nat → Value} {keys : List ByteArray} {a1 : ByteArray} (hn : keys.length = n) (hl : n + 1 ≤ 140737488351232) (hcf : ∀ i x, keys[i]? = some x → CaseC w (cf i) x)
    (h : W.ownsRow base 44 2 (.slice ad (n + 1) c) (n + 1) (flat 2 (fun i j => if i < n then cf i j else (#[.string a1, .slice none 0 0] : Array Value).getD j undef) (n + 1))) : RowsOf 2 CaseC W (.slice ad (n + 1) c) (keys ++ [a1]) := by
  obtain ⟨b, hr, hz, hc, _⟩ := own_rw h
  have hlen : (keys ++ [a1]).length = n + 1 := by rw [List.length_append, hn]; rfl
  refine ⟨ad, c, _, b, 0, by rw [hlen], by rw [hlen]; exact hr, hz, by rw [hlen]; exact hc, by rw [hlen]; omega, fun i x hx => ?_⟩
  have hi : i < n + 1 := by
    have := (List.getElem?_eq_some_iff.1 hx).1
    rwa [hlen] at this
  by_cases hin : i < n
  · rw [List.getElem?_append_left (by omega)] at hx
    have := hcf i x hx
    show CaseC W (fun j => if i < n then cf i j else (#[.string a1, .slice none 0 0] : Array Value).getD j undef) x
    rw [show (fun j => if i < n then cf i j else (#[.string a1, .slice none 0 0] : Array Value).getD j undef) = cf i from funext fun j => if_pos hin]
    exact this
  · obtain rfl : i = n := by omega
    rw [List.getElem?_append_right (by omega), hn, Nat.sub_self] at hx
    simp only [List.getElem?_cons_zero, Option.some.injEq] at hx
    subst hx
    show CaseC W (fun j => if i < i then cf i j else (#[.string a1, .slice none 0 0] : Array Value).getD j undef) a1
    rw [show (fun j => if i < i then cf i j else (#[.string a1, .slice none 0 0] : Array Value).getD j undef) = (fun j => (#[.string a1, .slice none 0 0] : Array Value).getD j undef) from funext fun j => if_neg (Nat.lt_irrefl _)]
    exact ⟨rfl, none, 0, 0, rfl⟩
/-- the text of a function from a region on -/
def fromReg (n : Nat) : Code → Code
  | .seq a b => match a with
    | .region k _ _ => if k = n then .seq a b else fromReg n b
    | .seq (.region k _ _) _ => if k = n then .seq a b else fromReg n b
    | _ => fromReg n b
  | c => c
noncomputable def moreC (n : Nat) : Code := fromReg n ((Tryz.f5.body).getD .skip)
end Go.Proofs.YtadhblppeaamlaaGreatDoor
