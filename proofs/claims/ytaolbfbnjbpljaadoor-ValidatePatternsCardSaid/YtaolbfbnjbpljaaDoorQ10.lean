/- Walk: strings.IndexRune in the two braces, of a rune that is no byte below 128. -/
import Derived.Test.YtaolbfbnjbpljaaDoorQ08
import Derived.Test.YtaolbfbnjbpljaaDoorQ09
import Derived.Laws.RangeString
import Derived.Scope
import Derived.WalkMore
import Derived.Deep.DeepCutAuto
import Derived.Laws.RangeAny
import Derived.Lib.MapLaws
import Derived.Deep.QuietTactic
import Derived.BigQuiet
namespace Go.Proofs.YtaolbfbnjbpljaaDoor
open Go.RowKit
attribute [local go_sem] Ext.cell Ext.frozen
attribute [local go_sem ↓] Go.wp_at_zero Go.wp_at_succ
theorem enc_facts {r : Nat} (h : 128 ≤ r) (hv : Utf8.valid (r : Int) = true) : ∃ (E : ByteArray) (m : Nat) (x : UInt8), Utf8.encode (r : Int) = E ∧ E.size = m + 1 ∧ 1 ≤ m ∧ m ≤ 3 ∧ (∀ g : m < E.size, E[m]'g = x) ∧ 128 ≤ x.toNat := by
  unfold Utf8.encode
  rw [if_pos hv]
  simp only [Int.toNat_natCast]
  have hr : r ≤ 1114111 := by
    unfold Utf8.valid at hv
    simp only [Bool.and_eq_true, Bool.or_eq_true, decide_eq_true_eq] at hv
    omega
  have hx : ∀ n, 128 ≤ n → n < 256 → 128 ≤ (UInt8.ofNat n).toNat := fun n h1 h2 => by rw [UInt8.toNat_ofNat_of_lt' (by exact h2)]; exact h1
  rw [if_neg (by omega)]
  split
  · exact ⟨_, 1, _, rfl, rfl, by omega, by omega, fun g => rfl, hx _ (by omega) (by omega)⟩
  · split
    · exact ⟨_, 2, _, rfl, rfl, by omega, by omega, fun g => rfl, hx _ (by omega) (by omega)⟩
    · exact ⟨_, 3, _, rfl, rfl, by omega, by omega, fun g => rfl, hx _ (by omega) (by omega)⟩
theorem cvRune (r : Int) (W : World) : (convert 21 9 (.int .i32 r)).run Tryd.prog W = .ok (.string (Utf8.encode r)) W := by
  simp [convert, go_sem]
  rfl
set_option maxRecDepth 20000 in
theorem validrune_any (r : Nat) (w : World) (h : Utf8.valid (r : Int) = true) : Calls Tryd.prog 109 #[.int .i32 (r : Int)] w fun e w' => e = .returned (.bool true) ∧ w = w' := by
  unfold Utf8.valid at h
  simp only [Bool.and_eq_true, Bool.or_eq_true, decide_eq_true_eq] at h
  have g0 : (0 : Int) ≤ (r : Int) := by omega
  by_cases h1 : (r : Int) < 55296
  · go_enter Tryd.func109, Tryd.ntmps109
    go_wp2_with fail
    go_ret
    exact ⟨rfl, rfl⟩
  · have h2 : 57343 < (r : Int) := by omega
    have h3 : (r : Int) ≤ 1114111 := by omega
    go_enter Tryd.func109, Tryd.ntmps109
    go_wp2_with fail
    go_ret
    exact ⟨rfl, rfl⟩
set_option maxRecDepth 20000 in
set_option maxHeartbeats 4000000 in
theorem irune_any (r : Nat) (h : 128 ≤ r) (hv : Utf8.valid (r : Int) = true) (w : World) : Calls Tryd.prog 85 #[.string ⟨#[123, 125]⟩, .int .i32 (r : Int)] w fun e w' => e = .returned (.int .i64 (-1)) ∧ Below w.heap.size w w' := by
  obtain ⟨S, hS⟩ : ∃ S : ByteArray, (⟨#[123, 125]⟩ : ByteArray) = S := ⟨_, rfl⟩
  have hS2 : S.size = 2 := by rw [← hS]; rfl
  have hs0 : ∀ g : 0 < S.size, S[0]'g = (123 : UInt8) := by rw [← hS]; intro g; rfl
  have hs1 : ∀ g : 1 < S.size, S[1]'g = (125 : UInt8) := by rw [← hS]; intro g; rfl
  have hex : S.extract 2 S.size = ⟨#[]⟩ := by rw [← hS]; rfl
  rw [hS]
  clear hS
  have g0 : (0 : Int) ≤ (r : Int) := by omega
  have g1 : ¬ (r : Int) < 128 := by omega
  by_cases hE : r = 65533
  · subst hE
    go_enter Tryd.func85, Tryd.ntmps85
    go_wp2_with fail
    go_loopw [5, 6] (fun _ _ wr => ∃ i : Nat, i ≤ 2 ∧ wr = w.iter S i) (fun _ _ wr => 2 - wr.iterPos w.heap.size)
    case atStart => exact ⟨0, by omega, rfl⟩
    case round =>
      obtain ⟨i, hi, rfl⟩ := hrel
      have hi3 : i = 0 ∨ i = 1 ∨ i = 2 := by omega
      rcases hi3 with rfl | rfl | rfl
      · have hnx : ∀ ty, (Instr.next (.pointer (some ⟨w.heap.size, 0, none⟩)) true ty).run Tryd.prog (w.iter S 0) = .ok (.tuple #[.bool true, .int .i64 0, .int .i32 123]) (w.iter S 1) := fun ty => by
          have := run_next_ascii (P := Tryd.prog) w S 0 ty (by omega) (by rw [hs0]; decide)
          rw [hs0] at this
          exact this
        go_wp2_with fail
        go_roundw
        case rel => exact ⟨1, by omega, rfl⟩
        case measure => simp
      · have hnx : ∀ ty, (Instr.next (.pointer (some ⟨w.heap.size, 0, none⟩)) true ty).run Tryd.prog (w.iter S 1) = .ok (.tuple #[.bool true, .int .i64 1, .int .i32 125]) (w.iter S 2) := fun ty => by
          have := run_next_ascii (P := Tryd.prog) w S 1 ty (by omega) (by rw [hs1]; decide)
          rw [hs1] at this
          exact this
        go_wp2_with fail
        go_roundw
        case rel => exact ⟨2, by omega, rfl⟩
        case measure => simp
      · have hne := fun ty => run_next_end (P := Tryd.prog) w S 2 ty (by omega)
        go_wp2_with fail
        go_ret
        exact ⟨rfl, (Below.refl _ _).alloc (Nat.le_refl _) _⟩
  · have gE : ((r : Int) == 65533) = false := by rw [beq_eq_false_iff_ne]; omega
    have HVR := Lib.hid (fun w => validrune_any r w hv)
    obtain ⟨E, m, x, hE1, hE2, hm1, hm3, hEx, hx⟩ := enc_facts h hv
    have hcv : ∀ W, (convert 21 9 (.int .i32 (r : Int))).run Tryd.prog W = .ok (.string E) W := fun W => by rw [cvRune, hE1]
    have hmE : m < E.size := by omega
    have HIB : Hid (∀ w, Calls Tryd.prog 108 #[.string ⟨#[]⟩, .int .u8 (x.toNat : Int)] w fun e w' => e = .returned (.int .i64 (-1)) ∧ w = w') := fun w => (Tryd.strings_IndexByte ⟨#[]⟩ (x.toNat : Int) w).mono fun e w' h => ⟨h.1, h.2.symm⟩
    have hEs : (E.size : Int) - 1 = (m : Int) := by omega
    have hnx : ((125 : Int) == (x.toNat : Int)) = false := by rw [beq_eq_false_iff_ne]; omega
    have hnx2 : ((125 : Int) != (x.toNat : Int)) = true := by unfold bne; rw [hnx]; rfl
    have hxz := x.toNat_lt
    clear hE1
    go_enter Tryd.func85, Tryd.ntmps85
    go_wp2_with fail
    refine (HVR.out _).mono ?_
    rintro e _ ⟨rfl, rfl⟩
    go_wp2_with fail
    refine wp_scope_straight ?_
    go_wp2_with fail
    go_loopw [9] (fun v wr => v = .int .i64 (m : Int) ∧ wr = w) (fun _ _ => 0)
    case atStart => exact ⟨rfl, rfl⟩
    case round =>
      obtain ⟨rfl, rfl⟩ := hrel
      by_cases hm : m = 1
      · subst hm
        go_wp2_with fail
        (repeat (first | refine wp_scope_straight ?_ | refine wp_seq ?_))
        refine wp_region_ext (by kernel_rfl) (by kernel_rfl) ?_
        repeat (go_big_quiet_step (fail))
        refine wpQuiet_nil ?_
        intro _ hw'
        obtain ⟨X8, hw''⟩ := hw'
        subst hw''
        have HX8 := Lib.hid X8.2
        go_wp2_with fail
        (repeat (first | refine wp_scope_straight ?_ | refine wp_seq ?_))
        refine wp_region_ext (by kernel_rfl) (by kernel_rfl) ?_
        repeat (go_big_quiet_step ((go_at_call 108; exact Calls.ext_same (HIB.out _))))
        refine wpQuiet_nil ?_
        intro _ hw'
        obtain ⟨X9, hw''⟩ := hw'
        subst hw''
        have HX9 : Hid (Below wr.heap.size wr X9.1) := HX8.out.trans (X9.2.mono HX8.out.size)
        go_wp2_with fail
        dsimp (config := { zetaDelta := true }) only [Exit.noGoto, Exit.inBlock, Exit.then]
        go_ret
        exact ⟨rfl, HX9.out⟩
      · have hm2 : ¬ (m : Int) < 2 := by omega
        go_wp2_with fail
        go_ret
        exact ⟨rfl, Below.refl _ _⟩
end Go.Proofs.YtaolbfbnjbpljaaDoor
