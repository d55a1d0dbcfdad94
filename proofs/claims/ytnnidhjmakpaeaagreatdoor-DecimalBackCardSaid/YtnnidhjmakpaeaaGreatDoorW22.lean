/- Walks: comparing the absolute values of two numbers. -/
import Derived.Test.YtnnidhjmakpaeaaGreatDoorW21
import Derived.Test.YtnnidhjmakpaeaaGreatDoorR
namespace Go.Proofs.YtnnidhjmakpaeaaGreatDoor
open Go.RowKit
attribute [local go_sem] Ext.cell Ext.frozen
attribute [local go_sem ↓] Go.wp_at_zero Go.wp_at_succ

theorem orI_size (w f v g : List UInt8) : orI (cmpI w.length v.length) (cmpL w v) (cmpL (fillD f (max f.length g.length)) (fillD g (max f.length g.length))) = sizeD w f v g := by
  unfold orI sizeD
  rcases Nat.lt_trichotomy w.length v.length with h | h | h
  · have e : cmpI (w.length : Int) (v.length : Int) = -1 := by unfold cmpI; rw [if_pos (by omega)]
    rw [e, if_pos (by decide), if_pos h]
  · have e : cmpI (w.length : Int) (v.length : Int) = 0 := by unfold cmpI; rw [if_neg (by omega), if_pos (by omega)]
    have hx : ¬ w.length < v.length := by omega
    have hy : ¬ v.length < w.length := by omega
    rw [e, if_neg (show ¬ ((0 : Int) ≠ 0) by decide), if_neg hx, if_neg hy]
    by_cases h2 : cmpL w v = 0
    · rw [if_neg (show ¬ (cmpL w v ≠ 0) by simpa using h2), if_pos h2]
    · rw [if_pos h2, if_neg h2]
  · have e : cmpI (w.length : Int) (v.length : Int) = 1 := by unfold cmpI; rw [if_neg (by omega), if_neg (by omega)]
    rw [e, if_pos (by decide), if_neg (by omega), if_pos h]

set_option maxRecDepth 20000 in
set_option maxHeartbeats 8000000 in
theorem size_any (n1 n2 : Bool) (a f b g : ByteArray) (w : World) (_ha : a.size ≤ 1000) (hf : f.size ≤ 1000) (_hb : b.size ≤ 1000) (hg : g.size ≤ 1000) :
    Calls Tryz.prog 17 #[.agg #[.bool n1, .string a, .string f], .agg #[.bool n2, .string b, .string g]] w fun e w' => e = .returned (.int .i64 (sizeD a.data.toList f.data.toList b.data.toList g.data.toList)) ∧ Below w.heap.size w w' := by
  have hmf : ∀ (fn : Fn) (first cap : Array Value) (w : World), (Instr.makeFunc fn first cap).run Tryz.prog w = .ok (.func fn first cap) w := fun _ _ _ _ => rfl
  obtain ⟨n, hn⟩ : ∃ n : Nat, max f.size g.size = n := ⟨_, rfl⟩
  have hmx : max (f.size : Int) (g.size : Int) = (n : Int) := by omega
  have HFF := Lib.hid (fun p w h => fill_any f n p w h (by omega) (by omega))
  have HFG := Lib.hid (fun p w h => fill_any g n p w h (by omega) (by omega))
  have HI := Lib.hid (fun w => cmpInt_any a.size b.size w)
  have HS := Lib.hid (fun w => cmpStr_any a b w)
  have HL := Lib.hid (fun w => cmpStr_any (bs (fillD f.data.toList n)) (bs (fillD g.data.toList n)) w)
  have HO := Lib.hid (orI_size a.data.toList f.data.toList b.data.toList g.data.toList)
  rw [size_len, size_len, size_len, size_len, hn] at HO
  rw [bs_data, bs_data] at HL
  clear hn
  generalize bs (fillD f.data.toList n) = ff at *
  generalize bs (fillD g.data.toList n) = gg at *
  generalize cmpL (fillD f.data.toList n) (fillD g.data.toList n) = c3 at *
  generalize cmpL a.data.toList b.data.toList = c2 at *
  generalize cmpI a.size b.size = c1 at *
  rw [← HO.out]
  clear HO
  have HOR := Lib.hid (fun D w h0 h1 h2 => or_any c1 c2 c3 D w h0 h1 h2)
  generalize orI c1 c2 c3 = res at *
  go_enter Tryz.func17, Tryz.ntmps17
  go_wp2_with fail
  refine wp_region_ext_tail 21 (by kernel_rfl) (by kernel_rfl) ?_
  simp only [List.take_succ_cons, List.take_zero, List.drop_succ_cons, List.drop_zero]
  repeat (go_big_quiet_step (first
    | (go_at_call 33; exact Calls.ext_same (HI.out _))
    | (go_at_call 34; (first | ((with_reducible refine Calls.ext_same (HS.out _))) | ((with_reducible refine Calls.ext_same (HL.out _)))))
    | (go_at_call 31; (first | ((with_reducible refine Calls.ext (HFF.out _ _ ?_)); simp [go_sem]) | ((with_reducible refine Calls.ext (HFG.out _ _ ?_)); simp [go_sem])))))
  refine wpQuiet_nil ?_
  intro _ hw'
  obtain ⟨y, hw''⟩ := hw'
  subst hw''
  have hzy : w.heap.size ≤ y.1.heap.size := by have := y.2.size; (try simp at this); omega
  go_wp2_with fail
  refine (HOR.out _ _ ?_ ?_ ?_).mono ?_
  · simp [go_sem]
  · simp [go_sem]
  · simp [go_sem]
  rintro e _ ⟨rfl, rfl⟩
  go_wp2_with fail
  go_ret
  exact ⟨rfl, by (show Bel w _; (repeat (first | exact Bel.refl _ | refine Bel.ext ?_ _ | refine Bel.alloc ?_ _ | refine Bel.drewN ?_ _ | refine Bel.drew ?_ | refine Bel.setCell ?_ _ _ ?_ | exact Nat.le_refl _ | (simp; done) | omega | (simp <;> omega))))⟩
end Go.Proofs.YtnnidhjmakpaeaaGreatDoor
