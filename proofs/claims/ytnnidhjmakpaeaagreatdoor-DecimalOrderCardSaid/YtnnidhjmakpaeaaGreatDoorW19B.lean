/- Walks: Round by the program: digits are cut off. -/
import Derived.Test.YtnnidhjmakpaeaaGreatDoorW19
namespace Go.Proofs.YtnnidhjmakpaeaaGreatDoor
open Go.RowKit
attribute [local go_sem] Ext.cell Ext.frozen
attribute [local go_sem ↓] Go.wp_at_zero Go.wp_at_succ

set_option maxRecDepth 20000 in
set_option maxHeartbeats 16000000 in
theorem round_cut (s : ByteArray) (n : Nat) (w : World) (hs : s.size ≤ 1000) (ho : dOk s.data.toList = true) (hn : n ≤ 6) (hj : n < (dFrac s.data.toList).length) :
    Calls Tryz.prog 15 #[.string s, .int .i64 (n : Int)] w fun e w' => e = .returned (.tuple #[.string (bs (roundD s.data.toList (n : Int)).1), .int .i64 ((roundD s.data.toList (n : Int)).2 : Nat)]) ∧ Below w.heap.size w w' := by
  have HS := Lib.hid (fun w => split_any s w hs)
  obtain ⟨ha, hf, _, _, h1⟩ := split_ok_facts ho
  obtain ⟨hc1, hc2, hc3⟩ := cut_facts (dWhole s.data.toList) (dFrac s.data.toList) n hj
  have HO : Hid (roundD s.data.toList (n : Int) = permD (dNeg s.data.toList) ((roundA (dWhole s.data.toList) (dFrac s.data.toList) n).take ((roundA (dWhole s.data.toList) (dFrac s.data.toList) n).length - n)) ((roundA (dWhole s.data.toList) (dFrac s.data.toList) n).drop ((roundA (dWhole s.data.toList) (dFrac s.data.toList) n).length - n))) := by
    unfold Hid roundD
    rw [if_neg (by rw [ho]; simp), if_neg (by omega), if_neg (by omega), Int.toNat_natCast]
  rw [ho] at HS
  clear ho
  rw [bs_size] at ha h1
  have HUP := Lib.hid (fun h => roundA_up (W := dWhole s.data.toList) (F := dFrac s.data.toList) hj h)
  have HNO := Lib.hid (fun h => roundA_no (W := dWhole s.data.toList) (F := dFrac s.data.toList) hj h)
  generalize dNeg s.data.toList = ng at *
  generalize dWhole s.data.toList = W at *
  generalize dFrac s.data.toList = F at *
  have hfs : (bs F).size = F.length := bs_size F
  have has : (bs W).size = W.length := bs_size W
  have hjf : n < (bs F).size := by omega
  have hgt : (bs F)[n] = F[n] := rfl
  obtain ⟨m, hm⟩ : ∃ m, (roundA W F n).length - n = m := ⟨_, rfl⟩
  have hals : (bs (roundA W F n)).size = m + n := by rw [bs_size]; omega
  have hm40 : m + n ≤ 40 := by omega
  rw [hm] at HO
  have hx1 : ((bs (roundA W F n)).extract 0 m).data.toList = (roundA W F n).take m := by rw [ext_data, bs_data, List.drop_zero]
  have hx2 : ((bs (roundA W F n)).extract m (m + n)).data.toList = (roundA W F n).drop m := by
    rw [ext_data, bs_data, List.take_of_length_le (by rw [bs_size] at hals; omega)]
  rw [← hx1, ← hx2] at HO
  have HP := Lib.hid (fun w => permitted_any ng ((bs (roundA W F n)).extract 0 m) ((bs (roundA W F n)).extract m (m + n)) w (by rw [ByteArray.size_extract]; omega) (by rw [ByteArray.size_extract]; omega))
  generalize permD ng ((bs (roundA W F n)).extract 0 m).data.toList ((bs (roundA W F n)).extract m (m + n)).data.toList = pv at *
  have HI := Lib.hid (fun w => increased_any (bs W ++ (bs F).extract 0 n) w (by rw [ByteArray.size_append, ByteArray.size_extract]; omega))
  have hcat : (bs W ++ (bs F).extract 0 n).data.toList = W ++ F.take n := by rw [app_data, ext_data, bs_data, bs_data, List.drop_zero]
  rw [hcat] at HI
  have HUP2 : Hid (53 ≤ (bs F)[n].toNat → bs (incD (W ++ F.take n)) = bs (roundA W F n)) := fun h => by rw [HUP.out h]
  have HNO2 : Hid (¬ 53 ≤ (bs F)[n].toNat → bs W ++ (bs F).extract 0 n = bs (roundA W F n)) := fun h => by rw [HNO.out h]; exact ba_eq hcat
  clear HUP HNO hcat hx1 hx2 hgt hm hc1 hc2 hc3
  generalize bs (incD (W ++ F.take n)) = inc at *
  generalize bs (roundA W F n) = al at *
  generalize bs W = a at *
  generalize bs F = f at *
  have hn2 : ¬ (n : Int) < 0 := by omega
  have hn3 : ¬ 6 < (n : Int) := by omega
  have hn4 : ¬ (f.size : Int) ≤ (n : Int) := by omega
  have hn5 : (0 : Int) ≤ (n : Int) := by omega
  have hn6 : (n : Int) < (f.size : Int) := by omega
  have hn7 : (n : Int) ≤ (f.size : Int) := by omega
  have ha30 : a.size ≤ 30 := by omega
  obtain ⟨b0, hb0, hbs⟩ : ∃ b0, a ++ f.extract 0 n = b0 ∧ b0.size ≤ 40 := ⟨_, rfl, by rw [ByteArray.size_append, ByteArray.size_extract]; omega⟩
  have hk1 : ((m + n : Nat) : Int) - (n : Int) = (m : Int) := by omega
  have hwr : IntKind.i64.wrap (m : Int) = (m : Int) := by rw [IntKind.wrap_i64]; omega
  have hk2 : (0 : Int) ≤ (m : Int) := by omega
  have hk3 : (m : Int) ≤ (m : Int) + (n : Int) := by omega
  have hk4 : (m : Int) + (n : Int) - (n : Int) = (m : Int) := by omega
  rw [hb0] at HI
  clear hfs has hj hs ha
  by_cases h5 : 53 ≤ f[n].toNat
  · have he := HUP2.out h5
    subst he
    have h50 : (53 : Int) ≤ (f[n].toNat : Int) := by omega
    clear HUP2 HNO2 h5
    go_enter Tryz.func15, Tryz.ntmps15
    go_wp2_with fail
    refine (Calls.toExt (HS.out _)).mono ?_
    rintro e _ ⟨rfl, x, rfl⟩
    have hxw : w.heap.size ≤ x.1.heap.size := by have := x.2.size; (try simp at this); omega
    go_wp2_with fail
    refine wp_region_ext (by kernel_rfl) (by kernel_rfl) ?_
    repeat (go_big_quiet_step (fail))
    refine wpQuiet_nil ?_
    intro _ hw'
    obtain ⟨x9, hw''⟩ := hw'
    subst hw''
    have hx9 : x.1.heap.size < x9.1.heap.size := by have := x9.2.size; (try simp at this); omega
    all_goals
      go_wp2_with fail
      refine (Calls.toExt (HI.out _)).mono ?_
      rintro e _ ⟨rfl, y, rfl⟩
      have hxy : x.1.heap.size < y.1.heap.size := by have := y.2.size; (try simp at this); omega
      go_wp2_with fail
      go_region_with fail
      all_goals
        go_wp2_with fail
        refine (Calls.toExt (HP.out _)).mono ?_
        rintro e _ ⟨rfl, u, rfl⟩
        go_wp2_with fail
        go_ret2
        exact ⟨by rw [HO.out]; rfl, by (show Bel w _; (repeat (first | exact Bel.refl _ | refine Bel.ext ?_ _ | refine Bel.alloc ?_ _ | refine Bel.drewN ?_ _ | refine Bel.drew ?_ | refine Bel.setCell ?_ _ _ ?_ | exact Nat.le_refl _ | (simp; done) | omega | (simp <;> omega))))⟩
  · have he := HNO2.out h5
    rw [hb0] at he
    subst he
    have h50 : ¬ (53 : Int) ≤ (f[n].toNat : Int) := by omega
    clear HUP2 HNO2 h5
    go_enter Tryz.func15, Tryz.ntmps15
    go_wp2_with fail
    refine (Calls.toExt (HS.out _)).mono ?_
    rintro e _ ⟨rfl, x, rfl⟩
    have hxw : w.heap.size ≤ x.1.heap.size := by have := x.2.size; (try simp at this); omega
    go_wp2_with fail
    refine wp_region_ext (by kernel_rfl) (by kernel_rfl) ?_
    repeat (go_big_quiet_step (fail))
    refine wpQuiet_nil ?_
    intro _ hw'
    obtain ⟨x9, hw''⟩ := hw'
    subst hw''
    have hx9 : x.1.heap.size < x9.1.heap.size := by have := x9.2.size; (try simp at this); omega
    all_goals
      go_wp2_with fail
      go_region_with fail
      all_goals
        go_wp2_with fail
        refine (Calls.toExt (HP.out _)).mono ?_
        rintro e _ ⟨rfl, u, rfl⟩
        go_wp2_with fail
        go_ret2
        exact ⟨by rw [HO.out]; rfl, by (show Bel w _; (repeat (first | exact Bel.refl _ | refine Bel.ext ?_ _ | refine Bel.alloc ?_ _ | refine Bel.drewN ?_ _ | refine Bel.drew ?_ | refine Bel.setCell ?_ _ _ ?_ | exact Nat.le_refl _ | (simp; done) | omega | (simp <;> omega))))⟩
theorem round_any (s : ByteArray) (n0 : Int) (w : World) (hs : s.size ≤ 1000) :
    Calls Tryz.prog 15 #[.string s, .int .i64 n0] w fun e w' => e = .returned (.tuple #[.string (bs (roundD s.data.toList n0).1), .int .i64 ((roundD s.data.toList n0).2 : Nat)]) ∧ Below w.heap.size w w' := by
  cases ho : dOk s.data.toList with
  | false => exact round_no s n0 w hs ho
  | true =>
    by_cases h1 : n0 < 0
    · exact round_low s n0 w hs ho h1
    · by_cases h2 : 6 < n0
      · exact round_high s n0 w hs ho h2
      · by_cases h3 : ((bs (dFrac s.data.toList)).size : Int) ≤ n0
        · exact round_pad s n0 (n0 - ((bs (dFrac s.data.toList)).size : Int)).toNat w hs ho (by omega) (by omega)
        · obtain ⟨n, rfl⟩ : ∃ n : Nat, n0 = (n : Int) := ⟨n0.toNat, by omega⟩
          rw [bs_size] at h3
          exact round_cut s n w hs ho (by omega) (by omega)
end Go.Proofs.YtnnidhjmakpaeaaGreatDoor
