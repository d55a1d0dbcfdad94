/- Walks over a condition in the reference. -/
import Derived.Test.YtadhblppeaamlaaGreatDoorSD
import Derived.Test.YtadhblppeaamlaaGreatDoorSG
namespace Go.Proofs.YtadhblppeaamlaaGreatDoor
open Go.RowKit
attribute [local go_sem] Ext.cell Ext.frozen
attribute [local go_sem ↓] Go.wp_at_zero Go.wp_at_succ

/-- a truth value, the world as it was; if it is true, P holds -/
def BoolIf (w : World) (P : Prop) (e : Ending) (w' : World) : Prop := ∃ q : Bool, e = .returned (.bool q) ∧ w = w' ∧ (q = true → P)
theorem insideV_hit {l : List (Int × Int)} {n : Int} {k : Nat} (hk : k < l.length) (h1 : (l.getD k (0, 0)).1 ≤ n) (h2 : n ≤ (l.getD k (0, 0)).2) : insideV l n = true := by
  unfold insideV; exact any_getD (0, 0) hk (by rw [Bool.and_eq_true, decide_eq_true_eq, decide_eq_true_eq]; exact ⟨h1, h2⟩)
theorem insideV_miss {l : List (Int × Int)} {n : Int} (h : ∀ i, i < l.length → ¬ ((l.getD i (0, 0)).1 ≤ n ∧ n ≤ (l.getD i (0, 0)).2)) : insideV l n = false := by
  unfold insideV
  refine any_not (0, 0) fun i hi => ?_
  rw [← Bool.not_eq_true, Bool.and_eq_true, decide_eq_true_eq, decide_eq_true_eq]
  exact h i hi
set_option maxRecDepth 20000 in
theorem rinside_any (v : Value) (l : List (Int × Int)) (z : Int) (w : World) (h : RowsOf 2 SpanC w v l) : Calls Tryz.prog 97 #[v, .int .i64 z] w fun e w' => e = .returned (.bool (insideV l z)) ∧ w = w' := by
  obtain ⟨ad, c, f, b, off, rfl, hr, _, _, _, hf⟩ := h
  obtain ⟨n, hn⟩ : ∃ n, l.length = n := ⟨_, rfl⟩
  rw [hn] at hr ⊢
  have hnm := hr.max
  have HN := Lib.hid hn
  have HR := Lib.hid hr
  have HF := Lib.hid hf
  clear hr hf hn
  obtain ⟨q, hq⟩ : ∃ q, insideV l z = q := ⟨_, rfl⟩
  rw [hq]
  have HQ := Lib.hid hq
  clear hq
  go_enter Tryz.func97, Tryz.ntmps97
  go_wp2_with fail
  go_loop [5] (fun v => ∃ k : Nat, v = .int .i64 (k : Int) ∧ k ≤ n ∧ (∀ i, i < k → ¬ ((l.getD i (0, 0)).1 ≤ z ∧ z ≤ (l.getD i (0, 0)).2))) (fun v => n - (intOf v).toNat)
  case atStart => exact ⟨0, rfl, Nat.zero_le _, fun i hi => absurd hi (Nat.not_lt_zero _)⟩
  case round =>
    obtain ⟨k, rfl, hkn, hal⟩ := hrel
    have HAL := Lib.hid hal
    clear hal
    by_cases hlt : k < n
    · have hix := fun W => HR.out.ix 91 90 Tryz.underlying91 (by kernel_rfl) (by omega) hlt c W
      have hk0 : k < l.length := by rw [HN.out]; exact hlt
      have c0 : w.cell? ⟨b, off + k * 2, none⟩ = some (f k 0) := HR.out.cell k 0 hlt (by omega)
      have c1 : w.cell? ⟨b, off + k * 2 + 1, none⟩ = some (f k 1) := HR.out.cell k 1 hlt (by omega)
      obtain ⟨f0, f1⟩ := RowsOf.get HF.out hk0 (0, 0)
      rw [f0] at c0
      rw [f1] at c1
      have HHIT : Hid ((l.getD k (0, 0)).1 ≤ z → z ≤ (l.getD k (0, 0)).2 → q = true) := fun h1 h2 => HQ.out.symm.trans (insideV_hit hk0 h1 h2)
      have HMISS : Hid (¬ ((l.getD k (0, 0)).1 ≤ z ∧ z ≤ (l.getD k (0, 0)).2) → ∀ i, i < k + 1 → ¬ ((l.getD i (0, 0)).1 ≤ z ∧ z ≤ (l.getD i (0, 0)).2)) := fun h i hi => by
        by_cases e : i = k
        · subst e; exact h
        · exact HAL.out i (by omega)
      clear f0 f1 hk0
      generalize l.getD k (0, 0) = s at *
      obtain ⟨a, t⟩ := s
      simp only at c0 c1 HHIT HMISS
      by_cases q1 : a ≤ z
      · by_cases q2 : z ≤ t
        · have HO := Lib.hid (HHIT.out q1 q2)
          clear HHIT HMISS
          go_wp2_with fail
          go_ret
          exact ⟨by rw [HO.out]; rfl, rfl⟩
        · have HO := Lib.hid (HMISS.out fun h => q2 h.2)
          clear HHIT HMISS
          go_wp2_with fail
          go_round
          case rel => exact ⟨k + 1, by go_num, by omega, HO.out⟩
          case measure => simp [intOf]; omega
      · have HO := Lib.hid (HMISS.out fun h => q1 h.1)
        clear HHIT HMISS
        go_wp2_with fail
        go_round
        case rel => exact ⟨k + 1, by go_num, by omega, HO.out⟩
        case measure => simp [intOf]; omega
    · obtain rfl : k = n := by omega
      have HO : Hid (q = false) := HQ.out.symm.trans (insideV_miss (by rw [HN.out]; exact HAL.out))
      go_wp2_with fail
      go_ret
      exact ⟨by rw [HO.out]; rfl, rfl⟩
theorem rinside_b (v : Value) (l : List (Int × Int)) (z : Int) (w : World) (h : RowsOf 2 SpanC w v l) : Calls Tryz.prog 97 #[v, .int .i64 z] w fun e w' => e = .returned (.bool (insideV l z)) ∧ Below w.heap.size w w' :=
  (rinside_any v l z w h).mono fun _ _ h => ⟨h.1, h.2 ▸ Below.refl _ _⟩
set_option maxRecDepth 20000 in
set_option maxHeartbeats 2000000 in
theorem rholdsr_any (x : Nat → Value) (r : Rel) (s : ByteArray) (w : World) (h : RelC w x r) (hs : s.size ≤ 1000) (hp : properV r = true) : Calls Tryz.prog 82 #[.agg #[x 0, x 1, x 2, x 3], .string s] w fun e w' => e = .returned (.bool (holdsR s.data.toList r)) ∧ Below w.heap.size w w' := by
  obtain ⟨x0, x1, x2, hsp⟩ := h
  have hmd := proper_md hp
  rw [x0, x1, x2]
  obtain ⟨op, md, neg, sp⟩ := r
  simp only at hsp hmd ⊢
  have HOP : Hid (∀ W, Calls Tryz.prog 96 #[.string s, .int .i64 op] W fun e w' => e = .returned (.tuple #[.int .i64 ((opV s.data.toList op).1 : Nat), .int .i64 ((opV s.data.toList op).2 : Nat)]) ∧ Below W.heap.size W w') := fun W => roperand_any s op W hs
  have HI : Hid (∀ W z, Below w.heap.size w W → Calls Tryz.prog 97 #[x 3, .int .i64 z] W fun e w' => e = .returned (.bool (insideV sp z)) ∧ Below W.heap.size W w') := fun W z hb => rinside_b _ sp z W (hsp.map hb fun _ _ h => h)
  have HR : Hid (holdsR s.data.toList ⟨op, md, neg, sp⟩ = if (opV s.data.toList op).2 = 0 then insideV sp (if md = 0 then ((opV s.data.toList op).1 : Int) else ((opV s.data.toList op).1 : Int) % md) != neg else neg) := rfl
  generalize holdsR s.data.toList ⟨op, md, neg, sp⟩ = qq at *
  generalize x 3 = v3 at *
  generalize opV s.data.toList op = ov at *
  obtain ⟨a, er⟩ := ov
  simp only at HR HOP
  clear hsp x0 x1 x2 hp
  by_cases he : er = 0
  · subst he
    rw [Hid, if_pos rfl] at HR
    replace HR := Lib.hid HR
    by_cases hm : md = 0
    · subst hm
      rw [Hid, if_pos rfl] at HR
      replace HR := Lib.hid HR
      replace HI := Lib.hid (fun W hb => HI.out W (a : Int) hb)
      generalize insideV sp (a : Int) = q at *
      clear hmd
      go_enter Tryz.func82, Tryz.ntmps82
      go_wp2_with fail
      refine (Calls.toExt (HOP.out _)).mono ?_
      rintro e _ ⟨rfl, x1, rfl⟩
      have hx1 : w.heap.size < x1.1.heap.size := by have := x1.2.size; simp at this; omega
      go_wp2_with fail
      refine wp_region_ext (by kernel_rfl) (by kernel_rfl) ?_
      repeat (go_big_quiet_step ((go_at_call 97; refine Calls.ext (HI.out _ ?_); show Bel w _; repeat (first | exact Bel.refl _ | refine Bel.drew ?_ | refine Bel.drewN ?_ _ | refine Bel.alloc ?_ _ | refine Bel.ext ?_ _))))
      refine wpQuiet_nil ?_
      intro _ hw'
      obtain ⟨y, hw''⟩ := hw'
      subst hw''
      go_wp2_with fail
      go_ret
      exact ⟨by rw [HR.out]; cases q <;> cases neg <;> rfl, by show Bel w _; repeat (first | exact Bel.refl _ | refine Bel.drew ?_ | refine Bel.drewN ?_ _ | refine Bel.alloc ?_ _ | refine Bel.ext ?_ _)⟩
    · rw [Hid, if_neg hm] at HR
      replace HR := Lib.hid HR
      have h1 : 2 ≤ md ∧ md ≤ 100 := hmd.resolve_left hm
      have hz0 : 0 ≤ (a : Int) % md := Int.emod_nonneg _ hm
      have hz1 : (a : Int) % md < md := Int.emod_lt_of_pos _ (by omega)
      have hq : (a : Int).tmod md = (a : Int) % md := Int.tmod_eq_emod_of_nonneg (by omega)
      replace HI := Lib.hid (fun W hb => HI.out W ((a : Int) % md) hb)
      have hw : IntKind.i64.wrap ((a : Int) % md) = (a : Int) % md := by rw [IntKind.wrap_i64]; omega
      have h30 : (md != 0) = true := by simpa using hm
      generalize insideV sp ((a : Int) % md) = q at *
      generalize (a : Int) % md = z at *
      clear hmd hz0 hz1
      go_enter Tryz.func82, Tryz.ntmps82
      go_wp2_with fail
      refine (Calls.toExt (HOP.out _)).mono ?_
      rintro e _ ⟨rfl, x1, rfl⟩
      have hx1 : w.heap.size < x1.1.heap.size := by have := x1.2.size; simp at this; omega
      go_wp2_with fail
      refine wp_region_ext (by kernel_rfl) (by kernel_rfl) ?_
      repeat (go_big_quiet_step ((go_at_call 97; refine Calls.ext (HI.out _ ?_); show Bel w _; repeat (first | exact Bel.refl _ | refine Bel.drew ?_ | refine Bel.drewN ?_ _ | refine Bel.alloc ?_ _ | refine Bel.ext ?_ _))))
      refine wpQuiet_nil ?_
      intro _ hw'
      obtain ⟨y, hw''⟩ := hw'
      subst hw''
      go_wp2_with fail
      go_ret
      exact ⟨by rw [HR.out]; cases q <;> cases neg <;> rfl, by show Bel w _; repeat (first | exact Bel.refl _ | refine Bel.drew ?_ | refine Bel.drewN ?_ _ | refine Bel.alloc ?_ _ | refine Bel.ext ?_ _)⟩
  · rw [Hid, if_neg he] at HR
    replace HR := Lib.hid HR
    have h1 : ((er : Int) != 0) = true := by simpa using he
    clear he hmd HI
    go_enter Tryz.func82, Tryz.ntmps82
    go_wp2_with fail
    refine (Calls.toExt (HOP.out _)).mono ?_
    rintro e _ ⟨rfl, x1, rfl⟩
    go_wp2_with fail
    go_ret
    exact ⟨by rw [HR.out]; rfl, by show Bel w _; repeat (first | exact Bel.refl _ | refine Bel.drew ?_ | refine Bel.drewN ?_ _ | refine Bel.alloc ?_ _ | refine Bel.ext ?_ _)⟩
set_option maxRecDepth 20000 in
set_option maxHeartbeats 1000000 in
theorem cfewl_any (v : Value) (l : List (List Rel)) (w : World) (h : CondAt w v l) : Calls Tryz.prog 65 #[v] w (BoolIf w (l.length ≤ 30)) := by
  obtain ⟨ad, c, f, b, off, rfl, hr, _, _, _, hf0⟩ := h
  have hf : ∀ i, i < l.length → RelRows w (f i 0) := fun i hi => by
    obtain ⟨ad2, c2, f2, b2, off2, h1, h2, _, _, _, h5⟩ := RowsOf.get hf0 hi []
    exact ⟨ad2, _, c2, f2, b2, off2, h1, h2, fun j hj => by
      obtain ⟨_, _, _, ad3, c3, f3, b3, off3, h6, h7, _⟩ := RowsOf.get h5 hj ⟨0, 0, false, []⟩
      exact ⟨ad3, _, c3, h6, h7.max⟩⟩
  generalize l.length = n at *
  clear hf0
  have HR := Lib.hid hr
  have HF := Lib.hid hf
  have hnm := hr.max
  clear hr hf
  go_enter Tryz.func65, Tryz.ntmps65
  go_wp2_with fail
  go_loop [3, 4] (fun u v => ∃ (k : Nat) (z : Int), v = .int .i64 (k : Int) ∧ k ≤ n ∧ u = .int .i64 z) (fun _ v => n - (intOf v).toNat)
  case atStart => exact ⟨0, 0, rfl, Nat.zero_le _, rfl⟩
  case round =>
    obtain ⟨k, z, rfl, hkn, rfl⟩ := hrel
    by_cases hlt : k < n
    · have hix := fun W => HR.out.ix 78 94 Tryz.underlying78 (by kernel_rfl) (by omega) hlt c W
      rw [Nat.mul_one] at hix
      have hc := HR.out.cell k 0 hlt (by omega)
      rw [Nat.mul_one, Nat.add_zero] at hc
      obtain ⟨ad2, n2, c2, f2, b2, off2, hv2, hr2, hs2⟩ := HF.out k hlt
      rw [hv2] at hc
      have HR2 := Lib.hid hr2
      have HS2 := Lib.hid hs2
      have hnm2 := hr2.max
      clear hv2 hr2 hs2
      go_wp2_with fail
      go_loop [3, 5] (fun u v => ∃ (q : Nat) (z : Int), v = .int .i64 (q : Int) ∧ q ≤ n2 ∧ u = .int .i64 z) (fun _ v => n2 - (intOf v).toNat)
      case atStart => exact ⟨0, z, rfl, Nat.zero_le _, rfl⟩
      case round =>
        obtain ⟨q, z2, rfl, hqn, rfl⟩ := hrel
        by_cases hlt2 : q < n2
        · have hix2 := fun W => HR2.out.ix 94 93 Tryz.underlying94 (by kernel_rfl) (by omega) hlt2 c2 W
          obtain ⟨a3, m3, c3, h3, hm3⟩ := HS2.out q hlt2
          have hc2 := HR2.out.cell q 3 hlt2 (by omega)
          rw [h3] at hc2
          clear h3
          go_wp2_with fail
          go_round
          case rel => exact ⟨q + 1, _, by go_num, by omega, rfl⟩
          case measure => simp [intOf]; omega
        · obtain rfl : q = n2 := by omega
          by_cases h80 : 80 < z2
          · go_wp2_with fail
            go_ret
            exact ⟨false, rfl, rfl, fun h => (by cases h)⟩
          · go_wp2_with fail
            go_round
            case rel => exact ⟨k + 1, z2, by go_num, by omega, rfl⟩
            case measure => simp [intOf]; omega
    · obtain rfl : k = n := by omega
      go_wp2_with fail
      go_ret
      exact ⟨_, rfl, rfl, fun h => by have := of_decide_eq_true h; omega⟩
end Go.Proofs.YtadhblppeaamlaaGreatDoor
