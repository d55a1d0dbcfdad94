/- Walks: the size of all strings of a table. -/
import Derived.Test.YtaolbfbnjbpljaaDoorT2
import Derived.Deep.RegionHeld
import Derived.Deep.DeepCutAuto
import Derived.LoopN
namespace Go.Proofs.YtaolbfbnjbpljaaDoor
open Go.RowKit
attribute [local go_sem] Ext.cell Ext.frozen
attribute [local go_sem ↓] Go.wp_at_zero Go.wp_at_succ

theorem wp_at_worldT {P : Program} {c : Code} {Q : Exit → Act → World → Prop} {a : Act} {w : World} (h : ∀ W, W = w → c.wp P Q a W) : c.wp P Q a w := h w rfl
theorem cellsLoc : Tryd.prog.cellsOf 52 = 16 := by kernel_rfl
theorem cellsLP : Tryd.prog.cellsOf 125 = 5 := by kernel_rfl
theorem cellsUP : Tryd.prog.cellsOf 127 = 3 := by kernel_rfl
theorem cellsDP : Tryd.prog.cellsOf 39 = 2 := by kernel_rfl
theorem cellsAl : Tryd.prog.cellsOf 129 = 2 := by kernel_rfl
theorem cellsNe : Tryd.prog.cellsOf 131 = 3 := by kernel_rfl
/-- a new slice of strings -/
theorem lit_rows (W0 : World) (b n : Nat) (cs : Array Value) (T : TypeId) (g : Nat → ByteArray) (hb : W0.heap.size = b) (hn : n ≤ 100) (hc : ∀ i, i < n → cs[i]? = some (.string (g i))) :
    StrRows (W0.alloc (.cells cs T)) 1 (.slice (some ⟨b, 0, none⟩) n n) := by
  subst hb
  refine ⟨_, n, n, fun i _ => g i, W0.heap.size, 0, rfl, ⟨by omega, fun _ => rfl, fun i j hi hj => ?_⟩⟩
  obtain rfl : j = 0 := by omega
  have hh : (W0.alloc (.cells cs T)).heap[W0.heap.size]? = some (.cells cs T (0, 0)) := by show (W0.heap.push _)[W0.heap.size]? = some _; simp
  have := hc i hi
  simp only [World.cell?, hh, Nat.zero_add, Nat.mul_one, Nat.add_zero]
  exact this
theorem lit2 (W0 : World) (b : Nat) (s0 s1 : ByteArray) (T : TypeId) (hb : W0.heap.size = b) : StrRows (W0.alloc (.cells #[.string s0, .string s1] T)) 1 (.slice (some ⟨b, 0, none⟩) 2 2) := by
  refine lit_rows W0 b 2 _ T (fun i => #[s0, s1].getD i .empty) hb (by omega) (fun i hi => ?_)
  have : i = 0 ∨ i = 1 := by omega
  rcases this with e | e <;> subst e <;> rfl
theorem lit3 (W0 : World) (b : Nat) (s0 s1 s2 : ByteArray) (T : TypeId) (hb : W0.heap.size = b) : StrRows (W0.alloc (.cells #[.string s0, .string s1, .string s2] T)) 1 (.slice (some ⟨b, 0, none⟩) 3 3) := by
  refine lit_rows W0 b 3 _ T (fun i => #[s0, s1, s2].getD i .empty) hb (by omega) (fun i hi => ?_)
  have : i = 0 ∨ i = 1 ∨ i = 2 := by omega
  rcases this with e | e | e <;> subst e <;> rfl
theorem lit5 (W0 : World) (b : Nat) (s0 s1 s2 s3 s4 : ByteArray) (T : TypeId) (hb : W0.heap.size = b) : StrRows (W0.alloc (.cells #[.string s0, .string s1, .string s2, .string s3, .string s4] T)) 1 (.slice (some ⟨b, 0, none⟩) 5 5) := by
  refine lit_rows W0 b 5 _ T (fun i => #[s0, s1, s2, s3, s4].getD i .empty) hb (by omega) (fun i hi => ?_)
  have : i = 0 ∨ i = 1 ∨ i = 2 ∨ i = 3 ∨ i = 4 := by omega
  rcases this with e | e | e | e | e <;> subst e <;> rfl
theorem lit7 (W0 : World) (b : Nat) (s0 s1 s2 s3 s4 s5 s6 : ByteArray) (T : TypeId) (hb : W0.heap.size = b) : StrRows (W0.alloc (.cells #[.string s0, .string s1, .string s2, .string s3, .string s4, .string s5, .string s6] T)) 1 (.slice (some ⟨b, 0, none⟩) 7 7) := by
  refine lit_rows W0 b 7 _ T (fun i => #[s0, s1, s2, s3, s4, s5, s6].getD i .empty) hb (by omega) (fun i hi => ?_)
  have : i = 0 ∨ i = 1 ∨ i = 2 ∨ i = 3 ∨ i = 4 ∨ i = 5 ∨ i = 6 := by omega
  rcases this with e | e | e | e | e | e | e <;> subst e <;> rfl

set_option maxRecDepth 100000 in
set_option maxHeartbeats 16000000 in
theorem sizes_any (v0 v1 v2 : Value) (w : World) (h : TabOk w v0 v1 v2) (hv1 : v1 = .slice none 0 0) (hv2 : v2 = .slice none 0 0) : Calls Tryd.prog 48 #[.agg #[v0, v1, v2]] w (SomeInt w) := by
  subst hv1 hv2
  obtain ⟨⟨ad, n, c, f, b, off, rfl, hr, hloc⟩, _, _⟩ := h
  have HR := Lib.hid hr
  have HLC := Lib.hid hloc
  have hm0 := hr.max
  have hbk : n ≠ 0 → b < w.heap.size := fun h => hr.block h (by omega)
  have HSZ := Lib.hid size_any
  clear hr hloc
  go_enter Tryd.func48, Tryd.ntmps48
  go_wp2_with fail
  refine wp_at_worldT ?_
  intro W hW
  have hWs : W.heap.size = w.heap.size + 1 := by rw [hW]; simp
  have HBW : Hid (Below w.heap.size w W) := by rw [hW]; exact (Below.refl _ _).alloc (Nat.le_refl _) _
  have t0 : W.cell? ⟨w.heap.size, 0, none⟩ = some (.slice ad n c) := by rw [hW]; simp [go_sem]
  have t1 : W.cell? ⟨w.heap.size, 1, none⟩ = some (.slice none 0 0) := by rw [hW]; simp [go_sem]
  have t2 : W.cell? ⟨w.heap.size, 2, none⟩ = some (.slice none 0 0) := by rw [hW]; simp [go_sem]
  have T0 := Lib.hid t0
  have T1 := Lib.hid t1
  have T2 := Lib.hid t2
  clear t0 t1 t2 hW
  go_loopw [3, 4] (fun u v wr => ∃ (k : Nat) (z : Int), v = .int .i64 (k : Int) ∧ k ≤ n ∧ u = .int .i64 z ∧ Below W.heap.size W wr) (fun _ v _ => n - (intOf v).toNat)
  case atStart => exact ⟨0, 0, rfl, Nat.zero_le _, rfl, Below.refl _ _⟩
  case round =>
    obtain ⟨wo, rfl⟩ : ∃ wo : World, wo = wr := ⟨_, rfl⟩
    obtain ⟨k, z, rfl, hkn, rfl, hbl⟩ := hrel
    have HBL := Lib.hid hbl
    have hzr := hbl.size
    clear hbl
    have l0 : wo.cell? ⟨w.heap.size, 0, none⟩ = some (.slice ad n c) := (HBL.out.cell (p := ⟨w.heap.size, 0, none⟩) (by show w.heap.size < _; omega)).trans T0.out
    by_cases hlt : k < n
    · have HBR := Lib.hid (HBW.out.trans (HBL.out.mono (by omega)))
      have HRK := Lib.hid (HR.out.below HBR.out)
      have hix := fun W => HRK.out.ix 54 52 Tryd.underlying54 cellsLoc (by omega) hlt c W
      have hbw : b < wo.heap.size := by have := hbk (by omega); omega
      have hl := (HLC.out k hlt).below HBR.out
      obtain ⟨s0, e0⟩ := hl.s0
      obtain ⟨s1, e1⟩ := hl.s1
      obtain ⟨s2, e2⟩ := hl.s2
      obtain ⟨a3, n3, c3, f3, b3, o3, e3, r3, _, _⟩ := hl.r3
      obtain ⟨a4, n4, c4, f4, b4, o4, e4, r4, _, _⟩ := hl.r4
      obtain ⟨s5, e5⟩ := hl.s5
      obtain ⟨s6, e6⟩ := hl.s6
      obtain ⟨s7, e7⟩ := hl.s7
      obtain ⟨s8, e8⟩ := hl.s8
      obtain ⟨z9, e9⟩ := hl.i9
      obtain ⟨z10, e10⟩ := hl.i10
      obtain ⟨a11, n11, c11, g11, b11, o11, e11, r11⟩ := hl.l11
      obtain ⟨a12, n12, c12, g12, b12, o12, e12, r12⟩ := hl.u12
      obtain ⟨a13, n13, c13, g13, b13, o13, e13, r13⟩ := hl.d13
      have hm14 := hl.m14
      have hm15 := hl.m15
      obtain ⟨a14, n14, c14, g14, b14, o14, e14, r14⟩ := hl.m14
      obtain ⟨a15, n15, c15, g15, b15, o15, e15, r15⟩ := hl.m15
      have k0 : wo.cell? ⟨b, off + k * 16, none⟩ = some (f k 0) := HRK.out.cell k 0 hlt (by omega)
      rw [e0] at k0
      have k1 : wo.cell? ⟨b, off + k * 16 + 1, none⟩ = some (f k 1) := HRK.out.cell k 1 hlt (by omega)
      rw [e1] at k1
      have k2 : wo.cell? ⟨b, off + k * 16 + 2, none⟩ = some (f k 2) := HRK.out.cell k 2 hlt (by omega)
      rw [e2] at k2
      have k3 : wo.cell? ⟨b, off + k * 16 + 3, none⟩ = some (f k 3) := HRK.out.cell k 3 hlt (by omega)
      rw [e3] at k3
      have k4 : wo.cell? ⟨b, off + k * 16 + 4, none⟩ = some (f k 4) := HRK.out.cell k 4 hlt (by omega)
      rw [e4] at k4
      have k5 : wo.cell? ⟨b, off + k * 16 + 5, none⟩ = some (f k 5) := HRK.out.cell k 5 hlt (by omega)
      rw [e5] at k5
      have k6 : wo.cell? ⟨b, off + k * 16 + 6, none⟩ = some (f k 6) := HRK.out.cell k 6 hlt (by omega)
      rw [e6] at k6
      have k7 : wo.cell? ⟨b, off + k * 16 + 7, none⟩ = some (f k 7) := HRK.out.cell k 7 hlt (by omega)
      rw [e7] at k7
      have k8 : wo.cell? ⟨b, off + k * 16 + 8, none⟩ = some (f k 8) := HRK.out.cell k 8 hlt (by omega)
      rw [e8] at k8
      have k9 : wo.cell? ⟨b, off + k * 16 + 9, none⟩ = some (f k 9) := HRK.out.cell k 9 hlt (by omega)
      rw [e9] at k9
      have k10 : wo.cell? ⟨b, off + k * 16 + 10, none⟩ = some (f k 10) := HRK.out.cell k 10 hlt (by omega)
      rw [e10] at k10
      have k11 : wo.cell? ⟨b, off + k * 16 + 11, none⟩ = some (f k 11) := HRK.out.cell k 11 hlt (by omega)
      rw [e11] at k11
      have k12 : wo.cell? ⟨b, off + k * 16 + 12, none⟩ = some (f k 12) := HRK.out.cell k 12 hlt (by omega)
      rw [e12] at k12
      have k13 : wo.cell? ⟨b, off + k * 16 + 13, none⟩ = some (f k 13) := HRK.out.cell k 13 hlt (by omega)
      rw [e13] at k13
      have k14 : wo.cell? ⟨b, off + k * 16 + 14, none⟩ = some (f k 14) := HRK.out.cell k 14 hlt (by omega)
      rw [e14] at k14
      have k15 : wo.cell? ⟨b, off + k * 16 + 15, none⟩ = some (f k 15) := HRK.out.cell k 15 hlt (by omega)
      rw [e15] at k15
      rw [e14] at hm14
      rw [e15] at hm15
      have HM14 := Lib.hid hm14
      have HM15 := Lib.hid hm15
      have H11 := Lib.hid r11
      have H12 := Lib.hid r12
      have H13 := Lib.hid r13
      have q11 := r11.max
      have q12 := r12.max
      have q13 := r13.max
      clear hl e0 e1 e2 e3 e4 e5 e6 e7 e8 e9 e10 e11 e12 e13 e14 e15 r3 r4 r11 r12 r13 r14 r15 hm14 hm15
      go_upto_region 6 with (fail)
      refine wp_at_worldT ?_
      intro W1 hW1
      have hz1 : W1.heap.size = wo.heap.size + 1 := by rw [hW1]; simp
      have HB1 : Hid (Below wo.heap.size wo W1) := by rw [hW1]; exact (Below.refl _ _).alloc (Nat.le_refl _) _
      have y0 : W1.cell? ⟨wo.heap.size, 0, none⟩ = some (.string s0) := by rw [hW1]; simp [go_sem]
      have y1 : W1.cell? ⟨wo.heap.size, 1, none⟩ = some (.string s1) := by rw [hW1]; simp [go_sem]
      have y2 : W1.cell? ⟨wo.heap.size, 2, none⟩ = some (.string s2) := by rw [hW1]; simp [go_sem]
      have y3 : W1.cell? ⟨wo.heap.size, 3, none⟩ = some (.slice a3 n3 c3) := by rw [hW1]; simp [go_sem]
      have y4 : W1.cell? ⟨wo.heap.size, 4, none⟩ = some (.slice a4 n4 c4) := by rw [hW1]; simp [go_sem]
      have y5 : W1.cell? ⟨wo.heap.size, 5, none⟩ = some (.string s5) := by rw [hW1]; simp [go_sem]
      have y6 : W1.cell? ⟨wo.heap.size, 6, none⟩ = some (.string s6) := by rw [hW1]; simp [go_sem]
      have y7 : W1.cell? ⟨wo.heap.size, 7, none⟩ = some (.string s7) := by rw [hW1]; simp [go_sem]
      have y8 : W1.cell? ⟨wo.heap.size, 8, none⟩ = some (.string s8) := by rw [hW1]; simp [go_sem]
      have y11 : W1.cell? ⟨wo.heap.size, 11, none⟩ = some (.slice a11 n11 c11) := by rw [hW1]; simp [go_sem]
      have y12 : W1.cell? ⟨wo.heap.size, 12, none⟩ = some (.slice a12 n12 c12) := by rw [hW1]; simp [go_sem]
      have y13 : W1.cell? ⟨wo.heap.size, 13, none⟩ = some (.slice a13 n13 c13) := by rw [hW1]; simp [go_sem]
      have y14 : W1.cell? ⟨wo.heap.size, 14, none⟩ = some (.slice a14 n14 c14) := by rw [hW1]; simp [go_sem]
      have y15 : W1.cell? ⟨wo.heap.size, 15, none⟩ = some (.slice a15 n15 c15) := by rw [hW1]; simp [go_sem]
      have H14 := Lib.hid (HM14.out.below HB1.out)
      have H15 := Lib.hid (HM15.out.below HB1.out)
      have HX11 := Lib.hid (H11.out.below HB1.out)
      have HX12 := Lib.hid (H12.out.below HB1.out)
      have HX13 := Lib.hid (H13.out.below HB1.out)
      have hb1 : wo.heap.size < W1.heap.size := by omega
      clear hW1 HM14 HM15 H11 H12 H13 k0 k1 k2 k3 k4 k5 k6 k7 k8 k9 k10 k11 k12 k13 k14 k15
      go_cut [3] (fun s3 wx => ∃ z : Int, s3 = .int .i64 z ∧ Below W1.heap.size W1 wx)
      case first =>
        go_region_held (fun w' => w'.cell? ⟨wo.heap.size, 0, none⟩ = some (.string s0) ∧ w'.cell? ⟨wo.heap.size, 1, none⟩ = some (.string s1) ∧ w'.cell? ⟨wo.heap.size, 2, none⟩ = some (.string s2) ∧ w'.cell? ⟨wo.heap.size, 5, none⟩ = some (.string s5) ∧ w'.cell? ⟨wo.heap.size, 6, none⟩ = some (.string s6) ∧ w'.cell? ⟨wo.heap.size, 7, none⟩ = some (.string s7) ∧ w'.cell? ⟨wo.heap.size, 8, none⟩ = some (.string s8) ∧ w'.cell? ⟨wo.heap.size, 14, none⟩ = some (.slice a14 n14 c14) ∧ w'.cell? ⟨wo.heap.size, 15, none⟩ = some (.slice a15 n15 c15) ∧ w'.cell? ⟨wo.heap.size, 3, none⟩ = some (.slice a3 n3 c3) ∧ w'.cell? ⟨wo.heap.size, 4, none⟩ = some (.slice a4 n4 c4)) (go_keep)
          (first
            | (go_at_call_of 71 (Value.slice a14 n14 c14); refine (HSZ.out _ _ (H14.out.below (by show Bel W1 _; repeat (first | exact Bel.refl _ | refine Bel.alloc ?_ _ | refine Bel.drew ?_)))).mono ?_; rintro e _ ⟨z, rfl, rfl⟩)
            | (go_at_call_of 71 (Value.slice a15 n15 c15); refine (HSZ.out _ _ (H15.out.below (by show Bel W1 _; repeat (first | exact Bel.refl _ | refine Bel.alloc ?_ _ | refine Bel.drew ?_)))).mono ?_; rintro e _ ⟨z, rfl, rfl⟩)
            | (go_at_call 71; refine (HSZ.out _ _ ((lit7 W1 (wo.heap.size + 1) s0 s1 s2 s5 s6 s7 s8 9 hz1).below (by show Bel (W1.alloc _) _; repeat (first | exact Bel.refl _ | refine Bel.drew ?_)))).mono ?_; rintro e _ ⟨z, rfl, rfl⟩))
        all_goals
          go_wp2_with fail
          go_meet
          exact ⟨_, rfl, by (show Bel W1 _; repeat (first | exact Bel.refl _ | refine Bel.alloc ?_ _ | refine Bel.drew ?_))⟩
      case rest =>
        obtain ⟨z1, rfl, hbx⟩ := hcut
        have HBX := Lib.hid hbx
        clear hbx
        go_wp2_with fail
        go_loopw [3, 6] (fun u v wr => ∃ (q : Nat) (z : Int), v = .int .i64 (q : Int) ∧ q ≤ n11 ∧ u = .int .i64 z ∧ Below W1.heap.size W1 wr) (fun _ v _ => n11 - (intOf v).toNat)
        case atStart => exact ⟨0, _, rfl, Nat.zero_le _, rfl, HBX.out⟩
        case round =>
          obtain ⟨q, z2, rfl, hqn, rfl, hbi⟩ := hrel
          have HBI := Lib.hid hbi
          have hzi := hbi.size
          clear hbi
          have yl : wr.cell? ⟨wo.heap.size, 11, none⟩ = some (.slice a11 n11 c11) := (HBI.out.cell (p := ⟨wo.heap.size, 11, none⟩) hb1).trans y11
          have hbz : wo.heap.size < wr.heap.size := by omega
          by_cases hlt2 : q < n11
          · have HQ := Lib.hid (HX11.out.below HBI.out)
            have hixq := fun W => HQ.out.ix 49 125 Tryd.underlying49 cellsLP (by omega) hlt2 c11 W
            have hbq : b11 < wr.heap.size := HQ.out.block (by omega) (by omega)
            have hq0 : (0 : Int) ≤ (q : Int) := by omega
            have hq1 : (q : Int) < (n11 : Int) := by omega
            have x0 : wr.cell? ⟨b11, o11 + q * 5, none⟩ = some (.string (g11 q 0)) := HQ.out.cell q 0 hlt2 (by omega)
            have x1 : wr.cell? ⟨b11, o11 + q * 5 + 1, none⟩ = some (.string (g11 q 1)) := HQ.out.cell q 1 hlt2 (by omega)
            have x2 : wr.cell? ⟨b11, o11 + q * 5 + 2, none⟩ = some (.string (g11 q 2)) := HQ.out.cell q 2 hlt2 (by omega)
            have x3 : wr.cell? ⟨b11, o11 + q * 5 + 3, none⟩ = some (.string (g11 q 3)) := HQ.out.cell q 3 hlt2 (by omega)
            have x4 : wr.cell? ⟨b11, o11 + q * 5 + 4, none⟩ = some (.string (g11 q 4)) := HQ.out.cell q 4 hlt2 (by omega)
            go_upto_region 10 with (fail)
            refine wp_at_worldT ?_
            intro W2 hW2
            rw [hW2]
            clear hW2
            go_region_held (fun w' => w'.cell? ⟨wo.heap.size, 11, none⟩ = some (.slice a11 n11 c11) ∧ w'.cell? ⟨b11, o11 + q * 5, none⟩ = some (.string (g11 q 0)) ∧ w'.cell? ⟨b11, o11 + q * 5 + 1, none⟩ = some (.string (g11 q 1)) ∧ w'.cell? ⟨b11, o11 + q * 5 + 2, none⟩ = some (.string (g11 q 2)) ∧ w'.cell? ⟨b11, o11 + q * 5 + 3, none⟩ = some (.string (g11 q 3)) ∧ w'.cell? ⟨b11, o11 + q * 5 + 4, none⟩ = some (.string (g11 q 4))) (go_keep)
              (first
                | (go_at_call 71; refine (HSZ.out _ _ ((lit5 wr _ _ _ _ _ _ 9 rfl).below (by show Bel (wr.alloc _) _; repeat (first | exact Bel.refl _ | refine Bel.drew ?_)))).mono ?_; rintro e _ ⟨z, rfl, rfl⟩))
            all_goals
              go_wp2_with fail
              go_roundw
              case rel => exact ⟨q + 1, _, by go_num, by omega, rfl, by (show Bel W1 _; repeat (first | exact HBI.out | refine Bel.alloc ?_ _ | refine Bel.drew ?_))⟩
              case measure => simp [intOf]; omega
          · obtain rfl : q = n11 := by omega
            have HBX := Lib.hid HBI.out
            clear HBI
            go_wp2_with fail
            go_loopw [3, 7] (fun u v wr => ∃ (q : Nat) (z : Int), v = .int .i64 (q : Int) ∧ q ≤ n12 ∧ u = .int .i64 z ∧ Below W1.heap.size W1 wr) (fun _ v _ => n12 - (intOf v).toNat)
            case atStart => exact ⟨0, _, rfl, Nat.zero_le _, rfl, HBX.out⟩
            case round =>
              obtain ⟨q, z2, rfl, hqn, rfl, hbi⟩ := hrel
              have HBI := Lib.hid hbi
              have hzi := hbi.size
              clear hbi
              have yl : wr.cell? ⟨wo.heap.size, 12, none⟩ = some (.slice a12 n12 c12) := (HBI.out.cell (p := ⟨wo.heap.size, 12, none⟩) hb1).trans y12
              have hbz : wo.heap.size < wr.heap.size := by omega
              by_cases hlt2 : q < n12
              · have HQ := Lib.hid (HX12.out.below HBI.out)
                have hixq := fun W => HQ.out.ix 50 127 Tryd.underlying50 cellsUP (by omega) hlt2 c12 W
                have hbq : b12 < wr.heap.size := HQ.out.block (by omega) (by omega)
                have hq0 : (0 : Int) ≤ (q : Int) := by omega
                have hq1 : (q : Int) < (n12 : Int) := by omega
                have x0 : wr.cell? ⟨b12, o12 + q * 3, none⟩ = some (.string (g12 q 0)) := HQ.out.cell q 0 hlt2 (by omega)
                have x1 : wr.cell? ⟨b12, o12 + q * 3 + 1, none⟩ = some (.string (g12 q 1)) := HQ.out.cell q 1 hlt2 (by omega)
                have x2 : wr.cell? ⟨b12, o12 + q * 3 + 2, none⟩ = some (.string (g12 q 2)) := HQ.out.cell q 2 hlt2 (by omega)
                go_upto_region 14 with (fail)
                refine wp_at_worldT ?_
                intro W2 hW2
                rw [hW2]
                clear hW2
                go_region_held (fun w' => w'.cell? ⟨wo.heap.size, 12, none⟩ = some (.slice a12 n12 c12) ∧ w'.cell? ⟨b12, o12 + q * 3, none⟩ = some (.string (g12 q 0)) ∧ w'.cell? ⟨b12, o12 + q * 3 + 1, none⟩ = some (.string (g12 q 1)) ∧ w'.cell? ⟨b12, o12 + q * 3 + 2, none⟩ = some (.string (g12 q 2))) (go_keep)
                  (first
                    | (go_at_call 71; refine (HSZ.out _ _ ((lit3 wr _ _ _ _ 9 rfl).below (by show Bel (wr.alloc _) _; repeat (first | exact Bel.refl _ | refine Bel.drew ?_)))).mono ?_; rintro e _ ⟨z, rfl, rfl⟩))
                all_goals
                  go_wp2_with fail
                  go_roundw
                  case rel => exact ⟨q + 1, _, by go_num, by omega, rfl, by (show Bel W1 _; repeat (first | exact HBI.out | refine Bel.alloc ?_ _ | refine Bel.drew ?_))⟩
                  case measure => simp [intOf]; omega
              · obtain rfl : q = n12 := by omega
                have HBX := Lib.hid HBI.out
                clear HBI
                go_wp2_with fail
                go_loopw [3, 8] (fun u v wr => ∃ (q : Nat) (z : Int), v = .int .i64 (q : Int) ∧ q ≤ n13 ∧ u = .int .i64 z ∧ Below W1.heap.size W1 wr) (fun _ v _ => n13 - (intOf v).toNat)
                case atStart => exact ⟨0, _, rfl, Nat.zero_le _, rfl, HBX.out⟩
                case round =>
                  obtain ⟨q, z2, rfl, hqn, rfl, hbi⟩ := hrel
                  have HBI := Lib.hid hbi
                  have hzi := hbi.size
                  clear hbi
                  have yl : wr.cell? ⟨wo.heap.size, 13, none⟩ = some (.slice a13 n13 c13) := (HBI.out.cell (p := ⟨wo.heap.size, 13, none⟩) hb1).trans y13
                  have hbz : wo.heap.size < wr.heap.size := by omega
                  by_cases hlt2 : q < n13
                  · have HQ := Lib.hid (HX13.out.below HBI.out)
                    have hixq := fun W => HQ.out.ix 35 39 Tryd.underlying35 cellsDP (by omega) hlt2 c13 W
                    have hbq : b13 < wr.heap.size := HQ.out.block (by omega) (by omega)
                    have hq0 : (0 : Int) ≤ (q : Int) := by omega
                    have hq1 : (q : Int) < (n13 : Int) := by omega
                    have x0 : wr.cell? ⟨b13, o13 + q * 2, none⟩ = some (.string (g13 q 0)) := HQ.out.cell q 0 hlt2 (by omega)
                    have x1 : wr.cell? ⟨b13, o13 + q * 2 + 1, none⟩ = some (.string (g13 q 1)) := HQ.out.cell q 1 hlt2 (by omega)
                    go_upto_region 18 with (fail)
                    refine wp_at_worldT ?_
                    intro W2 hW2
                    rw [hW2]
                    clear hW2
                    go_region_held (fun w' => w'.cell? ⟨wo.heap.size, 13, none⟩ = some (.slice a13 n13 c13) ∧ w'.cell? ⟨b13, o13 + q * 2, none⟩ = some (.string (g13 q 0)) ∧ w'.cell? ⟨b13, o13 + q * 2 + 1, none⟩ = some (.string (g13 q 1))) (go_keep)
                      (first
                        | (go_at_call 71; refine (HSZ.out _ _ ((lit2 wr _ _ _ 9 rfl).below (by show Bel (wr.alloc _) _; repeat (first | exact Bel.refl _ | refine Bel.drew ?_)))).mono ?_; rintro e _ ⟨z, rfl, rfl⟩))
                    all_goals
                      go_wp2_with fail
                      go_roundw
                      case rel => exact ⟨q + 1, _, by go_num, by omega, rfl, by (show Bel W1 _; repeat (first | exact HBI.out | refine Bel.alloc ?_ _ | refine Bel.drew ?_))⟩
                      case measure => simp [intOf]; omega
                  · obtain rfl : q = n13 := by omega
                    have HBX := Lib.hid HBI.out
                    clear HBI
                    go_wp2_with fail
                    go_roundw
                    case rel => exact ⟨k + 1, _, by go_num, by omega, rfl, HBL.out.trans ((HB1.out.trans (HBX.out.mono (by omega))).mono hzr)⟩
                    case measure => simp [intOf]; omega
    · obtain rfl : k = n := by omega
      have t1 : wo.cell? ⟨w.heap.size, 1, none⟩ = some (.slice none 0 0) := (HBL.out.cell (p := ⟨w.heap.size, 1, none⟩) (by show w.heap.size < _; omega)).trans T1.out
      have t2 : wo.cell? ⟨w.heap.size, 2, none⟩ = some (.slice none 0 0) := (HBL.out.cell (p := ⟨w.heap.size, 2, none⟩) (by show w.heap.size < _; omega)).trans T2.out
      go_wp2_with fail
      refine wp_loop_rounds 1 ?_
      rw [rounds_succ]
      go_wp2_with fail
      refine wp_loop_rounds 1 ?_
      rw [rounds_succ]
      go_wp2_with fail
      go_ret
      exact ⟨_, rfl, HBW.out.trans (HBL.out.mono (by omega))⟩
end Go.Proofs.YtaolbfbnjbpljaaDoor
