/- Walks: whether a table is small. -/
import Derived.Test.YtaolbfbnjbpljaaDoorT3
import Derived.Test.YtaolbfbnjbpljaaDoorT4
namespace Go.Proofs.YtaolbfbnjbpljaaDoor
open Go.RowKit
attribute [local go_sem] Ext.cell Ext.frozen
attribute [local go_sem ↓] Go.wp_at_zero Go.wp_at_succ

theorem two_app_at (f3 f4 : Nat → Nat → Value) (n3 n4 q : Nat) (hq : q < n3 + n4) : (twoCells f3 n3 ++ twoCells f4 n4)[q * 2]? = some (if q < n3 then f3 q 0 else f4 (q - n3) 0) ∧
    (twoCells f3 n3 ++ twoCells f4 n4)[q * 2 + 1]? = some (if q < n3 then f3 q 1 else f4 (q - n3) 1) := by
  have h3 := twoCells_len f3 n3
  by_cases h : q < n3
  · obtain ⟨e0, e1⟩ := twoCells_at f3 n3 q h
    rw [List.getElem?_append_left (by omega), List.getElem?_append_left (by omega), if_pos h, if_pos h]
    exact ⟨e0, e1⟩
  · obtain ⟨e0, e1⟩ := twoCells_at f4 n4 (q - n3) (by omega)
    rw [List.getElem?_append_right (by omega), List.getElem?_append_right (by omega), h3, if_neg h, if_neg h, show q * 2 - n3 * 2 = (q - n3) * 2 by omega, show q * 2 + 1 - n3 * 2 = (q - n3) * 2 + 1 by omega]
    exact ⟨e0, e1⟩
/-- .. and behind the store -/
def JJ (A0 : Act) (T : List (Nat × Nat × Value)) (w0 : World) (n3 n4 k : Nat) (xs ys : List Value) (r0 r1 : Value) (L : Array Bool) (a : Act) (w : World) : Prop :=
  (L.getD 11 false = true → (∀ j, j < 11 → L.getD j false = true) ∧ Fr A0 a dsR ∧ Below w0.heap.size w0 w ∧ ∃ B, a.tmps.getD 6 undef = .pointer (some ⟨B, 0, none⟩) ∧ w0.heap.size ≤ B ∧ w.cell? ⟨B, 0, none⟩ = some r0 ∧ w.cell? ⟨B, 1, none⟩ = some r1) ∧
  (L.getD 11 false = false → JR A0 T w0 n3 n4 k xs ys r0 r1 L a w)
section
variable {A0 : Act} {T : List (Nat × Nat × Value)} {w0 : World} {n3 n4 k : Nat} {xs ys : List Value} {r0 r1 : Value} {L : Array Bool} {a : Act} {w : World}
theorem getD_tf (L : Array Bool) (i : Nat) (hi : i < L.size) : L.getD i true = L.getD i false := by simp [Array.getD, hi]
theorem JJ.lt (h : JJ A0 T w0 n3 n4 k xs ys r0 r1 L a w) (hL : L.size = 12) {i : Nat} (hi : i < 11) (h1 : L.getD i true = false) : L.getD 11 false = false := by
  cases h2 : L.getD 11 false with
  | false => rfl
  | true =>
    have := (h.1 h2).1 i hi
    rw [getD_tf L i (by omega), this] at h1
    cases h1
theorem JJ.of {i : Nat} (hi : i ≠ 11) (h11 : L.getD 11 false = false) {a' : Act} {w' : World} (h : JR A0 T w0 n3 n4 k xs ys r0 r1 (L.setIfInBounds i true) a' w') : JJ A0 T w0 n3 n4 k xs ys r0 r1 (L.setIfInBounds i true) a' w' :=
  ⟨fun e => (by rw [getD_set_other hi, h11] at e; cases e), fun _ => h⟩
theorem getD_rep (n i : Nat) : (Array.replicate n false).getD i false = false := by
  simp only [Array.getD]
  split <;> simp
theorem JJ.start (A0 : Act) (w0 : World) : JJ A0 T w0 n3 n4 k xs ys r0 r1 (Array.replicate 12 false) A0 w0.drew := by
  have g : ∀ i, (Array.replicate 12 false).getD i false = false := getD_rep 12
  refine ⟨fun e => (by rw [g] at e; cases e), fun _ => ⟨⟨rfl, rfl, fun _ _ => rfl⟩, fun x _ e => (by rw [g] at e; cases e), (Below.refl _ _).drew, ?_, ?_, ?_, ?_, ?_, ?_, ?_, ?_, ?_⟩⟩
  all_goals first | (intro e; rw [g] at e; cases e; done) | (intro j d _ e; rw [g] at e; cases e)
theorem build0 (ev : Operand → Value) (o : Oper) (ho : o.op = .buildSlice 46 0 #[]) (w : World) : (execOp ev o).run Tryd.prog w = .ok (.value (.slice (some ⟨w.heap.size, 0, none⟩) 0 0)) (w.alloc (.cells #[] 85)) := by
  unfold execOp
  simp [ho, go_sem]
theorem row_at {ad : Option Addr} {n c q : Nat} {xs : List Value} {base : Nat} (hown : w.ownsRow base 85 2 (.slice ad n c) n xs) (hq : q < n) (h0 : xs[q * 2]? = some r0) (h1 : xs[q * 2 + 1]? = some r1) :
    ∃ g, base ≤ g ∧ (∀ W, (Instr.indexAt 46 (.slice ad n c) (.int .i64 (q : Int))).run Tryd.prog W = .ok (.pointer (some ⟨g, q * 2, none⟩)) W) ∧ w.cell? ⟨g, q * 2, none⟩ = some r0 ∧ w.cell? ⟨g, q * 2 + 1, none⟩ = some r1 := by
  obtain ⟨hl, ⟨e1, e2⟩ | ⟨g, cap, cur, e1, e2, e3, e4, e5, e6, e7⟩⟩ := hown
  · omega
  · injection e1 with i1 i2 i3
    subst i1
    have hc : ∀ j, j < n * 2 → w.cell? ⟨g, j, none⟩ = xs[j]? := fun j hj => by
      have hj' : j < cur.size := by omega
      rw [← e7, List.getElem?_take, if_pos hj]
      simp [World.cell?, e3, hj']
    have hr : Rw w (some ⟨g, 0, none⟩) n 2 (fun i j => xs.getD (i * 2 + j) undef) g 0 := ⟨by unfold maxLen at e5; omega, fun _ => rfl, fun i j hi hj => by
      rw [Nat.zero_add, hc _ (by omega)]
      simp [List.getD, List.getElem?_eq_getElem (show i * 2 + j < xs.length by omega)]⟩
    refine ⟨g, e2, fun W => ?_, by rw [hc _ (by omega)]; exact h0, by rw [hc _ (by omega)]; exact h1⟩
    have := hr.ix 46 85 Tryd.underlying46 cellsRule (by omega) hq c W
    rwa [Nat.zero_add] at this
end
set_option maxRecDepth 100000 in
set_option maxHeartbeats 16000000 in
theorem tfew_any (v0 v1 v2 : Value) (w : World) (h : TabOk w v0 v1 v2) (hv1 : v1 = .slice none 0 0) (hv2 : v2 = .slice none 0 0) : Calls Tryd.prog 25 #[.agg #[v0, v1, v2]] w (SomeBool w) := by
  have HTB := Lib.hid h
  have HV1 := Lib.hid hv1
  have HV2 := Lib.hid hv2
  clear hv1 hv2
  obtain ⟨⟨ad, n, c, f, b, off, rfl, hr, hloc⟩, ⟨ad1, n1, c1, g1, b1, off1, rfl, hr1⟩, ⟨ad2, n2, c2, f2, b2, off2, rfl, hr2, hn2⟩⟩ := h
  have HR := Lib.hid hr
  have HLC := Lib.hid hloc
  have hm0 := hr.max
  have hm1 := hr1.max
  have hm2 := hr2.max
  have hbk : n ≠ 0 → b < w.heap.size := fun h => hr.block h (by omega)
  have HCF := Lib.hid cfew_any
  clear hr hloc hr1 hr2 hn2
  go_enter Tryd.func25, Tryd.ntmps25
  go_wp2_with fail
  refine wp_at_worldT ?_
  intro W hW
  have hWs : W.heap.size = w.heap.size + 1 := by rw [hW]; simp
  have HBW : Hid (Below w.heap.size w W) := by rw [hW]; exact (Below.refl _ _).alloc (Nat.le_refl _) _
  have t0 : W.cell? ⟨w.heap.size, 0, none⟩ = some (.slice ad n c) := by rw [hW]; simp [go_sem]
  have t1 : W.cell? ⟨w.heap.size, 1, none⟩ = some (.slice ad1 n1 c1) := by rw [hW]; simp [go_sem]
  have t2 : W.cell? ⟨w.heap.size, 2, none⟩ = some (.slice ad2 n2 c2) := by rw [hW]; simp [go_sem]
  have T0 := Lib.hid t0
  have T1 := Lib.hid t1
  have T2 := Lib.hid t2
  clear t0 t1 t2 hW
  go_loopw [3] (fun v wr => ∃ k : Nat, v = .int .i64 (k : Int) ∧ k ≤ n ∧ Below W.heap.size W wr) (fun v _ => n - (intOf v).toNat)
  case atStart => exact ⟨0, rfl, Nat.zero_le _, Below.refl _ _⟩
  case round =>
    obtain ⟨wo, rfl⟩ : ∃ wo : World, wo = wr := ⟨_, rfl⟩
    obtain ⟨k, rfl, hkn, hbl⟩ := hrel
    have HBL := Lib.hid hbl
    have hzr := hbl.size
    clear hbl
    have l0 : wo.cell? ⟨w.heap.size, 0, none⟩ = some (.slice ad n c) := (HBL.out.cell (p := ⟨w.heap.size, 0, none⟩) (by show w.heap.size < _; omega)).trans T0.out
    by_cases hlt : k < n
    · as_aux_lemma =>
        have HBR := Lib.hid (HBW.out.trans (HBL.out.mono (by omega)))
        have HRK := Lib.hid (HR.out.below HBR.out)
        have hix := fun W => HRK.out.ix 54 52 Tryd.underlying54 cellsLoc (by omega) hlt c W
        have hbw : b < wo.heap.size := by have := hbk (by omega); omega
        have hl := (HLC.out k hlt).below HBR.out
        obtain ⟨s0, e0⟩ := hl.s0
        obtain ⟨s1, e1⟩ := hl.s1
        obtain ⟨s2, e2⟩ := hl.s2
        obtain ⟨a3, n3, c3, f3, b3, o3, e3, r3, rc3, rr3⟩ := hl.r3
        obtain ⟨a4, n4, c4, f4, b4, o4, e4, r4, rc4, rr4⟩ := hl.r4
        obtain ⟨s5, e5⟩ := hl.s5
        obtain ⟨s6, e6⟩ := hl.s6
        obtain ⟨s7, e7⟩ := hl.s7
        obtain ⟨s8, e8⟩ := hl.s8
        obtain ⟨z9, e9⟩ := hl.i9
        obtain ⟨z10, e10⟩ := hl.i10
        obtain ⟨a11, n11, c11, g11, b11, o11, e11, r11⟩ := hl.l11
        obtain ⟨a12, n12, c12, g12, b12, o12, e12, r12⟩ := hl.u12
        obtain ⟨a13, n13, c13, g13, b13, o13, e13, r13⟩ := hl.d13
        obtain ⟨a14, n14, c14, g14, b14, o14, e14, r14⟩ := hl.m14
        obtain ⟨a15, n15, c15, g15, b15, o15, e15, r15⟩ := hl.m15
        have k0 : wo.cell? ⟨b, off + k * 16, none⟩ = some (f k 0) := HRK.out.cell k 0 hlt (by omega)
        rw [e0] at k0
        have k1 : wo.cell? ⟨b, off + k * 16 + 1, none⟩ = some (f k 1) := HRK.out.cell k 1 hlt (by omega)
        rw [e1] at k1
        have k2 : wo.cell? ⟨b, off + k * 16 + 2, none⟩ = some (f k 2) := HRK.out.cell k 2 hlt (by omega)
        rw [e2] at k2
        have k3 : wo.cell? ⟨b, off + k * 16 + 3, none⟩ = some (f k 3) := HRK.out.cell k 3 hlt (by omega)
        rw [e3] at k3
        have k4 : wo.cell? ⟨b, off + k * 16 + 4, none⟩ = some (f k 4) := HRK.out.cell k 4 hlt (by omega)
        rw [e4] at k4
        have k5 : wo.cell? ⟨b, off + k * 16 + 5, none⟩ = some (f k 5) := HRK.out.cell k 5 hlt (by omega)
        rw [e5] at k5
        have k6 : wo.cell? ⟨b, off + k * 16 + 6, none⟩ = some (f k 6) := HRK.out.cell k 6 hlt (by omega)
        rw [e6] at k6
        have k7 : wo.cell? ⟨b, off + k * 16 + 7, none⟩ = some (f k 7) := HRK.out.cell k 7 hlt (by omega)
        rw [e7] at k7
        have k8 : wo.cell? ⟨b, off + k * 16 + 8, none⟩ = some (f k 8) := HRK.out.cell k 8 hlt (by omega)
        rw [e8] at k8
        have k9 : wo.cell? ⟨b, off + k * 16 + 9, none⟩ = some (f k 9) := HRK.out.cell k 9 hlt (by omega)
        rw [e9] at k9
        have k10 : wo.cell? ⟨b, off + k * 16 + 10, none⟩ = some (f k 10) := HRK.out.cell k 10 hlt (by omega)
        rw [e10] at k10
        have k11 : wo.cell? ⟨b, off + k * 16 + 11, none⟩ = some (f k 11) := HRK.out.cell k 11 hlt (by omega)
        rw [e11] at k11
        have k12 : wo.cell? ⟨b, off + k * 16 + 12, none⟩ = some (f k 12) := HRK.out.cell k 12 hlt (by omega)
        rw [e12] at k12
        have k13 : wo.cell? ⟨b, off + k * 16 + 13, none⟩ = some (f k 13) := HRK.out.cell k 13 hlt (by omega)
        rw [e13] at k13
        have k14 : wo.cell? ⟨b, off + k * 16 + 14, none⟩ = some (f k 14) := HRK.out.cell k 14 hlt (by omega)
        rw [e14] at k14
        have k15 : wo.cell? ⟨b, off + k * 16 + 15, none⟩ = some (f k 15) := HRK.out.cell k 15 hlt (by omega)
        rw [e15] at k15
        have q3 := r3.max
        have q4 := r4.max
        have q11 := r11.max
        have q12 := r12.max
        have q13 := r13.max
        have q14 := r14.max
        have q15 := r15.max
        have H3 := Lib.hid r3
        have H4 := Lib.hid r4
        have HC3 := Lib.hid rc3
        have HC4 := Lib.hid rc4
        have HR3 := Lib.hid rr3
        have HR4 := Lib.hid rr4
        clear hl e0 e1 e2 e3 e4 e5 e6 e7 e8 e9 e10 e11 e12 e13 e14 e15 r3 r4 r11 r12 r13 r14 r15 rc3 rc4 rr3 rr4
        go_upto_region 5 with (fail)
        refine wp_at_worldT ?_
        intro W1 hW1
        have hz1 : W1.heap.size = wo.heap.size + 1 := by rw [hW1]; simp
        have HB1 : Hid (Below wo.heap.size wo W1) := by rw [hW1]; exact (Below.refl _ _).alloc (Nat.le_refl _) _
        have y3 : W1.cell? ⟨wo.heap.size, 3, none⟩ = some (.slice a3 n3 c3) := by rw [hW1]; simp [go_sem]
        have y4 : W1.cell? ⟨wo.heap.size, 4, none⟩ = some (.slice a4 n4 c4) := by rw [hW1]; simp [go_sem]
        have y11 : W1.cell? ⟨wo.heap.size, 11, none⟩ = some (.slice a11 n11 c11) := by rw [hW1]; simp [go_sem]
        have y12 : W1.cell? ⟨wo.heap.size, 12, none⟩ = some (.slice a12 n12 c12) := by rw [hW1]; simp [go_sem]
        have y13 : W1.cell? ⟨wo.heap.size, 13, none⟩ = some (.slice a13 n13 c13) := by rw [hW1]; simp [go_sem]
        have y14 : W1.cell? ⟨wo.heap.size, 14, none⟩ = some (.slice a14 n14 c14) := by rw [hW1]; simp [go_sem]
        have y15 : W1.cell? ⟨wo.heap.size, 15, none⟩ = some (.slice a15 n15 c15) := by rw [hW1]; simp [go_sem]
        have hb1 : wo.heap.size < W1.heap.size := by omega
        have HBF := Lib.hid (HBR.out.trans (HB1.out.mono HBR.out.size))
        have HX3 := Lib.hid (H3.out.below HB1.out)
        have HX4 := Lib.hid (H4.out.below HB1.out)
        clear hW1 H3 H4 k0 k1 k2 k3 k4 k5 k6 k7 k8 k9 k10 k11 k12 k13 k14 k15
        by_cases p3 : n3 ≤ 12
        · have g3 : ¬ 12 < (n3 : Int) := by omega
          by_cases p4 : n4 ≤ 12
          · have g4 : ¬ 12 < (n4 : Int) := by omega
            by_cases p11 : n11 ≤ 12
            · have g11 : ¬ 12 < (n11 : Int) := by omega
              by_cases p12 : n12 ≤ 110
              · have g12 : ¬ 110 < (n12 : Int) := by omega
                by_cases p13 : n13 ≤ 40
                · have g13 : ¬ 40 < (n13 : Int) := by omega
                  by_cases p14 : n14 ≤ 20
                  · have g14 : ¬ 20 < (n14 : Int) := by omega
                    by_cases p15 : n15 ≤ 20
                    · have g15 : ¬ 20 < (n15 : Int) := by omega
                      go_wp2_with fail
                      go_loopw [5] (fun v wr => ∃ q : Nat, v = .int .i64 (q : Int) ∧ q ≤ n3 + n4 ∧ Below W1.heap.size W1 wr) (fun v _ => n3 + n4 - (intOf v).toNat)
                      case atStart => exact ⟨0, rfl, Nat.zero_le _, Below.refl _ _⟩
                      case round =>
                        obtain ⟨q, rfl, hqn, hbi⟩ := hrel
                        have HBI := Lib.hid hbi
                        have hzi := hbi.size
                        clear hbi
                        have u3 : wr.cell? ⟨wo.heap.size, 3, none⟩ = some (.slice a3 n3 c3) := (HBI.out.cell (p := ⟨wo.heap.size, 3, none⟩) hb1).trans y3
                        have u4 : wr.cell? ⟨wo.heap.size, 4, none⟩ = some (.slice a4 n4 c4) := (HBI.out.cell (p := ⟨wo.heap.size, 4, none⟩) hb1).trans y4
                        have hsum : (q : Int) < (n3 : Int) + (n4 : Int) ↔ q < n3 + n4 := by omega
                        by_cases hlt2 : q < n3 + n4
                        · as_aux_lemma =>
                            have hs1 : (q : Int) < (n3 : Int) + (n4 : Int) := hsum.2 hlt2
                            clear hsum
                            go_upto_region 10 with (fail)
                            refine wp_region_gen (fun A0 hA0 => ?_)
                            have fa4 : A0.tmps.getD 4 undef = .pointer (some ⟨wo.heap.size, 0, none⟩) := by rw [hA0]; rfl
                            have fa5 : A0.tmps.getD 5 undef = .int .i64 (q : Int) := by rw [hA0]; rfl
                            have aS : A0.tmps.size = 105 := by rw [hA0]; rfl
                            have HA0 := Lib.hid hA0
                            clear hA0
                            have hbx : wo.heap.size < wr.heap.size := by omega
                            have HY3 := Lib.hid (HX3.out.below HBI.out)
                            have HY4 := Lib.hid (HX4.out.below HBI.out)
                            have HO3 : Hid (∀ i, i < n3 → (f3 i 0).oneCell' = true ∧ (f3 i 1).oneCell' = true) := fun i hi => by
                              obtain ⟨⟨s, hs⟩, ⟨_, _, _, _, _, _, hc, _⟩⟩ := HR3.out i hi
                              rw [hs, hc]; exact ⟨rfl, rfl⟩
                            have HO4 : Hid (∀ i, i < n4 → (f4 i 0).oneCell' = true ∧ (f4 i 1).oneCell' = true) := fun i hi => by
                              obtain ⟨⟨s, hs⟩, ⟨_, _, _, _, _, _, hc, _⟩⟩ := HR4.out i hi
                              rw [hs, hc]; exact ⟨rfl, rfl⟩
                            have HRU : Hid ((∃ s, (if q < n3 then f3 q 0 else f4 (q - n3) 0) = .string s) ∧ CondOk wo (if q < n3 then f3 q 1 else f4 (q - n3) 1)) := by
                              unfold Hid
                              split
                              · rename_i h; exact HR3.out q h
                              · exact HR4.out (q - n3) (by omega)
                            obtain ⟨r0, hr0⟩ : ∃ r0, (if q < n3 then f3 q 0 else f4 (q - n3) 0) = r0 := ⟨_, rfl⟩
                            obtain ⟨r1, hr1⟩ : ∃ r1, (if q < n3 then f3 q 1 else f4 (q - n3) 1) = r1 := ⟨_, rfl⟩
                            have hra := two_app_at f3 f4 n3 n4 q hlt2
                            rw [hr0, hr1] at HRU hra
                            have HRA := Lib.hid hra
                            clear hr0 hr1 hra
                            obtain ⟨⟨sr, rfl⟩, hcr⟩ := HRU.out
                            obtain ⟨ra, rn, rc, rf, rb, ro, rfl, hcr2, hcr3⟩ := hcr
                            clear HRU
                            have HCR : Hid (CondOk wo (.slice ra rn rc)) := ⟨ra, rn, rc, rf, rb, ro, rfl, hcr2, hcr3⟩
                            clear hcr2 hcr3
                            refine wp_region_inv (JJ A0 [(1, 71, .pointer (some ⟨wo.heap.size, 3, none⟩)), (2, 72, .slice a3 n3 c3), (4, 74, .pointer (some ⟨wo.heap.size, 4, none⟩)), (5, 75, .slice a4 n4 c4), (7, 77, .int .i64 (q : Int)), (9, 79, .agg #[.string sr, .slice ra rn rc])] wr n3 n4 q (twoCells f3 n3) (twoCells f4 n4) (.string sr) (.slice ra rn rc)) (by kernel_rfl) (by kernel_rfl) (JJ.start _ _) ?_ ?_
                            · refine ⟨?_, ?_, ?_, ?_, ?_, ?_, ?_, ?_, ?_, ?_, ?_, ?_, trivial⟩
                              all_goals (intro L a w7 hL hi hp hJ; replace hL : L.size = 12 := hL; refine if_plain rfl ?_)
                              · have h11 := hJ.lt hL (by omega) hi
                                have hR := hJ.2 h11
                                refine wp_of_run (build0 _ _ rfl _) ?_
                                exact JJ.of (by omega) h11 (hR.op0 (by omega) hL (by rw [← getD_tf L 0 (by omega)]; exact hi) (by simp))
                              · have h11 := hJ.lt hL (by omega) hi
                                have hR := hJ.2 h11
                                refine wp_field_run 52 _ 3 rfl (hR.fr.ev (by decide) fa4) (v := .pointer (some ⟨wo.heap.size, 3, none⟩)) (by go_simp) ?_
                                exact JJ.of (by omega) h11 (hR.det (by omega) hL 1 71 _ (by omega) (by omega) (by omega) (by omega) (by omega) (by omega) (by decide) (by omega) (by omega) (by omega) (by omega) (by omega) (by simp))
                              · have h11 := hJ.lt hL (by omega) hi
                                have hR := hJ.2 h11
                                have h1 := hR.tab.ev (i := 1) (d := 71) (v := .pointer (some ⟨wo.heap.size, 3, none⟩)) (by simp) (hp ⟨1, .data⟩ (by simp) rfl)
                                have hc := (hR.bel.cell (p := ⟨wo.heap.size, 3, none⟩) hbx).trans u3
                                refine wp_load_run 46 _ rfl h1 (v := .slice a3 n3 c3) (by go_simp) ?_
                                exact JJ.of (by omega) h11 (hR.det (by omega) hL 2 72 _ (by omega) (by omega) (by omega) (by omega) (by omega) (by omega) (by decide) (by omega) (by omega) (by omega) (by omega) (by omega) (by simp))
                              · have h11 := hJ.lt hL (by omega) hi
                                have hR := hJ.2 h11
                                have h0 := hp ⟨0, .data⟩ (by simp) rfl
                                have h2 : a.eval (.tmp 72) = .slice a3 n3 c3 := hR.tab.ev (i := 2) (d := 72) (by simp) (hp ⟨2, .data⟩ (by simp) rfl)
                                have h3f : L.getD 3 false = false := by rw [← getD_tf L 3 (by omega)]; exact hi
                                obtain ⟨ad5, c5, e5, hown5⟩ := hR.s0 h0 h3f
                                refine wp_app_rules (.tmp 70) (.tmp 72) rfl wr.heap.size ad5 0 c5 [] e5 hown5 a3 n3 c3 f3 b3 o3 h2 (HY3.out.below hR.bel) HC3.out HO3.out (by omega) hR.bel.size ?_
                                intro ad6 c6 w6 hown6 hg6 hb6
                                rw [Nat.zero_add, List.nil_append] at hown6
                                rw [Nat.zero_add] at hb6
                                show JJ _ _ _ _ _ _ _ _ _ _ (L.setIfInBounds 3 true) (a.put (some 73) (.slice ad6 (0 + n3) c6)) w6
                                rw [Nat.zero_add]
                                exact JJ.of (by omega) h11 (hR.op3 (by omega) hL h0 h3f (by simp) e5 hown5 hown6 hg6 hb6)
                              · have h11 := hJ.lt hL (by omega) hi
                                have hR := hJ.2 h11
                                refine wp_field_run 52 _ 4 rfl (hR.fr.ev (by decide) fa4) (v := .pointer (some ⟨wo.heap.size, 4, none⟩)) (by go_simp) ?_
                                exact JJ.of (by omega) h11 (hR.det (by omega) hL 4 74 _ (by omega) (by omega) (by omega) (by omega) (by omega) (by omega) (by decide) (by omega) (by omega) (by omega) (by omega) (by omega) (by simp))
                              · have h11 := hJ.lt hL (by omega) hi
                                have hR := hJ.2 h11
                                have h1 := hR.tab.ev (i := 4) (d := 74) (v := .pointer (some ⟨wo.heap.size, 4, none⟩)) (by simp) (hp ⟨4, .data⟩ (by simp) rfl)
                                have hc := (hR.bel.cell (p := ⟨wo.heap.size, 4, none⟩) hbx).trans u4
                                refine wp_load_run 46 _ rfl h1 (v := .slice a4 n4 c4) (by go_simp) ?_
                                exact JJ.of (by omega) h11 (hR.det (by omega) hL 5 75 _ (by omega) (by omega) (by omega) (by omega) (by omega) (by omega) (by decide) (by omega) (by omega) (by omega) (by omega) (by omega) (by simp))
                              · have h11 := hJ.lt hL (by omega) hi
                                have hR := hJ.2 h11
                                have h3 := hp ⟨3, .data⟩ (by simp) rfl
                                have h5 : a.eval (.tmp 75) = .slice a4 n4 c4 := hR.tab.ev (i := 5) (d := 75) (by simp) (hp ⟨5, .data⟩ (by simp) rfl)
                                have h6f : L.getD 6 false = false := by rw [← getD_tf L 6 (by omega)]; exact hi
                                obtain ⟨ad5, c5, e5, hown5⟩ := hR.s3 h3 h6f
                                refine wp_app_rules (.tmp 73) (.tmp 75) rfl wr.heap.size ad5 n3 c5 (twoCells f3 n3) e5 hown5 a4 n4 c4 f4 b4 o4 h5 (HY4.out.below hR.bel) HC4.out HO4.out (by omega) hR.bel.size ?_
                                intro ad6 c6 w6 hown6 hg6 _
                                exact JJ.of (by omega) h11 (hR.op6 (by omega) hL h3 h6f (by simp) e5 hown5 hown6 hg6)
                              · have h11 := hJ.lt hL (by omega) hi
                                have hR := hJ.2 h11
                                refine wp_move _ rfl (hR.fr.ev (by decide) fa5) ?_
                                exact JJ.of (by omega) h11 (hR.det (by omega) hL 7 77 _ (by omega) (by omega) (by omega) (by omega) (by omega) (by omega) (by decide) (by omega) (by omega) (by omega) (by omega) (by omega) (by simp))
                              · have h11 := hJ.lt hL (by omega) hi
                                have hR := hJ.2 h11
                                have h6 := hp ⟨6, .data⟩ (by simp) rfl
                                have h7 : a.eval (.tmp 77) = .int .i64 (q : Int) := hR.tab.ev (i := 7) (d := 77) (by simp) (hp ⟨7, .data⟩ (by simp) rfl)
                                obtain ⟨ad5, c5, e5, hown5⟩ := hR.s6 h6
                                obtain ⟨g, hg1, hg2, hg3, hg4⟩ := row_at hown5 hlt2 HRA.out.1 HRA.out.2
                                refine wp_index_run 46 _ _ rfl (show a.eval (.tmp 76) = _ from e5) h7 (v := .pointer (some ⟨g, q * 2, none⟩)) (hg2 _) ?_
                                exact JJ.of (by omega) h11 (hR.op8 (by omega) hL h6 (by simp) g hg1 hg3 hg4)
                              · have h11 := hJ.lt hL (by omega) hi
                                have hR := hJ.2 h11
                                obtain ⟨g, e1, e2, e3, e4⟩ := hR.s8 (hp ⟨8, .data⟩ (by simp) rfl)
                                refine wp_load_run 85 _ rfl (show a.eval (.tmp 78) = _ from e1) (v := .agg #[.string sr, .slice ra rn rc]) (by go_simp) ?_
                                exact JJ.of (by omega) h11 (hR.det (by omega) hL 9 79 _ (by omega) (by omega) (by omega) (by omega) (by omega) (by omega) (by decide) (by omega) (by omega) (by omega) (by omega) (by omega) (by simp))
                              · have h11 := hJ.lt hL (by omega) hi
                                have hR := hJ.2 h11
                                refine wp_alloc_run 85 rfl (w' := w7.alloc (.cells #[.string .empty, .slice none 0 0] 85)) (v := .pointer (some ⟨w7.heap.size, 0, none⟩)) (by go_simp; rfl) ?_
                                exact JJ.of (by omega) h11 (hR.op10 (by omega) hL (by simp))
                              · have hall : ∀ j, j < 11 → L.getD j false = true := fun j hj => by
                                  have : j = 0 ∨ j = 1 ∨ j = 2 ∨ j = 3 ∨ j = 4 ∨ j = 5 ∨ j = 6 ∨ j = 7 ∨ j = 8 ∨ j = 9 ∨ j = 10 := by omega
                                  rcases this with e | e | e | e | e | e | e | e | e | e | e <;> subst e <;> exact hp ⟨_, .phase⟩ (by simp) rfl
                                have h11 : L.getD 11 false = false := by rw [← getD_tf L 11 (by omega)]; exact hi
                                have hR := hJ.2 h11
                                have h9 : a.eval (.tmp 79) = .agg #[.string sr, .slice ra rn rc] := hR.tab.ev (i := 9) (d := 79) (by simp) (hall 9 (by omega))
                                obtain ⟨B, e1, e2, e3, _, _⟩ := hR.box (hall 10 (by omega))
                                have x0 : w7.cell? ⟨B, 0, none⟩ = some (.string .empty) := by simp [World.cell?, e3]
                                have x1 : w7.cell? ⟨B, 1, none⟩ = some (.slice none 0 0) := by simp [World.cell?, e3]
                                have xf : w7.frozen? ⟨B, 0, none⟩ = false := by simp [World.frozen?, e3]
                                have xg : w7.frozen? ⟨B, 1, none⟩ = false := by simp [World.frozen?, e3]
                                refine wp_store_run 85 _ _ rfl (show a.eval (.tmp 6) = _ from e1) h9 (w' := (w7.setCell ⟨B, 0, none⟩ (.string sr)).setCell ⟨B, 1, none⟩ (.slice ra rn rc)) (by go_simp) ?_
                                refine ⟨fun _ => ⟨fun j hj => by rw [getD_set_other (by omega)]; exact hall j hj, hR.fr, (hR.bel.setCell (p := ⟨B, 0, none⟩) e2 _).setCell (p := ⟨B, 1, none⟩) e2 _, B, e1, e2, ?_, ?_⟩, fun e => (by rw [getD_set_same (by omega)] at e; cases e)⟩
                                · simp [go_sem, x0]
                                · simp [go_sem, x1]
                            · intro L a w7 hdone hJ
                              obtain ⟨_, hfr, hbel, B, hB, hB0, hc0, hc1⟩ := hJ.1 (hdone 11 (by simp))
                              have ha := hfr.eq_puts [(70, a.tmps.getD 70 undef), (71, a.tmps.getD 71 undef), (72, a.tmps.getD 72 undef), (73, a.tmps.getD 73 undef), (74, a.tmps.getD 74 undef), (75, a.tmps.getD 75 undef), (76, a.tmps.getD 76 undef), (77, a.tmps.getD 77 undef), (78, a.tmps.getD 78 undef), (79, a.tmps.getD 79 undef), (6, .pointer (some ⟨B, 0, none⟩))] rfl (by decide) (by rw [aS]; decide) (by
                                intro x hx
                                simp only [List.mem_cons, List.not_mem_nil, or_false] at hx
                                rcases hx with rfl | rfl | rfl | rfl | rfl | rfl | rfl | rfl | rfl | rfl | rfl <;> first | rfl | exact hB)
                              generalize a.tmps.getD 70 undef = m70 at ha
                              generalize a.tmps.getD 71 undef = m71 at ha
                              generalize a.tmps.getD 72 undef = m72 at ha
                              generalize a.tmps.getD 73 undef = m73 at ha
                              generalize a.tmps.getD 74 undef = m74 at ha
                              generalize a.tmps.getD 75 undef = m75 at ha
                              generalize a.tmps.getD 76 undef = m76 at ha
                              generalize a.tmps.getD 77 undef = m77 at ha
                              generalize a.tmps.getD 78 undef = m78 at ha
                              generalize a.tmps.getD 79 undef = m79 at ha
                              have HB7 := Lib.hid (HBI.out.trans (hbel.mono hzi))
                              have HB8 := Lib.hid hbel
                              have HC8 := Lib.hid (HCR.out.below (HB1.out.trans (HB7.out.mono (by omega))))
                              have hA := HA0.out
                              clear hJ hfr hbel hB hdone
                              subst ha
                              subst hA
                              have HCF2 := Lib.hid (HCF.out _ w7 HC8.out)
                              clear HC8
                              rw [show ∀ A : Act, puts [(70, m70), (71, m71), (72, m72), (73, m73), (74, m74), (75, m75), (76, m76), (77, m77), (78, m78), (79, m79), (6, .pointer (some ⟨B, 0, none⟩))] A = ((((((((((A.put (some 70) m70).put (some 71) m71).put (some 72) m72).put (some 73) m73).put (some 74) m74).put (some 75) m75).put (some 76) m76).put (some 77) m77).put (some 78) m78).put (some 79) m79).put (some 6) (.pointer (some ⟨B, 0, none⟩)) from fun _ => rfl]
                              simp only [Act.put, List.setIfInBounds_toArray, List.set_cons_zero, List.set_cons_succ]
                              go_wp2_with fail
                              refine HCF2.out.mono ?_
                              rintro e _ ⟨bb, rfl, rfl⟩
                              cases bb with
                              | false =>
                                go_wp2_with fail
                                go_ret
                                exact ⟨false, rfl, HBF.out.trans (HB7.out.mono HBF.out.size)⟩
                              | true =>
                                go_wp2_with fail
                                go_roundw
                                case rel => exact ⟨q + 1, by go_num, by omega, HB7.out⟩
                                case measure => simp [intOf]; omega
                        · as_aux_lemma =>
                            have hs1 : ¬ (q : Int) < (n3 : Int) + (n4 : Int) := fun h => hlt2 (hsum.1 h)
                            clear hsum
                            go_wp2_with fail
                            go_roundw
                            case rel => exact ⟨k + 1, by go_num, by omega, HBL.out.trans ((HB1.out.trans (HBI.out.mono (by omega))).mono hzr)⟩
                            case measure => simp [intOf]; omega
                    · as_aux_lemma =>
                        have g15 : 20 < (n15 : Int) := by omega
                        go_wp2_with fail
                        go_ret
                        exact ⟨false, rfl, HBF.out⟩
                  · as_aux_lemma =>
                      have g14 : 20 < (n14 : Int) := by omega
                      go_wp2_with fail
                      go_ret
                      exact ⟨false, rfl, HBF.out⟩
                · as_aux_lemma =>
                    have g13 : 40 < (n13 : Int) := by omega
                    go_wp2_with fail
                    go_ret
                    exact ⟨false, rfl, HBF.out⟩
              · as_aux_lemma =>
                  have g12 : 110 < (n12 : Int) := by omega
                  go_wp2_with fail
                  go_ret
                  exact ⟨false, rfl, HBF.out⟩
            · as_aux_lemma =>
                have g11 : 12 < (n11 : Int) := by omega
                go_wp2_with fail
                go_ret
                exact ⟨false, rfl, HBF.out⟩
          · as_aux_lemma =>
              have g4 : 12 < (n4 : Int) := by omega
              go_wp2_with fail
              go_ret
              exact ⟨false, rfl, HBF.out⟩
        · as_aux_lemma =>
            have g3 : 12 < (n3 : Int) := by omega
            go_wp2_with fail
            go_ret
            exact ⟨false, rfl, HBF.out⟩
    · obtain rfl : k = n := by omega
      as_aux_lemma =>
        have t1 : wo.cell? ⟨w.heap.size, 1, none⟩ = some (.slice ad1 n1 c1) := (HBL.out.cell (p := ⟨w.heap.size, 1, none⟩) (by show w.heap.size < _; omega)).trans T1.out
        have t2 : wo.cell? ⟨w.heap.size, 2, none⟩ = some (.slice ad2 n2 c2) := (HBL.out.cell (p := ⟨w.heap.size, 2, none⟩) (by show w.heap.size < _; omega)).trans T2.out
        have HBF := Lib.hid (HBW.out.trans (HBL.out.mono (by omega)))
        have HSI : Hid (Calls Tryd.prog 48 #[.agg #[.slice ad k c, .slice ad1 n1 c1, .slice ad2 n2 c2]] wo (SomeInt wo)) := sizes_any _ _ _ wo (HTB.out.below HBF.out) HV1.out HV2.out
        by_cases p0 : k ≤ 62
        · have g0 : (k : Int) ≤ 62 := by omega
          by_cases p1 : n1 ≤ 205
          · have g1 : (n1 : Int) ≤ 205 := by omega
            by_cases p2 : n2 ≤ 205
            · have g2 : (n2 : Int) ≤ 205 := by omega
              go_wp2_with fail
              refine HSI.out.mono ?_
              rintro e w3 ⟨z, rfl, hb3⟩
              have HB3 := Lib.hid (HBF.out.trans (hb3.mono HBF.out.size))
              clear hb3
              go_wp2_with fail
              all_goals
                go_ret
                exact ⟨_, rfl, HB3.out⟩
            · have g2 : ¬ (n2 : Int) ≤ 205 := by omega
              go_wp2_with fail
              go_ret
              exact ⟨_, rfl, HBF.out⟩
          · have g1 : ¬ (n1 : Int) ≤ 205 := by omega
            go_wp2_with fail
            go_ret
            exact ⟨_, rfl, HBF.out⟩
        · have g0 : ¬ (k : Int) ≤ 62 := by omega
          go_wp2_with fail
          go_ret
          exact ⟨_, rfl, HBF.out⟩
end Go.Proofs.YtaolbfbnjbpljaaDoor
