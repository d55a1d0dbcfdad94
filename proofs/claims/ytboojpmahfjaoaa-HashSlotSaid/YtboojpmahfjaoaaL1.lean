/- HashSlot: Valid and Slot return the specified results for any table and key, and slots are less than the size. -/
import Derived.Test.YtboojpmahfjaoaaO
namespace Go.Proofs.Ytboojpmahfjaoaa
open Go.RowKit
attribute [local go_sem] Ext.cell Ext.frozen

theorem slotT_bad {size : Int} {zs : List Int} (key : ByteArray) (h : validT size zs = false) : slotT size zs key = -1 := by simp [slotT, h]

set_option maxHeartbeats 1000000 in
theorem hashSlot_walk (size : Int) (ad : Option Addr) (n c : Nat) (zs : List Int) (key : ByteArray) (w : World) (hs : Sl w ad n (ints zs)) (hk : key.size ≤ 9223372036854775807) :
    Calls Try.prog 4 #[.agg #[.int .i64 size, .slice ad n c], .string key] w fun e w' => e = .returned (.bool true) ∧ Below w.heap.size w w' := by
  have HS := Lib.hid hs
  have hmax := hs.max
  clear hs
  go_enter Try.func4, Try.ntmps4
  go_wp2_with fail
  refine (awake_any _).mono ?_
  rintro e w1 ⟨rfl, hb⟩
  have hb1 : Below w.heap.size w w1 := ((Below.refl _ w).alloc (Nat.le_refl _) _).trans (hb.mono (by simp))
  have HB1 := Lib.hid hb1
  have hz1 := hb1.size
  have hc0 := hb.cell (p := ⟨w.heap.size, 0, none⟩) (by simp)
  have hc1 := hb.cell (p := ⟨w.heap.size, 1, none⟩) (by simp)
  have hz2 : w.heap.size < w1.heap.size := by have := hb.size; simp at this; omega
  have HS1 := Lib.hid (HS.out.below hb1)
  clear hb hb1
  by_cases hg1 : 300 < n
  · go_wp2_with fail
    refine (awake_any _).mono ?_
    rintro e w2 ⟨rfl, hb2⟩
    have HB2 := Lib.hid (HB1.out.trans (hb2.mono hz1))
    clear hb2
    go_wp2_with fail
    go_ret
    exact ⟨rfl, HB2.out⟩
  · by_cases hg2 : 200 < key.size
    · go_wp2_with fail
      refine (awake_any _).mono ?_
      rintro e w2 ⟨rfl, hb2⟩
      have HB2 := Lib.hid (HB1.out.trans (hb2.mono hz1))
      clear hb2
      go_wp2_with fail
      go_ret
      exact ⟨rfl, HB2.out⟩
    · go_wp2_with fail
      refine (slot_any size ad n c zs key _ HS1.out hk).mono ?_
      rintro e w2 ⟨rfl, hb2⟩
      have HB2 := Lib.hid (HB1.out.trans (hb2.mono hz1))
      have HS2 := Lib.hid (HS1.out.below hb2)
      have hd0 := (hb2.cell (p := ⟨w.heap.size, 0, none⟩) hz2).trans hc0
      have hd1 := (hb2.cell (p := ⟨w.heap.size, 1, none⟩) hz2).trans hc1
      have hz3 : w.heap.size < w2.heap.size := by have := hb2.size; omega
      have hz4 : w.heap.size ≤ w2.heap.size := by omega
      clear hb2 hc0 hc1
      have HV1 := Lib.hid (fun W h => valid_any size ad n c zs W h)
      have HV2 := Lib.hid (fun W h => rvalid_any size ad n c zs W h)
      have HV3 := Lib.hid (fun W h => rslot_any size ad n c zs key W h hk)
      cases hv : validT size zs with
      | false =>
        have hsl := slotT_bad key hv
        rw [hv] at HV1 HV2
        rw [hsl] at HV3
        rw [hsl]
        clear hv hsl
        go_wp2_with fail
        refine wp_region_ext (by kernel_rfl) (by kernel_rfl) ?_
        repeat (go_big_quiet_step (first
          | (go_at_call 15; exact Calls.ext (HV1.out _ (HS2.out.ext _)))
          | (go_at_call 16; exact Calls.ext (HV2.out _ (HS2.out.ext _)))
          | (go_at_call 17; exact Calls.ext (HV3.out _ (HS2.out.ext _)))))
        refine wpQuiet_nil ?_
        intro _ hw'
        obtain ⟨e, hw''⟩ := hw'
        subst hw''
        go_wp2
        go_ret
        exact ⟨rfl, HB2.out.trans (e.2.mono hz4)⟩
      | true =>
        have hr := slotT_range size zs key hv
        rw [hv] at HV1 HV2
        generalize slotT size zs key = sv at *
        clear hv
        have hq : (sv == -1) = true ∨ ((sv == -1) = false ∧ 0 ≤ sv ∧ sv < size) := by
          rcases hr with hr | ⟨h1, h2⟩
          · left; simp [hr]
          · right; exact ⟨by simp; omega, h1, h2⟩
        clear hr
        rcases hq with hq | ⟨hq, hq1, hq2⟩
        all_goals
          go_wp2_with fail
          refine wp_region_ext (by kernel_rfl) (by kernel_rfl) ?_
          repeat (go_big_quiet_step (first
            | (go_at_call 15; exact Calls.ext (HV1.out _ (HS2.out.ext _)))
            | (go_at_call 16; exact Calls.ext (HV2.out _ (HS2.out.ext _)))
            | (go_at_call 17; exact Calls.ext (HV3.out _ (HS2.out.ext _)))))
          refine wpQuiet_nil ?_
          intro _ hw'
          obtain ⟨e, hw''⟩ := hw'
          subst hw''
          go_wp2
          go_ret
          exact ⟨rfl, HB2.out.trans (e.2.mono hz4)⟩
end Go.Proofs.Ytboojpmahfjaoaa

namespace Go.Proofs.Ytboojpmahfjaoaa.lawHashSlot
open Go.ChangeShapes Go.WideShapes Go.ChangeAt Go.RowKit Go.Joins
open Go.ChangeMaps (open_string shut_string)
set_option maxRecDepth 100000 in
theorem lifted (os : Os) (started : os.Started) (H : Type) (enc : TypeId × Value → H) :
    ReturnsInHanded {} Try.checked os 4 .any (Rows.hashSlotSpec.pre6 enc Try.prog Try.f4 Rows.hashSlotRow.domain false) (Rows.hashSlotSpec.post enc Try.prog Try.f4 false true false false) := by
  refine returnsInHanded_of_change (C := Try.checked) own started (by kernel_rfl) Try.func4
    (ChangeSpec.witness6 (enc := enc) (C := Try.checked) false ⟨#[], #[.agg #[.int .i64 0, .slice none 0 0], .string .empty], []⟩ 8 (by kernel_rfl) (by kernel_rfl) (by kernel_rfl) (by kernel_rfl)) ?_
  intro W base args ds gs before hval0 hW _ _
  have hval : ∀ (j : Nat) t v, Try.f4.params[j]? = some t → args[j]? = some v → Value.okWide Try.prog W .any base t v := hval0
  have hW' := hW
  obtain ⟨p, q, hA0, hV, rfl, hfz, hnd⟩ := hW
  have hA : DataW.TrodAll enc Try.prog W 0 (fun _ => true) true Try.f4.params.toList args.toList ds p := hA0
  rw [Try.params4] at hA hval
  obtain ⟨v0, vs0, d0, ds0, p0, q0, hargs, rfl, rfl, h0, r0⟩ := trodAll_cons hA
  obtain ⟨v1, vs1, d1, ds1, p1, q1, rfl, rfl, rfl, h1, r1⟩ := trodAll_cons r0
  obtain ⟨rfl, rfl, rfl⟩ := trodAll_nil r1
  obtain rfl : args = #[v0, v1] := by cases args; simp_all
  obtain ⟨rfl, rfl⟩ := trodVars_none hV
  have k0 := h0
  have lt0 : ∀ x ∈ p0, x.block < W.heap.size := by obtain ⟨m, hm⟩ := k0; exact DataW.trod_lt m _ _ _ hm
  obtain ⟨c0, c1, y0, y1, m, rfl, _, _, hy0, hy1⟩ := open_agg2 Try.underlying31 (by kernel_rfl) cells31 (hval 0 31 v0 rfl rfl) h0
  obtain ⟨size, e0, _, _⟩ := DataW.trod_int Try.underlying3 hy0
  simp at e0
  subst e0
  obtain ⟨ad, n, c, zs, rfl, hs⟩ := open_int_sl hy1
  obtain ⟨key, rfl, rfl, rfl, hk⟩ := open_string Try.underlying9 (hval 1 9 v1 rfl rfl) h1
  clear hA0 hval0
  refine (hashSlot_walk size ad n c zs key W hs (by unfold maxLen at hk; omega)).mono fun e W' ⟨he, bel⟩ => ?_
  subst he
  exact ⟨_, rfl, _, _, _, [], _, [], hW', trodAll_mk1 (shut_bool Try.underlying4 _), (trodAll_cons_mk (Below.trod laidOut (by kernel_rfl) (of_decide_eq_true (by kernel_rfl)) k0 bel lt0) (trodAll_cons_mk (shut_string Try.underlying9 hk) trodAll_mk0)), rfl, bel.frame _, fun h => by cases h⟩

theorem proved : Rows.HashSlotSaid :=
  OpenClaim.holds_of_wide 4 Try.f4 rfl rfl rfl rfl rfl rfl rfl ⟨rfl, rfl, rfl, rfl, rfl⟩ rfl rfl rfl rfl rfl (by kernel_rfl) Try.func4 (by kernel_rfl)
    (of_decide_eq_true (by kernel_rfl)) (by unfold Func.isWrapper; first | (rw [if_pos (by decide +kernel)]; kernel_rfl) | (rw [if_neg (by decide +kernel)]; exact ⟨rfl, rfl⟩))
    (fun os started H enc _ => lifted os started H enc)
#print axioms proved
end Go.Proofs.Ytboojpmahfjaoaa.lawHashSlot
