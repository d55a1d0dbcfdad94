/- HashCheck: Check returns the specified result for any table and up to 60 keys. -/
import Derived.Test.YtboojpmahfjaoaaO
namespace Go.Proofs.Ytboojpmahfjaoaa
open Go.RowKit
attribute [local go_sem] Ext.cell Ext.frozen

def few (ss : List ByteArray) : Bool := ss.all (fun s => decide (s.size ≤ 60)) && decide (ss.length ≤ 60)

set_option maxHeartbeats 1000000 in
theorem hashCheck_walk (size : Int) (ad ad2 : Option Addr) (n c n2 c2 : Nat) (zs : List Int) (keys : List ByteArray) (w : World) (hs : Sl w ad n (ints zs)) (hk : Sl w ad2 n2 (strs keys)) (hm : ∀ s ∈ keys, s.size ≤ 9223372036854775807) :
    Calls Try.prog 5 #[.agg #[.int .i64 size, .slice ad n c], .slice ad2 n2 c2] w fun e w' => e = .returned (.bool true) ∧ Below w.heap.size w w' := by
  have HS := Lib.hid hs
  have HK := Lib.hid hk
  have HM := Lib.hid hm
  have hmax := hs.max
  clear hs hk hm
  go_enter Try.func5, Try.ntmps5
  go_wp2_with fail
  refine (awake_any _).mono ?_
  rintro e w1 ⟨rfl, hb⟩
  have hb1 : Below w.heap.size w w1 := ((Below.refl _ w).alloc (Nat.le_refl _) _).trans (hb.mono (by simp))
  have HB1 := Lib.hid hb1
  have hz1 := hb1.size
  have hc0 := hb.cell (p := ⟨w.heap.size, 0, none⟩) (by simp)
  have hc1 := hb.cell (p := ⟨w.heap.size, 1, none⟩) (by simp)
  have hz2 : w.heap.size < w1.heap.size := by have := hb.size; simp at this; omega
  have HS1 := Lib.hid (HS.out.below hb1)
  have HK1 := Lib.hid (HK.out.below hb1)
  clear hb hb1
  by_cases hg1 : 300 < n
  · go_wp2_with fail
    refine (awake_any _).mono ?_
    rintro e w2 ⟨rfl, hb2⟩
    have HB2 := Lib.hid (HB1.out.trans (hb2.mono hz1))
    clear hb2
    go_wp2_with fail
    go_ret
    exact ⟨rfl, HB2.out⟩
  · have HF := Lib.hid (fun W h => few_any ad2 n2 c2 keys W h HM.out)
    cases hf : (keys.all (fun s => decide (s.size ≤ 60)) && decide (keys.length ≤ 60)) with
    | false =>
      rw [hf] at HF
      clear hf
      go_wp2_with fail
      refine (HF.out _ HK1.out).mono ?_
      rintro e w' ⟨rfl, rfl⟩
      go_wp2_with fail
      refine (awake_any _).mono ?_
      rintro e w2 ⟨rfl, hb2⟩
      have HB2 := Lib.hid (HB1.out.trans (hb2.mono hz1))
      clear hb2
      go_wp2_with fail
      go_ret
      exact ⟨rfl, HB2.out⟩
    | true =>
      rw [hf] at HF
      clear hf
      have HC1 := Lib.hid (fun W h1 h2 => check_any size ad ad2 n c n2 c2 zs keys W h1 h2 HM.out)
      have HC2 := Lib.hid (fun W h1 h2 => rcheck_any size ad ad2 n c n2 c2 zs keys W h1 h2 HM.out)
      generalize checkT size zs keys = r at *
      go_wp2_with fail
      refine (HF.out _ HK1.out).mono ?_
      rintro e w' ⟨rfl, rfl⟩
      go_wp2_with fail
      refine wp_region_ext (by kernel_rfl) (by kernel_rfl) ?_
      repeat (go_big_quiet_step (first
        | (go_at_call 18; exact Calls.ext (HC1.out _ (HS1.out.ext _) (HK1.out.ext _)))
        | (go_at_call 19; exact Calls.ext (HC2.out _ (HS1.out.ext _) (HK1.out.ext _)))))
      refine wpQuiet_nil ?_
      intro _ hw'
      obtain ⟨e, hw''⟩ := hw'
      subst hw''
      go_wp2
      go_ret
      exact ⟨ret_bool (by cases r <;> rfl), HB1.out.trans (e.2.mono hz1)⟩
end Go.Proofs.Ytboojpmahfjaoaa

namespace Go.Proofs.Ytboojpmahfjaoaa.lawHashCheck
open Go.ChangeShapes Go.WideShapes Go.ChangeAt Go.RowKit Go.Joins
open Go.ChangeMaps (open_string shut_string)
set_option maxRecDepth 100000 in
theorem lifted (os : Os) (started : os.Started) (H : Type) (enc : TypeId × Value → H) :
    ReturnsInHanded {} Try.checked os 5 .any (Rows.hashCheckSpec.pre6 enc Try.prog Try.f5 Rows.hashCheckRow.domain false) (Rows.hashCheckSpec.post enc Try.prog Try.f5 false true false false) := by
  refine returnsInHanded_of_change (C := Try.checked) own started (by kernel_rfl) Try.func5
    (ChangeSpec.witness6 (enc := enc) (C := Try.checked) false ⟨#[], #[.agg #[.int .i64 0, .slice none 0 0], .slice none 0 0], []⟩ 8 (by kernel_rfl) (by kernel_rfl) (by kernel_rfl) (by kernel_rfl)) ?_
  intro W base args ds gs before hval0 hW _ _
  have hval : ∀ (j : Nat) t v, Try.f5.params[j]? = some t → args[j]? = some v → Value.okWide Try.prog W .any base t v := hval0
  have hW' := hW
  obtain ⟨p, q, hA0, hV, rfl, hfz, hnd⟩ := hW
  have hA : DataW.TrodAll enc Try.prog W 0 (fun _ => true) true Try.f5.params.toList args.toList ds p := hA0
  rw [Try.params5] at hA hval
  obtain ⟨v0, vs0, d0, ds0, p0, q0, hargs, rfl, rfl, h0, r0⟩ := trodAll_cons hA
  obtain ⟨v1, vs1, d1, ds1, p1, q1, rfl, rfl, rfl, h1, r1⟩ := trodAll_cons r0
  obtain ⟨rfl, rfl, rfl⟩ := trodAll_nil r1
  obtain rfl : args = #[v0, v1] := by cases args; simp_all
  obtain ⟨rfl, rfl⟩ := trodVars_none hV
  have k0 := h0
  have lt0 : ∀ x ∈ p0, x.block < W.heap.size := by obtain ⟨m, hm⟩ := k0; exact DataW.trod_lt m _ _ _ hm
  have k1 := h1
  have lt1 : ∀ x ∈ p1, x.block < W.heap.size := by obtain ⟨m, hm⟩ := k1; exact DataW.trod_lt m _ _ _ hm
  obtain ⟨c0, c1, y0, y1, m, rfl, _, _, hy0, hy1⟩ := open_agg2 Try.underlying31 (by kernel_rfl) cells31 (hval 0 31 v0 rfl rfl) h0
  obtain ⟨size, e0, _, _⟩ := DataW.trod_int Try.underlying3 hy0
  simp at e0
  subst e0
  obtain ⟨ad, n, c, zs, rfl, hs⟩ := open_int_sl hy1
  obtain ⟨a2, l2, cp2, rfl⟩ := okWide_slice Try.underlying22 (hval 1 22 v1 rfl rfl)
  obtain ⟨fuel, hf⟩ := h1
  obtain ⟨ad2, n2, c2, keys, e2, hk, hm⟩ := open_str_sl (by simpa [Value.cells] using hf)
  injection e2 with e2 e3 e4
  subst e2 e3 e4
  clear hA0 hval0
  refine (hashCheck_walk size ad a2 n c l2 cp2 zs keys W hs hk hm).mono fun e W' ⟨he, bel⟩ => ?_
  subst he
  exact ⟨_, rfl, _, _, _, [], _, [], hW', trodAll_mk1 (shut_bool Try.underlying4 _), (trodAll_cons_mk (Below.trod laidOut (by kernel_rfl) (of_decide_eq_true (by kernel_rfl)) k0 bel lt0) (trodAll_cons_mk (Below.trod laidOut (by kernel_rfl) (of_decide_eq_true (by kernel_rfl)) k1 bel lt1) trodAll_mk0)), rfl, bel.frame _, fun h => by cases h⟩

theorem proved : Rows.HashCheckSaid :=
  OpenClaim.holds_of_wide 5 Try.f5 rfl rfl rfl rfl rfl rfl rfl ⟨rfl, rfl, rfl, rfl, rfl⟩ rfl rfl rfl rfl rfl (by kernel_rfl) Try.func5 (by kernel_rfl)
    (of_decide_eq_true (by kernel_rfl)) (by unfold Func.isWrapper; first | (rw [if_pos (by decide +kernel)]; kernel_rfl) | (rw [if_neg (by decide +kernel)]; exact ⟨rfl, rfl⟩))
    (fun os started H enc _ => lifted os started H enc)
#print axioms proved
end Go.Proofs.Ytboojpmahfjaoaa.lawHashCheck
