/- HashBuild: Build returns the specified table or error for up to 60 keys. -/
import Derived.Test.YtboojpmahfjaoaaO2
namespace Go.Proofs.Ytboojpmahfjaoaa
open Go.RowKit
attribute [local go_sem] Ext.cell Ext.frozen

set_option maxHeartbeats 1000000 in
theorem hashBuild_walk (ad : Option Addr) (n c : Nat) (keys : List ByteArray) (w : World) (hk : Sl w ad n (strs keys)) (hm : ∀ s ∈ keys, s.size ≤ 9223372036854775807) :
    Calls Try.prog 3 #[.slice ad n c] w fun e w' => e = .returned (.bool true) ∧ Below w.heap.size w w' := by
  have hl := hk.len
  rw [strs_length] at hl
  have HL := Lib.hid hl
  have HK := Lib.hid hk
  have HM := Lib.hid hm
  clear hk hm hl
  go_enter Try.func3, Try.ntmps3
  go_wp2_with fail
  refine (awake_any _).mono ?_
  rintro e w1 ⟨rfl, hb⟩
  have HB1 := Lib.hid hb
  have hz1 := hb.size
  have HK1 := Lib.hid (HK.out.below hb)
  clear hb
  have HF := Lib.hid (fun W h => few_any ad n c keys W h HM.out)
  cases hf : (keys.all (fun s => decide (s.size ≤ 60)) && decide (keys.length ≤ 60)) with
  | false =>
    rw [hf] at HF
    clear hf
    go_wp2_with fail
    refine (HF.out _ HK1.out).mono ?_
    rintro e w' ⟨rfl, rfl⟩
    go_wp2_with fail
    refine (awake_any _).mono ?_
    rintro e w2 ⟨rfl, hb2⟩
    have HB2 := Lib.hid (HB1.out.trans (hb2.mono hz1))
    clear hb2
    go_wp2_with fail
    go_ret
    exact ⟨rfl, HB2.out⟩
  | true =>
    rw [hf] at HF
    have hn60 : n ≤ 60 := by have := few_le hf; rw [HL.out] at this; exact this
    clear hf
    go_wp2_with fail
    refine (HF.out _ HK1.out).mono ?_
    rintro e w' ⟨rfl, rfl⟩
    go_wp2_with fail
    refine (build_any ad n c keys _ HK1.out hn60 HM.out).mono ?_
    rintro e w2 ⟨⟨ad2, c2, rfl, hsl⟩, hb2⟩
    have HS2 := Lib.hid hsl
    have HK2 := Lib.hid (HK1.out.below hb2)
    have HB2 := Lib.hid (HB1.out.trans (hb2.mono hz1))
    have hz2 := HB2.out.size
    generalize hsz : sizeB keys = sz at *
    generalize her : errB keys = er at *
    generalize hsd : seedsB keys = sd at *
    have HSZ := Lib.hid hsz
    have HER := Lib.hid her
    have HSD := Lib.hid hsd
    clear hsl hb2 hsz her hsd
    go_wp2_with fail
    refine (rbuild_any ad n c keys _ (HK2.out.alloc _) hn60 HM.out).mono ?_
    rintro e w3 ⟨⟨ad3, c3, rfl, hsl⟩, hb3⟩
    rw [HSZ.out, HER.out, HSD.out]
    rw [HSD.out] at hsl
    have HS3 := Lib.hid hsl
    have HS2' := Lib.hid ((HS2.out.alloc _).below hb3)
    have hc0 := hb3.cell (p := ⟨w2.heap.size, 0, none⟩) (by simp)
    have hc1 := hb3.cell (p := ⟨w2.heap.size, 1, none⟩) (by simp)
    have hz3 : w2.heap.size < w3.heap.size := by have := hb3.size; simp at this; omega
    have HB3 := Lib.hid (HB2.out.trans ((((Below.refl _ w2).alloc (Nat.le_refl _) _).trans (hb3.mono (by simp))).mono hz2))
    have hz4 : w.heap.size ≤ w3.heap.size := by omega
    have hee : ((er : Int) == (er : Int)) = true := by simp
    clear hsl hb3
    go_wp2_with fail
    refine (rsame_any _ _ _ _ _ _ _ _ sd sd _ (HS2'.out.alloc _) (HS3.out.alloc _)).mono ?_
    rintro e w4 ⟨rfl, hb4⟩
    rw [sameT_refl]
    have HB4 := Lib.hid (HB3.out.trans ((((Below.refl _ w3).alloc (Nat.le_refl _) _).trans (hb4.mono (by simp))).mono hz4))
    clear hb4
    go_wp2_with fail
    go_ret
    exact ⟨rfl, HB4.out⟩
end Go.Proofs.Ytboojpmahfjaoaa

namespace Go.Proofs.Ytboojpmahfjaoaa.lawHashBuild
open Go.ChangeShapes Go.WideShapes Go.ChangeAt Go.RowKit Go.Joins
open Go.ChangeMaps (open_string shut_string)
set_option maxRecDepth 100000 in
theorem lifted (os : Os) (started : os.Started) (H : Type) (enc : TypeId × Value → H) :
    ReturnsInHanded {} Try.checked os 3 .any (Rows.hashBuildSpec.pre6 enc Try.prog Try.f3 Rows.hashBuildRow.domain false) (Rows.hashBuildSpec.post enc Try.prog Try.f3 false true false false) := by
  refine returnsInHanded_of_change (C := Try.checked) own started (by kernel_rfl) Try.func3
    (ChangeSpec.witness6 (enc := enc) (C := Try.checked) false ⟨#[], #[.slice none 0 0], []⟩ 8 (by kernel_rfl) (by kernel_rfl) (by kernel_rfl) (by kernel_rfl)) ?_
  intro W base args ds gs before hval0 hW _ _
  have hval : ∀ (j : Nat) t v, Try.f3.params[j]? = some t → args[j]? = some v → Value.okWide Try.prog W .any base t v := hval0
  have hW' := hW
  obtain ⟨p, q, hA0, hV, rfl, hfz, hnd⟩ := hW
  have hA : DataW.TrodAll enc Try.prog W 0 (fun _ => true) true Try.f3.params.toList args.toList ds p := hA0
  rw [Try.params3] at hA hval
  obtain ⟨v1, vs1, d1, ds1, p1, q1, hargs, rfl, rfl, h1, r1⟩ := trodAll_cons hA
  obtain ⟨rfl, rfl, rfl⟩ := trodAll_nil r1
  obtain rfl : args = #[v1] := by cases args; simp_all
  obtain ⟨rfl, rfl⟩ := trodVars_none hV
  have k1 := h1
  have lt1 : ∀ x ∈ p1, x.block < W.heap.size := by obtain ⟨m, hm⟩ := k1; exact DataW.trod_lt m _ _ _ hm
  obtain ⟨a2, l2, cp2, rfl⟩ := okWide_slice Try.underlying22 (hval 0 22 v1 rfl rfl)
  obtain ⟨fuel, hf⟩ := h1
  obtain ⟨ad2, n2, c2, keys, e2, hk, hm⟩ := open_str_sl (by simpa [Value.cells] using hf)
  injection e2 with e2 e3 e4
  subst e2 e3 e4
  clear hA0 hval0
  refine (hashBuild_walk a2 l2 cp2 keys W hk hm).mono fun e W' ⟨he, bel⟩ => ?_
  subst he
  exact ⟨_, rfl, _, _, _, [], _, [], hW', trodAll_mk1 (shut_bool Try.underlying4 _), (trodAll_cons_mk (Below.trod laidOut (by kernel_rfl) (of_decide_eq_true (by kernel_rfl)) k1 bel lt1) trodAll_mk0), rfl, bel.frame _, fun h => by cases h⟩

theorem proved : Rows.HashBuildSaid :=
  OpenClaim.holds_of_wide 3 Try.f3 rfl rfl rfl rfl rfl rfl rfl ⟨rfl, rfl, rfl, rfl, rfl⟩ rfl rfl rfl rfl rfl (by kernel_rfl) Try.func3 (by kernel_rfl)
    (of_decide_eq_true (by kernel_rfl)) (by unfold Func.isWrapper; first | (rw [if_pos (by decide +kernel)]; kernel_rfl) | (rw [if_neg (by decide +kernel)]; exact ⟨rfl, rfl⟩))
    (fun os started H enc _ => lifted os started H enc)
#print axioms proved
end Go.Proofs.Ytboojpmahfjaoaa.lawHashBuild
