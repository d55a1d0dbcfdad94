/- PiecesText: Text returns the text of any pieces, and Parse the layout of any string, or ErrSyntax. -/
import Derived.Test.YtkkggpahanddnaaGreatDoorQ14
import Derived.Test.YtkkggpahanddnaaGreatDoorQ15
import Derived.Test.YtkkggpahanddnaaGreatDoorQ16
namespace Go.Proofs.YtkkggpahanddnaaGreatDoor
open Go.RowKit
attribute [local go_sem] Ext.cell Ext.frozen
attribute [local go_sem ↓] Go.wp_at_zero Go.wp_at_succ
set_option maxRecDepth 20000 in
set_option maxHeartbeats 8000000 in
theorem piecesText_walk (al : Option Addr) (nl cl : Nat) (ps : List (Int × ByteArray)) (s : ByteArray) (w : World) (hp : Pc w al nl ps) (hp0 : ∀ p ∈ ps, -9223372036854775808 ≤ p.1 ∧ p.1 ≤ 9223372036854775807) (hsm : s.size ≤ 9223372036854775807)
    (hR : RdOk w) (ht : TabTen w) (hd : TabDeB w) :
    Calls Tryz.prog 3 #[.slice al nl cl, .string s] w fun e w' => e = .returned (.bool true) ∧ Below w.heap.size w w' := by
  obtain rfl := hp.len
  have HA := Lib.hid awake_any
  have HF1 : Hid (∀ w1, Below w.heap.size w w1 → Calls Tryz.prog 5 #[.slice al ps.length cl] w1 fun e w' => e = .returned (.bool (fewP ps)) ∧ w1 = w') := fun w1 g => fewp_any al ps.length cl ps w1 (hp.below g)
  by_cases f1 : fewP ps = true
  rotate_left
  · have f1' : fewP ps = false := Bool.not_eq_true _ ▸ f1
    rw [f1'] at HF1
    clear f1 f1'
    clear hp hp0 hR ht hd
    go_enter Tryz.func3, Tryz.ntmps3
    go_wp2_with fail
    refine (HA.out _).mono ?_
    rintro e w1 ⟨rfl, hb⟩
    have HB1 := Lib.hid hb
    clear hb
    go_wp2_with fail
    refine (HF1.out _ HB1.out).mono ?_
    rintro e _ ⟨rfl, rfl⟩
    go_wp2_with fail
    go_ret
    exact ⟨rfl, HB1.out⟩
  rw [f1] at HF1
  obtain ⟨s1, n1⟩ := fewP_facts f1
  by_cases hs : s.size ≤ 3000
  rotate_left
  · have hsi : 3000 < (s.size : Int) := by omega
    clear f1 s1 n1
    clear hp hp0 hR ht hd
    go_enter Tryz.func3, Tryz.ntmps3
    go_wp2_with fail
    refine (HA.out _).mono ?_
    rintro e w1 ⟨rfl, hb⟩
    have HB1 := Lib.hid hb
    clear hb
    go_wp2_with fail
    refine (HF1.out _ HB1.out).mono ?_
    rintro e _ ⟨rfl, rfl⟩
    go_wp2_with fail
    go_ret
    exact ⟨rfl, HB1.out⟩
  have hsi : ¬ 3000 < (s.size : Int) := by omega
  have HO : Hid (∀ w1, Below w.heap.size w w1 → Calls Tryz.prog 9 #[.slice al ps.length cl] w1 (PcPost 43 w1 ps)) := fun w1 g => ownpc_any al ps.length cl ps w1 (hp.below g) (by omega)
  have HT : Hid (∀ ad c w1, Below w.heap.size w w1 → Pc w1 ad ps.length ps → Calls Tryz.prog 8 #[.slice ad ps.length c] w1 fun e w' => e = .returned (.string (bs (textV ps))) ∧ Below w1.heap.size w1 w') := fun ad c w1 g h => text_all ad ps.length c ps w1 h (by omega) s1 hp0 (ht.below g) (hd.below g)
  have HRT : Hid (∀ w1, Below w.heap.size w w1 → Calls Tryz.prog 10 #[.slice al ps.length cl] w1 fun e w' => e = .returned (.string (bs (textV ps))) ∧ Below w1.heap.size w1 w') := fun w1 g => rtext_all al ps.length cl ps w1 (hp.below g) (by omega) (fun p h => ⟨hp0 p h, Nat.le_trans (s1 p h) (by decide)⟩)
  by_cases hex : ∃ qs, validV qs 1000 = true ∧ textV qs = s.data.toList
  · obtain ⟨qs, hv, hq⟩ := hex
    obtain rfl : s = bs (textV qs) := by rw [hq]; rfl
    have hql : (textV qs).length ≤ 3000 := by rw [bs_size] at hs; exact hs
    obtain ⟨hqc, hqs⟩ := text_sizes qs
    have hgq : ∀ p ∈ qs, -9223372036854775808 ≤ p.1 ∧ p.1 ≤ 9223372036854775807 := fun p hp => by
      obtain ⟨i, hi, rfl⟩ := List.getElem_of_mem hp
      have := validV_at hv hi
      simp only [List.getD, List.getElem?_eq_getElem hi, Option.getD_some] at this
      omega
    have hq3 : ∀ p ∈ qs, p.2.size ≤ 3000 := fun p hp => Nat.le_trans (hqs p hp) hql
    have HPA : Hid (∀ w1, Below w.heap.size w w1 → Calls Tryz.prog 6 #[.string (bs (textV qs))] w1 fun e w' => ∃ ad c, e = .returned (.tuple #[.slice ad qs.length c, .int .i64 0]) ∧ w'.ownsRow w1.heap.size 43 2 (.slice ad qs.length c) qs.length (pcCells qs) ∧ Below w1.heap.size w1 w') := fun w1 g => parse_text3 qs w1 (by omega) (by omega) hq3 hv (hR.below g).max (ht.below g) (hd.below g)
    have HRP : Hid (∀ w1, Calls Tryz.prog 7 #[.string (bs (textV qs))] w1 fun e w' => ∃ ad c, e = .returned (.tuple #[.slice ad qs.length c, .int .i64 0]) ∧ w'.ownsRow w1.heap.size 42 2 (.slice ad qs.length c) qs.length (pcCells qs) ∧ Below w1.heap.size w1 w') := fun w1 => rparse_text qs w1 hql hv
    have HFP : Hid (∀ ad c w1, Pc w1 ad qs.length qs → Calls Tryz.prog 12 #[.slice ad qs.length c] w1 (PcPost 42 w1 qs)) := fun ad c w1 g => frompc_any ad qs.length c qs w1 g (by omega)
    have HSM : Hid (∀ ad c ad' c' w1, Pc w1 ad qs.length qs → Pc w1 ad' qs.length qs → Calls Tryz.prog 11 #[.slice ad qs.length c, .slice ad' qs.length c'] w1 fun e w' => e = .returned (.bool true) ∧ Below w1.heap.size w1 w') := fun ad c ad' c' w1 g h => by
      have := same_any ad qs.length c qs ad' qs.length c' qs w1 g h
      rwa [show sameP qs qs = true from decide_eq_true rfl] at this
    have HTQ : Hid (∀ ad c w1, Below w.heap.size w w1 → Pc w1 ad qs.length qs → Calls Tryz.prog 8 #[.slice ad qs.length c] w1 fun e w' => e = .returned (.string (bs (textV qs))) ∧ Below w1.heap.size w1 w') := fun ad c w1 g h => text_all3 ad qs.length c qs w1 h (by omega) hq3 hgq (ht.below g) (hd.below g)
    clear f1 s1 n1 hv hq hql hqc hqs hgq hq3
    clear hp hp0 hR ht hd
    generalize bs (textV qs) = S at *
    generalize bs (textV ps) = T at *
    go_enter Tryz.func3, Tryz.ntmps3
    go_wp2_with fail
    refine (HA.out _).mono ?_
    rintro e w1 ⟨rfl, hb⟩
    have HB1 := Lib.hid hb
    clear hb
    go_wp2_with fail
    refine (HF1.out _ HB1.out).mono ?_
    rintro e _ ⟨rfl, rfl⟩
    go_wp2_with fail
    refine (HPA.out _ HB1.out).mono ?_
    rintro e w2 ⟨ad2, c2, rfl, hown, hb⟩
    have HB2 : Hid (Below w.heap.size w w2) := HB1.out.trans (hb.mono HB1.out.size)
    have HR2 := Lib.hid (own_pc hown)
    clear hown
    clear hb
    go_wp2_with fail
    refine (HRP.out _).mono ?_
    rintro e w3 ⟨ad3, c3, rfl, hown, hb⟩
    have HB3 : Hid (Below w.heap.size w w3) := HB2.out.trans (hb.mono HB2.out.size)
    have HR3 := Lib.hid (own_pc hown)
    have HR2 := Lib.hid (HR2.out.below hb)
    clear hown
    clear hb
    go_wp2_with fail
    refine (HO.out _ HB3.out).mono ?_
    rintro e w4 ⟨ad4, c4, rfl, hown, hb⟩
    have HB4 : Hid (Below w.heap.size w w4) := HB3.out.trans (hb.mono HB3.out.size)
    have HR4 := Lib.hid (own_pc hown)
    have HR2 := Lib.hid (HR2.out.below hb)
    have HR3 := Lib.hid (HR3.out.below hb)
    clear hown
    clear hb
    go_wp2_with fail
    refine (HT.out _ _ _ HB4.out HR4.out).mono ?_
    rintro e w5 ⟨rfl, hb⟩
    have HB5 : Hid (Below w.heap.size w w5) := HB4.out.trans (hb.mono HB4.out.size)
    have HR2 := Lib.hid (HR2.out.below hb)
    have HR3 := Lib.hid (HR3.out.below hb)
    clear hb
    go_wp2_with fail
    refine (HRT.out _ HB5.out).mono ?_
    rintro e w6 ⟨rfl, hb⟩
    have HB6 : Hid (Below w.heap.size w w6) := HB5.out.trans (hb.mono HB5.out.size)
    have HR2 := Lib.hid (HR2.out.below hb)
    have HR3 := Lib.hid (HR3.out.below hb)
    clear hb
    go_wp2_with fail
    refine (HFP.out _ _ _ HR2.out).mono ?_
    rintro e w7 ⟨ad7, c7, rfl, hown, hb⟩
    have HB7 : Hid (Below w.heap.size w w7) := HB6.out.trans (hb.mono HB6.out.size)
    have HR7 := Lib.hid (own_pc hown)
    have HR2 := Lib.hid (HR2.out.below hb)
    have HR3 := Lib.hid (HR3.out.below hb)
    clear hown
    clear hb
    go_wp2_with fail
    refine (HSM.out _ _ _ _ _ HR7.out HR3.out).mono ?_
    rintro e w8 ⟨rfl, hb⟩
    have HB8 : Hid (Below w.heap.size w w8) := HB7.out.trans (hb.mono HB7.out.size)
    have HR2 := Lib.hid (HR2.out.below hb)
    clear hb
    go_wp2_with fail
    refine (HTQ.out _ _ _ HB8.out HR2.out).mono ?_
    rintro e w9 ⟨rfl, hb⟩
    have HB9 : Hid (Below w.heap.size w w9) := HB8.out.trans (hb.mono HB8.out.size)
    clear hb
    go_wp2_with fail
    go_ret
    exact ⟨rfl, HB9.out⟩
  · have hno : ∀ qs, validV qs 1000 = true → textV qs ≠ s.data.toList := fun qs h1 h2 => hex ⟨qs, h1, h2⟩
    have HPA : Hid (∀ w1, Below w.heap.size w w1 → Calls Tryz.prog 6 #[.string s] w1 fun e w' => e = .returned (.tuple #[.slice none 0 0, .int .i64 3]) ∧ Below w1.heap.size w1 w') := fun w1 g => parse_none s w1 hs hno (hR.below g) (ht.below g) (hd.below g)
    have HRP : Hid (∀ w1, Calls Tryz.prog 7 #[.string s] w1 fun e w' => e = .returned (.tuple #[.slice none 0 0, .int .i64 3]) ∧ Below w1.heap.size w1 w') := fun w1 => rparse_none s w1 hs hno
    have HFP : Hid (∀ w1, Calls Tryz.prog 12 #[.slice none 0 0] w1 (PcPost 42 w1 [])) := fun w1 => frompc_any none 0 0 [] w1 (Pc.nil _ _) (by omega)
    have HSM : Hid (∀ ad c w1, Pc w1 ad 0 [] → Calls Tryz.prog 11 #[.slice ad 0 c, .slice none 0 0] w1 fun e w' => e = .returned (.bool true) ∧ Below w1.heap.size w1 w') := fun ad c w1 g => by
      have := same_any ad 0 c [] none 0 0 [] w1 g (Pc.nil _ _)
      rwa [show sameP [] [] = true from decide_eq_true rfl] at this
    clear f1 s1 n1 hno hex
    clear hp hp0 hR ht hd
    generalize bs (textV ps) = T at *
    go_enter Tryz.func3, Tryz.ntmps3
    go_wp2_with fail
    refine (HA.out _).mono ?_
    rintro e w1 ⟨rfl, hb⟩
    have HB1 := Lib.hid hb
    clear hb
    go_wp2_with fail
    refine (HF1.out _ HB1.out).mono ?_
    rintro e _ ⟨rfl, rfl⟩
    go_wp2_with fail
    refine (HPA.out _ HB1.out).mono ?_
    rintro e w2 ⟨rfl, hb⟩
    have HB2 : Hid (Below w.heap.size w w2) := HB1.out.trans (hb.mono HB1.out.size)
    clear hb
    go_wp2_with fail
    refine (HRP.out _).mono ?_
    rintro e w3 ⟨rfl, hb⟩
    have HB3 : Hid (Below w.heap.size w w3) := HB2.out.trans (hb.mono HB2.out.size)
    clear hb
    go_wp2_with fail
    refine (HO.out _ HB3.out).mono ?_
    rintro e w4 ⟨ad4, c4, rfl, hown, hb⟩
    have HB4 : Hid (Below w.heap.size w w4) := HB3.out.trans (hb.mono HB3.out.size)
    have HR4 := Lib.hid (own_pc hown)
    clear hown
    clear hb
    go_wp2_with fail
    refine (HT.out _ _ _ HB4.out HR4.out).mono ?_
    rintro e w5 ⟨rfl, hb⟩
    have HB5 : Hid (Below w.heap.size w w5) := HB4.out.trans (hb.mono HB4.out.size)
    clear hb
    go_wp2_with fail
    refine (HRT.out _ HB5.out).mono ?_
    rintro e w6 ⟨rfl, hb⟩
    have HB6 : Hid (Below w.heap.size w w6) := HB5.out.trans (hb.mono HB5.out.size)
    clear hb
    go_wp2_with fail
    refine (HFP.out _).mono ?_
    rintro e w7 ⟨ad7, c7, rfl, hown, hb⟩
    have HB7 : Hid (Below w.heap.size w w7) := HB6.out.trans (hb.mono HB6.out.size)
    have HR7 := Lib.hid (own_pc hown)
    clear hown
    clear hb
    go_wp2_with fail
    refine (HSM.out _ _ _ HR7.out).mono ?_
    rintro e w8 ⟨rfl, hb⟩
    have HB8 : Hid (Below w.heap.size w w8) := HB7.out.trans (hb.mono HB7.out.size)
    clear hb
    go_wp2_with fail
    go_ret
    exact ⟨rfl, HB8.out⟩
end Go.Proofs.YtkkggpahanddnaaGreatDoor
namespace Go.Proofs.YtkkggpahanddnaaGreatDoor.lawPiecesText
open Go.ChangeShapes Go.WideShapes Go.ChangeAt Go.RowKit Go.Joins
open Go.ChangeMaps (open_string shut_string)
set_option maxRecDepth 100000 in
theorem lifted (os : Os) (started : os.Started) (H : Type) (enc : TypeId × Value → H) :
    ReturnsInHanded {} Tryz.checked os 3 .any (fun w args => (Rows.piecesTextSpec.pre enc Tryz.prog Tryz.f3 Rows.piecesTextRow.domain false w args ∧ laidMetH Tryz.prog Rows.piecesTextRow.laid w) ∧ sizedMet enc Tryz.prog Tryz.f3 (OpenSpec.ofChange Rows.piecesTextSpec) false w args)
      (Rows.piecesTextSpec.post enc Tryz.prog Tryz.f3 false true false false) := by
  refine returnsInHanded_of_calls (C := Tryz.checked) own started (by kernel_rfl)
    (ChangeSpec.witness_shaped (enc := enc) (C := Tryz.checked) (os := os) (X := fun w _ => laidMetH Tryz.prog Rows.piecesTextRow.laid w) false (World.laidAll Tryz.prog os Rows.piecesTextRow.laid) #[.slice none 0 0, .string .empty] 8 (World.laidAll_os _ _ _)
      (World.shaped_of_ZipB (by kernel_rfl) (by kernel_rfl)) (by kernel_rfl) (by kernel_rfl) (by kernel_rfl)
      (by rw [MakeChecks.laidMetH_plain _ _ _ (by kernel_rfl)]; exact laidMet_laidAll _ (by kernel_rfl) (by kernel_rfl))) ?_
  intro w tape i _ hshape _ hok hpre _
  obtain ⟨_, _, _, fn', hfn', _, _, _, _, hval0⟩ := hok
  obtain rfl : Tryz.f3 = fn' := Option.some.inj (Tryz.func3.symm.trans hfn')
  obtain ⟨⟨⟨ds, gs, before, hw0, _⟩, hx⟩, hz⟩ := hpre
  have hsz0 := hz.weights hw0
  have hW := DataW.Whole.of_heap (w' := w.forCall tape i) (by rfl) hw0
  have hL : laidMetH Tryz.prog Rows.piecesTextRow.laid (w.forCall tape i) := laidMetH.of_heap (by rfl) hx
  suffices hcon : Calls Tryz.prog 3 i.args (w.forCall tape i) fun e W' => ∃ v, e = .returned v ∧ Rows.piecesTextSpec.post enc Tryz.prog Tryz.f3 false true false false (w.forCall tape i) i.args v W' by
    refine hcon.mono fun e W' ⟨v, he, hp⟩ => ?_
    subst he
    exact ChangeSpec.post_blind hp
  clear hx hw0 hz hfn'
  generalize i.args = args at *
  generalize w.forCall tape i = W at *
  generalize w.heap.size = base at *
  have hval : ∀ (j : Nat) t v, Tryz.f3.params[j]? = some t → args[j]? = some v → Value.okWide Tryz.prog W .any base t v := hval0
  have hW' := hW
  obtain ⟨p, q, hA0, hV, rfl, hfz, hnd⟩ := hW
  have hA : DataW.TrodAll enc Tryz.prog W 0 (fun _ => true) true Tryz.f3.params.toList args.toList ds p := hA0
  rw [Tryz.params3] at hA hval
  obtain ⟨v0, vs0, d0, ds0, p0, q0, hargs, rfl, rfl, h0, r0⟩ := trodAll_cons hA
  obtain ⟨v1, vs1, d1, ds1, p1, q1, rfl, rfl, rfl, h1, r1⟩ := trodAll_cons r0
  obtain ⟨rfl, rfl, rfl⟩ := trodAll_nil r1
  obtain rfl : args = #[v0, v1] := by cases args; simp_all
  obtain ⟨rfl, rfl⟩ := trodVars_none hV
  have k0 := h0
  have lt0 : ∀ x ∈ p0, x.block < W.heap.size := by obtain ⟨m, hm⟩ := k0; exact DataW.trod_lt m _ _ _ hm
  obtain ⟨a0, l0, cp0, rfl⟩ := okWide_slice Tryz.underlying22 (hval 0 22 v0 rfl rfl)
  obtain ⟨fuel0, hf0⟩ := h0
  obtain ⟨ad0, n0, c0, ps0, e0, hp0, hb0⟩ := pcs_cells (rz_sized (by simpa [Value.cells] using hf0) hsz0 0 rfl rfl)
  injection e0 with e01 e02 e03
  subst e01 e02 e03
  obtain ⟨s1, rfl, rfl, rfl, hs1⟩ := open_string Tryz.underlying9 (hval 1 9 v1 rfl rfl) h1
  clear hA0 hval0
  refine (piecesText_walk a0 l0 cp0 ps0 s1 W hp0 hb0 (by unfold maxLen at hs1; omega) (rdOk_of hshape (errs_of (by kernel_rfl) hL)) (tabs_of (by kernel_rfl) hL).2 (tabs_of (by kernel_rfl) hL).1).mono fun e W' ⟨he, bel⟩ => ?_
  subst he
  exact ⟨_, rfl, _, _, _, [], _, [], hW', trodAll_mk1 (shut_bool Tryz.underlying4 _), (trodAll_cons_mk (Below.trod laidOut (by kernel_rfl) (of_decide_eq_true (by kernel_rfl)) k0 bel lt0) (trodAll_cons_mk (shut_string Tryz.underlying9 hs1) trodAll_mk0)), rfl, bel.frame _, fun h => by cases h⟩

theorem proved : Rows.PiecesTextSaid :=
  OpenClaim.holds_of_wide 3 Tryz.f3 rfl rfl rfl rfl rfl rfl rfl ⟨rfl, rfl, rfl, rfl, rfl⟩ rfl rfl rfl rfl rfl (by kernel_rfl) Tryz.func3 (by kernel_rfl)
    (of_decide_eq_true (by kernel_rfl)) (by unfold Func.isWrapper; first | (rw [if_pos (by decide +kernel)]; kernel_rfl) | (rw [if_neg (by decide +kernel)]; exact ⟨rfl, rfl⟩))
    (fun os started H enc _ => lifted os started H enc)
theorem card : Rows.PiecesTextCardSaid :=
  Claim7.holds_tied_plain_at .later [] [.data, .data, .data, .sentinel, .sentinel] true (true, "f8a2a1bfb6c1010ba5655ec4f740f9a83410381567c4d2285a93c44469b9b6f3") true proved (fun _ h => by cases h) (by kernel_rfl) (fun _ h => by cases h) piecesText_row_tie rfl ⟨rfl, rfl⟩ (by kernel_rfl) rfl
    (fun f fn hf hfn => by
      obtain rfl : f = 3 := Option.some.inj ((show Tryz.prog.funcNamed "calque/calquelaw37.PiecesText" = some 3 by kernel_rfl).symm.trans hf) |>.symm
      obtain rfl : fn = Tryz.f3 := (Option.some.inj (Tryz.func3.symm.trans hfn)).symm
      exact ⟨by kernel_rfl, fun j t ht => by
        rw [Tryz.params3] at ht
        have hm : t ∈ [22, 9] := by simpa using Array.mem_of_getElem? ht
        have hall : ([22, 9].all fun u => !Tryz.prog.wantsStandIn u) = true := by kernel_rfl
        exact (show Tryz.prog.wantsStandIn t = false by simpa using List.all_eq_true.1 hall t hm)⟩)
    (by kernel_rfl)
#print axioms card
end Go.Proofs.YtkkggpahanddnaaGreatDoor.lawPiecesText
