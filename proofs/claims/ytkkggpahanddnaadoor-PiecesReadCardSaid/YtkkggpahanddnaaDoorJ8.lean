/- PiecesRead: Parse returns every valid layout from its text, and different ones have different texts. -/
import Derived.Test.YtkkggpahanddnaaDoorH40
import Derived.Test.YtkkggpahanddnaaDoorHP
import Derived.Test.YtkkggpahanddnaaDoorHQ
import Derived.Test.YtkkggpahanddnaaDoorH23
import Derived.Deep.QuietTactic
import Derived.Deep.DeepCutAuto
import Derived.BigQuiet
namespace Go.Proofs.YtkkggpahanddnaaDoor
open Go.RowKit
attribute [local go_sem] Ext.cell Ext.frozen
attribute [local go_sem ↓] Go.wp_at_zero Go.wp_at_succ
set_option maxRecDepth 20000 in
set_option maxHeartbeats 8000000 in
theorem piecesRead_walk (al : Option Addr) (nl cl : Nat) (ps : List (Int × ByteArray)) (bl : Option Addr) (ml dl : Nat) (qs : List (Int × ByteArray)) (w : World) (hp : Pc w al nl ps) (hp0 : ∀ p ∈ ps, -9223372036854775808 ≤ p.1 ∧ p.1 ≤ 9223372036854775807) (hq : Pc w bl ml qs) (hq0 : ∀ p ∈ qs, -9223372036854775808 ≤ p.1 ∧ p.1 ≤ 9223372036854775807)
    (hM : MaxLen w) (ht : TabTen w) (hd : TabDeB w) :
    Calls Tryd.prog 9 #[.slice al nl cl, .slice bl ml dl] w fun e w' => e = .returned (.bool true) ∧ Below w.heap.size w w' := by
  obtain rfl := hp.len
  obtain rfl := hq.len
  have HA := Lib.hid awake_any
  have HP := Lib.hid hp
  have HQ := Lib.hid hq
  have HF1 : Hid (∀ w1, Below w.heap.size w w1 → Calls Tryd.prog 25 #[.slice al ps.length cl] w1 fun e w' => e = .returned (.bool (fewP ps)) ∧ w1 = w') := fun w1 g => fewp_any al ps.length cl ps w1 (hp.below g)
  have HF2 : Hid (∀ w1, Below w.heap.size w w1 → Calls Tryd.prog 25 #[.slice bl qs.length dl] w1 fun e w' => e = .returned (.bool (fewP qs)) ∧ w1 = w') := fun w1 g => fewp_any bl qs.length dl qs w1 (hq.below g)
  have HV1 : Hid (∀ w1, Below w.heap.size w w1 → Calls Tryd.prog 30 #[.slice al ps.length cl, .int .i64 1000] w1 fun e w' => e = .returned (.bool (validV ps 1000)) ∧ Below w1.heap.size w1 w') := fun w1 g => rvalid_any al ps.length cl ps 1000 w1 (hp.below g) (fun p h => (hp0 p h).2)
  have HV2 : Hid (∀ w1, Below w.heap.size w w1 → Calls Tryd.prog 30 #[.slice bl qs.length dl, .int .i64 1000] w1 fun e w' => e = .returned (.bool (validV qs 1000)) ∧ Below w1.heap.size w1 w') := fun w1 g => rvalid_any bl qs.length dl qs 1000 w1 (hq.below g) (fun p h => (hq0 p h).2)
  by_cases f1 : fewP ps = true; rotate_left
  · have f1' : fewP ps = false := Bool.not_eq_true _ ▸ f1
    rw [f1'] at HF1
    clear f1 f1'
    clear hp hp0 hq hq0 hM ht hd
    go_enter Tryd.func9, Tryd.ntmps9
    go_wp2_with fail
    refine (HA.out _).mono ?_
    rintro e w1 ⟨rfl, hb⟩
    have HB1 := Lib.hid hb
    clear hb
    go_wp2_with fail
    refine (HF1.out _ HB1.out).mono ?_
    rintro e _ ⟨rfl, rfl⟩
    go_wp2_with fail
    go_ret
    exact ⟨rfl, HB1.out⟩
  rw [f1] at HF1
  by_cases f2 : fewP qs = true; rotate_left
  · have f2' : fewP qs = false := Bool.not_eq_true _ ▸ f2
    rw [f2'] at HF2
    clear f2 f2'
    clear f1
    clear hp hp0 hq hq0 hM ht hd
    go_enter Tryd.func9, Tryd.ntmps9
    go_wp2_with fail
    refine (HA.out _).mono ?_
    rintro e w1 ⟨rfl, hb⟩
    have HB1 := Lib.hid hb
    clear hb
    go_wp2_with fail
    refine (HF1.out _ HB1.out).mono ?_
    rintro e _ ⟨rfl, rfl⟩
    go_wp2_with fail
    refine (HF2.out _ HB1.out).mono ?_
    rintro e _ ⟨rfl, rfl⟩
    go_wp2_with fail
    go_ret
    exact ⟨rfl, HB1.out⟩
  rw [f2] at HF2
  by_cases v1 : validV ps 1000 = true; rotate_left
  · have v1' : validV ps 1000 = false := Bool.not_eq_true _ ▸ v1
    rw [v1'] at HV1
    clear v1 v1'
    clear f1 f2
    clear hp hp0 hq hq0 hM ht hd
    go_enter Tryd.func9, Tryd.ntmps9
    go_wp2_with fail
    refine (HA.out _).mono ?_
    rintro e w1 ⟨rfl, hb⟩
    have HB1 := Lib.hid hb
    clear hb
    go_wp2_with fail
    refine (HF1.out _ HB1.out).mono ?_
    rintro e _ ⟨rfl, rfl⟩
    go_wp2_with fail
    refine (HF2.out _ HB1.out).mono ?_
    rintro e _ ⟨rfl, rfl⟩
    go_wp2_with fail
    refine (HV1.out _ HB1.out).mono ?_
    rintro e w2 ⟨rfl, hb⟩
    have HB2 : Hid (Below w.heap.size w w2) := HB1.out.trans (hb.mono HB1.out.size)
    clear hb
    go_wp2_with fail
    go_ret
    exact ⟨rfl, HB2.out⟩
  rw [v1] at HV1
  by_cases v2 : validV qs 1000 = true; rotate_left
  · have v2' : validV qs 1000 = false := Bool.not_eq_true _ ▸ v2
    rw [v2'] at HV2
    clear v2 v2'
    clear f1 f2 v1
    clear hp hp0 hq hq0 hM ht hd
    go_enter Tryd.func9, Tryd.ntmps9
    go_wp2_with fail
    refine (HA.out _).mono ?_
    rintro e w1 ⟨rfl, hb⟩
    have HB1 := Lib.hid hb
    clear hb
    go_wp2_with fail
    refine (HF1.out _ HB1.out).mono ?_
    rintro e _ ⟨rfl, rfl⟩
    go_wp2_with fail
    refine (HF2.out _ HB1.out).mono ?_
    rintro e _ ⟨rfl, rfl⟩
    go_wp2_with fail
    refine (HV1.out _ HB1.out).mono ?_
    rintro e w2 ⟨rfl, hb⟩
    have HB2 : Hid (Below w.heap.size w w2) := HB1.out.trans (hb.mono HB1.out.size)
    clear hb
    go_wp2_with fail
    refine (HV2.out _ HB2.out).mono ?_
    rintro e w3 ⟨rfl, hb⟩
    have HB3 : Hid (Below w.heap.size w w3) := HB2.out.trans (hb.mono HB2.out.size)
    clear hb
    go_wp2_with fail
    go_ret
    exact ⟨rfl, HB3.out⟩
  rw [v2] at HV2
  obtain ⟨s1, n1⟩ := fewP_facts f1
  obtain ⟨s2, n2⟩ := fewP_facts f2
  have HO1 : Hid (∀ w1, Below w.heap.size w w1 → Calls Tryd.prog 27 #[.slice al ps.length cl] w1 (PcPost 66 w1 ps)) := fun w1 g => ownpc_any al ps.length cl ps w1 (hp.below g) (by omega)
  have HO2 : Hid (∀ w1, Below w.heap.size w w1 → Calls Tryd.prog 27 #[.slice bl qs.length dl] w1 (PcPost 66 w1 qs)) := fun w1 g => ownpc_any bl qs.length dl qs w1 (hq.below g) (by omega)
  have HT1 : Hid (∀ ad c w1, Below w.heap.size w w1 → Pc w1 ad ps.length ps → Calls Tryd.prog 31 #[.slice ad ps.length c] w1 fun e w' => e = .returned (.string (bs (textV ps))) ∧ Below w1.heap.size w1 w') := fun ad c w1 g h => text_all ad ps.length c ps w1 h (by omega) s1 hp0 (ht.below g) (hd.below g)
  have HT2 : Hid (∀ ad c w1, Below w.heap.size w w1 → Pc w1 ad qs.length qs → Calls Tryd.prog 31 #[.slice ad qs.length c] w1 fun e w' => e = .returned (.string (bs (textV qs))) ∧ Below w1.heap.size w1 w') := fun ad c w1 g h => text_all ad qs.length c qs w1 h (by omega) s2 hq0 (ht.below g) (hd.below g)
  have HPA : Hid (∀ w1, Below w.heap.size w w1 → Calls Tryd.prog 32 #[.string (bs (textV ps))] w1 fun e w' => ∃ ad c, e = .returned (.tuple #[.slice ad ps.length c, .int .i64 0]) ∧ w'.ownsRow w1.heap.size 66 2 (.slice ad ps.length c) ps.length (pcCells ps) ∧ Below w1.heap.size w1 w') := fun w1 g => parse_text ps w1 n1 s1 v1 (hM.below g) (ht.below g) (hd.below g)
  have HFP : Hid (∀ ad c w1, Pc w1 ad ps.length ps → Calls Tryd.prog 16 #[.slice ad ps.length c] w1 (PcPost 58 w1 ps)) := fun ad c w1 g => frompc_any ad ps.length c ps w1 g (by omega)
  have HS1 : Hid (∀ ad c w1, Below w.heap.size w w1 → Pc w1 ad ps.length ps → Calls Tryd.prog 15 #[.slice ad ps.length c, .slice al ps.length cl] w1 fun e w' => e = .returned (.bool true) ∧ Below w1.heap.size w1 w') := fun ad c w1 g h => by
    have := same_any ad ps.length c ps al ps.length cl ps w1 h (hp.below g)
    rwa [show sameP ps ps = true from decide_eq_true rfl] at this
  have HS2 : Hid (∀ w1, Below w.heap.size w w1 → Calls Tryd.prog 15 #[.slice al ps.length cl, .slice bl qs.length dl] w1 fun e w' => e = .returned (.bool (sameP ps qs)) ∧ Below w1.heap.size w1 w') := fun w1 g => same_any al ps.length cl ps bl qs.length dl qs w1 (hp.below g) (hq.below g)
  have g1 : Good ps := good_of v1 s1
  have g2 : Good qs := good_of v2 s2
  have HST : Hid (((bs (textV ps)).toList == (bs (textV qs)).toList) = sameP ps qs) := by
    unfold Hid
    rw [bs_toList, bs_toList]
    unfold sameP
    by_cases e : ps = qs
    · subst e; rw [beq_self_eq_true, decide_eq_true rfl]
    · rw [decide_eq_false e, beq_eq_false_iff_ne]
      exact fun e3 => e (textV_inj g1 g2 e3)
  clear f1 f2 v1 v2 s1 s2 n1 n2 g1 g2
  clear hp hp0 hq hq0 hM ht hd
  generalize bs (textV ps) = S at *
  generalize bs (textV qs) = T at *
  generalize sameP ps qs = B at *
  go_enter Tryd.func9, Tryd.ntmps9
  go_wp2_with fail
  refine (HA.out _).mono ?_
  rintro e w1 ⟨rfl, hb⟩
  have HB1 := Lib.hid hb
  clear hb
  go_wp2_with fail
  refine (HF1.out _ HB1.out).mono ?_
  rintro e _ ⟨rfl, rfl⟩
  go_wp2_with fail
  refine (HF2.out _ HB1.out).mono ?_
  rintro e _ ⟨rfl, rfl⟩
  go_wp2_with fail
  refine (HV1.out _ HB1.out).mono ?_
  rintro e w2 ⟨rfl, hb⟩
  have HB2 : Hid (Below w.heap.size w w2) := HB1.out.trans (hb.mono HB1.out.size)
  clear hb
  go_wp2_with fail
  refine (HV2.out _ HB2.out).mono ?_
  rintro e w3 ⟨rfl, hb⟩
  have HB3 : Hid (Below w.heap.size w w3) := HB2.out.trans (hb.mono HB2.out.size)
  clear hb
  go_wp2_with fail
  refine (HO1.out _ HB3.out).mono ?_
  rintro e w4 ⟨ad4, c4, rfl, hown, hb⟩
  have HB4 : Hid (Below w.heap.size w w4) := HB3.out.trans (hb.mono HB3.out.size)
  have HR4 := Lib.hid (own_pc hown)
  clear hown
  clear hb
  go_wp2_with fail
  refine (HT1.out _ _ _ HB4.out HR4.out).mono ?_
  rintro e w5 ⟨rfl, hb⟩
  have HB5 : Hid (Below w.heap.size w w5) := HB4.out.trans (hb.mono HB4.out.size)
  clear hb
  go_wp2_with fail
  refine (HO2.out _ HB5.out).mono ?_
  rintro e w6 ⟨ad6, c6, rfl, hown, hb⟩
  have HB6 : Hid (Below w.heap.size w w6) := HB5.out.trans (hb.mono HB5.out.size)
  have HR6 := Lib.hid (own_pc hown)
  clear hown
  clear hb
  go_wp2_with fail
  refine (HT2.out _ _ _ HB6.out HR6.out).mono ?_
  rintro e w7 ⟨rfl, hb⟩
  have HB7 : Hid (Below w.heap.size w w7) := HB6.out.trans (hb.mono HB6.out.size)
  clear hb
  go_wp2_with fail
  refine (HPA.out _ HB7.out).mono ?_
  rintro e w8 ⟨ad8, c8, rfl, hown, hb⟩
  have HB8 : Hid (Below w.heap.size w w8) := HB7.out.trans (hb.mono HB7.out.size)
  have HR8 := Lib.hid (own_pc hown)
  clear hown
  clear hb
  go_wp2_with fail
  refine (HFP.out _ _ _ HR8.out).mono ?_
  rintro e w9 ⟨ad9, c9, rfl, hown, hb⟩
  have HB9 : Hid (Below w.heap.size w w9) := HB8.out.trans (hb.mono HB8.out.size)
  have HR9 := Lib.hid (own_pc hown)
  clear hown
  clear hb
  go_wp2_with fail
  refine (HS1.out _ _ _ HB9.out HR9.out).mono ?_
  rintro e w10 ⟨rfl, hb⟩
  have HB10 : Hid (Below w.heap.size w w10) := HB9.out.trans (hb.mono HB9.out.size)
  clear hb
  go_wp2_with fail
  refine (HS2.out _ HB10.out).mono ?_
  rintro e w11 ⟨rfl, hb⟩
  have HB11 : Hid (Below w.heap.size w w11) := HB10.out.trans (hb.mono HB10.out.size)
  clear hb
  go_wp2_with fail
  go_ret
  exact ⟨by show Ending.returned (.bool ((S.toList == T.toList) == B)) = _; rw [HST.out, beq_self_eq_true], HB11.out⟩
end Go.Proofs.YtkkggpahanddnaaDoor
namespace Go.Proofs.YtkkggpahanddnaaDoor.lawPiecesRead
open Go.ChangeShapes Go.WideShapes Go.ChangeAt Go.RowKit Go.Joins
open Go.ChangeMaps (open_string shut_string)
set_option maxRecDepth 100000 in
theorem lifted (os : Os) (started : os.Started) (H : Type) (enc : TypeId × Value → H) :
    ReturnsInHanded {} Tryd.checked os 9 .any (fun w args => (Rows.piecesReadSpec.pre enc Tryd.prog Tryd.f9 Rows.piecesReadRow.domain false w args ∧ laidMetH Tryd.prog Rows.piecesReadRow.laid w) ∧ sizedMet enc Tryd.prog Tryd.f9 (OpenSpec.ofChange Rows.piecesReadSpec) false w args)
      (Rows.piecesReadSpec.post enc Tryd.prog Tryd.f9 false true false false) := by
  refine returnsInHanded_of_calls (C := Tryd.checked) own started (by kernel_rfl)
    (ChangeSpec.witness_shaped (enc := enc) (C := Tryd.checked) (os := os) (X := fun w _ => laidMetH Tryd.prog Rows.piecesReadRow.laid w) false (World.laidAll Tryd.prog os Rows.piecesReadRow.laid) #[.slice none 0 0, .slice none 0 0] 8 (World.laidAll_os _ _ _)
      (World.shaped_of_ZipB (by kernel_rfl) (by kernel_rfl)) (by kernel_rfl) (by kernel_rfl) (by kernel_rfl)
      (by rw [MakeChecks.laidMetH_plain _ _ _ (by kernel_rfl)]; exact laidMet_laidAll _ (by kernel_rfl) (by kernel_rfl))) ?_
  intro w tape i _ hshape _ hok hpre _
  obtain ⟨_, _, _, fn', hfn', _, _, _, _, hval0⟩ := hok
  obtain rfl : Tryd.f9 = fn' := Option.some.inj (Tryd.func9.symm.trans hfn')
  obtain ⟨⟨⟨ds, gs, before, hw0, _⟩, hx⟩, hz⟩ := hpre
  have hsz0 := hz.weights hw0
  have hW := DataW.Whole.of_heap (w' := w.forCall tape i) (by rfl) hw0
  have hL : laidMetH Tryd.prog Rows.piecesReadRow.laid (w.forCall tape i) := laidMetH.of_heap (by rfl) hx
  suffices hcon : Calls Tryd.prog 9 i.args (w.forCall tape i) fun e W' => ∃ v, e = .returned v ∧ Rows.piecesReadSpec.post enc Tryd.prog Tryd.f9 false true false false (w.forCall tape i) i.args v W' by
    refine hcon.mono fun e W' ⟨v, he, hp⟩ => ?_
    subst he
    exact ChangeSpec.post_blind hp
  clear hx hw0 hz hfn'
  generalize i.args = args at *
  generalize w.forCall tape i = W at *
  generalize w.heap.size = base at *
  have hval : ∀ (j : Nat) t v, Tryd.f9.params[j]? = some t → args[j]? = some v → Value.okWide Tryd.prog W .any base t v := hval0
  have hW' := hW
  obtain ⟨p, q, hA0, hV, rfl, hfz, hnd⟩ := hW
  have hA : DataW.TrodAll enc Tryd.prog W 0 (fun _ => true) true Tryd.f9.params.toList args.toList ds p := hA0
  rw [Tryd.params9] at hA hval
  obtain ⟨v0, vs0, d0, ds0, p0, q0, hargs, rfl, rfl, h0, r0⟩ := trodAll_cons hA
  obtain ⟨v1, vs1, d1, ds1, p1, q1, rfl, rfl, rfl, h1, r1⟩ := trodAll_cons r0
  obtain ⟨rfl, rfl, rfl⟩ := trodAll_nil r1
  obtain rfl : args = #[v0, v1] := by cases args; simp_all
  obtain ⟨rfl, rfl⟩ := trodVars_none hV
  have k0 := h0
  have lt0 : ∀ x ∈ p0, x.block < W.heap.size := by obtain ⟨m, hm⟩ := k0; exact DataW.trod_lt m _ _ _ hm
  obtain ⟨a0, l0, cp0, rfl⟩ := okWide_slice Tryd.underlying33 (hval 0 33 v0 rfl rfl)
  obtain ⟨fuel0, hf0⟩ := h0
  obtain ⟨ad0, n0, c0, ps0, e0, hp0, hb0⟩ := pcs_cells (rz_sized (by simpa [Value.cells] using hf0) hsz0 0 rfl rfl)
  injection e0 with e01 e02 e03
  subst e01 e02 e03
  have k1 := h1
  have lt1 : ∀ x ∈ p1, x.block < W.heap.size := by obtain ⟨m, hm⟩ := k1; exact DataW.trod_lt m _ _ _ hm
  obtain ⟨a1, l1, cp1, rfl⟩ := okWide_slice Tryd.underlying33 (hval 1 33 v1 rfl rfl)
  obtain ⟨fuel1, hf1⟩ := h1
  obtain ⟨ad1, n1, c1, ps1, e1, hp1, hb1⟩ := pcs_cells (rz_sized (by simpa [Value.cells] using hf1) hsz0 1 rfl rfl)
  injection e1 with e11 e12 e13
  subst e11 e12 e13
  clear hA0 hval0
  refine (piecesRead_walk a0 l0 cp0 ps0 a1 l1 cp1 ps1 W hp0 hb0 hp1 hb1 (maxLen_of hshape) (tabs_of (by kernel_rfl) hL).2 (tabs_of (by kernel_rfl) hL).1).mono fun e W' ⟨he, bel⟩ => ?_
  subst he
  exact ⟨_, rfl, _, _, _, [], _, [], hW', trodAll_mk1 (shut_bool Tryd.underlying4 _), (trodAll_cons_mk (Below.trod laidOut (by kernel_rfl) (of_decide_eq_true (by kernel_rfl)) k0 bel lt0) (trodAll_cons_mk (Below.trod laidOut (by kernel_rfl) (of_decide_eq_true (by kernel_rfl)) k1 bel lt1) trodAll_mk0)), rfl, bel.frame _, fun h => by cases h⟩

theorem proved : Rows.PiecesReadSaid :=
  OpenClaim.holds_of_wide 9 Tryd.f9 rfl rfl rfl rfl rfl rfl rfl ⟨rfl, rfl, rfl, rfl, rfl⟩ rfl rfl rfl rfl rfl (by kernel_rfl) Tryd.func9 (by kernel_rfl)
    (of_decide_eq_true (by kernel_rfl)) (by unfold Func.isWrapper; first | (rw [if_pos (by decide +kernel)]; kernel_rfl) | (rw [if_neg (by decide +kernel)]; exact ⟨rfl, rfl⟩))
    (fun os started H enc _ => lifted os started H enc)
theorem card : Rows.PiecesReadCardSaid :=
  Claim7.holds_tied_plain_at .later [] [.data, .data, .data, .sentinel, .sentinel] true (true, "efc16c150bd8a079ed20abb9e83b2512658c21054536f9f11f04808dc99df498") true proved (fun _ h => by cases h) (by kernel_rfl) (fun _ h => by cases h) piecesRead_row_tie rfl ⟨rfl, rfl⟩ (by kernel_rfl) rfl
    (fun f fn hf hfn => by
      obtain rfl : f = 9 := Option.some.inj ((show Tryd.prog.funcNamed "calque/calquelaw37.PiecesRead" = some 9 by kernel_rfl).symm.trans hf) |>.symm
      obtain rfl : fn = Tryd.f9 := (Option.some.inj (Tryd.func9.symm.trans hfn)).symm
      exact ⟨by kernel_rfl, fun j t ht => by
        rw [Tryd.params9] at ht
        have hm : t ∈ [33, 33] := by simpa using Array.mem_of_getElem? ht
        have hall : ([33, 33].all fun u => !Tryd.prog.wantsStandIn u) = true := by kernel_rfl
        exact (show Tryd.prog.wantsStandIn t = false by simpa using List.all_eq_true.1 hall t hm)⟩)
    (by kernel_rfl)
#print axioms card
end Go.Proofs.YtkkggpahanddnaaDoor.lawPiecesRead
