/- TableConditions: a table with a rule is valid exactly if the class and the condition are, and then its text has the text of the condition. No condition besides. -/
import Derived.Test.YtmleeodfmmpdgaaGreatDoorQ11
import Derived.Test.YtmleeodfmmpdgaaGreatDoorQ21
import Derived.Test.YtmleeodfmmpdgaaGreatDoorQ36
namespace Go.Proofs.YtmleeodfmmpdgaaGreatDoor.lawTableConditions
open Go.ChangeShapes Go.WideShapes Go.ChangeAt Go.RowKit Go.Joins
open Go.ChangeMaps (open_string shut_string)
set_option maxRecDepth 100000 in
theorem lifted (os : Os) (started : os.Started) (H : Type) (enc : TypeId × Value → H) :
    ReturnsInHanded {} Tryz.checked os 7 .any (fun w args => (Rows.tableConditionsSpec.pre enc Tryz.prog Tryz.f7 Rows.tableConditionsRow.domain false w args ∧ laidMetH Tryz.prog Rows.tableConditionsRow.laid w) ∧ sizedMet enc Tryz.prog Tryz.f7 (OpenSpec.ofChange Rows.tableConditionsSpec) false w args)
      (Rows.tableConditionsSpec.post enc Tryz.prog Tryz.f7 false true false false) := by
  refine returnsInHanded_of_calls (C := Tryz.checked) own started (by kernel_rfl)
    (ChangeSpec.witness_shaped (enc := enc) (C := Tryz.checked) (os := os) (X := fun w _ => laidMetH Tryz.prog Rows.tableConditionsRow.laid w) false (World.laidAll Tryz.prog os Rows.tableConditionsRow.laid) #[.string .empty, .slice none 0 0] 8 (World.laidAll_os _ _ _)
      (World.shaped_of_ZipB (by kernel_rfl) (by kernel_rfl)) (by kernel_rfl) (by kernel_rfl) (by kernel_rfl)
      (by rw [MakeChecks.laidMetH_plain _ _ _ (by kernel_rfl)]; exact laidMet_laidAll _ (by kernel_rfl) (by kernel_rfl))) ?_
  intro w tape i _ hshape _ hok hpre _
  obtain ⟨_, _, _, fn', hfn', _, _, _, _, hval0⟩ := hok
  obtain rfl : Tryz.f7 = fn' := Option.some.inj (Tryz.func7.symm.trans hfn')
  obtain ⟨⟨⟨ds, gs, before, hw0, _⟩, hx⟩, hz⟩ := hpre
  have hsz0 := hz.weights hw0
  have hW := DataW.Whole.of_heap (w' := w.forCall tape i) (by rfl) hw0
  have hL : laidMetH Tryz.prog Rows.tableConditionsRow.laid (w.forCall tape i) := laidMetH.of_heap (by rfl) hx
  suffices hcon : Calls Tryz.prog 7 i.args (w.forCall tape i) fun e W' => ∃ v, e = .returned v ∧ Rows.tableConditionsSpec.post enc Tryz.prog Tryz.f7 false true false false (w.forCall tape i) i.args v W' by
    refine hcon.mono fun e W' ⟨v, he, hp⟩ => ?_
    subst he
    exact ChangeSpec.post_blind hp
  clear hx hw0 hz hfn'
  generalize i.args = args at *
  generalize w.forCall tape i = W at *
  generalize w.heap.size = base at *
  have hval : ∀ (j : Nat) t v, Tryz.f7.params[j]? = some t → args[j]? = some v → Value.okWide Tryz.prog W .any base t v := hval0
  have hW' := hW
  obtain ⟨p, q, hA0, hV, rfl, hfz, hnd⟩ := hW
  have hA : DataW.TrodAll enc Tryz.prog W 0 (fun _ => true) true Tryz.f7.params.toList args.toList ds p := hA0
  rw [Tryz.params7] at hA hval
  obtain ⟨v0, vs0, d0, ds0, p0, q0, hargs, rfl, rfl, h0, r0⟩ := trodAll_cons hA
  obtain ⟨v1, vs1, d1, ds1, p1, q1, rfl, rfl, rfl, h1, r1⟩ := trodAll_cons r0
  obtain ⟨rfl, rfl, rfl⟩ := trodAll_nil r1
  obtain rfl : args = #[v0, v1] := by cases args; simp_all
  obtain ⟨rfl, rfl⟩ := trodVars_none hV
  have k0 := h0
  have lt0 : ∀ x ∈ p0, x.block < W.heap.size := by obtain ⟨m, hm⟩ := k0; exact DataW.trod_lt m _ _ _ hm
  obtain ⟨s0, rfl⟩ := okWide_string Tryz.underlying9 (hval 0 9 v0 rfl rfl)
  obtain ⟨fuel0, hf0⟩ := h0
  obtain ⟨r0, e0, hb0⟩ := rz_string (rz_sized (by simpa [Value.cells] using hf0) hsz0 0 rfl rfl)
  injection e0 with e0
  subst e0
  have k1 := h1
  have lt1 : ∀ x ∈ p1, x.block < W.heap.size := by obtain ⟨m, hm⟩ := k1; exact DataW.trod_lt m _ _ _ hm
  obtain ⟨ad1, m1, cp1, rfl⟩ := okWide_slice Tryz.underlying48 (hval 1 48 v1 rfl rfl)
  obtain ⟨fuel1, hf1⟩ := h1
  obtain ⟨c1, hc1⟩ := conds_of (rz_sized (by simpa [Value.cells] using hf1) hsz0 1 rfl rfl)
  clear hA0 hval0
  refine (conditions_walk2 s0 (.slice ad1 m1 cp1) c1 W (by unfold reachBytes at hb0; omega) hc1 (maxLen_of11 hshape) (tabU_mem (by kernel_rfl) (.tail _ (.tail _ (.tail _ (.head _)))) (.tail _ (.tail _ (.tail _ (.tail _ (.tail _ (.tail _ (.head _))))))) hL) (tabs_of (by kernel_rfl) hL).2 (tabs_of (by kernel_rfl) hL).1).mono fun e W' ⟨he, bel⟩ => ?_
  subst he
  exact ⟨_, rfl, _, _, _, [], _, [], hW', trodAll_mk1 (shut_bool Tryz.underlying4 _), (trodAll_cons_mk (Below.trod laidOut (by kernel_rfl) (of_decide_eq_true (by kernel_rfl)) k0 bel lt0) (trodAll_cons_mk (Below.trod laidOut (by kernel_rfl) (of_decide_eq_true (by kernel_rfl)) k1 bel lt1) trodAll_mk0)), rfl, bel.frame _, fun h => by cases h⟩

set_option maxHeartbeats 8000000 in
theorem proved : Rows.TableConditionsSaid :=
  OpenClaim.holds_of_wide 7 Tryz.f7 rfl rfl rfl rfl rfl rfl rfl ⟨rfl, rfl, rfl, rfl, rfl⟩ rfl rfl rfl rfl rfl (by as_aux_lemma => kernel_rfl) Tryz.func7 (by kernel_rfl)
    (of_decide_eq_true (by kernel_rfl)) (by unfold Func.isWrapper; first | (rw [if_pos (by decide +kernel)]; kernel_rfl) | (rw [if_neg (by decide +kernel)]; exact ⟨rfl, rfl⟩))
    (fun os started H enc _ => lifted os started H enc)
set_option maxHeartbeats 8000000 in
theorem card : Rows.TableConditionsCardSaid :=
  Claim7.holds_tied_plain_at .later [] [.data, .data, .data, .data, .sentinel, .sentinel, .pinned] true (true, "53866a3cfb6a5f7e0285feebabafe408afb9ebef8f183c7493c95fa9bfcd2b80") true proved (fun _ h => by cases h) (by as_aux_lemma => kernel_rfl) (fun _ h => by cases h) tableConditions_row_tie rfl ⟨rfl, rfl⟩ (by as_aux_lemma => kernel_rfl) rfl
    (fun f fn hf hfn => by
      obtain rfl : f = 7 := Option.some.inj ((show Tryz.prog.funcNamed "calque/calquelaw12.TableConditions" = some 7 by as_aux_lemma => kernel_rfl).symm.trans hf) |>.symm
      obtain rfl : fn = Tryz.f7 := (Option.some.inj (Tryz.func7.symm.trans hfn)).symm
      exact ⟨(by as_aux_lemma => kernel_rfl), fun j t ht => by
        rw [Tryz.params7] at ht
        have hm : t ∈ [9, 48] := by simpa using Array.mem_of_getElem? ht
        have hall : ([9, 48].all fun u => !Tryz.prog.wantsStandIn u) = true := by as_aux_lemma => kernel_rfl
        exact (show Tryz.prog.wantsStandIn t = false by simpa using List.all_eq_true.1 hall t hm)⟩)
    (by as_aux_lemma => kernel_rfl)
#print axioms card
end Go.Proofs.YtmleeodfmmpdgaaGreatDoor.lawTableConditions
