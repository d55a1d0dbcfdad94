/- LexemeInverse: the law. -/
import Derived.Test.YtpionddponmdmaaDoorQ44
import Derived.Test.YtpionddponmdmaaDoorQ45
import Derived.Test.YtpionddponmdmaaDoorQ49
namespace Go.Proofs.YtpionddponmdmaaDoor.lawLexemeInverse
open Go.ChangeShapes Go.WideShapes Go.ChangeAt Go.RowKit Go.Joins
open Go.ChangeMaps (open_string shut_string)
set_option maxRecDepth 100000 in
theorem lifted (os : Os) (started : os.Started) (H : Type) (enc : TypeId × Value → H) :
    ReturnsInHanded {} Tryd.checked os 6 .any (fun w args => (Rows.lexemeInverseSpec.pre enc Tryd.prog Tryd.f6 Rows.lexemeInverseRow.domain false w args ∧ laidMetH Tryd.prog Rows.lexemeInverseRow.laid w) ∧ sizedMet enc Tryd.prog Tryd.f6 (OpenSpec.ofChange Rows.lexemeInverseSpec) false w args)
      (Rows.lexemeInverseSpec.post enc Tryd.prog Tryd.f6 false true false false) := by
  refine returnsInHanded_of_calls (C := Tryd.checked) own started (by kernel_rfl)
    (ChangeSpec.witness_shaped (enc := enc) (C := Tryd.checked) (os := os) (X := fun w _ => laidMetH Tryd.prog Rows.lexemeInverseRow.laid w) false (World.laidAll Tryd.prog os Rows.lexemeInverseRow.laid) #[.slice none 0 0, .string .empty] 8 (World.laidAll_os _ _ _)
      (World.shaped_of_ZipB (by kernel_rfl) (by kernel_rfl)) (by kernel_rfl) (by kernel_rfl) (by kernel_rfl)
      (by rw [MakeChecks.laidMetH_plain _ _ _ (by kernel_rfl)]; exact laidMet_laidAll _ (by kernel_rfl) (by kernel_rfl))) ?_
  intro w tape i _ hshape _ hok hpre _
  obtain ⟨_, _, _, fn', hfn', _, _, _, _, hval0⟩ := hok
  obtain rfl : Tryd.f6 = fn' := Option.some.inj (Tryd.func6.symm.trans hfn')
  obtain ⟨⟨⟨ds, gs, before, hw0, _⟩, hx⟩, hz⟩ := hpre
  have hsz0 := hz.weights hw0
  have hW := DataW.Whole.of_heap (w' := w.forCall tape i) (by rfl) hw0
  have hL : laidMetH Tryd.prog Rows.lexemeInverseRow.laid (w.forCall tape i) := laidMetH.of_heap (by rfl) hx
  suffices hcon : Calls Tryd.prog 6 i.args (w.forCall tape i) fun e W' => ∃ v, e = .returned v ∧ Rows.lexemeInverseSpec.post enc Tryd.prog Tryd.f6 false true false false (w.forCall tape i) i.args v W' by
    refine hcon.mono fun e W' ⟨v, he, hp⟩ => ?_
    subst he
    exact ChangeSpec.post_blind hp
  clear hx hw0 hz hfn'
  generalize i.args = args at *
  generalize w.forCall tape i = W at *
  generalize w.heap.size = base at *
  have hval : ∀ (j : Nat) t v, Tryd.f6.params[j]? = some t → args[j]? = some v → Value.okWide Tryd.prog W .any base t v := hval0
  have hW' := hW
  obtain ⟨p, q, hA0, hV, rfl, hfz, hnd⟩ := hW
  have hA : DataW.TrodAll enc Tryd.prog W 0 (fun _ => true) true Tryd.f6.params.toList args.toList ds p := hA0
  rw [Tryd.params6] at hA hval
  obtain ⟨v0, vs0, d0, ds0, p0, q0, hargs, rfl, rfl, h0, r0⟩ := trodAll_cons hA
  obtain ⟨v1, vs1, d1, ds1, p1, q1, rfl, rfl, rfl, h1, r1⟩ := trodAll_cons r0
  obtain ⟨rfl, rfl, rfl⟩ := trodAll_nil r1
  obtain rfl : args = #[v0, v1] := by cases args; simp_all
  obtain ⟨rfl, rfl⟩ := trodVars_none hV
  have k0 := h0
  have lt0 : ∀ x ∈ p0, x.block < W.heap.size := by obtain ⟨m, hm⟩ := k0; exact DataW.trod_lt m _ _ _ hm
  obtain ⟨a0, l0, cp0, rfl⟩ := okWide_slice Tryd.underlying27 (hval 0 27 v0 rfl rfl)
  obtain ⟨fuel0, hf0⟩ := h0
  obtain ⟨ad0, n0, c0, xs0, bb0, of0, e0, hp0, hq0⟩ := tz_cells (rz_sized (by simpa [Value.cells] using hf0) hsz0 0 rfl rfl)
  injection e0 with e01 e02 e03
  subst e01 e02 e03
  obtain ⟨s1, rfl, rfl, rfl, hs1⟩ := open_string Tryd.underlying9 (hval 1 9 v1 rfl rfl) h1
  clear hA0 hval0
  refine (lexemeInverse_walk a0 l0 cp0 xs0 bb0 of0 s1 W hp0 hq0 (by unfold maxLen at hs1; omega) (maxLen_of11 hshape) (tabU_mem (by kernel_rfl) (.tail _ (.tail _ (.tail _ (.head _)))) (.tail _ (.tail _ (.tail _ (.tail _ (.head _))))) hL) (tabs_of (by kernel_rfl) hL).1).mono fun e W' ⟨he, bel⟩ => ?_
  subst he
  exact ⟨_, rfl, _, _, _, [], _, [], hW', trodAll_mk1 (shut_bool Tryd.underlying4 _), (trodAll_cons_mk (Below.trod laidOut (by kernel_rfl) (of_decide_eq_true (by kernel_rfl)) k0 bel lt0) (trodAll_cons_mk (shut_string Tryd.underlying9 hs1) trodAll_mk0)), rfl, bel.frame _, fun h => by cases h⟩

theorem proved : Rows.LexemeInverseSaid :=
  OpenClaim.holds_of_wide 6 Tryd.f6 rfl rfl rfl rfl rfl rfl rfl ⟨rfl, rfl, rfl, rfl, rfl⟩ rfl rfl rfl rfl rfl (by kernel_rfl) Tryd.func6 (by kernel_rfl)
    (of_decide_eq_true (by kernel_rfl)) (by unfold Func.isWrapper; first | (rw [if_pos (by decide +kernel)]; kernel_rfl) | (rw [if_neg (by decide +kernel)]; exact ⟨rfl, rfl⟩))
    (fun os started H enc _ => lifted os started H enc)
theorem card : Rows.LexemeInverseCardSaid :=
  Claim7.holds_tied_plain_at .later [] [.data, .data, .data, .data, .pinned] true (true, "f4eba209f639301ada778a227ac169ad4c839dd894b961ec5410e5cf083ec406") false proved (fun _ h => by cases h) (by kernel_rfl) (fun _ h => by cases h) lexemeInverse_row_tie rfl ⟨rfl, rfl⟩ (by kernel_rfl) rfl
    (fun f fn hf hfn => by
      obtain rfl : f = 6 := Option.some.inj ((show Tryd.prog.funcNamed "calque/calquelaw11.LexemeInverse" = some 6 by kernel_rfl).symm.trans hf) |>.symm
      obtain rfl : fn = Tryd.f6 := (Option.some.inj (Tryd.func6.symm.trans hfn)).symm
      exact ⟨by kernel_rfl, fun j t ht => by
        rw [Tryd.params6] at ht
        have hm : t ∈ [27, 9] := by simpa using Array.mem_of_getElem? ht
        have hall : ([27, 9].all fun u => !Tryd.prog.wantsStandIn u) = true := by kernel_rfl
        exact (show Tryd.prog.wantsStandIn t = false by simpa using List.all_eq_true.1 hall t hm)⟩)
    (by kernel_rfl)
#print axioms card
end Go.Proofs.YtpionddponmdmaaDoor.lawLexemeInverse
