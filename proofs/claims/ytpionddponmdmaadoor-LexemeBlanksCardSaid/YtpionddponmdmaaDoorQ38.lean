/- LexemeBlanks: the law. -/
import Derived.Test.YtpionddponmdmaaDoorQ33
import Derived.Test.YtpionddponmdmaaDoorQ36
import Derived.Test.YtpionddponmdmaaDoorQ37
namespace Go.Proofs.YtpionddponmdmaaDoor.lawLexemeBlanks
open Go.ChangeShapes Go.WideShapes Go.ChangeAt Go.RowKit Go.Joins
open Go.ChangeMaps (open_string shut_string)
set_option maxRecDepth 100000 in
theorem lifted (os : Os) (started : os.Started) (H : Type) (enc : TypeId × Value → H) :
    ReturnsInHanded {} Tryd.checked os 5 .any (fun w args => (Rows.lexemeBlanksSpec.pre enc Tryd.prog Tryd.f5 Rows.lexemeBlanksRow.domain false w args ∧ laidMetH Tryd.prog Rows.lexemeBlanksRow.laid w) ∧ sizedMet enc Tryd.prog Tryd.f5 (OpenSpec.ofChange Rows.lexemeBlanksSpec) false w args)
      (Rows.lexemeBlanksSpec.post enc Tryd.prog Tryd.f5 false true false false) := by
  refine returnsInHanded_of_calls (C := Tryd.checked) own started (by kernel_rfl)
    (ChangeSpec.witness_shaped (enc := enc) (C := Tryd.checked) (os := os) (X := fun w _ => laidMetH Tryd.prog Rows.lexemeBlanksRow.laid w) false (World.laidAll Tryd.prog os Rows.lexemeBlanksRow.laid) #[.string .empty, .string .empty, .slice none 0 0] 8 (World.laidAll_os _ _ _)
      (World.shaped_of_ZipB (by kernel_rfl) (by kernel_rfl)) (by kernel_rfl) (by kernel_rfl) (by kernel_rfl)
      (by rw [MakeChecks.laidMetH_plain _ _ _ (by kernel_rfl)]; exact laidMet_laidAll _ (by kernel_rfl) (by kernel_rfl))) ?_
  intro w tape i _ hshape _ hok hpre _
  obtain ⟨_, _, _, fn', hfn', _, _, _, _, hval0⟩ := hok
  obtain rfl : Tryd.f5 = fn' := Option.some.inj (Tryd.func5.symm.trans hfn')
  obtain ⟨⟨⟨ds, gs, before, hw0, _⟩, hx⟩, hz⟩ := hpre
  have hsz0 := hz.weights hw0
  have hW := DataW.Whole.of_heap (w' := w.forCall tape i) (by rfl) hw0
  have hL : laidMetH Tryd.prog Rows.lexemeBlanksRow.laid (w.forCall tape i) := laidMetH.of_heap (by rfl) hx
  suffices hcon : Calls Tryd.prog 5 i.args (w.forCall tape i) fun e W' => ∃ v, e = .returned v ∧ Rows.lexemeBlanksSpec.post enc Tryd.prog Tryd.f5 false true false false (w.forCall tape i) i.args v W' by
    refine hcon.mono fun e W' ⟨v, he, hp⟩ => ?_
    subst he
    exact ChangeSpec.post_blind hp
  clear hx hw0 hz hfn'
  generalize i.args = args at *
  generalize w.forCall tape i = W at *
  generalize w.heap.size = base at *
  have hval : ∀ (j : Nat) t v, Tryd.f5.params[j]? = some t → args[j]? = some v → Value.okWide Tryd.prog W .any base t v := hval0
  have hW' := hW
  obtain ⟨p, q, hA0, hV, rfl, hfz, hnd⟩ := hW
  have hA : DataW.TrodAll enc Tryd.prog W 0 (fun _ => true) true Tryd.f5.params.toList args.toList ds p := hA0
  rw [Tryd.params5] at hA hval
  obtain ⟨v0, vs0, d0, ds0, p0, q0, hargs, rfl, rfl, h0, r0⟩ := trodAll_cons hA
  obtain ⟨v1, vs1, d1, ds1, p1, q1, rfl, rfl, rfl, h1, r1⟩ := trodAll_cons r0
  obtain ⟨v2, vs2, d2, ds2, p2, q2, rfl, rfl, rfl, h2, r2⟩ := trodAll_cons r1
  obtain ⟨rfl, rfl, rfl⟩ := trodAll_nil r2
  obtain rfl : args = #[v0, v1, v2] := by cases args; simp_all
  obtain ⟨rfl, rfl⟩ := trodVars_none hV
  have k0 := h0
  have lt0 : ∀ x ∈ p0, x.block < W.heap.size := by obtain ⟨m, hm⟩ := k0; exact DataW.trod_lt m _ _ _ hm
  obtain ⟨s0, rfl⟩ := okWide_string Tryd.underlying9 (hval 0 9 v0 rfl rfl)
  obtain ⟨fuel0, hf0⟩ := h0
  obtain ⟨r0, e0, hb0⟩ := rz_string (rz_sized (by simpa [Value.cells] using hf0) hsz0 0 rfl rfl)
  injection e0 with e0
  subst e0
  have k1 := h1
  have lt1 : ∀ x ∈ p1, x.block < W.heap.size := by obtain ⟨m, hm⟩ := k1; exact DataW.trod_lt m _ _ _ hm
  obtain ⟨s1, rfl⟩ := okWide_string Tryd.underlying9 (hval 1 9 v1 rfl rfl)
  obtain ⟨fuel1, hf1⟩ := h1
  obtain ⟨r1, e1, hb1⟩ := rz_string (rz_sized (by simpa [Value.cells] using hf1) hsz0 1 rfl rfl)
  injection e1 with e1
  subst e1
  have k2 := h2
  have lt2 : ∀ x ∈ p2, x.block < W.heap.size := by obtain ⟨m, hm⟩ := k2; exact DataW.trod_lt m _ _ _ hm
  obtain ⟨a2, l2, cp2, rfl⟩ := okWide_slice Tryd.underlying35 (hval 2 35 v2 rfl rfl)
  obtain ⟨fuel2, hf2⟩ := h2
  obtain ⟨ad2, n2, c2, g2, e2, hp2⟩ := rz_bytes (rz_sized (by simpa [Value.cells] using hf2) hsz0 2 rfl rfl)
  injection e2 with e21 e22 e23
  subst e21 e22 e23
  clear hA0 hval0
  refine (lexemeBlanks_walk s0 s1 a2 l2 cp2 g2 W (by unfold reachBytes at hb0; omega) (by unfold reachBytes at hb1; omega) hp2 (maxLen_of11 hshape) (tabU_of (by kernel_rfl) hL)).mono fun e W' ⟨he, bel⟩ => ?_
  subst he
  exact ⟨_, rfl, _, _, _, [], _, [], hW', trodAll_mk1 (shut_bool Tryd.underlying4 _), (trodAll_cons_mk (Below.trod laidOut (by kernel_rfl) (of_decide_eq_true (by kernel_rfl)) k0 bel lt0) (trodAll_cons_mk (Below.trod laidOut (by kernel_rfl) (of_decide_eq_true (by kernel_rfl)) k1 bel lt1) (trodAll_cons_mk (Below.trod laidOut (by kernel_rfl) (of_decide_eq_true (by kernel_rfl)) k2 bel lt2) trodAll_mk0))), rfl, bel.frame _, fun h => by cases h⟩

theorem proved : Rows.LexemeBlanksSaid :=
  OpenClaim.holds_of_wide 5 Tryd.f5 rfl rfl rfl rfl rfl rfl rfl ⟨rfl, rfl, rfl, rfl, rfl⟩ rfl rfl rfl rfl rfl (by kernel_rfl) Tryd.func5 (by kernel_rfl)
    (of_decide_eq_true (by kernel_rfl)) (by unfold Func.isWrapper; first | (rw [if_pos (by decide +kernel)]; kernel_rfl) | (rw [if_neg (by decide +kernel)]; exact ⟨rfl, rfl⟩))
    (fun os started H enc _ => lifted os started H enc)
theorem card : Rows.LexemeBlanksCardSaid :=
  Claim7.holds_tied_plain_at .later [] [.data, .pinned] true (true, "f4eba209f639301ada778a227ac169ad4c839dd894b961ec5410e5cf083ec406") false proved (fun _ h => by cases h) (by kernel_rfl) (fun _ h => by cases h) lexemeBlanks_row_tie rfl ⟨rfl, rfl⟩ (by kernel_rfl) rfl
    (fun f fn hf hfn => by
      obtain rfl : f = 5 := Option.some.inj ((show Tryd.prog.funcNamed "calque/calquelaw11.LexemeBlanks" = some 5 by kernel_rfl).symm.trans hf) |>.symm
      obtain rfl : fn = Tryd.f5 := (Option.some.inj (Tryd.func5.symm.trans hfn)).symm
      exact ⟨by kernel_rfl, fun j t ht => by
        rw [Tryd.params5] at ht
        have hm : t ∈ [9, 9, 35] := by simpa using Array.mem_of_getElem? ht
        have hall : ([9, 9, 35].all fun u => !Tryd.prog.wantsStandIn u) = true := by kernel_rfl
        exact (show Tryd.prog.wantsStandIn t = false by simpa using List.all_eq_true.1 hall t hm)⟩)
    (by kernel_rfl)
#print axioms card
end Go.Proofs.YtpionddponmdmaaDoor.lawLexemeBlanks
