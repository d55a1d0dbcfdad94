/- ChooseMore: A further case at the end changes the choice only if its key is the number with =, the text, or the class. -/
import Derived.Test.YtadhblppeaamlaaGreatDoorQ31
import Derived.Test.YtadhblppeaamlaaGreatDoorQ32
import Derived.Test.YtadhblppeaamlaaGreatDoorTie
import Derived.Test.YtadhblppeaamlaaGreatDoorCards
namespace Go.Proofs.YtadhblppeaamlaaGreatDoor
open Go.RowKit
theorem chooseMore_walk_w (x : Nat → Value) (a b : List (ByteArray × List (List Rel))) (p : Nat → Value) (d : Nat) (kind : Int) (name : ByteArray) (keys : List ByteArray) (s0 s1 : ByteArray) (w : World) (h : LocC w x a b) (hp : PartK d w p kind name keys) (h0 : s0.size ≤ 140737488351232) (h1 : s1.size ≤ 140737488351232) :
    Calls Tryz.prog 5 #[.agg #[x 0, x 1, x 2, x 3, x 4, x 5, x 6, x 7, x 8, x 9, x 10, x 11, x 12, x 13, x 14, x 15], .agg #[p 0, p 1, p 2, p 3, p 4, p 5], .agg #[.string s0, .string s1]] w fun e w' => e = .returned (.bool true) ∧ Below w.heap.size w w' := chooseMore_walk x p a b d kind name keys s0 s1 w h hp h0 h1
end Go.Proofs.YtadhblppeaamlaaGreatDoor
namespace Go.Proofs.YtadhblppeaamlaaGreatDoor.lawChooseMore
open Go.ChangeShapes Go.WideShapes Go.ChangeAt Go.RowKit Go.Joins
open Go.ChangeMaps (open_string shut_string)
set_option maxRecDepth 100000 in
theorem lifted (os : Os) (started : os.Started) (H : Type) (enc : TypeId × Value → H) :
    ReturnsInHanded {} Tryz.checked os 5 .any (fun w args => (Rows.chooseMoreSpec.pre enc Tryz.prog Tryz.f5 Rows.chooseMoreRow.domain false w args ∧ laidMetH Tryz.prog Rows.chooseMoreRow.laid w) ∧ sizedMet enc Tryz.prog Tryz.f5 (OpenSpec.ofChange Rows.chooseMoreSpec) false w args)
      (Rows.chooseMoreSpec.post enc Tryz.prog Tryz.f5 false true false false) := by
  refine returnsInHanded_of_change_and (C := Tryz.checked) (X := fun w _ => laidMetH Tryz.prog Rows.chooseMoreRow.laid w) (fun _ _ _ hh h => h.of_heap hh) own started (by kernel_rfl) Tryz.func5
    (ChangeSpec.witness_shaped (enc := enc) (C := Tryz.checked) (os := os) (X := fun w _ => laidMetH Tryz.prog Rows.chooseMoreRow.laid w) false (World.laidAll Tryz.prog os Rows.chooseMoreRow.laid) #[.agg #[.string .empty, .string .empty, .string .empty, .slice none 0 0, .slice none 0 0, .string .empty, .string .empty, .string .empty, .string .empty, .int .i64 0, .int .i64 0, .slice none 0 0, .slice none 0 0, .slice none 0 0, .slice none 0 0, .slice none 0 0], .agg #[.int .i64 0, .string .empty, .string .empty, .string .empty, .slice none 0 0, .slice none 0 0], .agg #[.string .empty, .string .empty]] 8 (World.laidAll_os _ _ _)
      (World.shaped_of_ZipB (by kernel_rfl) (by kernel_rfl)) (by kernel_rfl) (by kernel_rfl) (by kernel_rfl)
      (by rw [MakeChecks.laidMetH_plain _ _ _ (by kernel_rfl)]; exact laidMet_laidAll _ (by kernel_rfl) (by kernel_rfl))) ?_
  intro W base args ds gs before hval0 hW _ hsz0 hL _
  have hval : ∀ (j : Nat) t v, Tryz.f5.params[j]? = some t → args[j]? = some v → Value.okWide Tryz.prog W .any base t v := hval0
  have hW' := hW
  obtain ⟨p, q, hA0, hV, rfl, hfz, hnd⟩ := hW
  have hA : DataW.TrodAll enc Tryz.prog W 0 (fun _ => true) true Tryz.f5.params.toList args.toList ds p := hA0
  rw [Tryz.params5] at hA hval
  obtain ⟨v0, vs0, d0, ds0, p0, q0, hargs, rfl, rfl, h0, r0⟩ := trodAll_cons hA
  obtain ⟨v1, vs1, d1, ds1, p1, q1, rfl, rfl, rfl, h1, r1⟩ := trodAll_cons r0
  obtain ⟨v2, vs2, d2, ds2, p2, q2, rfl, rfl, rfl, h2, r2⟩ := trodAll_cons r1
  obtain ⟨rfl, rfl, rfl⟩ := trodAll_nil r2
  obtain rfl : args = #[v0, v1, v2] := by cases args; simp_all
  obtain ⟨rfl, rfl⟩ := trodVars_none hV
  have k0 := h0
  have lt0 : ∀ x ∈ p0, x.block < W.heap.size := by obtain ⟨m, hm⟩ := k0; exact DataW.trod_lt m _ _ _ hm
  obtain ⟨cs0, rfl, hcs0⟩ := okWide_struct Tryz.underlying30 (hval 0 30 v0 rfl rfl)
  obtain ⟨fuel0, hf0⟩ := h0
  obtain ⟨x0, a0, b0, hx0, hok0⟩ := locr_cells (rz_sized (by simpa [Value.cells] using hf0) hsz0 0 rfl rfl)
  obtain rfl : cs0 = #[x0 0, x0 1, x0 2, x0 3, x0 4, x0 5, x0 6, x0 7, x0 8, x0 9, x0 10, x0 11, x0 12, x0 13, x0 14, x0 15] := Array.toList_inj.1 hx0
  have k1 := h1
  have lt1 : ∀ x ∈ p1, x.block < W.heap.size := by obtain ⟨m, hm⟩ := k1; exact DataW.trod_lt m _ _ _ hm
  obtain ⟨cs1, rfl, hcs1⟩ := okWide_struct Tryz.underlying34 (hval 1 34 v1 rfl rfl)
  obtain ⟨fuel1, hf1⟩ := h1
  obtain ⟨y1, dd1, kd1, nm1, ks1, hx1, hok1⟩ := part_cells (rz_sized (by simpa [Value.cells] using hf1) hsz0 1 rfl rfl)
  obtain rfl : cs1 = #[y1 0, y1 1, y1 2, y1 3, y1 4, y1 5] := Array.toList_inj.1 hx1
  have k2 := h2
  have lt2 : ∀ x ∈ p2, x.block < W.heap.size := by obtain ⟨m, hm⟩ := k2; exact DataW.trod_lt m _ _ _ hm
  obtain ⟨cs2, rfl, hcs2⟩ := okWide_two (hval 2 47 v2 rfl rfl)
  obtain ⟨fuel2, hf2⟩ := h2
  obtain ⟨sa2, sb2, hx2, ha2, hb2⟩ := two_cells (rz_sized (by simpa [Value.cells] using hf2) hsz0 2 rfl rfl)
  obtain rfl : cs2 = #[.string sa2, .string sb2] := Array.toList_inj.1 hx2
  clear hA0 hval0
  refine (chooseMore_walk_w x0 a0 b0 y1 dd1 kd1 nm1 ks1 sa2 sb2 W hok0 hok1 ha2 hb2 ).mono fun e W' ⟨he, bel⟩ => ?_
  subst he
  exact ⟨_, rfl, _, _, _, [], _, [], hW', trodAll_mk1 (shut_bool Tryz.underlying4 _), (trodAll_cons_mk (Below.trod laidOut (by kernel_rfl) (of_decide_eq_true (by kernel_rfl)) k0 bel lt0) (trodAll_cons_mk (Below.trod laidOut (by kernel_rfl) (of_decide_eq_true (by kernel_rfl)) k1 bel lt1) (trodAll_cons_mk (Below.trod laidOut (by kernel_rfl) (of_decide_eq_true (by kernel_rfl)) k2 bel lt2) trodAll_mk0))), rfl, bel.frame _, fun h => by cases h⟩

theorem proved : Rows.ChooseMoreSaid :=
  OpenClaim.holds_of_wide 5 Tryz.f5 rfl rfl rfl rfl rfl rfl rfl ⟨rfl, rfl, rfl, rfl, rfl⟩ rfl rfl rfl rfl rfl (by kernel_rfl) Tryz.func5 (by kernel_rfl)
    (of_decide_eq_true (by kernel_rfl)) (by unfold Func.isWrapper; first | (rw [if_pos (by decide +kernel)]; kernel_rfl) | (rw [if_neg (by decide +kernel)]; exact ⟨rfl, rfl⟩))
    (fun os started H enc _ => lifted os started H enc)
theorem card : Rows.ChooseMoreCardSaid :=
  Claim7.holds_tied_plain_at .later [] [.data, .data, .data, .data, .sentinel, .sentinel, .pinned] true (true, "464bfdbc3108af481410905d9195075c041fcf9458af466327a56436957ef0fa") true proved (fun _ h => by cases h) (by kernel_rfl) (fun _ h => by cases h) chooseMore_row_tie rfl ⟨rfl, rfl⟩ (by kernel_rfl) rfl
    (fun f fn hf hfn => by
      obtain rfl : f = 5 := Option.some.inj ((show Tryz.prog.funcNamed "calque/calquelaw31.ChooseMore" = some 5 by kernel_rfl).symm.trans hf) |>.symm
      obtain rfl : fn = Tryz.f5 := (Option.some.inj (Tryz.func5.symm.trans hfn)).symm
      exact ⟨by kernel_rfl, fun j t ht => by
        rw [Tryz.params5] at ht
        have hm : t ∈ [30, 34, 47] := by simpa using Array.mem_of_getElem? ht
        have hall : ([30, 34, 47].all fun u => !Tryz.prog.wantsStandIn u) = true := by kernel_rfl
        exact (show Tryz.prog.wantsStandIn t = false by simpa using List.all_eq_true.1 hall t hm)⟩)
    (by kernel_rfl)
#print axioms card
end Go.Proofs.YtadhblppeaamlaaGreatDoor.lawChooseMore
