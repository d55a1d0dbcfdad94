/- PiecesDiff: Diff returns the layout of any document against any other one, or ErrArg. -/
import Derived.Test.YtkkggpahanddnaaDoorH23
import Derived.Test.YtkkggpahanddnaaDoorHP
namespace Go.Proofs.YtkkggpahanddnaaDoor
open Go.RowKit
attribute [local go_sem] Ext.cell Ext.frozen
attribute [local go_sem ↓] Go.wp_at_zero Go.wp_at_succ
/-- a layout and an error are answered -/
def DiffQ (E : TypeId) (w : World) (ps : List (Int × ByteArray)) (er : Nat) (e : Ending) (w' : World) : Prop :=
  ∃ ad c, e = .returned (.tuple #[.slice ad ps.length c, .int .i64 (er : Int)]) ∧ w'.ownsRow w.heap.size E 2 (.slice ad ps.length c) ps.length (pcCells ps) ∧ Below w.heap.size w w'
theorem diffR_len (l m : List ByteArray) : (diffR l m).1.length ≤ l.length := by
  unfold diffR
  split
  · exact diffN_len l m l.length
  · exact Nat.zero_le _
set_option maxRecDepth 20000 in
set_option maxHeartbeats 8000000 in
theorem piecesDiff_walk (h t : ByteArray) (ad : Option Addr) (n c : Nat) (xs : List ByteArray) (h' t' : ByteArray) (ad' : Option Addr) (n' c' : Nat) (xs' : List ByteArray) (w : World) (hx : Sl w ad n (strs xs)) (hc : ad = none → c = 0) (hr : n * 16 ≤ 140737488351232) (hx' : Sl w ad' n' (strs xs')) (hc' : ad' = none → c' = 0) (hr' : n' * 16 ≤ 140737488351232) :
    Calls Tryd.prog 3 #[.agg #[.string h, .slice ad n c, .string t], .agg #[.string h', .slice ad' n' c', .string t']] w fun e w' => e = .returned (.bool true) ∧ Below w.heap.size w w' := by
  have HA := Lib.hid awake_any
  have HF1 : Hid (∀ w1, Below w.heap.size w w1 → Calls Tryd.prog 11 #[.agg #[.string h, .slice ad n c, .string t]] w1 fun e w' => e = .returned (.bool (fewV (allV h xs t))) ∧ Below w1.heap.size w1 w') := fun w1 g => few_any h t ad n c xs w1 (hx.below g) hc hr
  have HF2 : Hid (∀ w1, Below w.heap.size w w1 → Calls Tryd.prog 11 #[.agg #[.string h', .slice ad' n' c', .string t']] w1 fun e w' => e = .returned (.bool (fewV (allV h' xs' t'))) ∧ Below w1.heap.size w1 w') := fun w1 g => few_any h' t' ad' n' c' xs' w1 (hx'.below g) hc' hr'
  cases f1 : fewV (allV h xs t) with
  | false =>
    rw [f1] at HF1
    clear f1 HF2 hx hc hr hx' hc' hr'
    go_enter Tryd.func3, Tryd.ntmps3
    go_wp2_with fail
    refine (HA.out _).mono ?_
    rintro e w1 ⟨rfl, hb⟩
    have HD0 : Hid (w1.heap[w.heap.size]? = some (.cells #[.string h, .slice ad n c, .string t] 24 (0, 0))) := (hb.block w.heap.size (by simp; omega)).trans ((Below.heap_alloc _ _ _ (by simp)).trans (row_new _ _ _))
    have HD1 : Hid (w1.heap[w.heap.size + 1]? = some (.cells #[.string h', .slice ad' n' c', .string t'] 24 (0, 0))) := (hb.block (w.heap.size + 1) (by simp)).trans (row_new2 _ _ _ _)
    have c00 := row_cells HD0.out 0
    have c01 := row_cells HD0.out 1
    have c02 := row_cells HD0.out 2
    have c10 := row_cells HD1.out 0
    have c11 := row_cells HD1.out 1
    have c12 := row_cells HD1.out 2
    have HB1 : Hid (Below w.heap.size w w1) := (((Below.refl _ _).alloc (Nat.le_refl _) _).alloc (by simp) _).trans (hb.mono (by simp; omega))
    clear hb
    go_wp2_with fail
    refine (HF1.out _ HB1.out).mono ?_
    rintro e w2 ⟨rfl, hb⟩
    clear c00 c01 c02 c10 c11 c12
    have HD0 := Lib.hid ((hb.block _ (Array.getElem?_eq_some_iff.1 HD0.out).1).trans HD0.out)
    have c00 := row_cells HD0.out 0
    have c01 := row_cells HD0.out 1
    have c02 := row_cells HD0.out 2
    have HD1 := Lib.hid ((hb.block _ (Array.getElem?_eq_some_iff.1 HD1.out).1).trans HD1.out)
    have c10 := row_cells HD1.out 0
    have c11 := row_cells HD1.out 1
    have c12 := row_cells HD1.out 2
    have HB2 : Hid (Below w.heap.size w w2) := HB1.out.trans (hb.mono HB1.out.size)
    clear hb
    go_wp2_with fail
    go_ret
    exact ⟨rfl, HB2.out⟩
  | true =>
    rw [f1] at HF1
    cases f2 : fewV (allV h' xs' t') with
    | false =>
      rw [f2] at HF2
      clear f1 f2 hx hc hr hx' hc' hr'
      go_enter Tryd.func3, Tryd.ntmps3
      go_wp2_with fail
      refine (HA.out _).mono ?_
      rintro e w1 ⟨rfl, hb⟩
      have HD0 : Hid (w1.heap[w.heap.size]? = some (.cells #[.string h, .slice ad n c, .string t] 24 (0, 0))) := (hb.block w.heap.size (by simp; omega)).trans ((Below.heap_alloc _ _ _ (by simp)).trans (row_new _ _ _))
      have HD1 : Hid (w1.heap[w.heap.size + 1]? = some (.cells #[.string h', .slice ad' n' c', .string t'] 24 (0, 0))) := (hb.block (w.heap.size + 1) (by simp)).trans (row_new2 _ _ _ _)
      have c00 := row_cells HD0.out 0
      have c01 := row_cells HD0.out 1
      have c02 := row_cells HD0.out 2
      have c10 := row_cells HD1.out 0
      have c11 := row_cells HD1.out 1
      have c12 := row_cells HD1.out 2
      have HB1 : Hid (Below w.heap.size w w1) := (((Below.refl _ _).alloc (Nat.le_refl _) _).alloc (by simp) _).trans (hb.mono (by simp; omega))
      clear hb
      go_wp2_with fail
      refine (HF1.out _ HB1.out).mono ?_
      rintro e w2 ⟨rfl, hb⟩
      clear c00 c01 c02 c10 c11 c12
      have HD0 := Lib.hid ((hb.block _ (Array.getElem?_eq_some_iff.1 HD0.out).1).trans HD0.out)
      have c00 := row_cells HD0.out 0
      have c01 := row_cells HD0.out 1
      have c02 := row_cells HD0.out 2
      have HD1 := Lib.hid ((hb.block _ (Array.getElem?_eq_some_iff.1 HD1.out).1).trans HD1.out)
      have c10 := row_cells HD1.out 0
      have c11 := row_cells HD1.out 1
      have c12 := row_cells HD1.out 2
      have HB2 : Hid (Below w.heap.size w w2) := HB1.out.trans (hb.mono HB1.out.size)
      clear hb
      go_wp2_with fail
      refine (HF2.out _ HB2.out).mono ?_
      rintro e w3 ⟨rfl, hb⟩
      clear c00 c01 c02 c10 c11 c12
      have HD0 := Lib.hid ((hb.block _ (Array.getElem?_eq_some_iff.1 HD0.out).1).trans HD0.out)
      have c00 := row_cells HD0.out 0
      have c01 := row_cells HD0.out 1
      have c02 := row_cells HD0.out 2
      have HD1 := Lib.hid ((hb.block _ (Array.getElem?_eq_some_iff.1 HD1.out).1).trans HD1.out)
      have c10 := row_cells HD1.out 0
      have c11 := row_cells HD1.out 1
      have c12 := row_cells HD1.out 2
      have HB3 : Hid (Below w.heap.size w w3) := HB2.out.trans (hb.mono HB2.out.size)
      clear hb
      go_wp2_with fail
      go_ret
      exact ⟨rfl, HB3.out⟩
    | true =>
      rw [f2] at HF2
      obtain ⟨_, hf1⟩ := fewV_facts f1
      obtain ⟨_, hf2⟩ := fewV_facts f2
      rw [allV_len] at hf1 hf2
      have l1 := lenX hx
      have l2 := lenX hx'
      have HO1 : Hid (∀ w1, Below w.heap.size w w1 → Calls Tryd.prog 13 #[.agg #[.string h, .slice ad n c, .string t]] w1 (DocPost w1 h xs t)) := fun w1 g => own_any h t ad n c xs w1 (hx.below g) hc (by omega)
      have HO2 : Hid (∀ w1, Below w.heap.size w w1 → Calls Tryd.prog 13 #[.agg #[.string h', .slice ad' n' c', .string t']] w1 (DocPost w1 h' xs' t')) := fun w1 g => own_any h' t' ad' n' c' xs' w1 (hx'.below g) hc' (by omega)
      have HPD : Hid (∀ A1 c1 A2 c2 w1, Sl w1 (some A1) xs.length (strs xs) → Sl w1 (some A2) xs'.length (strs xs') → Calls Tryd.prog 12 #[.agg #[.string h, .slice (some A1) xs.length c1, .string t], .agg #[.string h', .slice (some A2) xs'.length c2, .string t']] w1 (DiffQ 66 w1 (diffR (allV h xs t) (allV h' xs' t')).1 (diffR (allV h xs t) (allV h' xs' t')).2)) := fun A1 c1 A2 c2 w1 g1 g2 => pdiffU h t (some A1) xs.length c1 xs w1 h' t' (some A2) xs'.length c2 xs' g1 g2 (by omega)
      have HRD : Hid (∀ w1, Below w.heap.size w w1 → Calls Tryd.prog 14 #[.agg #[.string h, .slice ad n c, .string t], .agg #[.string h', .slice ad' n' c', .string t']] w1 (DiffQ 58 w1 (diffR (allV h xs t) (allV h' xs' t')).1 (diffR (allV h xs t) (allV h' xs' t')).2)) := fun w1 g => rdiffU h t ad n c xs w1 h' t' ad' n' c' xs' (hx.below g) hc (hx'.below g) hc' (by omega)
      have hpl : (diffR (allV h xs t) (allV h' xs' t')).1.length ≤ 22 := by have := diffR_len (allV h xs t) (allV h' xs' t'); rw [allV_len] at this; omega
      clear f1 f2 hx hc hr hx' hc' hr' l1 l2
      generalize (diffR (allV h xs t) (allV h' xs' t')).1 = ps at *
      generalize (diffR (allV h xs t) (allV h' xs' t')).2 = er at *
      go_enter Tryd.func3, Tryd.ntmps3
      go_wp2_with fail
      refine (HA.out _).mono ?_
      rintro e w1 ⟨rfl, hb⟩
      have HD0 : Hid (w1.heap[w.heap.size]? = some (.cells #[.string h, .slice ad n c, .string t] 24 (0, 0))) := (hb.block w.heap.size (by simp; omega)).trans ((Below.heap_alloc _ _ _ (by simp)).trans (row_new _ _ _))
      have HD1 : Hid (w1.heap[w.heap.size + 1]? = some (.cells #[.string h', .slice ad' n' c', .string t'] 24 (0, 0))) := (hb.block (w.heap.size + 1) (by simp)).trans (row_new2 _ _ _ _)
      have c00 := row_cells HD0.out 0
      have c01 := row_cells HD0.out 1
      have c02 := row_cells HD0.out 2
      have c10 := row_cells HD1.out 0
      have c11 := row_cells HD1.out 1
      have c12 := row_cells HD1.out 2
      have HB1 : Hid (Below w.heap.size w w1) := (((Below.refl _ _).alloc (Nat.le_refl _) _).alloc (by simp) _).trans (hb.mono (by simp; omega))
      clear hb
      go_wp2_with fail
      refine (HF1.out _ HB1.out).mono ?_
      rintro e w2 ⟨rfl, hb⟩
      clear c00 c01 c02 c10 c11 c12
      have HD0 := Lib.hid ((hb.block _ (Array.getElem?_eq_some_iff.1 HD0.out).1).trans HD0.out)
      have c00 := row_cells HD0.out 0
      have c01 := row_cells HD0.out 1
      have c02 := row_cells HD0.out 2
      have HD1 := Lib.hid ((hb.block _ (Array.getElem?_eq_some_iff.1 HD1.out).1).trans HD1.out)
      have c10 := row_cells HD1.out 0
      have c11 := row_cells HD1.out 1
      have c12 := row_cells HD1.out 2
      have HB2 : Hid (Below w.heap.size w w2) := HB1.out.trans (hb.mono HB1.out.size)
      clear hb
      go_wp2_with fail
      refine (HF2.out _ HB2.out).mono ?_
      rintro e w3 ⟨rfl, hb⟩
      clear c00 c01 c02 c10 c11 c12
      have HD0 := Lib.hid ((hb.block _ (Array.getElem?_eq_some_iff.1 HD0.out).1).trans HD0.out)
      have c00 := row_cells HD0.out 0
      have c01 := row_cells HD0.out 1
      have c02 := row_cells HD0.out 2
      have HD1 := Lib.hid ((hb.block _ (Array.getElem?_eq_some_iff.1 HD1.out).1).trans HD1.out)
      have c10 := row_cells HD1.out 0
      have c11 := row_cells HD1.out 1
      have c12 := row_cells HD1.out 2
      have HB3 : Hid (Below w.heap.size w w3) := HB2.out.trans (hb.mono HB2.out.size)
      clear hb
      go_wp2_with fail
      go_region_held3 (fun w' => w'.cell? ⟨w.heap.size, 0, none⟩ = some (.string h) ∧ w'.cell? ⟨w.heap.size, 1, none⟩ = some (.slice ad n c) ∧ w'.cell? ⟨w.heap.size, 2, none⟩ = some (.string t) ∧ w'.cell? ⟨w.heap.size + 1, 0, none⟩ = some (.string h') ∧ w'.cell? ⟨w.heap.size + 1, 1, none⟩ = some (.slice ad' n' c') ∧ w'.cell? ⟨w.heap.size + 1, 2, none⟩ = some (.string t')) (go_keep)
        (first
          | (go_at_call 13; (with_reducible refine (HO1.out _ ?_).mono ?_); (exact (show Bel w _ from Bel.drew HB3.out)); rintro e w4 ⟨ad4, c4, rfl, hown, hnn, hb⟩; have hb2 : Below w3.heap.size w3 w4 := (below_drew1 w3).trans hb; obtain ⟨A4, rfl⟩ := Option.ne_none_iff_exists'.1 hnn; clear c00 c01 c02 c10 c11 c12; have HD0 := Lib.hid ((hb2.block _ (Array.getElem?_eq_some_iff.1 HD0.out).1).trans HD0.out); have c00 := row_cells HD0.out 0; have c01 := row_cells HD0.out 1; have c02 := row_cells HD0.out 2; have HD1 := Lib.hid ((hb2.block _ (Array.getElem?_eq_some_iff.1 HD1.out).1).trans HD1.out); have c10 := row_cells HD1.out 0; have c11 := row_cells HD1.out 1; have c12 := row_cells HD1.out 2; have HB4 : Hid (Below w.heap.size w w4) := HB3.out.trans (hb2.mono HB3.out.size); have HS4 := Lib.hid (Own.sl hown); clear hown hnn hb hb2)
          | (go_at_call 13; (with_reducible refine (HO2.out _ HB4.out).mono ?_); rintro e w5 ⟨ad5, c5, rfl, hown, hnn, hb⟩; have hb2 : Below w4.heap.size w4 w5 := hb; obtain ⟨A5, rfl⟩ := Option.ne_none_iff_exists'.1 hnn; clear c00 c01 c02 c10 c11 c12; have HD0 := Lib.hid ((hb2.block _ (Array.getElem?_eq_some_iff.1 HD0.out).1).trans HD0.out); have c00 := row_cells HD0.out 0; have c01 := row_cells HD0.out 1; have c02 := row_cells HD0.out 2; have HD1 := Lib.hid ((hb2.block _ (Array.getElem?_eq_some_iff.1 HD1.out).1).trans HD1.out); have c10 := row_cells HD1.out 0; have c11 := row_cells HD1.out 1; have c12 := row_cells HD1.out 2; have HB5 : Hid (Below w.heap.size w w5) := HB4.out.trans (hb2.mono HB4.out.size); have HS4 := Lib.hid (HS4.out.below hb2); have HS5 := Lib.hid (Own.sl hown); clear hown hnn hb hb2)
          | (go_at_call 12; (with_reducible refine (HPD.out _ _ _ _ _ HS4.out HS5.out).mono ?_); rintro e w6 ⟨ad6, c6, rfl, hown, hb⟩; clear c00 c01 c02 c10 c11 c12; have HD0 := Lib.hid ((hb.block _ (Array.getElem?_eq_some_iff.1 HD0.out).1).trans HD0.out); have c00 := row_cells HD0.out 0; have c01 := row_cells HD0.out 1; have c02 := row_cells HD0.out 2; have HD1 := Lib.hid ((hb.block _ (Array.getElem?_eq_some_iff.1 HD1.out).1).trans HD1.out); have c10 := row_cells HD1.out 0; have c11 := row_cells HD1.out 1; have c12 := row_cells HD1.out 2; have HB6 : Hid (Below w.heap.size w w6) := HB5.out.trans (hb.mono HB5.out.size); have HP6 := Lib.hid (own_pc hown); clear hown hb))
      go_wp2_with fail
      refine (HRD.out _ HB6.out).mono ?_
      rintro e w7 ⟨ad7, c7, rfl, hown, hb⟩
      clear c00 c01 c02 c10 c11 c12
      have HD0 := Lib.hid ((hb.block _ (Array.getElem?_eq_some_iff.1 HD0.out).1).trans HD0.out)
      have c00 := row_cells HD0.out 0
      have c01 := row_cells HD0.out 1
      have c02 := row_cells HD0.out 2
      have HD1 := Lib.hid ((hb.block _ (Array.getElem?_eq_some_iff.1 HD1.out).1).trans HD1.out)
      have c10 := row_cells HD1.out 0
      have c11 := row_cells HD1.out 1
      have c12 := row_cells HD1.out 2
      have HB7 : Hid (Below w.heap.size w w7) := HB6.out.trans (hb.mono HB6.out.size)
      have HP7 := Lib.hid (own_pc hown)
      have HP6 := Lib.hid (HP6.out.below hb)
      clear hown hb
      go_wp2_with fail
      refine (frompc_any ad6 ps.length c6 ps w7 HP6.out (by omega)).mono ?_
      rintro e w8 ⟨ad8, c8, rfl, hown, hb⟩
      have HB8 : Hid (Below w.heap.size w w8) := HB7.out.trans (hb.mono HB7.out.size)
      have HP8 := Lib.hid (own_pc hown)
      have HP7 := Lib.hid (HP7.out.below hb)
      clear hown hb c00 c01 c02 c10 c11 c12
      go_wp2_with fail
      refine (same_any ad8 ps.length c8 ps ad7 ps.length c7 ps w8 HP8.out HP7.out).mono ?_
      rintro e w9 ⟨rfl, hb⟩
      have HB9 : Hid (Below w.heap.size w w9) := HB8.out.trans (hb.mono HB8.out.size)
      have hsame : sameP ps ps = true := decide_eq_true rfl
      rw [hsame]
      clear hb
      go_wp2_with fail
      go_ret
      exact ⟨rfl, HB9.out⟩
end Go.Proofs.YtkkggpahanddnaaDoor
namespace Go.Proofs.YtkkggpahanddnaaDoor.lawPiecesDiff
open Go.ChangeShapes Go.WideShapes Go.ChangeAt Go.RowKit Go.Joins
open Go.ChangeMaps (open_string shut_string)
set_option maxRecDepth 100000 in
theorem lifted (os : Os) (started : os.Started) (H : Type) (enc : TypeId × Value → H) :
    ReturnsInHanded {} Tryd.checked os 3 .any (fun w args => (Rows.piecesDiffSpec.pre enc Tryd.prog Tryd.f3 Rows.piecesDiffRow.domain false w args ∧ laidMetH Tryd.prog Rows.piecesDiffRow.laid w) ∧ sizedMet enc Tryd.prog Tryd.f3 (OpenSpec.ofChange Rows.piecesDiffSpec) false w args)
      (Rows.piecesDiffSpec.post enc Tryd.prog Tryd.f3 false true false false) := by
  refine returnsInHanded_of_change_and (C := Tryd.checked) (X := fun w _ => laidMetH Tryd.prog Rows.piecesDiffRow.laid w) (fun _ _ _ hh h => h.of_heap hh) own started (by kernel_rfl) Tryd.func3
    (ChangeSpec.witness_shaped (enc := enc) (C := Tryd.checked) (os := os) (X := fun w _ => laidMetH Tryd.prog Rows.piecesDiffRow.laid w) false (World.laidAll Tryd.prog os Rows.piecesDiffRow.laid) #[.agg #[.string .empty, .slice none 0 0, .string .empty], .agg #[.string .empty, .slice none 0 0, .string .empty]] 8 (World.laidAll_os _ _ _)
      (World.shaped_of_ZipB (by kernel_rfl) (by kernel_rfl)) (by kernel_rfl) (by kernel_rfl) (by kernel_rfl)
      (by rw [MakeChecks.laidMetH_plain _ _ _ (by kernel_rfl)]; exact laidMet_laidAll _ (by kernel_rfl) (by kernel_rfl))) ?_
  intro W base args ds gs before hval0 hW _ hsz0 hL _
  have hval : ∀ (j : Nat) t v, Tryd.f3.params[j]? = some t → args[j]? = some v → Value.okWide Tryd.prog W .any base t v := hval0
  have hW' := hW
  obtain ⟨p, q, hA0, hV, rfl, hfz, hnd⟩ := hW
  have hA : DataW.TrodAll enc Tryd.prog W 0 (fun _ => true) true Tryd.f3.params.toList args.toList ds p := hA0
  rw [Tryd.params3] at hA hval
  obtain ⟨v0, vs0, d0, ds0, p0, q0, hargs, rfl, rfl, h0, r0⟩ := trodAll_cons hA
  obtain ⟨v1, vs1, d1, ds1, p1, q1, rfl, rfl, rfl, h1, r1⟩ := trodAll_cons r0
  obtain ⟨rfl, rfl, rfl⟩ := trodAll_nil r1
  obtain rfl : args = #[v0, v1] := by cases args; simp_all
  obtain ⟨rfl, rfl⟩ := trodVars_none hV
  have k0 := h0
  have lt0 : ∀ x ∈ p0, x.block < W.heap.size := by obtain ⟨m, hm⟩ := k0; exact DataW.trod_lt m _ _ _ hm
  obtain ⟨cs0, rfl, hcs0⟩ := okWide_struct Tryd.underlying24 (hval 0 24 v0 rfl rfl)
  obtain ⟨fuel0, hf0⟩ := h0
  obtain ⟨hd0, tl0, ad0, n0, c0, xs0, hx0, hs0, hc0, hr0⟩ := doc_cells (rz_sized (by simpa [Value.cells] using hf0) hsz0 0 rfl rfl)
  obtain rfl : cs0 = #[.string hd0, .slice ad0 n0 c0, .string tl0] := Array.toList_inj.1 hx0
  have k1 := h1
  have lt1 : ∀ x ∈ p1, x.block < W.heap.size := by obtain ⟨m, hm⟩ := k1; exact DataW.trod_lt m _ _ _ hm
  obtain ⟨cs1, rfl, hcs1⟩ := okWide_struct Tryd.underlying24 (hval 1 24 v1 rfl rfl)
  obtain ⟨fuel1, hf1⟩ := h1
  obtain ⟨hd1, tl1, ad1, n1, c1, xs1, hx1, hs1, hc1, hr1⟩ := doc_cells (rz_sized (by simpa [Value.cells] using hf1) hsz0 1 rfl rfl)
  obtain rfl : cs1 = #[.string hd1, .slice ad1 n1 c1, .string tl1] := Array.toList_inj.1 hx1
  clear hA0 hval0
  refine (piecesDiff_walk hd0 tl0 ad0 n0 c0 xs0 hd1 tl1 ad1 n1 c1 xs1 W hs0 hc0 hr0 hs1 hc1 hr1).mono fun e W' ⟨he, bel⟩ => ?_
  subst he
  exact ⟨_, rfl, _, _, _, [], _, [], hW', trodAll_mk1 (shut_bool Tryd.underlying4 _), (trodAll_cons_mk (Below.trod laidOut (by kernel_rfl) (of_decide_eq_true (by kernel_rfl)) k0 bel lt0) (trodAll_cons_mk (Below.trod laidOut (by kernel_rfl) (of_decide_eq_true (by kernel_rfl)) k1 bel lt1) trodAll_mk0)), rfl, bel.frame _, fun h => by cases h⟩

theorem proved : Rows.PiecesDiffSaid :=
  OpenClaim.holds_of_wide 3 Tryd.f3 rfl rfl rfl rfl rfl rfl rfl ⟨rfl, rfl, rfl, rfl, rfl⟩ rfl rfl rfl rfl rfl (by kernel_rfl) Tryd.func3 (by kernel_rfl)
    (of_decide_eq_true (by kernel_rfl)) (by unfold Func.isWrapper; first | (rw [if_pos (by decide +kernel)]; kernel_rfl) | (rw [if_neg (by decide +kernel)]; exact ⟨rfl, rfl⟩))
    (fun os started H enc _ => lifted os started H enc)
theorem card : Rows.PiecesDiffCardSaid :=
  Claim7.holds_tied_plain_at .later [] [.data, .data, .data] true (true, "efc16c150bd8a079ed20abb9e83b2512658c21054536f9f11f04808dc99df498") true proved (fun _ h => by cases h) (by kernel_rfl) (fun _ h => by cases h) piecesDiff_row_tie rfl ⟨rfl, rfl⟩ (by kernel_rfl) rfl
    (fun f fn hf hfn => by
      obtain rfl : f = 3 := Option.some.inj ((show Tryd.prog.funcNamed "calque/calquelaw37.PiecesDiff" = some 3 by kernel_rfl).symm.trans hf) |>.symm
      obtain rfl : fn = Tryd.f3 := (Option.some.inj (Tryd.func3.symm.trans hfn)).symm
      exact ⟨by kernel_rfl, fun j t ht => by
        rw [Tryd.params3] at ht
        have hm : t ∈ [24, 24] := by simpa using Array.mem_of_getElem? ht
        have hall : ([24, 24].all fun u => !Tryd.prog.wantsStandIn u) = true := by kernel_rfl
        exact (show Tryd.prog.wantsStandIn t = false by simpa using List.all_eq_true.1 hall t hm)⟩)
    (by kernel_rfl)
#print axioms card
end Go.Proofs.YtkkggpahanddnaaDoor.lawPiecesDiff
