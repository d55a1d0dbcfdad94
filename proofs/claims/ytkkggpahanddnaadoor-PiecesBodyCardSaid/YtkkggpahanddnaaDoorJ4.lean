/- PiecesBody: Body, Get and With return the specified results for any document. -/
import Derived.Test.YtkkggpahanddnaaDoorH23
import Derived.Test.YtkkggpahanddnaaDoorHP
import Derived.Deep.QuietTactic
import Derived.BigQuiet
namespace Go.Proofs.YtkkggpahanddnaaDoor
open Go.RowKit
attribute [local go_sem] Ext.cell Ext.frozen
attribute [local go_sem ↓] Go.wp_at_zero Go.wp_at_succ
theorem withR_len (l : List ByteArray) (i : Int) (s : ByteArray) (hl : 2 ≤ l.length) : (withR l i s).1.length ≤ l.length := by
  unfold withR
  split
  · simp
  · exact hl
set_option maxRecDepth 20000 in
set_option maxHeartbeats 8000000 in
theorem piecesBody_walk (h t : ByteArray) (ad : Option Addr) (n c : Nat) (xs : List ByteArray) (i : Int) (s : ByteArray) (w : World) (hx : Sl w ad n (strs xs)) (hc : ad = none → c = 0) (hr : n * 16 ≤ 140737488351232) (_ : (Lit.int IntKind.i64 i).wf = true) (hs : s.size ≤ 9223372036854775807) :
    Calls Tryd.prog 4 #[.agg #[.string h, .slice ad n c, .string t], .int .i64 i, .string s] w fun e w' => e = .returned (.bool true) ∧ Below w.heap.size w w' := by
  have HA := Lib.hid awake_any
  have HF1 : Hid (∀ w1, Below w.heap.size w w1 → Calls Tryd.prog 11 #[.agg #[.string h, .slice ad n c, .string t]] w1 fun e w' => e = .returned (.bool (fewV (allV h xs t))) ∧ Below w1.heap.size w1 w') := fun w1 g => few_any h t ad n c xs w1 (hx.below g) hc hr
  cases f1 : fewV (allV h xs t) with
  | false =>
    rw [f1] at HF1
    clear f1 hx hc hr
    go_enter Tryd.func4, Tryd.ntmps4
    go_wp2_with fail
    refine (HA.out _).mono ?_
    rintro e w1 ⟨rfl, hb⟩
    have HD0 : Hid (w1.heap[w.heap.size]? = some (.cells #[.string h, .slice ad n c, .string t] 24 (0, 0))) := (hb.block w.heap.size (by simp)).trans (row_new _ _ _)
    have c00 := row_cells HD0.out 0
    have c01 := row_cells HD0.out 1
    have c02 := row_cells HD0.out 2
    have HB1 : Hid (Below w.heap.size w w1) := ((Below.refl _ _).alloc (Nat.le_refl _) _).trans (hb.mono (by simp))
    clear hb
    go_wp2_with fail
    refine (HF1.out _ HB1.out).mono ?_
    rintro e w2 ⟨rfl, hb⟩
    clear c00 c01 c02
    have HD0 := Lib.hid ((hb.block _ (Array.getElem?_eq_some_iff.1 HD0.out).1).trans HD0.out)
    have c00 := row_cells HD0.out 0
    have c01 := row_cells HD0.out 1
    have c02 := row_cells HD0.out 2
    have HB2 : Hid (Below w.heap.size w w2) := HB1.out.trans (hb.mono HB1.out.size)
    clear hb
    go_wp2_with fail
    go_ret
    exact ⟨rfl, HB2.out⟩
  | true =>
    rw [f1] at HF1
    by_cases hs2 : (2000 : Int) < (s.size : Int)
    · clear f1 hx hc hr
      go_enter Tryd.func4, Tryd.ntmps4
      go_wp2_with fail
      refine (HA.out _).mono ?_
      rintro e w1 ⟨rfl, hb⟩
      have HD0 : Hid (w1.heap[w.heap.size]? = some (.cells #[.string h, .slice ad n c, .string t] 24 (0, 0))) := (hb.block w.heap.size (by simp)).trans (row_new _ _ _)
      have c00 := row_cells HD0.out 0
      have c01 := row_cells HD0.out 1
      have c02 := row_cells HD0.out 2
      have HB1 : Hid (Below w.heap.size w w1) := ((Below.refl _ _).alloc (Nat.le_refl _) _).trans (hb.mono (by simp))
      clear hb
      go_wp2_with fail
      refine (HF1.out _ HB1.out).mono ?_
      rintro e w2 ⟨rfl, hb⟩
      clear c00 c01 c02
      have HD0 := Lib.hid ((hb.block _ (Array.getElem?_eq_some_iff.1 HD0.out).1).trans HD0.out)
      have c00 := row_cells HD0.out 0
      have c01 := row_cells HD0.out 1
      have c02 := row_cells HD0.out 2
      have HB2 : Hid (Below w.heap.size w w2) := HB1.out.trans (hb.mono HB1.out.size)
      clear hb
      go_wp2_with fail
      go_ret
      exact ⟨rfl, HB2.out⟩
    · obtain ⟨_, hf1⟩ := fewV_facts f1
      rw [allV_len] at hf1
      have l1 := lenX hx
      have HO1 : Hid (∀ w1, Below w.heap.size w w1 → Calls Tryd.prog 13 #[.agg #[.string h, .slice ad n c, .string t]] w1 (DocPost w1 h xs t)) := fun w1 g => own_any h t ad n c xs w1 (hx.below g) hc (by omega)
      have HPG : Hid (∀ A1 c1 w1, Sl w1 (some A1) xs.length (strs xs) → Calls Tryd.prog 17 #[.agg #[.string h, .slice (some A1) xs.length c1, .string t], .int .i64 i] w1 fun e w' => e = .returned (getR (getV (allV h xs t) i)) ∧ Below w1.heap.size w1 w') := fun A1 c1 w1 g => pget_any h t (some A1) xs.length c1 xs i w1 g (by omega)
      have HRG : Hid (∀ w1, Below w.heap.size w w1 → Calls Tryd.prog 18 #[.agg #[.string h, .slice ad n c, .string t], .int .i64 i] w1 fun e w' => e = .returned (getR (getV (allV h xs t) i)) ∧ Below w1.heap.size w1 w') := fun w1 g => rget_any h t ad n c xs i w1 (hx.below g) hc hr
      have HPW : Hid (∀ A1 c1 w1, Sl w1 (some A1) xs.length (strs xs) → Calls Tryd.prog 19 #[.agg #[.string h, .slice (some A1) xs.length c1, .string t], .int .i64 i, .string s] w1 (DocR w1 (withR (allV h xs t) i s))) := fun A1 c1 w1 g => pwithU h t A1 xs.length c1 xs w1 i s g (by omega)
      have HRW : Hid (∀ w1, Below w.heap.size w w1 → Calls Tryd.prog 20 #[.agg #[.string h, .slice ad n c, .string t], .int .i64 i, .string s] w1 (DocR w1 (withR (allV h xs t) i s))) := fun w1 g => rwithU h t ad n c xs w1 i s (hx.below g) hc (by omega)
      have HPB : Hid (∀ A1 c1 w1, Sl w1 (some A1) xs.length (strs xs) → Calls Tryd.prog 21 #[.agg #[.string h, .slice (some A1) xs.length c1, .string t]] w1 fun e w' => e = .returned (.string (bs (catV (allV h xs t)))) ∧ Below w1.heap.size w1 w') := fun A1 c1 w1 g => pbody_any h t (some A1) xs.length c1 xs w1 g f1
      have HRB : Hid (∀ w1, Below w.heap.size w w1 → Calls Tryd.prog 22 #[.agg #[.string h, .slice ad n c, .string t]] w1 fun e w' => e = .returned (.string (bs (catV (allV h xs t)))) ∧ Below w1.heap.size w1 w') := fun w1 g => rbody_any h t ad n c xs w1 (hx.below g) hc f1
      have hwl : (withR (allV h xs t) i s).1.length ≤ 22 := by have := withR_len (allV h xs t) i s (by rw [allV_len]; omega); rw [allV_len] at this; omega
      have HSD1 : Hid (∀ h7 xs7 t7 ad7 c7 h9 xs9 t9 ad9 c9 w1, (withR (allV h xs t) i s).1 = allV h7 xs7 t7 → (withR (allV h xs t) i s).1 = allV h9 xs9 t9 → Sl w1 ad7 xs7.length (strs xs7) → (ad7 = none → c7 = 0) → Sl w1 ad9 xs9.length (strs xs9) → (ad9 = none → c9 = 0) → Calls Tryd.prog 23 #[.agg #[.string h7, .slice ad7 xs7.length c7, .string t7], .agg #[.string h9, .slice ad9 xs9.length c9, .string t9]] w1 fun e w' => e = .returned (.bool true) ∧ Below w1.heap.size w1 w') := fun h7 xs7 t7 ad7 c7 h9 xs9 t9 ad9 c9 w1 e7 e9 g1 g2 g3 g4 => by
        have := samedoc_any h7 t7 ad7 xs7.length c7 xs7 h9 t9 ad9 xs9.length c9 xs9 w1 g1 g2 g3 g4 (by rw [e7, allV_len] at hwl; omega)
        rwa [show sameD (allV h7 xs7 t7) (allV h9 xs9 t9) = true from decide_eq_true (e7.symm.trans e9)] at this
      have HSX := Lib.hid hx
      have HCX := Lib.hid hc
      have HSD2 : Hid (∀ A1 c1 w1, Below w.heap.size w w1 → Sl w1 (some A1) xs.length (strs xs) → Calls Tryd.prog 23 #[.agg #[.string h, .slice (some A1) xs.length c1, .string t], .agg #[.string h, .slice ad n c, .string t]] w1 fun e w' => e = .returned (.bool true) ∧ Below w1.heap.size w1 w') := fun A1 c1 w1 g g1 => by
        have := samedoc_any h t (some A1) xs.length c1 xs h t ad n c xs w1 g1 (fun h => by cases h) (HSX.out.below g) HCX.out (by omega)
        rwa [show sameD (allV h xs t) (allV h xs t) = true from decide_eq_true rfl] at this
      clear f1 hx hc hr l1 hf1 hwl
      generalize getV (allV h xs t) i = r at *
      obtain ⟨gs, gb⟩ := r
      simp only [getR] at HPG HRG
      generalize withR (allV h xs t) i s = r2 at *
      obtain ⟨l2, er⟩ := r2
      simp only at HSD1
      go_enter Tryd.func4, Tryd.ntmps4
      go_wp2_with fail
      refine (HA.out _).mono ?_
      rintro e w1 ⟨rfl, hb⟩
      have HD0 : Hid (w1.heap[w.heap.size]? = some (.cells #[.string h, .slice ad n c, .string t] 24 (0, 0))) := (hb.block w.heap.size (by simp)).trans (row_new _ _ _)
      have c00 := row_cells HD0.out 0
      have c01 := row_cells HD0.out 1
      have c02 := row_cells HD0.out 2
      have HB1 : Hid (Below w.heap.size w w1) := ((Below.refl _ _).alloc (Nat.le_refl _) _).trans (hb.mono (by simp))
      clear hb
      go_wp2_with fail
      refine (HF1.out _ HB1.out).mono ?_
      rintro e w2 ⟨rfl, hb⟩
      clear c00 c01 c02
      have HD0 := Lib.hid ((hb.block _ (Array.getElem?_eq_some_iff.1 HD0.out).1).trans HD0.out)
      have c00 := row_cells HD0.out 0
      have c01 := row_cells HD0.out 1
      have c02 := row_cells HD0.out 2
      have HB2 : Hid (Below w.heap.size w w2) := HB1.out.trans (hb.mono HB1.out.size)
      clear hb
      go_wp2_with fail
      refine (HO1.out _ HB2.out).mono ?_
      rintro e w3 ⟨ad3, c3, rfl, hown, hnn, hb⟩
      clear c00 c01 c02
      have HD0 := Lib.hid ((hb.block _ (Array.getElem?_eq_some_iff.1 HD0.out).1).trans HD0.out)
      have c00 := row_cells HD0.out 0
      have c01 := row_cells HD0.out 1
      have c02 := row_cells HD0.out 2
      have HB3 : Hid (Below w.heap.size w w3) := HB2.out.trans (hb.mono HB2.out.size)
      obtain ⟨A3, rfl⟩ := Option.ne_none_iff_exists'.1 hnn
      have HS3 := Lib.hid (Own.sl hown)
      clear hb hown hnn
      go_wp2_with fail
      generalize hW4 : World.alloc w3 _ = w4
      replace hW4 := hW4.symm
      have hb : Below w3.heap.size w3 w4 := by rw [hW4]; exact (Below.refl _ _).alloc (Nat.le_refl _) _
      have HD1 : Hid (w4.heap[w3.heap.size]? = some (.cells #[.string h, .slice (some A3) xs.length c3, .string t] 31 (0, 0))) := by rw [hW4]; exact row_new _ _ _
      clear hW4
      clear c00 c01 c02
      have HD0 := Lib.hid ((hb.block _ (Array.getElem?_eq_some_iff.1 HD0.out).1).trans HD0.out)
      have c00 := row_cells HD0.out 0
      have c01 := row_cells HD0.out 1
      have c02 := row_cells HD0.out 2
      have c10 := row_cells HD1.out 0
      have c11 := row_cells HD1.out 1
      have c12 := row_cells HD1.out 2
      have HB4 : Hid (Below w.heap.size w w4) := HB3.out.trans (hb.mono HB3.out.size)
      have HS3 := Lib.hid (HS3.out.below hb)
      clear hb
      refine (HPG.out _ _ _ HS3.out).mono ?_
      rintro e w5 ⟨rfl, hb⟩
      clear c00 c01 c02 c10 c11 c12
      have HD0 := Lib.hid ((hb.block _ (Array.getElem?_eq_some_iff.1 HD0.out).1).trans HD0.out)
      have c00 := row_cells HD0.out 0
      have c01 := row_cells HD0.out 1
      have c02 := row_cells HD0.out 2
      have HD1 := Lib.hid ((hb.block _ (Array.getElem?_eq_some_iff.1 HD1.out).1).trans HD1.out)
      have c10 := row_cells HD1.out 0
      have c11 := row_cells HD1.out 1
      have c12 := row_cells HD1.out 2
      have HB5 : Hid (Below w.heap.size w w5) := HB4.out.trans (hb.mono HB4.out.size)
      have HS3 := Lib.hid (HS3.out.below hb)
      clear hb
      go_wp2_with fail
      refine (HRG.out _ HB5.out).mono ?_
      rintro e w6 ⟨rfl, hb⟩
      clear c00 c01 c02 c10 c11 c12
      have HD0 := Lib.hid ((hb.block _ (Array.getElem?_eq_some_iff.1 HD0.out).1).trans HD0.out)
      have c00 := row_cells HD0.out 0
      have c01 := row_cells HD0.out 1
      have c02 := row_cells HD0.out 2
      have HD1 := Lib.hid ((hb.block _ (Array.getElem?_eq_some_iff.1 HD1.out).1).trans HD1.out)
      have c10 := row_cells HD1.out 0
      have c11 := row_cells HD1.out 1
      have c12 := row_cells HD1.out 2
      have HB6 : Hid (Below w.heap.size w w6) := HB5.out.trans (hb.mono HB5.out.size)
      have HS3 := Lib.hid (HS3.out.below hb)
      clear hb
      go_wp2_with fail
      refine (HPW.out _ _ _ HS3.out).mono ?_
      rintro e w7 ⟨h7, xs7, t7, ad7, c7, hl7, rfl, hown, hnn7, hb⟩
      clear c00 c01 c02 c10 c11 c12
      have HD0 := Lib.hid ((hb.block _ (Array.getElem?_eq_some_iff.1 HD0.out).1).trans HD0.out)
      have c00 := row_cells HD0.out 0
      have c01 := row_cells HD0.out 1
      have c02 := row_cells HD0.out 2
      have HD1 := Lib.hid ((hb.block _ (Array.getElem?_eq_some_iff.1 HD1.out).1).trans HD1.out)
      have c10 := row_cells HD1.out 0
      have c11 := row_cells HD1.out 1
      have c12 := row_cells HD1.out 2
      have HB7 : Hid (Below w.heap.size w w7) := HB6.out.trans (hb.mono HB6.out.size)
      have HS3 := Lib.hid (HS3.out.below hb)
      have HS7 := Lib.hid (Own.sl hown)
      have HN7 := Lib.hid hnn7
      have HL7 := Lib.hid hl7
      clear hb hown hnn7 hl7
      have e00 := fun o => (World.cell?_alloc_some w7 _ o (by rw [c00]; rfl)).trans c00
      have e01 := fun o => (World.cell?_alloc_some w7 _ o (by rw [c01]; rfl)).trans c01
      have e02 := fun o => (World.cell?_alloc_some w7 _ o (by rw [c02]; rfl)).trans c02
      go_wp2_with fail
      clear e00 e01 e02
      generalize hW8 : World.alloc w7 _ = w8
      replace hW8 := hW8.symm
      have hb : Below w7.heap.size w7 w8 := by rw [hW8]; exact (Below.refl _ _).alloc (Nat.le_refl _) _
      have HD2 : Hid (w8.heap[w7.heap.size]? = some (.cells #[.string h7, .slice ad7 xs7.length c7, .string t7] 31 (0, 0))) := by rw [hW8]; exact row_new _ _ _
      clear hW8
      clear c00 c01 c02 c10 c11 c12
      have HD0 := Lib.hid ((hb.block _ (Array.getElem?_eq_some_iff.1 HD0.out).1).trans HD0.out)
      have c00 := row_cells HD0.out 0
      have c01 := row_cells HD0.out 1
      have c02 := row_cells HD0.out 2
      have HD1 := Lib.hid ((hb.block _ (Array.getElem?_eq_some_iff.1 HD1.out).1).trans HD1.out)
      have c10 := row_cells HD1.out 0
      have c11 := row_cells HD1.out 1
      have c12 := row_cells HD1.out 2
      have c20 := row_cells HD2.out 0
      have c21 := row_cells HD2.out 1
      have c22 := row_cells HD2.out 2
      have HB8 : Hid (Below w.heap.size w w8) := HB7.out.trans (hb.mono HB7.out.size)
      have HS3 := Lib.hid (HS3.out.below hb)
      have HS7 := Lib.hid (HS7.out.below hb)
      clear hb
      refine (HRW.out _ HB8.out).mono ?_
      rintro e w9 ⟨h9, xs9, t9, ad9, c9, hl9, rfl, hown, hnn9, hb⟩
      clear c00 c01 c02 c10 c11 c12 c20 c21 c22
      have HD0 := Lib.hid ((hb.block _ (Array.getElem?_eq_some_iff.1 HD0.out).1).trans HD0.out)
      have c00 := row_cells HD0.out 0
      have c01 := row_cells HD0.out 1
      have c02 := row_cells HD0.out 2
      have HD1 := Lib.hid ((hb.block _ (Array.getElem?_eq_some_iff.1 HD1.out).1).trans HD1.out)
      have c10 := row_cells HD1.out 0
      have c11 := row_cells HD1.out 1
      have c12 := row_cells HD1.out 2
      have HD2 := Lib.hid ((hb.block _ (Array.getElem?_eq_some_iff.1 HD2.out).1).trans HD2.out)
      have c20 := row_cells HD2.out 0
      have c21 := row_cells HD2.out 1
      have c22 := row_cells HD2.out 2
      have HB9 : Hid (Below w.heap.size w w9) := HB8.out.trans (hb.mono HB8.out.size)
      have HS3 := Lib.hid (HS3.out.below hb)
      have HS7 := Lib.hid (HS7.out.below hb)
      have HS9 := Lib.hid (Own.sl hown)
      have HN9 := Lib.hid hnn9
      have HL9 := Lib.hid hl9
      clear hb hown hnn9 hl9
      go_wp2_with fail
      generalize hW10 : World.alloc w9 _ = w10
      replace hW10 := hW10.symm
      have hb : Below w9.heap.size w9 w10 := by rw [hW10]; exact (Below.refl _ _).alloc (Nat.le_refl _) _
      have HD3 : Hid (w10.heap[w9.heap.size]? = some (.cells #[.string h9, .slice ad9 xs9.length c9, .string t9] 24 (0, 0))) := by rw [hW10]; exact row_new _ _ _
      clear hW10
      clear c00 c01 c02 c10 c11 c12 c20 c21 c22
      have HD0 := Lib.hid ((hb.block _ (Array.getElem?_eq_some_iff.1 HD0.out).1).trans HD0.out)
      have c00 := row_cells HD0.out 0
      have c01 := row_cells HD0.out 1
      have c02 := row_cells HD0.out 2
      have HD1 := Lib.hid ((hb.block _ (Array.getElem?_eq_some_iff.1 HD1.out).1).trans HD1.out)
      have c10 := row_cells HD1.out 0
      have c11 := row_cells HD1.out 1
      have c12 := row_cells HD1.out 2
      have HD2 := Lib.hid ((hb.block _ (Array.getElem?_eq_some_iff.1 HD2.out).1).trans HD2.out)
      have c20 := row_cells HD2.out 0
      have c21 := row_cells HD2.out 1
      have c22 := row_cells HD2.out 2
      have c30 := row_cells HD3.out 0
      have c31 := row_cells HD3.out 1
      have c32 := row_cells HD3.out 2
      have HB10 : Hid (Below w.heap.size w w10) := HB9.out.trans (hb.mono HB9.out.size)
      have HS3 := Lib.hid (HS3.out.below hb)
      have HS7 := Lib.hid (HS7.out.below hb)
      have HS9 := Lib.hid (HS9.out.below hb)
      clear hb
      have hz0 : w.heap.size < w10.heap.size := (Array.getElem?_eq_some_iff.1 HD0.out).1
      have hz1 : w3.heap.size < w10.heap.size := (Array.getElem?_eq_some_iff.1 HD1.out).1
      have hz2 : w7.heap.size < w10.heap.size := (Array.getElem?_eq_some_iff.1 HD2.out).1
      have hz3 : w9.heap.size < w10.heap.size := (Array.getElem?_eq_some_iff.1 HD3.out).1
      refine wp_region_ext (by kernel_rfl) (by kernel_rfl) ?_
      repeat (go_big_quiet_step (first
        | (go_at_call 21; (with_reducible exact Calls.ext (HPB.out _ _ _ (HS3.out.below (Subtype.property _)))))
        | (go_at_call 22; (with_reducible refine Calls.ext (HRB.out _ ?_)); exact (show Bel w _ from Bel.ext HB10.out _))
        | (go_at_call 24; (with_reducible exact Calls.ext (from_any _ _ _ _ _ _)))
        | (go_at_call 23; (with_reducible exact Calls.ext (HSD1.out _ _ _ _ _ _ _ _ _ _ _ HL7.out HL9.out (HS7.out.below (Subtype.property _)) HN7.out (HS9.out.below (Subtype.property _)) HN9.out)))
        | (go_at_call 23; (with_reducible refine Calls.ext (HSD2.out _ _ _ ?_ (HS3.out.below (Subtype.property _)))); exact (show Bel w _ from Bel.ext HB10.out _))))
      refine wpQuiet_nil ?_
      intro _ hw'
      obtain ⟨y, hw''⟩ := hw'
      subst hw''
      go_wp2_with fail
      go_ret
      exact ⟨rfl, (show Bel w _ from Bel.ext HB10.out _)⟩
end Go.Proofs.YtkkggpahanddnaaDoor
namespace Go.Proofs.YtkkggpahanddnaaDoor.lawPiecesBody
open Go.ChangeShapes Go.WideShapes Go.ChangeAt Go.RowKit Go.Joins
open Go.ChangeMaps (open_string shut_string)
set_option maxRecDepth 100000 in
theorem lifted (os : Os) (started : os.Started) (H : Type) (enc : TypeId × Value → H) :
    ReturnsInHanded {} Tryd.checked os 4 .any (fun w args => (Rows.piecesBodySpec.pre enc Tryd.prog Tryd.f4 Rows.piecesBodyRow.domain false w args ∧ laidMetH Tryd.prog Rows.piecesBodyRow.laid w) ∧ sizedMet enc Tryd.prog Tryd.f4 (OpenSpec.ofChange Rows.piecesBodySpec) false w args)
      (Rows.piecesBodySpec.post enc Tryd.prog Tryd.f4 false true false false) := by
  refine returnsInHanded_of_change_and (C := Tryd.checked) (X := fun w _ => laidMetH Tryd.prog Rows.piecesBodyRow.laid w) (fun _ _ _ hh h => h.of_heap hh) own started (by kernel_rfl) Tryd.func4
    (ChangeSpec.witness_shaped (enc := enc) (C := Tryd.checked) (os := os) (X := fun w _ => laidMetH Tryd.prog Rows.piecesBodyRow.laid w) false (World.laidAll Tryd.prog os Rows.piecesBodyRow.laid) #[.agg #[.string .empty, .slice none 0 0, .string .empty], .int .i64 0, .string .empty] 8 (World.laidAll_os _ _ _)
      (World.shaped_of_ZipB (by kernel_rfl) (by kernel_rfl)) (by kernel_rfl) (by kernel_rfl) (by kernel_rfl)
      (by rw [MakeChecks.laidMetH_plain _ _ _ (by kernel_rfl)]; exact laidMet_laidAll _ (by kernel_rfl) (by kernel_rfl))) ?_
  intro W base args ds gs before hval0 hW _ hsz0 hL _
  have hval : ∀ (j : Nat) t v, Tryd.f4.params[j]? = some t → args[j]? = some v → Value.okWide Tryd.prog W .any base t v := hval0
  have hW' := hW
  obtain ⟨p, q, hA0, hV, rfl, hfz, hnd⟩ := hW
  have hA : DataW.TrodAll enc Tryd.prog W 0 (fun _ => true) true Tryd.f4.params.toList args.toList ds p := hA0
  rw [Tryd.params4] at hA hval
  obtain ⟨v0, vs0, d0, ds0, p0, q0, hargs, rfl, rfl, h0, r0⟩ := trodAll_cons hA
  obtain ⟨v1, vs1, d1, ds1, p1, q1, rfl, rfl, rfl, h1, r1⟩ := trodAll_cons r0
  obtain ⟨v2, vs2, d2, ds2, p2, q2, rfl, rfl, rfl, h2, r2⟩ := trodAll_cons r1
  obtain ⟨rfl, rfl, rfl⟩ := trodAll_nil r2
  obtain rfl : args = #[v0, v1, v2] := by cases args; simp_all
  obtain ⟨rfl, rfl⟩ := trodVars_none hV
  have k0 := h0
  have lt0 : ∀ x ∈ p0, x.block < W.heap.size := by obtain ⟨m, hm⟩ := k0; exact DataW.trod_lt m _ _ _ hm
  obtain ⟨cs0, rfl, hcs0⟩ := okWide_struct Tryd.underlying24 (hval 0 24 v0 rfl rfl)
  obtain ⟨fuel0, hf0⟩ := h0
  obtain ⟨hd0, tl0, ad0, n0, c0, xs0, hx0, hs0, hc0, hr0⟩ := doc_cells (rz_sized (by simpa [Value.cells] using hf0) hsz0 0 rfl rfl)
  obtain rfl : cs0 = #[.string hd0, .slice ad0 n0 c0, .string tl0] := Array.toList_inj.1 hx0
  obtain ⟨z1, rfl, rfl, rfl, hz1⟩ := open_int Tryd.underlying3 (hval 1 3 v1 rfl rfl) h1
  obtain ⟨s2, rfl, rfl, rfl, hs2⟩ := open_string Tryd.underlying9 (hval 2 9 v2 rfl rfl) h2
  clear hA0 hval0
  refine (piecesBody_walk hd0 tl0 ad0 n0 c0 xs0 z1 s2 W hs0 hc0 hr0 hz1 (by unfold maxLen at hs2; omega)).mono fun e W' ⟨he, bel⟩ => ?_
  subst he
  exact ⟨_, rfl, _, _, _, [], _, [], hW', trodAll_mk1 (shut_bool Tryd.underlying4 _), (trodAll_cons_mk (Below.trod laidOut (by kernel_rfl) (of_decide_eq_true (by kernel_rfl)) k0 bel lt0) (trodAll_cons_mk (shut_int Tryd.underlying3 hz1) (trodAll_cons_mk (shut_string Tryd.underlying9 hs2) trodAll_mk0))), rfl, bel.frame _, fun h => by cases h⟩

theorem proved : Rows.PiecesBodySaid :=
  OpenClaim.holds_of_wide 4 Tryd.f4 rfl rfl rfl rfl rfl rfl rfl ⟨rfl, rfl, rfl, rfl, rfl⟩ rfl rfl rfl rfl rfl (by kernel_rfl) Tryd.func4 (by kernel_rfl)
    (of_decide_eq_true (by kernel_rfl)) (by unfold Func.isWrapper; first | (rw [if_pos (by decide +kernel)]; kernel_rfl) | (rw [if_neg (by decide +kernel)]; exact ⟨rfl, rfl⟩))
    (fun os started H enc _ => lifted os started H enc)
theorem card : Rows.PiecesBodyCardSaid :=
  Claim7.holds_tied_plain_at .later [] [.data, .data, .data] true (true, "efc16c150bd8a079ed20abb9e83b2512658c21054536f9f11f04808dc99df498") true proved (fun _ h => by cases h) (by kernel_rfl) (fun _ h => by cases h) piecesBody_row_tie rfl ⟨rfl, rfl⟩ (by kernel_rfl) rfl
    (fun f fn hf hfn => by
      obtain rfl : f = 4 := Option.some.inj ((show Tryd.prog.funcNamed "calque/calquelaw37.PiecesBody" = some 4 by kernel_rfl).symm.trans hf) |>.symm
      obtain rfl : fn = Tryd.f4 := (Option.some.inj (Tryd.func4.symm.trans hfn)).symm
      exact ⟨by kernel_rfl, fun j t ht => by
        rw [Tryd.params4] at ht
        have hm : t ∈ [24, 3, 9] := by simpa using Array.mem_of_getElem? ht
        have hall : ([24, 3, 9].all fun u => !Tryd.prog.wantsStandIn u) = true := by kernel_rfl
        exact (show Tryd.prog.wantsStandIn t = false by simpa using List.all_eq_true.1 hall t hm)⟩)
    (by kernel_rfl)
#print axioms card
end Go.Proofs.YtkkggpahanddnaaDoor.lawPiecesBody
