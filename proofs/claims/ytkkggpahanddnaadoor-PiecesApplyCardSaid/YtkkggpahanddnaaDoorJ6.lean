/- PiecesApply: Valid and Apply return the specified results for any layout. -/
import Derived.Test.YtkkggpahanddnaaDoorH25
import Derived.Test.YtkkggpahanddnaaDoorHP
import Derived.Deep.QuietTactic
import Derived.Deep.DeepCutAuto
import Derived.BigQuiet
namespace Go.Proofs.YtkkggpahanddnaaDoor
open Go.RowKit
attribute [local go_sem] Ext.cell Ext.frozen
attribute [local go_sem ↓] Go.wp_at_zero Go.wp_at_succ
theorem applyR_len (l : List ByteArray) (ps : List (Int × ByteArray)) (hl : 2 ≤ l.length) : (applyR l ps).1.length ≤ l.length := by
  unfold applyR
  split
  · exact Nat.le_of_eq (applyV_len ps l)
  · exact hl
theorem bel_trans {w X v : World} (h : Bel w X) (hb : Below X.heap.size X v) : Bel w v := Below.trans h (hb.mono (Below.size h))
set_option maxRecDepth 20000 in
set_option maxHeartbeats 8000000 in
theorem piecesApply_walk (h t : ByteArray) (ad : Option Addr) (n c : Nat) (xs : List ByteArray) (al : Option Addr) (nl cl : Nat) (ps : List (Int × ByteArray)) (i : Int) (w : World) (hx : Sl w ad n (strs xs)) (hc : ad = none → c = 0) (hr : n * 16 ≤ 140737488351232) (hp : Pc w al nl ps) (hb0 : ∀ p ∈ ps, -9223372036854775808 ≤ p.1 ∧ p.1 ≤ 9223372036854775807) (_ : (Lit.int IntKind.i64 i).wf = true) :
    Calls Tryd.prog 6 #[.agg #[.string h, .slice ad n c, .string t], .slice al nl cl, .int .i64 i] w fun e w' => e = .returned (.bool true) ∧ Below w.heap.size w w' := by
  have hbd : ∀ p ∈ ps, p.1 ≤ 9223372036854775807 := fun p hp => (hb0 p hp).2
  obtain rfl := hp.len
  have HA := Lib.hid awake_any
  have HF1 : Hid (∀ w1, Below w.heap.size w w1 → Calls Tryd.prog 11 #[.agg #[.string h, .slice ad n c, .string t]] w1 fun e w' => e = .returned (.bool (fewV (allV h xs t))) ∧ Below w1.heap.size w1 w') := fun w1 g => few_any h t ad n c xs w1 (hx.below g) hc hr
  have HF2 : Hid (∀ w1, Below w.heap.size w w1 → Calls Tryd.prog 25 #[.slice al ps.length cl] w1 fun e w' => e = .returned (.bool (fewP ps)) ∧ Below w1.heap.size w1 w') := fun w1 g => (fewp_any al ps.length cl ps w1 (hp.below g)).mono fun e w' ⟨h1, h2⟩ => ⟨h1, by rw [← h2]; exact Below.refl _ _⟩
  cases f1 : fewV (allV h xs t) with
  | false =>
    rw [f1] at HF1
    clear f1 hx hc hr hp hb0 hbd
    go_enter Tryd.func6, Tryd.ntmps6
    go_wp2_with fail
    refine (HA.out _).mono ?_
    rintro e w1 ⟨rfl, hb⟩
    have HD0 : Hid (w1.heap[w.heap.size]? = some (.cells #[.string h, .slice ad n c, .string t] 24 (0, 0))) := (hb.block w.heap.size (by simp)).trans (row_new _ _ _)
    have c00 := row_cells HD0.out 0
    have c01 := row_cells HD0.out 1
    have c02 := row_cells HD0.out 2
    have HB1 : Hid (Below w.heap.size w w1) := ((Below.refl _ _).alloc (Nat.le_refl _) _).trans (hb.mono (by simp))
    clear hb
    go_wp2_with fail
    refine (HF1.out _ HB1.out).mono ?_
    rintro e w2 ⟨rfl, hb⟩
    clear c00 c01 c02
    have HD0 := Lib.hid ((hb.block _ (Array.getElem?_eq_some_iff.1 HD0.out).1).trans HD0.out)
    have c00 := row_cells HD0.out 0
    have c01 := row_cells HD0.out 1
    have c02 := row_cells HD0.out 2
    have HB2 : Hid (Below w.heap.size w w2) := HB1.out.trans (hb.mono HB1.out.size)
    clear hb
    go_wp2_with fail
    go_ret
    exact ⟨rfl, HB2.out⟩
  | true =>
    rw [f1] at HF1
    cases f2 : fewP ps with
    | false =>
      rw [f2] at HF2
      clear f1 f2 hx hc hr hp hb0 hbd
      go_enter Tryd.func6, Tryd.ntmps6
      go_wp2_with fail
      refine (HA.out _).mono ?_
      rintro e w1 ⟨rfl, hb⟩
      have HD0 : Hid (w1.heap[w.heap.size]? = some (.cells #[.string h, .slice ad n c, .string t] 24 (0, 0))) := (hb.block w.heap.size (by simp)).trans (row_new _ _ _)
      have c00 := row_cells HD0.out 0
      have c01 := row_cells HD0.out 1
      have c02 := row_cells HD0.out 2
      have HB1 : Hid (Below w.heap.size w w1) := ((Below.refl _ _).alloc (Nat.le_refl _) _).trans (hb.mono (by simp))
      clear hb
      go_wp2_with fail
      refine (HF1.out _ HB1.out).mono ?_
      rintro e w2 ⟨rfl, hb⟩
      clear c00 c01 c02
      have HD0 := Lib.hid ((hb.block _ (Array.getElem?_eq_some_iff.1 HD0.out).1).trans HD0.out)
      have c00 := row_cells HD0.out 0
      have c01 := row_cells HD0.out 1
      have c02 := row_cells HD0.out 2
      have HB2 : Hid (Below w.heap.size w w2) := HB1.out.trans (hb.mono HB1.out.size)
      clear hb
      go_wp2_with fail
      refine (HF2.out _ HB2.out).mono ?_
      rintro e w3 ⟨rfl, hb⟩
      clear c00 c01 c02
      have HD0 := Lib.hid ((hb.block _ (Array.getElem?_eq_some_iff.1 HD0.out).1).trans HD0.out)
      have c00 := row_cells HD0.out 0
      have c01 := row_cells HD0.out 1
      have c02 := row_cells HD0.out 2
      have HB3 : Hid (Below w.heap.size w w3) := HB2.out.trans (hb.mono HB2.out.size)
      clear hb
      go_wp2_with fail
      go_ret
      exact ⟨rfl, HB3.out⟩
    | true =>
      rw [f2] at HF2
      obtain ⟨_, hf1⟩ := fewV_facts f1
      obtain ⟨_, hf2⟩ := fewP_facts f2
      have hlen : (allV h xs t).length = n + 2 := by rw [allV_len, lenX hx]
      rw [hlen] at hf1
      have l1 := lenX hx
      have HO1 : Hid (∀ w1, Below w.heap.size w w1 → Calls Tryd.prog 13 #[.agg #[.string h, .slice ad n c, .string t]] w1 (DocPost w1 h xs t)) := fun w1 g => own_any h t ad n c xs w1 (hx.below g) hc (by omega)
      have HOP0 : Hid (∀ w1, Below w.heap.size w w1 → Calls Tryd.prog 27 #[.slice al ps.length cl] w1 (PcPost 66 w1 ps)) := fun w1 g => ownpc_any al ps.length cl ps w1 (hp.below g) (by omega)
      have HPA : Hid (∀ A1 c1 a2 c2 w1, Sl w1 (some A1) xs.length (strs xs) → Pc w1 a2 ps.length ps → Calls Tryd.prog 26 #[.agg #[.string h, .slice (some A1) xs.length c1, .string t], .slice a2 ps.length c2] w1 (DocR w1 (applyR (allV h xs t) ps))) := fun A1 c1 a2 c2 w1 g1 g2 => papplyU h t A1 xs.length c1 xs w1 a2 ps.length c2 ps g1 (by omega) g2 hbd
      have HRA : Hid (∀ w1, Below w.heap.size w w1 → Calls Tryd.prog 28 #[.agg #[.string h, .slice ad n c, .string t], .slice al ps.length cl] w1 (DocR w1 (applyR (allV h xs t) ps))) := fun w1 g => rapplyU h t ad n c xs w1 al ps.length cl ps (hx.below g) hc (by omega) (hp.below g) hbd
      have hwl : (applyR (allV h xs t) ps).1.length ≤ 22 := by have := applyR_len (allV h xs t) ps (by rw [allV_len]; omega); omega
      have HSD1 : Hid (∀ h7 xs7 t7 ad7 c7 h9 xs9 t9 ad9 c9 w1, (applyR (allV h xs t) ps).1 = allV h7 xs7 t7 → (applyR (allV h xs t) ps).1 = allV h9 xs9 t9 → Sl w1 ad7 xs7.length (strs xs7) → (ad7 = none → c7 = 0) → Sl w1 ad9 xs9.length (strs xs9) → (ad9 = none → c9 = 0) → Calls Tryd.prog 23 #[.agg #[.string h7, .slice ad7 xs7.length c7, .string t7], .agg #[.string h9, .slice ad9 xs9.length c9, .string t9]] w1 fun e w' => e = .returned (.bool true) ∧ Below w1.heap.size w1 w') := fun h7 xs7 t7 ad7 c7 h9 xs9 t9 ad9 c9 w1 e7 e9 g1 g2 g3 g4 => by
        have := samedoc_any h7 t7 ad7 xs7.length c7 xs7 h9 t9 ad9 xs9.length c9 xs9 w1 g1 g2 g3 g4 (by rw [e7, allV_len] at hwl; omega)
        rwa [show sameD (allV h7 xs7 t7) (allV h9 xs9 t9) = true from decide_eq_true (e7.symm.trans e9)] at this
      have HSX := Lib.hid hx
      have HCX := Lib.hid hc
      have HSD2 : Hid (∀ A1 c1 w1, Below w.heap.size w w1 → Sl w1 (some A1) xs.length (strs xs) → Calls Tryd.prog 23 #[.agg #[.string h, .slice (some A1) xs.length c1, .string t], .agg #[.string h, .slice ad n c, .string t]] w1 fun e w' => e = .returned (.bool true) ∧ Below w1.heap.size w1 w') := fun A1 c1 w1 g g1 => by
        have := samedoc_any h t (some A1) xs.length c1 xs h t ad n c xs w1 g1 (fun h => by cases h) (HSX.out.below g) HCX.out (by omega)
        rwa [show sameD (allV h xs t) (allV h xs t) = true from decide_eq_true rfl] at this
      have HPV : Hid (∀ a2 c2 w1, Pc w1 a2 ps.length ps → Calls Tryd.prog 29 #[.slice a2 ps.length c2, .int .i64 i] w1 fun e w' => e = .returned (.bool (validV ps i)) ∧ Below w1.heap.size w1 w') := fun a2 c2 w1 g => pvalid_any a2 _ c2 _ i w1 g hbd
      have HRV : Hid (∀ w1, Below w.heap.size w w1 → Calls Tryd.prog 30 #[.slice al ps.length cl, .int .i64 i] w1 fun e w' => e = .returned (.bool (validV ps i)) ∧ Below w1.heap.size w1 w') := fun w1 g => rvalid_any al _ cl _ i w1 (hp.below g) hbd
      clear f1 f2 hx hc hr l1 hp hb0 hbd hwl
      generalize validV ps i = vb at *
      generalize applyR (allV h xs t) ps = r2 at *
      obtain ⟨l2, er⟩ := r2
      go_enter Tryd.func6, Tryd.ntmps6
      go_wp2_with fail
      refine (HA.out _).mono ?_
      rintro e w1 ⟨rfl, hb⟩
      have HD0 : Hid (w1.heap[w.heap.size]? = some (.cells #[.string h, .slice ad n c, .string t] 24 (0, 0))) := (hb.block w.heap.size (by simp)).trans (row_new _ _ _)
      have c00 := row_cells HD0.out 0
      have c01 := row_cells HD0.out 1
      have c02 := row_cells HD0.out 2
      have HB1 : Hid (Below w.heap.size w w1) := ((Below.refl _ _).alloc (Nat.le_refl _) _).trans (hb.mono (by simp))
      clear hb
      go_wp2_with fail
      refine (HF1.out _ HB1.out).mono ?_
      rintro e w2 ⟨rfl, hb⟩
      clear c00 c01 c02
      have HD0 := Lib.hid ((hb.block _ (Array.getElem?_eq_some_iff.1 HD0.out).1).trans HD0.out)
      have c00 := row_cells HD0.out 0
      have c01 := row_cells HD0.out 1
      have c02 := row_cells HD0.out 2
      have HB2 : Hid (Below w.heap.size w w2) := HB1.out.trans (hb.mono HB1.out.size)
      clear hb
      go_wp2_with fail
      refine (HF2.out _ HB2.out).mono ?_
      rintro e w3 ⟨rfl, hb⟩
      clear c00 c01 c02
      have HD0 := Lib.hid ((hb.block _ (Array.getElem?_eq_some_iff.1 HD0.out).1).trans HD0.out)
      have c00 := row_cells HD0.out 0
      have c01 := row_cells HD0.out 1
      have c02 := row_cells HD0.out 2
      have HB3 : Hid (Below w.heap.size w w3) := HB2.out.trans (hb.mono HB2.out.size)
      clear hb
      go_wp2_with fail
      refine (HO1.out _ HB3.out).mono ?_
      rintro e w4 ⟨ad3, c3, rfl, hown, hnn, hb⟩
      clear c00 c01 c02
      have HD0 := Lib.hid ((hb.block _ (Array.getElem?_eq_some_iff.1 HD0.out).1).trans HD0.out)
      have c00 := row_cells HD0.out 0
      have c01 := row_cells HD0.out 1
      have c02 := row_cells HD0.out 2
      have HB4 : Hid (Below w.heap.size w w4) := HB3.out.trans (hb.mono HB3.out.size)
      obtain ⟨A3, rfl⟩ := Option.ne_none_iff_exists'.1 hnn
      have HS3 := Lib.hid (Own.sl hown)
      clear hb hown hnn
      go_wp2_with fail
      generalize hW5 : World.alloc w4 _ = w5
      replace hW5 := hW5.symm
      have hb : Below w4.heap.size w4 w5 := by rw [hW5]; exact (Below.refl _ _).alloc (Nat.le_refl _) _
      have HD1 : Hid (w5.heap[w4.heap.size]? = some (.cells #[.string h, .slice (some A3) xs.length c3, .string t] 31 (0, 0))) := by rw [hW5]; exact row_new _ _ _
      clear hW5
      clear c00 c01 c02
      have HD0 := Lib.hid ((hb.block _ (Array.getElem?_eq_some_iff.1 HD0.out).1).trans HD0.out)
      have c00 := row_cells HD0.out 0
      have c01 := row_cells HD0.out 1
      have c02 := row_cells HD0.out 2
      have c10 := row_cells HD1.out 0
      have c11 := row_cells HD1.out 1
      have c12 := row_cells HD1.out 2
      have HB5 : Hid (Below w.heap.size w w5) := HB4.out.trans (hb.mono HB4.out.size)
      have HS3 := Lib.hid (HS3.out.below hb)
      clear hb
      have HOP : Hid (∀ w1, Below w5.heap.size w5 w1 → Calls Tryd.prog 27 #[.slice al ps.length cl] w1 (PcPost 66 w1 ps)) := fun w1 g => HOP0.out w1 (HB5.out.trans (g.mono HB5.out.size))
      have hz4 : w4.heap.size < w5.heap.size := (Array.getElem?_eq_some_iff.1 HD1.out).1
      have n5 : w5.heap.size ≠ w4.heap.size := by omega
      go_cut [8, 9] (fun p e wx => ∃ (B : Nat) (h8 : ByteArray) (xs8 : List ByteArray) (t8 : ByteArray) (ad8 : Option Addr) (c8 : Nat), l2 = allV h8 xs8 t8 ∧ p = .pointer (some ⟨B, 0, none⟩) ∧ e = .int .i64 (er : Int) ∧ wx.heap[B]? = some (.cells #[.string h8, .slice ad8 xs8.length c8, .string t8] 31 (0, 0)) ∧ Sl wx ad8 xs8.length (strs xs8) ∧ (ad8 = none → c8 = 0) ∧ Below w5.heap.size w5 wx)
      case first =>
        go_region_held (fun w' => w'.cell? ⟨w4.heap.size, 0, none⟩ = some (.string h) ∧ w'.cell? ⟨w4.heap.size, 1, none⟩ = some (.slice (some A3) xs.length c3) ∧ w'.cell? ⟨w4.heap.size, 2, none⟩ = some (.string t)) (go_keep)
          (first
            | (go_at_call 27; (with_reducible refine (HOP.out _ ?_).mono ?_); (focus (show Bel w5 _; repeat (first | exact Bel.refl _ | exact HV1.out | exact HV2.out | refine Bel.alloc ?_ _ | refine Bel.drew ?_))); rintro e v1 ⟨ad1, c1, rfl, hown, hb⟩; have HV1 : Hid (Bel w5 v1) := bel_trans (by show Bel w5 _; repeat (first | exact Bel.refl _ | exact HV1.out | exact HV2.out | refine Bel.alloc ?_ _ | refine Bel.drew ?_)) hb; have HP1 := Lib.hid (own_pc hown); have q0 := cell_later HV1.out c10; have q1 := cell_later HV1.out c11; have q2 := cell_later HV1.out c12; have n1 : v1.heap.size ≠ w4.heap.size := (by have := Below.size HV1.out; omega); (try (have RA : Hid (v1.heap[w5.heap.size]? = some (.cells #[.string ⟨#[]⟩, .slice none 0 0, .string ⟨#[]⟩] 31 (0, 0))) := (hb.block w5.heap.size (by simp)).trans (row_new w5.drew _ _); have RAc0 := row_cells RA.out 0; have RAz0 := row_frozen RA.out 0; have RAc1 := row_cells RA.out 1; have RAz1 := row_frozen RA.out 1; have RAc2 := row_cells RA.out 2; have RAz2 := row_frozen RA.out 2)); clear hown hb)
            | (go_at_call 26; (with_reducible refine (HPA.out _ _ _ _ _ (HS3.out.below ?_) (HP1.out.below ?_)).mono ?_); (focus (show Bel w5 _; repeat (first | exact Bel.refl _ | exact HV1.out | exact HV2.out | refine Bel.alloc ?_ _ | refine Bel.drew ?_))); (focus (show Bel v1 _; repeat (first | exact Bel.refl _ | refine Bel.alloc ?_ _ | refine Bel.drew ?_))); rintro e v2 ⟨h8, xs8, t8, ad8, c8, hl8, rfl, hown, hnn8, hb⟩; have HV2 : Hid (Bel w5 v2) := bel_trans (by show Bel w5 _; repeat (first | exact Bel.refl _ | exact HV1.out | exact HV2.out | refine Bel.alloc ?_ _ | refine Bel.drew ?_)) hb; have HO8 := Lib.hid hown; (try (have RB : Hid (v2.heap[v1.heap.size]? = some (.cells #[.string ⟨#[]⟩, .slice none 0 0, .string ⟨#[]⟩] 31 (0, 0))) := (hb.block v1.heap.size (by simp)).trans (row_new v1 _ _); have RBc0 := row_cells RB.out 0; have RBz0 := row_frozen RB.out 0; have RBc1 := row_cells RB.out 1; have RBz1 := row_frozen RB.out 1; have RBc2 := row_cells RB.out 2; have RBz2 := row_frozen RB.out 2)); (try (have RB : Hid (v2.heap[w5.heap.size]? = some (.cells #[.string ⟨#[]⟩, .slice none 0 0, .string ⟨#[]⟩] 31 (0, 0))) := (hb.block w5.heap.size (Array.getElem?_eq_some_iff.1 RA.out).1).trans RA.out; have RBc0 := row_cells RB.out 0; have RBz0 := row_frozen RB.out 0; have RBc1 := row_cells RB.out 1; have RBz1 := row_frozen RB.out 1; have RBc2 := row_cells RB.out 2; have RBz2 := row_frozen RB.out 2)); have q0 := cell_later HV2.out c10; have q1 := cell_later HV2.out c11; have q2 := cell_later HV2.out c12; have n2 : v2.heap.size ≠ w4.heap.size := (by have := Below.size HV2.out; omega); clear hown))
        all_goals
          go_wp2_with fail
          go_meet
          refine ⟨_, h8, xs8, t8, ad8, c8, hl8, rfl, rfl, ?_, ?_, hnn8, ?_⟩
          · first | exact row_new _ _ _ | exact row_set (row_set (row_set RB.out 0 _) 1 _) 2 _
          · first | exact (Own.sl HO8.out).below ((Below.refl _ _).alloc (Nat.le_refl _) _) | exact Own.sl (own_set3 HO8.out RB.out (by decide) _ _ _)
          · first | exact Bel.alloc HV2.out _ | exact below_set3 HV2.out (by first | exact Nat.le_refl _ | exact Below.size HV1.out) _ _ _
      case rest =>
        obtain ⟨B, h8, xs8, t8, ad8, c8, hl8, rfl, rfl, hrow, hsl, hn8, hb⟩ := hcut
        clear c00 c01 c02 c10 c11 c12
        have HD0 := Lib.hid ((hb.block _ (Array.getElem?_eq_some_iff.1 HD0.out).1).trans HD0.out)
        have c00 := row_cells HD0.out 0
        have c01 := row_cells HD0.out 1
        have c02 := row_cells HD0.out 2
        have HD1 := Lib.hid ((hb.block _ (Array.getElem?_eq_some_iff.1 HD1.out).1).trans HD1.out)
        have c10 := row_cells HD1.out 0
        have c11 := row_cells HD1.out 1
        have c12 := row_cells HD1.out 2
        have HD2 : Hid (wc.heap[B]? = some (.cells #[.string h8, .slice ad8 xs8.length c8, .string t8] 31 (0, 0))) := hrow
        have HB6 : Hid (Below w.heap.size w wc) := HB5.out.trans (hb.mono HB5.out.size)
        have HS3 := Lib.hid (HS3.out.below hb)
        have HS8 := Lib.hid hsl
        have HN8 := Lib.hid hn8
        have HL8 := Lib.hid hl8
        clear hb hrow hsl hn8 hl8 hz4 n5
        have c20 := row_cells HD2.out 0
        have c21 := row_cells HD2.out 1
        have c22 := row_cells HD2.out 2
        go_wp2_with fail
        refine (HRA.out _ HB6.out).mono ?_
        rintro e w7 ⟨h9, xs9, t9, ad9, c9, hl9, rfl, hown, hnn9, hb⟩
        clear c00 c01 c02 c10 c11 c12 c20 c21 c22
        have HD0 := Lib.hid ((hb.block _ (Array.getElem?_eq_some_iff.1 HD0.out).1).trans HD0.out)
        have c00 := row_cells HD0.out 0
        have c01 := row_cells HD0.out 1
        have c02 := row_cells HD0.out 2
        have HD1 := Lib.hid ((hb.block _ (Array.getElem?_eq_some_iff.1 HD1.out).1).trans HD1.out)
        have c10 := row_cells HD1.out 0
        have c11 := row_cells HD1.out 1
        have c12 := row_cells HD1.out 2
        have HD2 := Lib.hid ((hb.block _ (Array.getElem?_eq_some_iff.1 HD2.out).1).trans HD2.out)
        have c20 := row_cells HD2.out 0
        have c21 := row_cells HD2.out 1
        have c22 := row_cells HD2.out 2
        have HB7 : Hid (Below w.heap.size w w7) := HB6.out.trans (hb.mono HB6.out.size)
        have HS3 := Lib.hid (HS3.out.below hb)
        have HS8 := Lib.hid (HS8.out.below hb)
        have HS9 := Lib.hid (Own.sl hown)
        have HN9 := Lib.hid hnn9
        have HL9 := Lib.hid hl9
        clear hb hown hnn9 hl9
        go_wp2_with fail
        generalize hW8 : World.alloc w7 _ = w8
        replace hW8 := hW8.symm
        have hb : Below w7.heap.size w7 w8 := by rw [hW8]; exact (Below.refl _ _).alloc (Nat.le_refl _) _
        have HD3 : Hid (w8.heap[w7.heap.size]? = some (.cells #[.string h9, .slice ad9 xs9.length c9, .string t9] 24 (0, 0))) := by rw [hW8]; exact row_new _ _ _
        clear hW8
        clear c00 c01 c02 c10 c11 c12 c20 c21 c22
        have HD0 := Lib.hid ((hb.block _ (Array.getElem?_eq_some_iff.1 HD0.out).1).trans HD0.out)
        have c00 := row_cells HD0.out 0
        have c01 := row_cells HD0.out 1
        have c02 := row_cells HD0.out 2
        have HD1 := Lib.hid ((hb.block _ (Array.getElem?_eq_some_iff.1 HD1.out).1).trans HD1.out)
        have c10 := row_cells HD1.out 0
        have c11 := row_cells HD1.out 1
        have c12 := row_cells HD1.out 2
        have HD2 := Lib.hid ((hb.block _ (Array.getElem?_eq_some_iff.1 HD2.out).1).trans HD2.out)
        have c20 := row_cells HD2.out 0
        have c21 := row_cells HD2.out 1
        have c22 := row_cells HD2.out 2
        have c30 := row_cells HD3.out 0
        have c31 := row_cells HD3.out 1
        have c32 := row_cells HD3.out 2
        have HB8 : Hid (Below w.heap.size w w8) := HB7.out.trans (hb.mono HB7.out.size)
        have HS3 := Lib.hid (HS3.out.below hb)
        have HS8 := Lib.hid (HS8.out.below hb)
        have HS9 := Lib.hid (HS9.out.below hb)
        clear hb
        have HSD3 : Hid (∀ w1, Below w8.heap.size w8 w1 → Calls Tryd.prog 23 #[.agg #[.string h8, .slice ad8 xs8.length c8, .string t8], .agg #[.string h9, .slice ad9 xs9.length c9, .string t9]] w1 fun e w' => e = .returned (.bool true) ∧ Below w1.heap.size w1 w') := fun w1 g => HSD1.out _ _ _ _ _ _ _ _ _ _ w1 HL8.out HL9.out (HS8.out.below g) HN8.out (HS9.out.below g) HN9.out
        have HSD4 : Hid (∀ w1, Below w8.heap.size w8 w1 → Calls Tryd.prog 23 #[.agg #[.string h, .slice (some A3) xs.length c3, .string t], .agg #[.string h, .slice ad n c, .string t]] w1 fun e w' => e = .returned (.bool true) ∧ Below w1.heap.size w1 w') := fun w1 g => HSD2.out _ _ w1 (HB8.out.trans (g.mono HB8.out.size)) (HS3.out.below g)
        have HOPL : Hid (∀ w1, Below w8.heap.size w8 w1 → Calls Tryd.prog 27 #[.slice al ps.length cl] w1 (PcPost 66 w1 ps)) := fun w1 g => HOP0.out w1 (HB8.out.trans (g.mono HB8.out.size))
        have HRVL : Hid (∀ w1, Below w8.heap.size w8 w1 → Calls Tryd.prog 30 #[.slice al ps.length cl, .int .i64 i] w1 fun e w' => e = .returned (.bool vb) ∧ Below w1.heap.size w1 w') := fun w1 g => HRV.out w1 (HB8.out.trans (g.mono HB8.out.size))
        clear HOP0 HRV HSD1 HSD2 HPA HRA HOP HO1
        go_region_held3 (fun w' => w'.cell? ⟨w.heap.size, 0, none⟩ = some (.string h) ∧ w'.cell? ⟨w.heap.size, 1, none⟩ = some (.slice ad n c) ∧ w'.cell? ⟨w.heap.size, 2, none⟩ = some (.string t) ∧ w'.cell? ⟨w4.heap.size, 0, none⟩ = some (.string h) ∧ w'.cell? ⟨w4.heap.size, 1, none⟩ = some (.slice (some A3) xs.length c3) ∧ w'.cell? ⟨w4.heap.size, 2, none⟩ = some (.string t) ∧ w'.cell? ⟨B, 0, none⟩ = some (.string h8) ∧ w'.cell? ⟨B, 1, none⟩ = some (.slice ad8 xs8.length c8) ∧ w'.cell? ⟨B, 2, none⟩ = some (.string t8) ∧ w'.cell? ⟨w7.heap.size, 0, none⟩ = some (.string h9) ∧ w'.cell? ⟨w7.heap.size, 1, none⟩ = some (.slice ad9 xs9.length c9) ∧ w'.cell? ⟨w7.heap.size, 2, none⟩ = some (.string t9)) (go_keep)
          (first
            | (go_at_call 24; (with_reducible refine (from_any h8 t8 ad8 xs8.length c8 _).mono ?_); rintro e v1 ⟨rfl, hb⟩; have HV1 : Hid (Bel w8 v1) := bel_trans (by show Bel w8 _; repeat (first | exact Bel.refl _ | exact HV7.out | exact HV6.out | exact HV5.out | exact HV4.out | exact HV3.out | exact HV2.out | exact HV1.out | refine Bel.drew ?_)) hb; have q00 := cell_later HV1.out c00; have q01 := cell_later HV1.out c01; have q02 := cell_later HV1.out c02; have q10 := cell_later HV1.out c10; have q11 := cell_later HV1.out c11; have q12 := cell_later HV1.out c12; have q20 := cell_later HV1.out c20; have q21 := cell_later HV1.out c21; have q22 := cell_later HV1.out c22; have q30 := cell_later HV1.out c30; have q31 := cell_later HV1.out c31; have q32 := cell_later HV1.out c32; clear hb)
            | (go_at_call 23; (with_reducible refine (HSD3.out _ ?_).mono ?_); (focus (show Bel w8 _; repeat (first | exact Bel.refl _ | exact HV7.out | exact HV6.out | exact HV5.out | exact HV4.out | exact HV3.out | exact HV2.out | exact HV1.out | refine Bel.drew ?_))); rintro e v2 ⟨rfl, hb⟩; have HV2 : Hid (Bel w8 v2) := bel_trans (by show Bel w8 _; repeat (first | exact Bel.refl _ | exact HV7.out | exact HV6.out | exact HV5.out | exact HV4.out | exact HV3.out | exact HV2.out | exact HV1.out | refine Bel.drew ?_)) hb; have q00 := cell_later HV2.out c00; have q01 := cell_later HV2.out c01; have q02 := cell_later HV2.out c02; have q10 := cell_later HV2.out c10; have q11 := cell_later HV2.out c11; have q12 := cell_later HV2.out c12; have q20 := cell_later HV2.out c20; have q21 := cell_later HV2.out c21; have q22 := cell_later HV2.out c22; have q30 := cell_later HV2.out c30; have q31 := cell_later HV2.out c31; have q32 := cell_later HV2.out c32; clear hb)
            | (go_at_call 27; (with_reducible refine (HOPL.out _ ?_).mono ?_); (focus (show Bel w8 _; repeat (first | exact Bel.refl _ | exact HV7.out | exact HV6.out | exact HV5.out | exact HV4.out | exact HV3.out | exact HV2.out | exact HV1.out | refine Bel.drew ?_))); rintro e v3 ⟨ad3x, c3x, rfl, hown, hb⟩; have HV3 : Hid (Bel w8 v3) := bel_trans (by show Bel w8 _; repeat (first | exact Bel.refl _ | exact HV7.out | exact HV6.out | exact HV5.out | exact HV4.out | exact HV3.out | exact HV2.out | exact HV1.out | refine Bel.drew ?_)) hb; have q00 := cell_later HV3.out c00; have q01 := cell_later HV3.out c01; have q02 := cell_later HV3.out c02; have q10 := cell_later HV3.out c10; have q11 := cell_later HV3.out c11; have q12 := cell_later HV3.out c12; have q20 := cell_later HV3.out c20; have q21 := cell_later HV3.out c21; have q22 := cell_later HV3.out c22; have q30 := cell_later HV3.out c30; have q31 := cell_later HV3.out c31; have q32 := cell_later HV3.out c32; have HPP := Lib.hid (own_pc hown); clear hown; clear hb)
            | (go_at_call 29; (with_reducible refine (HPV.out _ _ _ HPP.out).mono ?_); rintro e v4 ⟨rfl, hb⟩; have HV4 : Hid (Bel w8 v4) := bel_trans (by show Bel w8 _; repeat (first | exact Bel.refl _ | exact HV7.out | exact HV6.out | exact HV5.out | exact HV4.out | exact HV3.out | exact HV2.out | exact HV1.out | refine Bel.drew ?_)) hb; have q00 := cell_later HV4.out c00; have q01 := cell_later HV4.out c01; have q02 := cell_later HV4.out c02; have q10 := cell_later HV4.out c10; have q11 := cell_later HV4.out c11; have q12 := cell_later HV4.out c12; have q20 := cell_later HV4.out c20; have q21 := cell_later HV4.out c21; have q22 := cell_later HV4.out c22; have q30 := cell_later HV4.out c30; have q31 := cell_later HV4.out c31; have q32 := cell_later HV4.out c32; clear hb)
            | (go_at_call 30; (with_reducible refine (HRVL.out _ ?_).mono ?_); (focus (show Bel w8 _; repeat (first | exact Bel.refl _ | exact HV7.out | exact HV6.out | exact HV5.out | exact HV4.out | exact HV3.out | exact HV2.out | exact HV1.out | refine Bel.drew ?_))); rintro e v5 ⟨rfl, hb⟩; have HV5 : Hid (Bel w8 v5) := bel_trans (by show Bel w8 _; repeat (first | exact Bel.refl _ | exact HV7.out | exact HV6.out | exact HV5.out | exact HV4.out | exact HV3.out | exact HV2.out | exact HV1.out | refine Bel.drew ?_)) hb; have q00 := cell_later HV5.out c00; have q01 := cell_later HV5.out c01; have q02 := cell_later HV5.out c02; have q10 := cell_later HV5.out c10; have q11 := cell_later HV5.out c11; have q12 := cell_later HV5.out c12; have q20 := cell_later HV5.out c20; have q21 := cell_later HV5.out c21; have q22 := cell_later HV5.out c22; have q30 := cell_later HV5.out c30; have q31 := cell_later HV5.out c31; have q32 := cell_later HV5.out c32; clear hb)
            | (go_at_call 24; (with_reducible refine (from_any h t (some A3) xs.length c3 _).mono ?_); rintro e v6 ⟨rfl, hb⟩; have HV6 : Hid (Bel w8 v6) := bel_trans (by show Bel w8 _; repeat (first | exact Bel.refl _ | exact HV7.out | exact HV6.out | exact HV5.out | exact HV4.out | exact HV3.out | exact HV2.out | exact HV1.out | refine Bel.drew ?_)) hb; have q00 := cell_later HV6.out c00; have q01 := cell_later HV6.out c01; have q02 := cell_later HV6.out c02; have q10 := cell_later HV6.out c10; have q11 := cell_later HV6.out c11; have q12 := cell_later HV6.out c12; have q20 := cell_later HV6.out c20; have q21 := cell_later HV6.out c21; have q22 := cell_later HV6.out c22; have q30 := cell_later HV6.out c30; have q31 := cell_later HV6.out c31; have q32 := cell_later HV6.out c32; clear hb)
            | (go_at_call 23; (with_reducible refine (HSD4.out _ ?_).mono ?_); (focus (show Bel w8 _; repeat (first | exact Bel.refl _ | exact HV7.out | exact HV6.out | exact HV5.out | exact HV4.out | exact HV3.out | exact HV2.out | exact HV1.out | refine Bel.drew ?_))); rintro e v7 ⟨rfl, hb⟩; have HV7 : Hid (Bel w8 v7) := bel_trans (by show Bel w8 _; repeat (first | exact Bel.refl _ | exact HV7.out | exact HV6.out | exact HV5.out | exact HV4.out | exact HV3.out | exact HV2.out | exact HV1.out | refine Bel.drew ?_)) hb; have q00 := cell_later HV7.out c00; have q01 := cell_later HV7.out c01; have q02 := cell_later HV7.out c02; have q10 := cell_later HV7.out c10; have q11 := cell_later HV7.out c11; have q12 := cell_later HV7.out c12; have q20 := cell_later HV7.out c20; have q21 := cell_later HV7.out c21; have q22 := cell_later HV7.out c22; have q30 := cell_later HV7.out c30; have q31 := cell_later HV7.out c31; have q32 := cell_later HV7.out c32; clear hb))
        go_wp2_with fail
        go_ret
        exact ⟨rfl, HB8.out.trans (Below.mono HV7.out HB8.out.size)⟩
end Go.Proofs.YtkkggpahanddnaaDoor
namespace Go.Proofs.YtkkggpahanddnaaDoor.lawPiecesApply
open Go.ChangeShapes Go.WideShapes Go.ChangeAt Go.RowKit Go.Joins
open Go.ChangeMaps (open_string shut_string)
set_option maxRecDepth 100000 in
theorem lifted (os : Os) (started : os.Started) (H : Type) (enc : TypeId × Value → H) :
    ReturnsInHanded {} Tryd.checked os 6 .any (fun w args => (Rows.piecesApplySpec.pre enc Tryd.prog Tryd.f6 Rows.piecesApplyRow.domain false w args ∧ laidMetH Tryd.prog Rows.piecesApplyRow.laid w) ∧ sizedMet enc Tryd.prog Tryd.f6 (OpenSpec.ofChange Rows.piecesApplySpec) false w args)
      (Rows.piecesApplySpec.post enc Tryd.prog Tryd.f6 false true false false) := by
  refine returnsInHanded_of_change_and (C := Tryd.checked) (X := fun w _ => laidMetH Tryd.prog Rows.piecesApplyRow.laid w) (fun _ _ _ hh h => h.of_heap hh) own started (by kernel_rfl) Tryd.func6
    (ChangeSpec.witness_shaped (enc := enc) (C := Tryd.checked) (os := os) (X := fun w _ => laidMetH Tryd.prog Rows.piecesApplyRow.laid w) false (World.laidAll Tryd.prog os Rows.piecesApplyRow.laid) #[.agg #[.string .empty, .slice none 0 0, .string .empty], .slice none 0 0, .int .i64 0] 8 (World.laidAll_os _ _ _)
      (World.shaped_of_ZipB (by kernel_rfl) (by kernel_rfl)) (by kernel_rfl) (by kernel_rfl) (by kernel_rfl)
      (by rw [MakeChecks.laidMetH_plain _ _ _ (by kernel_rfl)]; exact laidMet_laidAll _ (by kernel_rfl) (by kernel_rfl))) ?_
  intro W base args ds gs before hval0 hW _ hsz0 hL _
  have hval : ∀ (j : Nat) t v, Tryd.f6.params[j]? = some t → args[j]? = some v → Value.okWide Tryd.prog W .any base t v := hval0
  have hW' := hW
  obtain ⟨p, q, hA0, hV, rfl, hfz, hnd⟩ := hW
  have hA : DataW.TrodAll enc Tryd.prog W 0 (fun _ => true) true Tryd.f6.params.toList args.toList ds p := hA0
  rw [Tryd.params6] at hA hval
  obtain ⟨v0, vs0, d0, ds0, p0, q0, hargs, rfl, rfl, h0, r0⟩ := trodAll_cons hA
  obtain ⟨v1, vs1, d1, ds1, p1, q1, rfl, rfl, rfl, h1, r1⟩ := trodAll_cons r0
  obtain ⟨v2, vs2, d2, ds2, p2, q2, rfl, rfl, rfl, h2, r2⟩ := trodAll_cons r1
  obtain ⟨rfl, rfl, rfl⟩ := trodAll_nil r2
  obtain rfl : args = #[v0, v1, v2] := by cases args; simp_all
  obtain ⟨rfl, rfl⟩ := trodVars_none hV
  have k0 := h0
  have lt0 : ∀ x ∈ p0, x.block < W.heap.size := by obtain ⟨m, hm⟩ := k0; exact DataW.trod_lt m _ _ _ hm
  obtain ⟨cs0, rfl, hcs0⟩ := okWide_struct Tryd.underlying24 (hval 0 24 v0 rfl rfl)
  obtain ⟨fuel0, hf0⟩ := h0
  obtain ⟨hd0, tl0, ad0, n0, c0, xs0, hx0, hs0, hc0, hr0⟩ := doc_cells (rz_sized (by simpa [Value.cells] using hf0) hsz0 0 rfl rfl)
  obtain rfl : cs0 = #[.string hd0, .slice ad0 n0 c0, .string tl0] := Array.toList_inj.1 hx0
  have k1 := h1
  have lt1 : ∀ x ∈ p1, x.block < W.heap.size := by obtain ⟨m, hm⟩ := k1; exact DataW.trod_lt m _ _ _ hm
  obtain ⟨a1, l1, cp1, rfl⟩ := okWide_slice Tryd.underlying33 (hval 1 33 v1 rfl rfl)
  obtain ⟨fuel1, hf1⟩ := h1
  obtain ⟨ad1, n1, c1, ps1, e1, hp1, hb1⟩ := pcs_cells (rz_sized (by simpa [Value.cells] using hf1) hsz0 1 rfl rfl)
  injection e1 with e11 e12 e13
  subst e11 e12 e13
  obtain ⟨z2, rfl, rfl, rfl, hz2⟩ := open_int Tryd.underlying3 (hval 2 3 v2 rfl rfl) h2
  clear hA0 hval0
  refine (piecesApply_walk hd0 tl0 ad0 n0 c0 xs0 a1 l1 cp1 ps1 z2 W hs0 hc0 hr0 hp1 hb1 hz2).mono fun e W' ⟨he, bel⟩ => ?_
  subst he
  exact ⟨_, rfl, _, _, _, [], _, [], hW', trodAll_mk1 (shut_bool Tryd.underlying4 _), (trodAll_cons_mk (Below.trod laidOut (by kernel_rfl) (of_decide_eq_true (by kernel_rfl)) k0 bel lt0) (trodAll_cons_mk (Below.trod laidOut (by kernel_rfl) (of_decide_eq_true (by kernel_rfl)) k1 bel lt1) (trodAll_cons_mk (shut_int Tryd.underlying3 hz2) trodAll_mk0))), rfl, bel.frame _, fun h => by cases h⟩

theorem proved : Rows.PiecesApplySaid :=
  OpenClaim.holds_of_wide 6 Tryd.f6 rfl rfl rfl rfl rfl rfl rfl ⟨rfl, rfl, rfl, rfl, rfl⟩ rfl rfl rfl rfl rfl (by kernel_rfl) Tryd.func6 (by kernel_rfl)
    (of_decide_eq_true (by kernel_rfl)) (by unfold Func.isWrapper; first | (rw [if_pos (by decide +kernel)]; kernel_rfl) | (rw [if_neg (by decide +kernel)]; exact ⟨rfl, rfl⟩))
    (fun os started H enc _ => lifted os started H enc)
theorem card : Rows.PiecesApplyCardSaid :=
  Claim7.holds_tied_plain_at .later [] [.data, .data, .data] true (true, "efc16c150bd8a079ed20abb9e83b2512658c21054536f9f11f04808dc99df498") true proved (fun _ h => by cases h) (by kernel_rfl) (fun _ h => by cases h) piecesApply_row_tie rfl ⟨rfl, rfl⟩ (by kernel_rfl) rfl
    (fun f fn hf hfn => by
      obtain rfl : f = 6 := Option.some.inj ((show Tryd.prog.funcNamed "calque/calquelaw37.PiecesApply" = some 6 by kernel_rfl).symm.trans hf) |>.symm
      obtain rfl : fn = Tryd.f6 := (Option.some.inj (Tryd.func6.symm.trans hfn)).symm
      exact ⟨by kernel_rfl, fun j t ht => by
        rw [Tryd.params6] at ht
        have hm : t ∈ [24, 33, 3] := by simpa using Array.mem_of_getElem? ht
        have hall : ([24, 33, 3].all fun u => !Tryd.prog.wantsStandIn u) = true := by kernel_rfl
        exact (show Tryd.prog.wantsStandIn t = false by simpa using List.all_eq_true.1 hall t hm)⟩)
    (by kernel_rfl)
#print axioms card
end Go.Proofs.YtkkggpahanddnaaDoor.lawPiecesApply
