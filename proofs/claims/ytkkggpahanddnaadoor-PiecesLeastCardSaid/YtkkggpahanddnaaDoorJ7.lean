/- PiecesLeast: the layout of what results from applying a layout consists of those of its pieces that differ from the canonical ones. -/
import Derived.Test.YtkkggpahanddnaaDoorH26
import Derived.Test.YtkkggpahanddnaaDoorHP
import Derived.Deep.QuietTactic
import Derived.Deep.DeepCutAuto
import Derived.BigQuiet
namespace Go.Proofs.YtkkggpahanddnaaDoor
open Go.RowKit
attribute [local go_sem] Ext.cell Ext.frozen
attribute [local go_sem ↓] Go.wp_at_zero Go.wp_at_succ
/-- a layout and an error are answered -/
def DiffW (E : TypeId) (w : World) (ps : List (Int × ByteArray)) (er : Nat) (e : Ending) (w' : World) : Prop :=
  ∃ ad c, e = .returned (.tuple #[.slice ad ps.length c, .int .i64 (er : Int)]) ∧ w'.ownsRow w.heap.size E 2 (.slice ad ps.length c) ps.length (pcCells ps) ∧ Below w.heap.size w w'
theorem bel_next {w X v : World} (h : Bel w X) (hb : Below X.heap.size X v) : Bel w v := Below.trans h (hb.mono (Below.size h))
set_option maxRecDepth 20000 in
set_option maxHeartbeats 8000000 in
theorem piecesLeast_walk (h t : ByteArray) (ad : Option Addr) (n c : Nat) (xs : List ByteArray) (al : Option Addr) (nl cl : Nat) (ps : List (Int × ByteArray)) (w : World) (hx : Sl w ad n (strs xs)) (hc : ad = none → c = 0) (hr : n * 16 ≤ 140737488351232) (hp : Pc w al nl ps) (hb0 : ∀ p ∈ ps, -9223372036854775808 ≤ p.1 ∧ p.1 ≤ 9223372036854775807) :
    Calls Tryd.prog 8 #[.agg #[.string h, .slice ad n c, .string t], .slice al nl cl] w fun e w' => e = .returned (.bool true) ∧ Below w.heap.size w w' := by
  have hbd : ∀ p ∈ ps, p.1 ≤ 9223372036854775807 := fun p hp => (hb0 p hp).2
  obtain rfl := hp.len
  have HA := Lib.hid awake_any
  have HF1 : Hid (∀ w1, Below w.heap.size w w1 → Calls Tryd.prog 11 #[.agg #[.string h, .slice ad n c, .string t]] w1 fun e w' => e = .returned (.bool (fewV (allV h xs t))) ∧ Below w1.heap.size w1 w') := fun w1 g => few_any h t ad n c xs w1 (hx.below g) hc hr
  have HF2 : Hid (∀ w1, Below w.heap.size w w1 → Calls Tryd.prog 25 #[.slice al ps.length cl] w1 fun e w' => e = .returned (.bool (fewP ps)) ∧ Below w1.heap.size w1 w') := fun w1 g => (fewp_any al ps.length cl ps w1 (hp.below g)).mono fun e w' ⟨h1, h2⟩ => ⟨h1, by rw [← h2]; exact Below.refl _ _⟩
  cases f1 : fewV (allV h xs t) with
  | false =>
    rw [f1] at HF1
    clear f1 hx hc hr hp hb0 hbd
    go_enter Tryd.func8, Tryd.ntmps8
    go_wp2_with fail
    refine (HA.out _).mono ?_
    rintro e w1 ⟨rfl, hb⟩
    have HD0 : Hid (w1.heap[w.heap.size]? = some (.cells #[.string h, .slice ad n c, .string t] 24 (0, 0))) := (hb.block w.heap.size (by simp)).trans (row_new _ _ _)
    have c00 := row_cells HD0.out 0
    have c01 := row_cells HD0.out 1
    have c02 := row_cells HD0.out 2
    have HB1 : Hid (Below w.heap.size w w1) := ((Below.refl _ _).alloc (Nat.le_refl _) _).trans (hb.mono (by simp))
    clear hb
    go_wp2_with fail
    refine (HF1.out _ HB1.out).mono ?_
    rintro e w2 ⟨rfl, hb⟩
    clear c00 c01 c02
    have HD0 := Lib.hid ((hb.block _ (Array.getElem?_eq_some_iff.1 HD0.out).1).trans HD0.out)
    have c00 := row_cells HD0.out 0
    have c01 := row_cells HD0.out 1
    have c02 := row_cells HD0.out 2
    have HB2 : Hid (Below w.heap.size w w2) := HB1.out.trans (hb.mono HB1.out.size)
    clear hb
    go_wp2_with fail
    go_ret
    exact ⟨rfl, HB2.out⟩
  | true =>
    rw [f1] at HF1
    cases f2 : fewP ps with
    | false =>
      rw [f2] at HF2
      clear f1 f2 hx hc hr hp hb0 hbd
      go_enter Tryd.func8, Tryd.ntmps8
      go_wp2_with fail
      refine (HA.out _).mono ?_
      rintro e w1 ⟨rfl, hb⟩
      have HD0 : Hid (w1.heap[w.heap.size]? = some (.cells #[.string h, .slice ad n c, .string t] 24 (0, 0))) := (hb.block w.heap.size (by simp)).trans (row_new _ _ _)
      have c00 := row_cells HD0.out 0
      have c01 := row_cells HD0.out 1
      have c02 := row_cells HD0.out 2
      have HB1 : Hid (Below w.heap.size w w1) := ((Below.refl _ _).alloc (Nat.le_refl _) _).trans (hb.mono (by simp))
      clear hb
      go_wp2_with fail
      refine (HF1.out _ HB1.out).mono ?_
      rintro e w2 ⟨rfl, hb⟩
      clear c00 c01 c02
      have HD0 := Lib.hid ((hb.block _ (Array.getElem?_eq_some_iff.1 HD0.out).1).trans HD0.out)
      have c00 := row_cells HD0.out 0
      have c01 := row_cells HD0.out 1
      have c02 := row_cells HD0.out 2
      have HB2 : Hid (Below w.heap.size w w2) := HB1.out.trans (hb.mono HB1.out.size)
      clear hb
      go_wp2_with fail
      refine (HF2.out _ HB2.out).mono ?_
      rintro e w3 ⟨rfl, hb⟩
      clear c00 c01 c02
      have HD0 := Lib.hid ((hb.block _ (Array.getElem?_eq_some_iff.1 HD0.out).1).trans HD0.out)
      have c00 := row_cells HD0.out 0
      have c01 := row_cells HD0.out 1
      have c02 := row_cells HD0.out 2
      have HB3 : Hid (Below w.heap.size w w3) := HB2.out.trans (hb.mono HB2.out.size)
      clear hb
      go_wp2_with fail
      go_ret
      exact ⟨rfl, HB3.out⟩
    | true =>
      rw [f2] at HF2
      obtain ⟨_, hf1⟩ := fewV_facts f1
      obtain ⟨_, hf2⟩ := fewP_facts f2
      have hlen : (allV h xs t).length = n + 2 := by rw [allV_len, lenX hx]
      rw [hlen] at hf1
      have l1 := lenX hx
      have HO1 : Hid (∀ w1, Below w.heap.size w w1 → Calls Tryd.prog 13 #[.agg #[.string h, .slice ad n c, .string t]] w1 (DocPost w1 h xs t)) := fun w1 g => own_any h t ad n c xs w1 (hx.below g) hc (by omega)
      have HOP0 : Hid (∀ w1, Below w.heap.size w w1 → Calls Tryd.prog 27 #[.slice al ps.length cl] w1 (PcPost 66 w1 ps)) := fun w1 g => ownpc_any al ps.length cl ps w1 (hp.below g) (by omega)
      have HPA : Hid (∀ A1 c1 a2 c2 w1, Sl w1 (some A1) xs.length (strs xs) → Pc w1 a2 ps.length ps → Calls Tryd.prog 26 #[.agg #[.string h, .slice (some A1) xs.length c1, .string t], .slice a2 ps.length c2] w1 (DocR w1 (applyR (allV h xs t) ps))) := fun A1 c1 a2 c2 w1 g1 g2 => papplyU h t A1 xs.length c1 xs w1 a2 ps.length c2 ps g1 (by omega) g2 hbd
      by_cases hv : validV ps ((n : Nat) : Int) = true
      · have hap : applyR (allV h xs t) ps = (applyV (allV h xs t) ps, 0) := by unfold applyR; rw [if_pos (by rw [hlen]; rw [show (((n + 2 : Nat) : Int) - 2) = (n : Int) from by omega]; exact hv)]
        rw [hap] at HPA
        have hwv : diffV (applyV (allV h xs t) ps) (allV h xs t) = wantV (allV h xs t) ps := diff_applyV (by rw [hlen]; rw [show (((n + 2 : Nat) : Int) - 2) = (n : Int) from by omega]; exact hv)
        have hal := applyV_len ps (allV h xs t)
        have HPD : Hid (∀ h8 xs8 t8 ad8 c8 A3 c3 w1, applyV (allV h xs t) ps = allV h8 xs8 t8 → Sl w1 ad8 xs8.length (strs xs8) → Sl w1 (some A3) xs.length (strs xs) → Calls Tryd.prog 12 #[.agg #[.string h8, .slice ad8 xs8.length c8, .string t8], .agg #[.string h, .slice (some A3) xs.length c3, .string t]] w1 (DiffW 66 w1 (wantV (allV h xs t) ps) 0)) := fun h8 xs8 t8 ad8 c8 A3 c3 w1 e8 g1 g2 => by
          have hl8 : xs8.length + 2 = n + 2 := by rw [← allV_len h8 xs8 t8, ← e8, hal, hlen]
          have := pdiffU h8 t8 ad8 xs8.length c8 xs8 w1 h t (some A3) xs.length c3 xs g1 g2 (by omega)
          unfold diffR at this
          rw [if_pos (by rw [allV_len, allV_len]; omega), ← e8, hwv] at this
          exact this
        have HG0 : Hid (∀ k, k < ps.length → ∀ A3 c3 w1, Sl w1 (some A3) xs.length (strs xs) → Calls Tryd.prog 17 #[.agg #[.string h, .slice (some A3) xs.length c3, .string t], .int .i64 (ps.getD k (0, .empty)).1] w1 fun e w' => e = .returned (.tuple #[.string ((allV h xs t).getD (ps.getD k (0, .empty)).1.toNat .empty), .bool true]) ∧ Below w1.heap.size w1 w') := fun k hk A3 c3 w1 g => by
          have := pget_any h t (some A3) xs.length c3 xs (ps.getD k (0, .empty)).1 w1 g (by omega)
          obtain ⟨g1, g2, -⟩ := validV_iff.1 hv k hk
          obtain ⟨j, hj⟩ := Int.eq_ofNat_of_zero_le g1
          rw [hj, getV_in (by omega)] at this
          rw [hj]
          exact this
        obtain ⟨b, off, hpat⟩ := hp
        have HP := Lib.hid hpat
        obtain ⟨i0, hi, hz0, hz1, hz2⟩ := info_parts infoRc
        have HI := Lib.hid hi
        have HZ0 := Lib.hid hz0
        have HZ1 := Lib.hid hz1
        have HZ2 := Lib.hid hz2
        clear f1 f2 hx hc hr l1 hpat hb0 hbd hv hap hwv hal hlen hi hz0 hz1 hz2
        generalize applyV (allV h xs t) ps = l2 at *
        generalize allV h xs t = l at *
        go_enter Tryd.func8, Tryd.ntmps8
        go_wp2_with fail
        refine (HA.out _).mono ?_
        rintro e w1 ⟨rfl, hb⟩
        have HD0 : Hid (w1.heap[w.heap.size]? = some (.cells #[.string h, .slice ad n c, .string t] 24 (0, 0))) := (hb.block w.heap.size (by simp)).trans (row_new _ _ _)
        have c00 := row_cells HD0.out 0
        have c01 := row_cells HD0.out 1
        have c02 := row_cells HD0.out 2
        have HB1 : Hid (Below w.heap.size w w1) := ((Below.refl _ _).alloc (Nat.le_refl _) _).trans (hb.mono (by simp))
        clear hb
        go_wp2_with fail
        refine (HF1.out _ HB1.out).mono ?_
        rintro e w2 ⟨rfl, hb⟩
        clear c00 c01 c02
        have HD0 := Lib.hid ((hb.block _ (Array.getElem?_eq_some_iff.1 HD0.out).1).trans HD0.out)
        have c00 := row_cells HD0.out 0
        have c01 := row_cells HD0.out 1
        have c02 := row_cells HD0.out 2
        have HB2 : Hid (Below w.heap.size w w2) := HB1.out.trans (hb.mono HB1.out.size)
        clear hb
        go_wp2_with fail
        refine (HF2.out _ HB2.out).mono ?_
        rintro e w3 ⟨rfl, hb⟩
        clear c00 c01 c02
        have HD0 := Lib.hid ((hb.block _ (Array.getElem?_eq_some_iff.1 HD0.out).1).trans HD0.out)
        have c00 := row_cells HD0.out 0
        have c01 := row_cells HD0.out 1
        have c02 := row_cells HD0.out 2
        have HB3 : Hid (Below w.heap.size w w3) := HB2.out.trans (hb.mono HB2.out.size)
        clear hb
        go_wp2_with fail
        refine (HO1.out _ HB3.out).mono ?_
        rintro e w4 ⟨ad3, c3, rfl, hown, hnn, hb⟩
        clear c00 c01 c02
        have HD0 := Lib.hid ((hb.block _ (Array.getElem?_eq_some_iff.1 HD0.out).1).trans HD0.out)
        have c00 := row_cells HD0.out 0
        have c01 := row_cells HD0.out 1
        have c02 := row_cells HD0.out 2
        have HB4 : Hid (Below w.heap.size w w4) := HB3.out.trans (hb.mono HB3.out.size)
        obtain ⟨A3, rfl⟩ := Option.ne_none_iff_exists'.1 hnn
        have HS3 := Lib.hid (Own.sl hown)
        clear hb hown hnn
        go_wp2_with fail
        generalize hW5 : World.alloc w4 _ = w5
        replace hW5 := hW5.symm
        have hb : Below w4.heap.size w4 w5 := by rw [hW5]; exact (Below.refl _ _).alloc (Nat.le_refl _) _
        have HD1 : Hid (w5.heap[w4.heap.size]? = some (.cells #[.string h, .slice (some A3) xs.length c3, .string t] 31 (0, 0))) := by rw [hW5]; exact row_new _ _ _
        clear hW5
        clear c00 c01 c02
        have HD0 := Lib.hid ((hb.block _ (Array.getElem?_eq_some_iff.1 HD0.out).1).trans HD0.out)
        have c00 := row_cells HD0.out 0
        have c01 := row_cells HD0.out 1
        have c02 := row_cells HD0.out 2
        have c10 := row_cells HD1.out 0
        have c11 := row_cells HD1.out 1
        have c12 := row_cells HD1.out 2
        have HB5 : Hid (Below w.heap.size w w5) := HB4.out.trans (hb.mono HB4.out.size)
        have HS3 := Lib.hid (HS3.out.below hb)
        clear hb
        have HOP : Hid (∀ w1, Below w5.heap.size w5 w1 → Calls Tryd.prog 27 #[.slice al ps.length cl] w1 (PcPost 66 w1 ps)) := fun w1 g => HOP0.out w1 (HB5.out.trans (g.mono HB5.out.size))
        have hz4 : w4.heap.size < w5.heap.size := (Array.getElem?_eq_some_iff.1 HD1.out).1
        have n5 : w5.heap.size ≠ w4.heap.size := by omega
        go_cut [6, 7] (fun p e wx => ∃ (B : Nat) (h8 : ByteArray) (xs8 : List ByteArray) (t8 : ByteArray) (ad8 : Option Addr) (c8 : Nat), l2 = allV h8 xs8 t8 ∧ p = .pointer (some ⟨B, 0, none⟩) ∧ e = .int .i64 0 ∧ wx.heap[B]? = some (.cells #[.string h8, .slice ad8 xs8.length c8, .string t8] 31 (0, 0)) ∧ Sl wx ad8 xs8.length (strs xs8) ∧ (ad8 = none → c8 = 0) ∧ Below w5.heap.size w5 wx)
        case first =>
          go_region_held (fun w' => w'.cell? ⟨w4.heap.size, 0, none⟩ = some (.string h) ∧ w'.cell? ⟨w4.heap.size, 1, none⟩ = some (.slice (some A3) xs.length c3) ∧ w'.cell? ⟨w4.heap.size, 2, none⟩ = some (.string t)) (go_keep)
            (first
              | (go_at_call 27; (with_reducible refine (HOP.out _ ?_).mono ?_); (focus (show Bel w5 _; repeat (first | exact Bel.refl _ | exact HV1.out | exact HV2.out | refine Bel.alloc ?_ _ | refine Bel.drew ?_))); rintro e v1 ⟨ad1, c1, rfl, hown, hb⟩; have HV1 : Hid (Bel w5 v1) := bel_next (by show Bel w5 _; repeat (first | exact Bel.refl _ | exact HV1.out | exact HV2.out | refine Bel.alloc ?_ _ | refine Bel.drew ?_)) hb; have HP1 := Lib.hid (own_pc hown); have q0 := cell_later HV1.out c10; have q1 := cell_later HV1.out c11; have q2 := cell_later HV1.out c12; have n1 : v1.heap.size ≠ w4.heap.size := (by have := Below.size HV1.out; omega); (try (have RA : Hid (v1.heap[w5.heap.size]? = some (.cells #[.string ⟨#[]⟩, .slice none 0 0, .string ⟨#[]⟩] 31 (0, 0))) := (hb.block w5.heap.size (by simp)).trans (row_new w5.drew _ _); have RAc0 := row_cells RA.out 0; have RAz0 := row_frozen RA.out 0; have RAc1 := row_cells RA.out 1; have RAz1 := row_frozen RA.out 1; have RAc2 := row_cells RA.out 2; have RAz2 := row_frozen RA.out 2)); clear hown hb)
              | (go_at_call 26; (with_reducible refine (HPA.out _ _ _ _ _ (HS3.out.below ?_) (HP1.out.below ?_)).mono ?_); (focus (show Bel w5 _; repeat (first | exact Bel.refl _ | exact HV1.out | exact HV2.out | refine Bel.alloc ?_ _ | refine Bel.drew ?_))); (focus (show Bel v1 _; repeat (first | exact Bel.refl _ | refine Bel.alloc ?_ _ | refine Bel.drew ?_))); rintro e v2 ⟨h8, xs8, t8, ad8, c8, hl8, rfl, hown, hnn8, hb⟩; have HV2 : Hid (Bel w5 v2) := bel_next (by show Bel w5 _; repeat (first | exact Bel.refl _ | exact HV1.out | exact HV2.out | refine Bel.alloc ?_ _ | refine Bel.drew ?_)) hb; have HO8 := Lib.hid hown; (try (have RB : Hid (v2.heap[v1.heap.size]? = some (.cells #[.string ⟨#[]⟩, .slice none 0 0, .string ⟨#[]⟩] 31 (0, 0))) := (hb.block v1.heap.size (by simp)).trans (row_new v1 _ _); have RBc0 := row_cells RB.out 0; have RBz0 := row_frozen RB.out 0; have RBc1 := row_cells RB.out 1; have RBz1 := row_frozen RB.out 1; have RBc2 := row_cells RB.out 2; have RBz2 := row_frozen RB.out 2)); (try (have RB : Hid (v2.heap[w5.heap.size]? = some (.cells #[.string ⟨#[]⟩, .slice none 0 0, .string ⟨#[]⟩] 31 (0, 0))) := (hb.block w5.heap.size (Array.getElem?_eq_some_iff.1 RA.out).1).trans RA.out; have RBc0 := row_cells RB.out 0; have RBz0 := row_frozen RB.out 0; have RBc1 := row_cells RB.out 1; have RBz1 := row_frozen RB.out 1; have RBc2 := row_cells RB.out 2; have RBz2 := row_frozen RB.out 2)); have q0 := cell_later HV2.out c10; have q1 := cell_later HV2.out c11; have q2 := cell_later HV2.out c12; have n2 : v2.heap.size ≠ w4.heap.size := (by have := Below.size HV2.out; omega); clear hown))
          all_goals
            go_wp2_with fail
            go_meet
            refine ⟨_, h8, xs8, t8, ad8, c8, hl8, rfl, rfl, ?_, ?_, hnn8, ?_⟩
            · first | exact row_new _ _ _ | exact row_set (row_set (row_set RB.out 0 _) 1 _) 2 _
            · first | exact (Own.sl HO8.out).below ((Below.refl _ _).alloc (Nat.le_refl _) _) | exact Own.sl (own_set3 HO8.out RB.out (by decide) _ _ _)
            · first | exact Bel.alloc HV2.out _ | exact below_set3 HV2.out (by first | exact Nat.le_refl _ | exact Below.size HV1.out) _ _ _
        case rest =>
          obtain ⟨B, h8, xs8, t8, ad8, c8, hl8, rfl, rfl, hrow, hsl, hn8, hb⟩ := hcut
          clear c00 c01 c02 c10 c11 c12
          have HD0 := Lib.hid ((hb.block _ (Array.getElem?_eq_some_iff.1 HD0.out).1).trans HD0.out)
          have c00 := row_cells HD0.out 0
          have c01 := row_cells HD0.out 1
          have c02 := row_cells HD0.out 2
          have HD1 := Lib.hid ((hb.block _ (Array.getElem?_eq_some_iff.1 HD1.out).1).trans HD1.out)
          have c10 := row_cells HD1.out 0
          have c11 := row_cells HD1.out 1
          have c12 := row_cells HD1.out 2
          have HD2 : Hid (wc.heap[B]? = some (.cells #[.string h8, .slice ad8 xs8.length c8, .string t8] 31 (0, 0))) := hrow
          have HB6 : Hid (Below w.heap.size w wc) := HB5.out.trans (hb.mono HB5.out.size)
          have HS3 := Lib.hid (HS3.out.below hb)
          have HS8 := Lib.hid hsl
          have HN8 := Lib.hid hn8
          have HL8 := Lib.hid hl8
          clear hb hrow hsl hn8 hl8 hz4 n5
          have c20 := row_cells HD2.out 0
          have c21 := row_cells HD2.out 1
          have c22 := row_cells HD2.out 2
          go_wp2_with fail
          go_loopw [8, 9] (fun v j wr => ∃ (k : Nat) (ad' : Option Addr) (c' : Nat), j = .int .i64 (k : Int) ∧ k ≤ ps.length ∧ v = .slice ad' (wantV l (ps.take k)).length c' ∧ wr.ownsRow wc.heap.size 58 2 (.slice ad' (wantV l (ps.take k)).length c') (wantV l (ps.take k)).length (pcCells (wantV l (ps.take k))) ∧ Below wc.heap.size wc wr) (fun _ j _ => ps.length - (intOf j).toNat)
          case atStart => exact ⟨0, none, 0, rfl, Nat.zero_le _, rfl, World.ownsRow_nil _ _ _ _, Below.refl _ _⟩
          case round =>
            obtain ⟨k, ad', c', rfl, hkn, rfl, hown, hbl⟩ := hrel
            have HOWN := Lib.hid hown
            have HBL := Lib.hid hbl
            have hzr := hbl.size
            have HX := Lib.hid (HS3.out.below hbl)
            have HY := Lib.hid (HS8.out.below hbl)
            have HE1 := Lib.hid ((hbl.block _ (Array.getElem?_eq_some_iff.1 HD1.out).1).trans HD1.out)
            have d10 := row_cells HE1.out 0
            have d11 := row_cells HE1.out 1
            have d12 := row_cells HE1.out 2
            have HE2 := Lib.hid ((hbl.block _ (Array.getElem?_eq_some_iff.1 HD2.out).1).trans HD2.out)
            have d20 := row_cells HE2.out 0
            have d21 := row_cells HE2.out 1
            have d22 := row_cells HE2.out 2
            have hwl : (wantV l (ps.take k)).length ≤ 1000 := by have := wantV_len l (ps.take k); rw [List.length_take] at this; omega
            clear hbl hown c00 c01 c02 c10 c11 c12 c20 c21 c22
            by_cases hlt : k < ps.length
            · have HPR := Lib.hid (HP.out.below (HB6.out.trans (HBL.out.mono HB6.out.size)))
              have hix := fun W => HPR.out.ix 33 58 Tryd.underlying33 cellsRc hlt cl W
              have h0 := HPR.out.c0 k hlt
              have h1 := HPR.out.c1 k hlt
              have HG1 : Hid (∀ w1, Sl w1 (some A3) xs.length (strs xs) → Calls Tryd.prog 17 #[.agg #[.string h, .slice (some A3) xs.length c3, .string t], .int .i64 (ps.getD k (0, .empty)).1] w1 fun e w' => e = .returned (.tuple #[.string (l.getD (ps.getD k (0, .empty)).1.toNat .empty), .bool true]) ∧ Below w1.heap.size w1 w') := fun w1 g => HG0.out k hlt _ _ w1 g
              have HWS := Lib.hid (wantV_take_succ l ps k hlt)
              have HLT := Lib.hid hlt
              have hlp : k < 9223372036854775807 := by omega
              generalize ps.getD k (0, .empty) = p at *
              obtain ⟨p0, p1⟩ := p
              simp only at h0 h1 HG1 HWS
              generalize l.getD p0.toNat .empty = g at *
              by_cases he : g = p1
              · subst he
                rw [if_pos rfl, List.append_nil] at HWS
                go_wp2_with fail
                go_region_held3 (fun w' => w'.cell? ⟨w4.heap.size, 0, none⟩ = some (.string h) ∧ w'.cell? ⟨w4.heap.size, 1, none⟩ = some (.slice (some A3) xs.length c3) ∧ w'.cell? ⟨w4.heap.size, 2, none⟩ = some (.string t) ∧ w'.cell? ⟨b, off + k * 2, none⟩ = some (.int .i64 p0)) (go_keep)
                  (first
                    | (go_at_call 17; (with_reducible refine (HG1.out _ (HX.out.below (below_drew1 _))).mono ?_); rintro e v1 ⟨rfl, hb⟩; have HV1 : Hid (Below wr.heap.size wr v1) := (below_drew1 wr).trans hb; have q10 := cell_later HV1.out d10; have q11 := cell_later HV1.out d11; have q12 := cell_later HV1.out d12; have k0 := cell_later HV1.out h0; have k1 := cell_later HV1.out h1; have hzv := HV1.out.size; clear hb))
                go_wp2_with fail
                go_roundw
                case rel => exact ⟨k + 1, ad', c', by go_num, HLT.out, by rw [HWS.out], by rw [HWS.out]; exact own_below2 HOWN.out HV1.out, HBL.out.trans (HV1.out.mono hzr)⟩
                case measure => simp [intOf]; omega
              · have hne : (g.toList == p1.toList) = false := by
                  rw [ByteArray.toList_eq, ByteArray.toList_eq, beq_eq_false_iff_ne]
                  exact fun e => he (ByteArray.ext (Array.toList_inj.1 e))
                have hne2 : (g.toList != p1.toList) = true := by unfold bne; rw [hne]; rfl
                rw [if_neg he] at HWS
                clear he
                go_wp2_with fail
                go_region_held3 (fun w' => w'.cell? ⟨w4.heap.size, 0, none⟩ = some (.string h) ∧ w'.cell? ⟨w4.heap.size, 1, none⟩ = some (.slice (some A3) xs.length c3) ∧ w'.cell? ⟨w4.heap.size, 2, none⟩ = some (.string t) ∧ w'.cell? ⟨b, off + k * 2, none⟩ = some (.int .i64 p0)) (go_keep)
                  (first
                    | (go_at_call 17; (with_reducible refine (HG1.out _ (HX.out.below (below_drew1 _))).mono ?_); rintro e v1 ⟨rfl, hb⟩; have HV1 : Hid (Below wr.heap.size wr v1) := (below_drew1 wr).trans hb; have q10 := cell_later HV1.out d10; have q11 := cell_later HV1.out d11; have q12 := cell_later HV1.out d12; have k0 := cell_later HV1.out h0; have k1 := cell_later HV1.out h1; have hzv := HV1.out.size; clear hb))
                have HOV := Lib.hid (own_below2 HOWN.out HV1.out)
                have hzv2 : wc.heap.size ≤ v1.heap.size := Nat.le_trans hzr hzv
                clear d10 d11 d12 d20 d21 d22 h0 h1
                go_wp2_with (at_builtin; refine wpList_app2 33 58 Tryd.underlying33 i0 _ HI.out HZ0.out HZ1.out HZ2.out rfl rfl _ _ rfl wc.heap.size ad' _ c' _ rfl HOV.out _ _ _ rfl rfl rfl (by omega) hzv2 ?_; intro ad6 c6 w3 hown3 hb3 hg3 hz3; have HOWN3 := Lib.hid hown3; have HB3 := Lib.hid hb3; clear hown3 hb3 hg3 hz3)
                go_roundw
                case rel => exact ⟨k + 1, ad6, c6, by go_num, HLT.out, by rw [HWS.out, List.length_append]; rfl, by rw [HWS.out, pcCells_snoc, List.length_append]; exact HOWN3.out, (HBL.out.trans (HV1.out.mono hzr)).trans HB3.out⟩
                case measure => simp [intOf]; omega
            · obtain rfl : k = ps.length := by omega
              rw [List.take_length] at HOWN hwl
              have HBW : Hid (Below w.heap.size w wr) := HB6.out.trans (HBL.out.mono HB6.out.size)
              rw [List.take_length]
              go_wp2_with fail
              refine (HPD.out _ _ _ _ _ _ _ _ HL8.out HY.out HX.out).mono ?_
              rintro e v1 ⟨ad9, c9, rfl, hown, hb⟩
              have HBV : Hid (Below w.heap.size w v1) := HBW.out.trans (hb.mono HBW.out.size)
              have HP9 := Lib.hid (own_pc hown)
              have HPW := Lib.hid ((own_pc HOWN.out).below hb)
              clear hown hb d10 d11 d12 d20 d21 d22
              go_wp2_with fail
              refine (frompc_any ad9 (wantV l ps).length c9 (wantV l ps) v1 HP9.out (by omega)).mono ?_
              rintro e v2 ⟨ad10, c10, rfl, hown, hb⟩
              have HBV2 : Hid (Below w.heap.size w v2) := HBV.out.trans (hb.mono HBV.out.size)
              have HP10 := Lib.hid (own_pc hown)
              have HPW := Lib.hid (HPW.out.below hb)
              clear hown hb
              go_wp2_with fail
              refine (same_any ad10 (wantV l ps).length c10 (wantV l ps) ad' (wantV l ps).length c' (wantV l ps) v2 HP10.out HPW.out).mono ?_
              rintro e v3 ⟨rfl, hb⟩
              have HBV3 : Hid (Below w.heap.size w v3) := HBV2.out.trans (hb.mono HBV2.out.size)
              have hsame : sameP (wantV l ps) (wantV l ps) = true := decide_eq_true rfl
              rw [hsame]
              clear hb
              go_wp2_with fail
              go_ret
              exact ⟨rfl, HBV3.out⟩
      · have hv' : validV ps (n : Int) = false := Bool.not_eq_true _ ▸ hv
        have hap : applyR (allV h xs t) ps = (zeroD, 1) := by unfold applyR; rw [if_neg (by rw [hlen]; rw [show (((n + 2 : Nat) : Int) - 2) = (n : Int) from by omega]; exact hv)]
        rw [hap] at HPA
        have HPV : Hid (∀ a2 c2 w1, Pc w1 a2 ps.length ps → Calls Tryd.prog 29 #[.slice a2 ps.length c2, .int .i64 (n : Int)] w1 fun e w' => e = .returned (.bool false) ∧ Below w1.heap.size w1 w') := fun a2 c2 w1 g => by
          have := pvalid_any a2 _ c2 _ (n : Int) w1 g hbd
          rwa [hv'] at this
        clear f1 f2 hx hc hr l1 hp hb0 hbd hv hv' hap hlen
        generalize zeroD = l2 at *
        go_enter Tryd.func8, Tryd.ntmps8
        go_wp2_with fail
        refine (HA.out _).mono ?_
        rintro e w1 ⟨rfl, hb⟩
        have HD0 : Hid (w1.heap[w.heap.size]? = some (.cells #[.string h, .slice ad n c, .string t] 24 (0, 0))) := (hb.block w.heap.size (by simp)).trans (row_new _ _ _)
        have c00 := row_cells HD0.out 0
        have c01 := row_cells HD0.out 1
        have c02 := row_cells HD0.out 2
        have HB1 : Hid (Below w.heap.size w w1) := ((Below.refl _ _).alloc (Nat.le_refl _) _).trans (hb.mono (by simp))
        clear hb
        go_wp2_with fail
        refine (HF1.out _ HB1.out).mono ?_
        rintro e w2 ⟨rfl, hb⟩
        clear c00 c01 c02
        have HD0 := Lib.hid ((hb.block _ (Array.getElem?_eq_some_iff.1 HD0.out).1).trans HD0.out)
        have c00 := row_cells HD0.out 0
        have c01 := row_cells HD0.out 1
        have c02 := row_cells HD0.out 2
        have HB2 : Hid (Below w.heap.size w w2) := HB1.out.trans (hb.mono HB1.out.size)
        clear hb
        go_wp2_with fail
        refine (HF2.out _ HB2.out).mono ?_
        rintro e w3 ⟨rfl, hb⟩
        clear c00 c01 c02
        have HD0 := Lib.hid ((hb.block _ (Array.getElem?_eq_some_iff.1 HD0.out).1).trans HD0.out)
        have c00 := row_cells HD0.out 0
        have c01 := row_cells HD0.out 1
        have c02 := row_cells HD0.out 2
        have HB3 : Hid (Below w.heap.size w w3) := HB2.out.trans (hb.mono HB2.out.size)
        clear hb
        go_wp2_with fail
        refine (HO1.out _ HB3.out).mono ?_
        rintro e w4 ⟨ad3, c3, rfl, hown, hnn, hb⟩
        clear c00 c01 c02
        have HD0 := Lib.hid ((hb.block _ (Array.getElem?_eq_some_iff.1 HD0.out).1).trans HD0.out)
        have c00 := row_cells HD0.out 0
        have c01 := row_cells HD0.out 1
        have c02 := row_cells HD0.out 2
        have HB4 : Hid (Below w.heap.size w w4) := HB3.out.trans (hb.mono HB3.out.size)
        obtain ⟨A3, rfl⟩ := Option.ne_none_iff_exists'.1 hnn
        have HS3 := Lib.hid (Own.sl hown)
        clear hb hown hnn
        go_wp2_with fail
        generalize hW5 : World.alloc w4 _ = w5
        replace hW5 := hW5.symm
        have hb : Below w4.heap.size w4 w5 := by rw [hW5]; exact (Below.refl _ _).alloc (Nat.le_refl _) _
        have HD1 : Hid (w5.heap[w4.heap.size]? = some (.cells #[.string h, .slice (some A3) xs.length c3, .string t] 31 (0, 0))) := by rw [hW5]; exact row_new _ _ _
        clear hW5
        clear c00 c01 c02
        have HD0 := Lib.hid ((hb.block _ (Array.getElem?_eq_some_iff.1 HD0.out).1).trans HD0.out)
        have c00 := row_cells HD0.out 0
        have c01 := row_cells HD0.out 1
        have c02 := row_cells HD0.out 2
        have c10 := row_cells HD1.out 0
        have c11 := row_cells HD1.out 1
        have c12 := row_cells HD1.out 2
        have HB5 : Hid (Below w.heap.size w w5) := HB4.out.trans (hb.mono HB4.out.size)
        have HS3 := Lib.hid (HS3.out.below hb)
        clear hb
        have HOP : Hid (∀ w1, Below w5.heap.size w5 w1 → Calls Tryd.prog 27 #[.slice al ps.length cl] w1 (PcPost 66 w1 ps)) := fun w1 g => HOP0.out w1 (HB5.out.trans (g.mono HB5.out.size))
        have hz4 : w4.heap.size < w5.heap.size := (Array.getElem?_eq_some_iff.1 HD1.out).1
        have n5 : w5.heap.size ≠ w4.heap.size := by omega
        go_cut [6, 7] (fun p e wx => ∃ (B : Nat) (h8 : ByteArray) (xs8 : List ByteArray) (t8 : ByteArray) (ad8 : Option Addr) (c8 : Nat), l2 = allV h8 xs8 t8 ∧ p = .pointer (some ⟨B, 0, none⟩) ∧ e = .int .i64 1 ∧ wx.heap[B]? = some (.cells #[.string h8, .slice ad8 xs8.length c8, .string t8] 31 (0, 0)) ∧ Sl wx ad8 xs8.length (strs xs8) ∧ (ad8 = none → c8 = 0) ∧ Below w5.heap.size w5 wx)
        case first =>
          go_region_held (fun w' => w'.cell? ⟨w4.heap.size, 0, none⟩ = some (.string h) ∧ w'.cell? ⟨w4.heap.size, 1, none⟩ = some (.slice (some A3) xs.length c3) ∧ w'.cell? ⟨w4.heap.size, 2, none⟩ = some (.string t)) (go_keep)
            (first
              | (go_at_call 27; (with_reducible refine (HOP.out _ ?_).mono ?_); (focus (show Bel w5 _; repeat (first | exact Bel.refl _ | exact HV1.out | exact HV2.out | refine Bel.alloc ?_ _ | refine Bel.drew ?_))); rintro e v1 ⟨ad1, c1, rfl, hown, hb⟩; have HV1 : Hid (Bel w5 v1) := bel_next (by show Bel w5 _; repeat (first | exact Bel.refl _ | exact HV1.out | exact HV2.out | refine Bel.alloc ?_ _ | refine Bel.drew ?_)) hb; have HP1 := Lib.hid (own_pc hown); have q0 := cell_later HV1.out c10; have q1 := cell_later HV1.out c11; have q2 := cell_later HV1.out c12; have n1 : v1.heap.size ≠ w4.heap.size := (by have := Below.size HV1.out; omega); (try (have RA : Hid (v1.heap[w5.heap.size]? = some (.cells #[.string ⟨#[]⟩, .slice none 0 0, .string ⟨#[]⟩] 31 (0, 0))) := (hb.block w5.heap.size (by simp)).trans (row_new w5.drew _ _); have RAc0 := row_cells RA.out 0; have RAz0 := row_frozen RA.out 0; have RAc1 := row_cells RA.out 1; have RAz1 := row_frozen RA.out 1; have RAc2 := row_cells RA.out 2; have RAz2 := row_frozen RA.out 2)); clear hown hb)
              | (go_at_call 26; (with_reducible refine (HPA.out _ _ _ _ _ (HS3.out.below ?_) (HP1.out.below ?_)).mono ?_); (focus (show Bel w5 _; repeat (first | exact Bel.refl _ | exact HV1.out | exact HV2.out | refine Bel.alloc ?_ _ | refine Bel.drew ?_))); (focus (show Bel v1 _; repeat (first | exact Bel.refl _ | refine Bel.alloc ?_ _ | refine Bel.drew ?_))); rintro e v2 ⟨h8, xs8, t8, ad8, c8, hl8, rfl, hown, hnn8, hb⟩; have HV2 : Hid (Bel w5 v2) := bel_next (by show Bel w5 _; repeat (first | exact Bel.refl _ | exact HV1.out | exact HV2.out | refine Bel.alloc ?_ _ | refine Bel.drew ?_)) hb; have HO8 := Lib.hid hown; (try (have RB : Hid (v2.heap[v1.heap.size]? = some (.cells #[.string ⟨#[]⟩, .slice none 0 0, .string ⟨#[]⟩] 31 (0, 0))) := (hb.block v1.heap.size (by simp)).trans (row_new v1 _ _); have RBc0 := row_cells RB.out 0; have RBz0 := row_frozen RB.out 0; have RBc1 := row_cells RB.out 1; have RBz1 := row_frozen RB.out 1; have RBc2 := row_cells RB.out 2; have RBz2 := row_frozen RB.out 2)); (try (have RB : Hid (v2.heap[w5.heap.size]? = some (.cells #[.string ⟨#[]⟩, .slice none 0 0, .string ⟨#[]⟩] 31 (0, 0))) := (hb.block w5.heap.size (Array.getElem?_eq_some_iff.1 RA.out).1).trans RA.out; have RBc0 := row_cells RB.out 0; have RBz0 := row_frozen RB.out 0; have RBc1 := row_cells RB.out 1; have RBz1 := row_frozen RB.out 1; have RBc2 := row_cells RB.out 2; have RBz2 := row_frozen RB.out 2)); have q0 := cell_later HV2.out c10; have q1 := cell_later HV2.out c11; have q2 := cell_later HV2.out c12; have n2 : v2.heap.size ≠ w4.heap.size := (by have := Below.size HV2.out; omega); clear hown))
          all_goals
            go_wp2_with fail
            go_meet
            refine ⟨_, h8, xs8, t8, ad8, c8, hl8, rfl, rfl, ?_, ?_, hnn8, ?_⟩
            · first | exact row_new _ _ _ | exact row_set (row_set (row_set RB.out 0 _) 1 _) 2 _
            · first | exact (Own.sl HO8.out).below ((Below.refl _ _).alloc (Nat.le_refl _) _) | exact Own.sl (own_set3 HO8.out RB.out (by decide) _ _ _)
            · first | exact Bel.alloc HV2.out _ | exact below_set3 HV2.out (by first | exact Nat.le_refl _ | exact Below.size HV1.out) _ _ _
        case rest =>
          obtain ⟨B, h8, xs8, t8, ad8, c8, hl8, rfl, rfl, hrow, hsl, hn8, hb⟩ := hcut
          clear c00 c01 c02 c10 c11 c12
          have HD0 := Lib.hid ((hb.block _ (Array.getElem?_eq_some_iff.1 HD0.out).1).trans HD0.out)
          have c00 := row_cells HD0.out 0
          have c01 := row_cells HD0.out 1
          have c02 := row_cells HD0.out 2
          have HD1 := Lib.hid ((hb.block _ (Array.getElem?_eq_some_iff.1 HD1.out).1).trans HD1.out)
          have c10 := row_cells HD1.out 0
          have c11 := row_cells HD1.out 1
          have c12 := row_cells HD1.out 2
          have HD2 : Hid (wc.heap[B]? = some (.cells #[.string h8, .slice ad8 xs8.length c8, .string t8] 31 (0, 0))) := hrow
          have HB6 : Hid (Below w.heap.size w wc) := HB5.out.trans (hb.mono HB5.out.size)
          have HS3 := Lib.hid (HS3.out.below hb)
          have HS8 := Lib.hid hsl
          have HN8 := Lib.hid hn8
          have HL8 := Lib.hid hl8
          clear hb hrow hsl hn8 hl8 hz4 n5
          have c20 := row_cells HD2.out 0
          have c21 := row_cells HD2.out 1
          have c22 := row_cells HD2.out 2
          go_wp2_with fail
          have HOPL : Hid (∀ w1, Below wc.heap.size wc w1 → Calls Tryd.prog 27 #[.slice al ps.length cl] w1 (PcPost 66 w1 ps)) := fun w1 g => HOP0.out w1 (HB6.out.trans (g.mono HB6.out.size))
          clear HOP0 HPA HOP HO1
          go_region_held3 (fun w' => w'.cell? ⟨w.heap.size, 0, none⟩ = some (.string h) ∧ w'.cell? ⟨w.heap.size, 1, none⟩ = some (.slice ad n c) ∧ w'.cell? ⟨w.heap.size, 2, none⟩ = some (.string t)) (go_keep)
            (first
              | (go_at_call 27; (with_reducible refine (HOPL.out _ ?_).mono ?_); (focus (show Bel wc _; repeat (first | exact Bel.refl _ | exact HV2.out | exact HV1.out | refine Bel.drew ?_))); rintro e v1 ⟨ad3x, c3x, rfl, hown, hb⟩; have HV1 : Hid (Bel wc v1) := bel_next (by show Bel wc _; repeat (first | exact Bel.refl _ | exact HV2.out | exact HV1.out | refine Bel.drew ?_)) hb; have q00 := cell_later HV1.out c00; have q01 := cell_later HV1.out c01; have q02 := cell_later HV1.out c02; have HPP := Lib.hid (own_pc hown); clear hown; clear hb)
              | (go_at_call 29; (with_reducible refine (HPV.out _ _ _ HPP.out).mono ?_); rintro e v2 ⟨rfl, hb⟩; have HV2 : Hid (Bel wc v2) := bel_next (by show Bel wc _; repeat (first | exact Bel.refl _ | exact HV2.out | exact HV1.out | refine Bel.drew ?_)) hb; have q00 := cell_later HV2.out c00; have q01 := cell_later HV2.out c01; have q02 := cell_later HV2.out c02; clear hb))
          go_wp2_with fail
          go_ret
          exact ⟨rfl, HB6.out.trans (Below.mono HV2.out HB6.out.size)⟩
end Go.Proofs.YtkkggpahanddnaaDoor
namespace Go.Proofs.YtkkggpahanddnaaDoor.lawPiecesLeast
open Go.ChangeShapes Go.WideShapes Go.ChangeAt Go.RowKit Go.Joins
open Go.ChangeMaps (open_string shut_string)
set_option maxRecDepth 100000 in
theorem lifted (os : Os) (started : os.Started) (H : Type) (enc : TypeId × Value → H) :
    ReturnsInHanded {} Tryd.checked os 8 .any (fun w args => (Rows.piecesLeastSpec.pre enc Tryd.prog Tryd.f8 Rows.piecesLeastRow.domain false w args ∧ laidMetH Tryd.prog Rows.piecesLeastRow.laid w) ∧ sizedMet enc Tryd.prog Tryd.f8 (OpenSpec.ofChange Rows.piecesLeastSpec) false w args)
      (Rows.piecesLeastSpec.post enc Tryd.prog Tryd.f8 false true false false) := by
  refine returnsInHanded_of_change_and (C := Tryd.checked) (X := fun w _ => laidMetH Tryd.prog Rows.piecesLeastRow.laid w) (fun _ _ _ hh h => h.of_heap hh) own started (by kernel_rfl) Tryd.func8
    (ChangeSpec.witness_shaped (enc := enc) (C := Tryd.checked) (os := os) (X := fun w _ => laidMetH Tryd.prog Rows.piecesLeastRow.laid w) false (World.laidAll Tryd.prog os Rows.piecesLeastRow.laid) #[.agg #[.string .empty, .slice none 0 0, .string .empty], .slice none 0 0] 8 (World.laidAll_os _ _ _)
      (World.shaped_of_ZipB (by kernel_rfl) (by kernel_rfl)) (by kernel_rfl) (by kernel_rfl) (by kernel_rfl)
      (by rw [MakeChecks.laidMetH_plain _ _ _ (by kernel_rfl)]; exact laidMet_laidAll _ (by kernel_rfl) (by kernel_rfl))) ?_
  intro W base args ds gs before hval0 hW _ hsz0 hL _
  have hval : ∀ (j : Nat) t v, Tryd.f8.params[j]? = some t → args[j]? = some v → Value.okWide Tryd.prog W .any base t v := hval0
  have hW' := hW
  obtain ⟨p, q, hA0, hV, rfl, hfz, hnd⟩ := hW
  have hA : DataW.TrodAll enc Tryd.prog W 0 (fun _ => true) true Tryd.f8.params.toList args.toList ds p := hA0
  rw [Tryd.params8] at hA hval
  obtain ⟨v0, vs0, d0, ds0, p0, q0, hargs, rfl, rfl, h0, r0⟩ := trodAll_cons hA
  obtain ⟨v1, vs1, d1, ds1, p1, q1, rfl, rfl, rfl, h1, r1⟩ := trodAll_cons r0
  obtain ⟨rfl, rfl, rfl⟩ := trodAll_nil r1
  obtain rfl : args = #[v0, v1] := by cases args; simp_all
  obtain ⟨rfl, rfl⟩ := trodVars_none hV
  have k0 := h0
  have lt0 : ∀ x ∈ p0, x.block < W.heap.size := by obtain ⟨m, hm⟩ := k0; exact DataW.trod_lt m _ _ _ hm
  obtain ⟨cs0, rfl, hcs0⟩ := okWide_struct Tryd.underlying24 (hval 0 24 v0 rfl rfl)
  obtain ⟨fuel0, hf0⟩ := h0
  obtain ⟨hd0, tl0, ad0, n0, c0, xs0, hx0, hs0, hc0, hr0⟩ := doc_cells (rz_sized (by simpa [Value.cells] using hf0) hsz0 0 rfl rfl)
  obtain rfl : cs0 = #[.string hd0, .slice ad0 n0 c0, .string tl0] := Array.toList_inj.1 hx0
  have k1 := h1
  have lt1 : ∀ x ∈ p1, x.block < W.heap.size := by obtain ⟨m, hm⟩ := k1; exact DataW.trod_lt m _ _ _ hm
  obtain ⟨a1, l1, cp1, rfl⟩ := okWide_slice Tryd.underlying33 (hval 1 33 v1 rfl rfl)
  obtain ⟨fuel1, hf1⟩ := h1
  obtain ⟨ad1, n1, c1, ps1, e1, hp1, hb1⟩ := pcs_cells (rz_sized (by simpa [Value.cells] using hf1) hsz0 1 rfl rfl)
  injection e1 with e11 e12 e13
  subst e11 e12 e13
  clear hA0 hval0
  refine (piecesLeast_walk hd0 tl0 ad0 n0 c0 xs0 a1 l1 cp1 ps1 W hs0 hc0 hr0 hp1 hb1).mono fun e W' ⟨he, bel⟩ => ?_
  subst he
  exact ⟨_, rfl, _, _, _, [], _, [], hW', trodAll_mk1 (shut_bool Tryd.underlying4 _), (trodAll_cons_mk (Below.trod laidOut (by kernel_rfl) (of_decide_eq_true (by kernel_rfl)) k0 bel lt0) (trodAll_cons_mk (Below.trod laidOut (by kernel_rfl) (of_decide_eq_true (by kernel_rfl)) k1 bel lt1) trodAll_mk0)), rfl, bel.frame _, fun h => by cases h⟩

theorem proved : Rows.PiecesLeastSaid :=
  OpenClaim.holds_of_wide 8 Tryd.f8 rfl rfl rfl rfl rfl rfl rfl ⟨rfl, rfl, rfl, rfl, rfl⟩ rfl rfl rfl rfl rfl (by kernel_rfl) Tryd.func8 (by kernel_rfl)
    (of_decide_eq_true (by kernel_rfl)) (by unfold Func.isWrapper; first | (rw [if_pos (by decide +kernel)]; kernel_rfl) | (rw [if_neg (by decide +kernel)]; exact ⟨rfl, rfl⟩))
    (fun os started H enc _ => lifted os started H enc)
theorem card : Rows.PiecesLeastCardSaid :=
  Claim7.holds_tied_plain_at .later [] [.data, .data, .data] true (true, "efc16c150bd8a079ed20abb9e83b2512658c21054536f9f11f04808dc99df498") true proved (fun _ h => by cases h) (by kernel_rfl) (fun _ h => by cases h) piecesLeast_row_tie rfl ⟨rfl, rfl⟩ (by kernel_rfl) rfl
    (fun f fn hf hfn => by
      obtain rfl : f = 8 := Option.some.inj ((show Tryd.prog.funcNamed "calque/calquelaw37.PiecesLeast" = some 8 by kernel_rfl).symm.trans hf) |>.symm
      obtain rfl : fn = Tryd.f8 := (Option.some.inj (Tryd.func8.symm.trans hfn)).symm
      exact ⟨by kernel_rfl, fun j t ht => by
        rw [Tryd.params8] at ht
        have hm : t ∈ [24, 33] := by simpa using Array.mem_of_getElem? ht
        have hall : ([24, 33].all fun u => !Tryd.prog.wantsStandIn u) = true := by kernel_rfl
        exact (show Tryd.prog.wantsStandIn t = false by simpa using List.all_eq_true.1 hall t hm)⟩)
    (by kernel_rfl)
#print axioms card
end Go.Proofs.YtkkggpahanddnaaDoor.lawPiecesLeast
