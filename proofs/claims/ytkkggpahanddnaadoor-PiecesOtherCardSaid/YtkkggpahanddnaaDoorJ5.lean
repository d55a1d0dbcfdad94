/- PiecesOther: With changes no other piece, and the body is the old one with the bytes of the piece replaced. -/
import Derived.Test.YtkkggpahanddnaaDoorH25
import Derived.Test.YtkkggpahanddnaaDoorHP
import Derived.Deep.QuietTactic
import Derived.BigQuiet
namespace Go.Proofs.YtkkggpahanddnaaDoor
open Go.RowKit
attribute [local go_sem] Ext.cell Ext.frozen
attribute [local go_sem ↓] Go.wp_at_zero Go.wp_at_succ
set_option maxRecDepth 20000 in
set_option maxHeartbeats 8000000 in
theorem piecesOther_walk (h t : ByteArray) (ad : Option Addr) (n c : Nat) (xs : List ByteArray) (i : Int) (s : ByteArray) (w : World) (hx : Sl w ad n (strs xs)) (hc : ad = none → c = 0) (hr : n * 16 ≤ 140737488351232) (_ : (Lit.int IntKind.i64 i).wf = true) (hs : s.size ≤ 9223372036854775807) :
    Calls Tryd.prog 5 #[.agg #[.string h, .slice ad n c, .string t], .int .i64 i, .string s] w fun e w' => e = .returned (.bool true) ∧ Below w.heap.size w w' := by
  have HA := Lib.hid awake_any
  have HF1 : Hid (∀ w1, Below w.heap.size w w1 → Calls Tryd.prog 11 #[.agg #[.string h, .slice ad n c, .string t]] w1 fun e w' => e = .returned (.bool (fewV (allV h xs t))) ∧ Below w1.heap.size w1 w') := fun w1 g => few_any h t ad n c xs w1 (hx.below g) hc hr
  cases f1 : fewV (allV h xs t) with
  | false =>
    rw [f1] at HF1
    clear f1 hx hc hr
    go_enter Tryd.func5, Tryd.ntmps5
    go_wp2_with fail
    refine (HA.out _).mono ?_
    rintro e w1 ⟨rfl, hb⟩
    have HD0 : Hid (w1.heap[w.heap.size]? = some (.cells #[.string h, .slice ad n c, .string t] 24 (0, 0))) := (hb.block w.heap.size (by simp)).trans (row_new _ _ _)
    have c00 := row_cells HD0.out 0
    have c01 := row_cells HD0.out 1
    have c02 := row_cells HD0.out 2
    have HB1 : Hid (Below w.heap.size w w1) := ((Below.refl _ _).alloc (Nat.le_refl _) _).trans (hb.mono (by simp))
    clear hb
    go_wp2_with fail
    refine (HF1.out _ HB1.out).mono ?_
    rintro e w2 ⟨rfl, hb⟩
    clear c00 c01 c02
    have HD0 := Lib.hid ((hb.block _ (Array.getElem?_eq_some_iff.1 HD0.out).1).trans HD0.out)
    have c00 := row_cells HD0.out 0
    have c01 := row_cells HD0.out 1
    have c02 := row_cells HD0.out 2
    have HB2 : Hid (Below w.heap.size w w2) := HB1.out.trans (hb.mono HB1.out.size)
    clear hb
    go_wp2_with fail
    go_ret
    exact ⟨rfl, HB2.out⟩
  | true =>
    rw [f1] at HF1
    by_cases hs2 : (2000 : Int) < (s.size : Int)
    · clear f1 hx hc hr
      go_enter Tryd.func5, Tryd.ntmps5
      go_wp2_with fail
      refine (HA.out _).mono ?_
      rintro e w1 ⟨rfl, hb⟩
      have HD0 : Hid (w1.heap[w.heap.size]? = some (.cells #[.string h, .slice ad n c, .string t] 24 (0, 0))) := (hb.block w.heap.size (by simp)).trans (row_new _ _ _)
      have c00 := row_cells HD0.out 0
      have c01 := row_cells HD0.out 1
      have c02 := row_cells HD0.out 2
      have HB1 : Hid (Below w.heap.size w w1) := ((Below.refl _ _).alloc (Nat.le_refl _) _).trans (hb.mono (by simp))
      clear hb
      go_wp2_with fail
      refine (HF1.out _ HB1.out).mono ?_
      rintro e w2 ⟨rfl, hb⟩
      clear c00 c01 c02
      have HD0 := Lib.hid ((hb.block _ (Array.getElem?_eq_some_iff.1 HD0.out).1).trans HD0.out)
      have c00 := row_cells HD0.out 0
      have c01 := row_cells HD0.out 1
      have c02 := row_cells HD0.out 2
      have HB2 : Hid (Below w.heap.size w w2) := HB1.out.trans (hb.mono HB1.out.size)
      clear hb
      go_wp2_with fail
      go_ret
      exact ⟨rfl, HB2.out⟩
    · obtain ⟨_, hf1⟩ := fewV_facts f1
      have hlen : (allV h xs t).length = n + 2 := by rw [allV_len, lenX hx]
      rw [hlen] at hf1
      have l1 := lenX hx
      have HO1 : Hid (∀ w1, Below w.heap.size w w1 → Calls Tryd.prog 13 #[.agg #[.string h, .slice ad n c, .string t]] w1 (DocPost w1 h xs t)) := fun w1 g => own_any h t ad n c xs w1 (hx.below g) hc (by omega)
      have HPG : Hid (∀ A1 c1 w1, Sl w1 (some A1) xs.length (strs xs) → Calls Tryd.prog 17 #[.agg #[.string h, .slice (some A1) xs.length c1, .string t], .int .i64 i] w1 fun e w' => e = .returned (getR (getV (allV h xs t) i)) ∧ Below w1.heap.size w1 w') := fun A1 c1 w1 g => pget_any h t (some A1) xs.length c1 xs i w1 g (by omega)
      have HPW : Hid (∀ A1 c1 w1, Sl w1 (some A1) xs.length (strs xs) → Calls Tryd.prog 19 #[.agg #[.string h, .slice (some A1) xs.length c1, .string t], .int .i64 i, .string s] w1 (DocR w1 (withR (allV h xs t) i s))) := fun A1 c1 w1 g => pwithU h t A1 xs.length c1 xs w1 i s g (by omega)
      by_cases hin : 0 ≤ i ∧ i < ((allV h xs t).length : Int)
      · obtain ⟨k, rfl⟩ := Int.eq_ofNat_of_zero_le hin.1
        have hk : k < (allV h xs t).length := by omega
        rw [getV_in hk] at HPG
        have hwr : withR (allV h xs t) (k : Int) s = ((allV h xs t).set k s, 0) := by unfold withR; rw [if_pos hin, Int.toNat_natCast]
        rw [hwr] at HPW
        simp only [getR] at HPG
        have HGP : Hid (∀ A1 c1 (m : Nat) w1, m < n + 2 → Sl w1 (some A1) xs.length (strs xs) → Calls Tryd.prog 17 #[.agg #[.string h, .slice (some A1) xs.length c1, .string t], .int .i64 (m : Int)] w1 fun e w' => e = .returned (.tuple #[.string ((allV h xs t).getD m .empty), .bool true]) ∧ Below w1.heap.size w1 w') := fun A1 c1 m w1 g1 g => by
          have := pget_any h t (some A1) xs.length c1 xs (m : Int) w1 g (by omega)
          rwa [getV_in (by omega)] at this
        have HGQ : Hid (∀ h7 xs7 t7 ad7 c7 (m : Nat) w1, (allV h xs t).set k s = allV h7 xs7 t7 → m < n + 2 → Sl w1 ad7 xs7.length (strs xs7) → Calls Tryd.prog 17 #[.agg #[.string h7, .slice ad7 xs7.length c7, .string t7], .int .i64 (m : Int)] w1 fun e w' => e = .returned (.tuple #[.string (((allV h xs t).set k s).getD m .empty), .bool true]) ∧ Below w1.heap.size w1 w') := fun h7 xs7 t7 ad7 c7 m w1 e7 g1 g => by
          have hl7 : xs7.length + 2 = n + 2 := by rw [← allV_len h7 xs7 t7, ← e7, List.length_set, hlen]
          have := pget_any h7 t7 ad7 xs7.length c7 xs7 (m : Int) w1 g (by omega)
          rw [← e7, getV_in (by rw [List.length_set]; omega)] at this
          exact this
        have HBP : Hid (∀ A1 c1 w1, Sl w1 (some A1) xs.length (strs xs) → Calls Tryd.prog 21 #[.agg #[.string h, .slice (some A1) xs.length c1, .string t]] w1 fun e w' => e = .returned (.string (bs (catV (allV h xs t)))) ∧ Below w1.heap.size w1 w') := fun A1 c1 w1 g => pbody_any h t (some A1) xs.length c1 xs w1 g f1
        have HBQ : Hid (∀ h7 xs7 t7 ad7 c7 w1, (allV h xs t).set k s = allV h7 xs7 t7 → Sl w1 ad7 xs7.length (strs xs7) → Calls Tryd.prog 21 #[.agg #[.string h7, .slice ad7 xs7.length c7, .string t7]] w1 fun e w' => e = .returned (.string (bs (catV ((allV h xs t).set k s)))) ∧ Below w1.heap.size w1 w') := fun h7 xs7 t7 ad7 c7 w1 e7 g => by
          have := pbody_any h7 t7 ad7 xs7.length c7 xs7 w1 g (by rw [← e7]; exact few_set f1 (by omega))
          rw [← e7] at this
          exact this
        have HAL : Hid (∀ m, aheadV (allV h xs t) k m ≤ 44000) := fun m => ahead_le f1 k m
        have HSZ : Hid (∀ m, m < n + 2 → ((allV h xs t).getD m .empty).size ≤ 2000) := fun m hm => by
          have g := (fewV_facts f1).1
          have e : (allV h xs t).getD m .empty = (allV h xs t)[m]'(by omega) := by simp [List.getD, List.getElem?_eq_getElem (show m < (allV h xs t).length by omega)]
          rw [e]
          exact g _ (List.getElem_mem _)
        have HLO : Hid (∀ m, m < k → m < n + 2 → aheadV (allV h xs t) k (m + 1) = aheadV (allV h xs t) k m + ((allV h xs t).getD m .empty).size) := fun m g1 g2 => ahead_lo g1 (by omega)
        have HHI : Hid (∀ m, k ≤ m → aheadV (allV h xs t) k (m + 1) = aheadV (allV h xs t) k m) := fun m g1 => by rw [ahead_hi g1, ahead_hi (by omega)]
        have HEND : Hid (aheadV (allV h xs t) k (n + 2) = (bs (catV ((allV h xs t).take k))).size) := ahead_hi (by omega)
        have HNE : Hid (∀ m, m ≠ k → ((allV h xs t).set k s).getD m .empty = (allV h xs t).getD m .empty) := fun m g => getD_set_ne _ s g
        have HEQ : Hid (((allV h xs t).set k s).getD k .empty = s) := getD_set_eq _ s hk
        have HBA := Lib.hid (body_at (allV h xs t) k hk)
        have HBB := Lib.hid (body_set (allV h xs t) k s hk)
        have HPS : Hid ((bs (catV ((allV h xs t).take k))).size ≤ 44000) := by have := HAL.out (n + 2); rw [HEND.out] at this; exact this
        have HTS : Hid ((bs (catV (allV h xs t))).size ≤ 44000) := by
          have := ahead_le f1 (n + 2) (n + 2)
          unfold aheadV at this
          rw [Nat.min_self, List.take_of_length_le (by omega)] at this
          rw [Hid, bs_size]; exact this
        have HKN : Hid (k < n + 2) := by rw [← hlen]; exact hk
        clear f1 hx hc hr l1 hwr hin hlen hk
        generalize (allV h xs t).set k s = l2 at *
        generalize allV h xs t = l at *
        have HOS : Hid ((l.getD k .empty).size ≤ 2000) := HSZ.out k HKN.out
        generalize bs (catV (l.take k)) = P at *
        generalize l.getD k .empty = O at *
        generalize bs (catV (l.drop (k + 1))) = S at *
        go_enter Tryd.func5, Tryd.ntmps5
        go_wp2_with fail
        refine (HA.out _).mono ?_
        rintro e w1 ⟨rfl, hb⟩
        have HD0 : Hid (w1.heap[w.heap.size]? = some (.cells #[.string h, .slice ad n c, .string t] 24 (0, 0))) := (hb.block w.heap.size (by simp)).trans (row_new _ _ _)
        have c00 := row_cells HD0.out 0
        have c01 := row_cells HD0.out 1
        have c02 := row_cells HD0.out 2
        have HB1 : Hid (Below w.heap.size w w1) := ((Below.refl _ _).alloc (Nat.le_refl _) _).trans (hb.mono (by simp))
        clear hb
        go_wp2_with fail
        refine (HF1.out _ HB1.out).mono ?_
        rintro e w2 ⟨rfl, hb⟩
        clear c00 c01 c02
        have HD0 := Lib.hid ((hb.block _ (Array.getElem?_eq_some_iff.1 HD0.out).1).trans HD0.out)
        have c00 := row_cells HD0.out 0
        have c01 := row_cells HD0.out 1
        have c02 := row_cells HD0.out 2
        have HB2 : Hid (Below w.heap.size w w2) := HB1.out.trans (hb.mono HB1.out.size)
        clear hb
        go_wp2_with fail
        refine (HO1.out _ HB2.out).mono ?_
        rintro e w3 ⟨ad3, c3, rfl, hown, hnn, hb⟩
        clear c00 c01 c02
        have HD0 := Lib.hid ((hb.block _ (Array.getElem?_eq_some_iff.1 HD0.out).1).trans HD0.out)
        have c00 := row_cells HD0.out 0
        have c01 := row_cells HD0.out 1
        have c02 := row_cells HD0.out 2
        have HB3 : Hid (Below w.heap.size w w3) := HB2.out.trans (hb.mono HB2.out.size)
        obtain ⟨A3, rfl⟩ := Option.ne_none_iff_exists'.1 hnn
        have HS3 := Lib.hid (Own.sl hown)
        clear hb hown hnn
        go_wp2_with fail
        generalize hW4 : World.alloc w3 _ = w4
        replace hW4 := hW4.symm
        have hb : Below w3.heap.size w3 w4 := by rw [hW4]; exact (Below.refl _ _).alloc (Nat.le_refl _) _
        have HD1 : Hid (w4.heap[w3.heap.size]? = some (.cells #[.string h, .slice (some A3) xs.length c3, .string t] 31 (0, 0))) := by rw [hW4]; exact row_new _ _ _
        clear hW4
        clear c00 c01 c02
        have HD0 := Lib.hid ((hb.block _ (Array.getElem?_eq_some_iff.1 HD0.out).1).trans HD0.out)
        have c00 := row_cells HD0.out 0
        have c01 := row_cells HD0.out 1
        have c02 := row_cells HD0.out 2
        have c10 := row_cells HD1.out 0
        have c11 := row_cells HD1.out 1
        have c12 := row_cells HD1.out 2
        have HB4 : Hid (Below w.heap.size w w4) := HB3.out.trans (hb.mono HB3.out.size)
        have HS3 := Lib.hid (HS3.out.below hb)
        clear hb
        refine (HPW.out _ _ _ HS3.out).mono ?_
        rintro e w5 ⟨h7, xs7, t7, ad7, c7, hl7, rfl, hown, hnn7, hb⟩
        clear c00 c01 c02 c10 c11 c12
        have HD0 := Lib.hid ((hb.block _ (Array.getElem?_eq_some_iff.1 HD0.out).1).trans HD0.out)
        have c00 := row_cells HD0.out 0
        have c01 := row_cells HD0.out 1
        have c02 := row_cells HD0.out 2
        have HD1 := Lib.hid ((hb.block _ (Array.getElem?_eq_some_iff.1 HD1.out).1).trans HD1.out)
        have c10 := row_cells HD1.out 0
        have c11 := row_cells HD1.out 1
        have c12 := row_cells HD1.out 2
        have HB5 : Hid (Below w.heap.size w w5) := HB4.out.trans (hb.mono HB4.out.size)
        have HS3 := Lib.hid (HS3.out.below hb)
        have HS7 := Lib.hid (Own.sl hown)
        have HN7 := Lib.hid hnn7
        have HL7 := Lib.hid hl7
        clear hb hown hnn7 hl7
        have e10 := fun o => (World.cell?_alloc_some w5 _ o (by rw [c10]; rfl)).trans c10
        have e11 := fun o => (World.cell?_alloc_some w5 _ o (by rw [c11]; rfl)).trans c11
        have e12 := fun o => (World.cell?_alloc_some w5 _ o (by rw [c12]; rfl)).trans c12
        go_wp2_with fail
        clear e10 e11 e12
        generalize hW6 : World.alloc w5 _ = w6
        replace hW6 := hW6.symm
        have hb : Below w5.heap.size w5 w6 := by rw [hW6]; exact (Below.refl _ _).alloc (Nat.le_refl _) _
        have HD2 : Hid (w6.heap[w5.heap.size]? = some (.cells #[.string h7, .slice ad7 xs7.length c7, .string t7] 31 (0, 0))) := by rw [hW6]; exact row_new _ _ _
        clear hW6
        clear c00 c01 c02 c10 c11 c12
        have HD0 := Lib.hid ((hb.block _ (Array.getElem?_eq_some_iff.1 HD0.out).1).trans HD0.out)
        have c00 := row_cells HD0.out 0
        have c01 := row_cells HD0.out 1
        have c02 := row_cells HD0.out 2
        have HD1 := Lib.hid ((hb.block _ (Array.getElem?_eq_some_iff.1 HD1.out).1).trans HD1.out)
        have c10 := row_cells HD1.out 0
        have c11 := row_cells HD1.out 1
        have c12 := row_cells HD1.out 2
        have c20 := row_cells HD2.out 0
        have c21 := row_cells HD2.out 1
        have c22 := row_cells HD2.out 2
        have HB6 : Hid (Below w.heap.size w w6) := HB5.out.trans (hb.mono HB5.out.size)
        have HS3 := Lib.hid (HS3.out.below hb)
        have HS7 := Lib.hid (HS7.out.below hb)
        clear hb
        refine (HPG.out _ _ _ HS3.out).mono ?_
        rintro e w7 ⟨rfl, hb⟩
        clear c00 c01 c02 c10 c11 c12 c20 c21 c22
        have HD0 := Lib.hid ((hb.block _ (Array.getElem?_eq_some_iff.1 HD0.out).1).trans HD0.out)
        have c00 := row_cells HD0.out 0
        have c01 := row_cells HD0.out 1
        have c02 := row_cells HD0.out 2
        have HD1 := Lib.hid ((hb.block _ (Array.getElem?_eq_some_iff.1 HD1.out).1).trans HD1.out)
        have c10 := row_cells HD1.out 0
        have c11 := row_cells HD1.out 1
        have c12 := row_cells HD1.out 2
        have HD2 := Lib.hid ((hb.block _ (Array.getElem?_eq_some_iff.1 HD2.out).1).trans HD2.out)
        have c20 := row_cells HD2.out 0
        have c21 := row_cells HD2.out 1
        have c22 := row_cells HD2.out 2
        have HB7 : Hid (Below w.heap.size w w7) := HB6.out.trans (hb.mono HB6.out.size)
        have HS3 := Lib.hid (HS3.out.below hb)
        have HS7 := Lib.hid (HS7.out.below hb)
        clear hb
        go_wp2_with fail
        have HGX : Hid (∀ (m : Nat) w1, m < n + 2 → Sl w1 (some A3) xs.length (strs xs) → Calls Tryd.prog 17 #[.agg #[.string h, .slice (some A3) xs.length c3, .string t], .int .i64 (m : Int)] w1 fun e w' => e = .returned (.tuple #[.string (l.getD m .empty), .bool true]) ∧ Below w1.heap.size w1 w') := fun m w1 g1 g => HGP.out _ _ m w1 g1 g
        have HGY : Hid (∀ (m : Nat) w1, m < n + 2 → Sl w1 ad7 xs7.length (strs xs7) → Calls Tryd.prog 17 #[.agg #[.string h7, .slice ad7 xs7.length c7, .string t7], .int .i64 (m : Int)] w1 fun e w' => e = .returned (.tuple #[.string (l2.getD m .empty), .bool true]) ∧ Below w1.heap.size w1 w') := fun m w1 g1 g => HGQ.out _ _ _ _ _ m w1 HL7.out g1 g
        have HPB : Hid (∀ w1, Sl w1 (some A3) xs.length (strs xs) → Calls Tryd.prog 21 #[.agg #[.string h, .slice (some A3) xs.length c3, .string t]] w1 fun e w' => e = .returned (.string (bs (catV l))) ∧ Below w1.heap.size w1 w') := fun w1 g => HBP.out _ _ w1 g
        have HPB2 : Hid (∀ w1, Sl w1 ad7 xs7.length (strs xs7) → Calls Tryd.prog 21 #[.agg #[.string h7, .slice ad7 xs7.length c7, .string t7]] w1 fun e w' => e = .returned (.string (bs (catV l2))) ∧ Below w1.heap.size w1 w') := fun w1 g => HBQ.out _ _ _ _ _ w1 HL7.out g
        clear HGP HGQ HBP HBQ HPG HPW HO1 HF1 HA
        have HX7 := Lib.hid (HS3.out)
        have HY7 := Lib.hid (HS7.out)
        go_loopw [12, 13] (fun a j wr => ∃ m : Nat, j = .int .i64 (m : Int) ∧ m ≤ n + 2 ∧ a = .int .i64 (aheadV l k m : Int) ∧ Below w7.heap.size w7 wr) (fun _ j _ => n + 2 - (intOf j).toNat)
        case atStart => exact ⟨0, rfl, Nat.zero_le _, by simp [aheadV, catV], Below.refl _ _⟩
        case round =>
          obtain ⟨m, rfl, hmn, rfl, hbl⟩ := hrel
          have HBL := Lib.hid hbl
          have HX := Lib.hid (HX7.out.below hbl)
          have HY := Lib.hid (HY7.out.below hbl)
          have HE0 := Lib.hid ((hbl.block _ (Array.getElem?_eq_some_iff.1 HD0.out).1).trans HD0.out)
          have d00 := row_cells HE0.out 0
          have d01 := row_cells HE0.out 1
          have d02 := row_cells HE0.out 2
          have HE1 := Lib.hid ((hbl.block _ (Array.getElem?_eq_some_iff.1 HD1.out).1).trans HD1.out)
          have d10 := row_cells HE1.out 0
          have d11 := row_cells HE1.out 1
          have d12 := row_cells HE1.out 2
          have HE2 := Lib.hid ((hbl.block _ (Array.getElem?_eq_some_iff.1 HD2.out).1).trans HD2.out)
          have d20 := row_cells HE2.out 0
          have d21 := row_cells HE2.out 1
          have d22 := row_cells HE2.out 2
          have hal := HAL.out m
          clear hbl c00 c01 c02 c10 c11 c12 c20 c21 c22
          by_cases hm : m < n + 2
          · rcases Nat.lt_trichotomy m k with hk | hk | hk
            · have HN := Lib.hid (HLO.out m hk hm)
              have hne := HNE.out m (Nat.ne_of_lt hk)
              have hgs : (l.getD m .empty).size ≤ 2000 := HSZ.out m hm
              have HG1 : Hid (∀ w1, Sl w1 (some A3) xs.length (strs xs) → Calls Tryd.prog 17 #[.agg #[.string h, .slice (some A3) xs.length c3, .string t], .int .i64 (m : Int)] w1 fun e w' => e = .returned (.tuple #[.string (l.getD m .empty), .bool true]) ∧ Below w1.heap.size w1 w') := fun w1 g => HGX.out m w1 hm g
              have HG2 : Hid (∀ w1, Sl w1 ad7 xs7.length (strs xs7) → Calls Tryd.prog 17 #[.agg #[.string h7, .slice ad7 xs7.length c7, .string t7], .int .i64 (m : Int)] w1 fun e w' => e = .returned (.tuple #[.string (l2.getD m .empty), .bool true]) ∧ Below w1.heap.size w1 w') := fun w1 g => HGY.out m w1 hm g
              rw [hne] at HG2
              clear hne
              generalize l.getD m .empty = g at *
              go_wp2_with fail
              refine (HG1.out wr HX.out).mono ?_
              rintro e v1 ⟨rfl, hb⟩
              clear d00 d01 d02 d10 d11 d12 d20 d21 d22
              have HE0 := Lib.hid ((hb.block _ (Array.getElem?_eq_some_iff.1 HE0.out).1).trans HE0.out)
              have d00 := row_cells HE0.out 0
              have d01 := row_cells HE0.out 1
              have d02 := row_cells HE0.out 2
              have HE1 := Lib.hid ((hb.block _ (Array.getElem?_eq_some_iff.1 HE1.out).1).trans HE1.out)
              have d10 := row_cells HE1.out 0
              have d11 := row_cells HE1.out 1
              have d12 := row_cells HE1.out 2
              have HE2 := Lib.hid ((hb.block _ (Array.getElem?_eq_some_iff.1 HE2.out).1).trans HE2.out)
              have d20 := row_cells HE2.out 0
              have d21 := row_cells HE2.out 1
              have d22 := row_cells HE2.out 2
              have HC1 : Hid (Below w7.heap.size w7 v1) := HBL.out.trans (hb.mono HBL.out.size)
              have HY := Lib.hid (HY.out.below hb)
              clear hb
              go_wp2_with fail
              refine (HG2.out v1 HY.out).mono ?_
              rintro e v2 ⟨rfl, hb⟩
              have HC2 : Hid (Below w7.heap.size w7 v2) := HC1.out.trans (hb.mono HC1.out.size)
              clear hb HG1 HG2 d00 d01 d02 d10 d11 d12 d20 d21 d22
              go_wp2_with fail
              go_roundw
              case rel => exact ⟨m + 1, by go_num, by omega, by rw [HN.out]; go_num, HC2.out⟩
              case measure => simp [intOf]; omega
            · subst hk
              have HN := Lib.hid (HHI.out m (Nat.le_refl _))
              have heq := HEQ.out
              have HG1 : Hid (∀ w1, Sl w1 (some A3) xs.length (strs xs) → Calls Tryd.prog 17 #[.agg #[.string h, .slice (some A3) xs.length c3, .string t], .int .i64 (m : Int)] w1 fun e w' => e = .returned (.tuple #[.string (l.getD m .empty), .bool true]) ∧ Below w1.heap.size w1 w') := fun w1 g => HGX.out m w1 hm g
              have HG2 : Hid (∀ w1, Sl w1 ad7 xs7.length (strs xs7) → Calls Tryd.prog 17 #[.agg #[.string h7, .slice ad7 xs7.length c7, .string t7], .int .i64 (m : Int)] w1 fun e w' => e = .returned (.tuple #[.string (l2.getD m .empty), .bool true]) ∧ Below w1.heap.size w1 w') := fun w1 g => HGY.out m w1 hm g
              rw [heq] at HG2
              clear heq
              generalize l.getD m .empty = g at *
              go_wp2_with fail
              refine (HG1.out wr HX.out).mono ?_
              rintro e v1 ⟨rfl, hb⟩
              clear d00 d01 d02 d10 d11 d12 d20 d21 d22
              have HE0 := Lib.hid ((hb.block _ (Array.getElem?_eq_some_iff.1 HE0.out).1).trans HE0.out)
              have d00 := row_cells HE0.out 0
              have d01 := row_cells HE0.out 1
              have d02 := row_cells HE0.out 2
              have HE1 := Lib.hid ((hb.block _ (Array.getElem?_eq_some_iff.1 HE1.out).1).trans HE1.out)
              have d10 := row_cells HE1.out 0
              have d11 := row_cells HE1.out 1
              have d12 := row_cells HE1.out 2
              have HE2 := Lib.hid ((hb.block _ (Array.getElem?_eq_some_iff.1 HE2.out).1).trans HE2.out)
              have d20 := row_cells HE2.out 0
              have d21 := row_cells HE2.out 1
              have d22 := row_cells HE2.out 2
              have HC1 : Hid (Below w7.heap.size w7 v1) := HBL.out.trans (hb.mono HBL.out.size)
              have HY := Lib.hid (HY.out.below hb)
              clear hb
              go_wp2_with fail
              refine (HG2.out v1 HY.out).mono ?_
              rintro e v2 ⟨rfl, hb⟩
              have HC2 : Hid (Below w7.heap.size w7 v2) := HC1.out.trans (hb.mono HC1.out.size)
              clear hb HG1 HG2 d00 d01 d02 d10 d11 d12 d20 d21 d22
              go_wp2_with fail
              go_roundw
              case rel => exact ⟨m + 1, by go_num, by omega, by rw [HN.out], HC2.out⟩
              case measure => simp [intOf]; omega
            · have HN := Lib.hid (HHI.out m (Nat.le_of_lt hk))
              have hne := HNE.out m (Nat.ne_of_gt hk)
              have HG1 : Hid (∀ w1, Sl w1 (some A3) xs.length (strs xs) → Calls Tryd.prog 17 #[.agg #[.string h, .slice (some A3) xs.length c3, .string t], .int .i64 (m : Int)] w1 fun e w' => e = .returned (.tuple #[.string (l.getD m .empty), .bool true]) ∧ Below w1.heap.size w1 w') := fun w1 g => HGX.out m w1 hm g
              have HG2 : Hid (∀ w1, Sl w1 ad7 xs7.length (strs xs7) → Calls Tryd.prog 17 #[.agg #[.string h7, .slice ad7 xs7.length c7, .string t7], .int .i64 (m : Int)] w1 fun e w' => e = .returned (.tuple #[.string (l2.getD m .empty), .bool true]) ∧ Below w1.heap.size w1 w') := fun w1 g => HGY.out m w1 hm g
              rw [hne] at HG2
              clear hne
              generalize l.getD m .empty = g at *
              go_wp2_with fail
              refine (HG1.out wr HX.out).mono ?_
              rintro e v1 ⟨rfl, hb⟩
              clear d00 d01 d02 d10 d11 d12 d20 d21 d22
              have HE0 := Lib.hid ((hb.block _ (Array.getElem?_eq_some_iff.1 HE0.out).1).trans HE0.out)
              have d00 := row_cells HE0.out 0
              have d01 := row_cells HE0.out 1
              have d02 := row_cells HE0.out 2
              have HE1 := Lib.hid ((hb.block _ (Array.getElem?_eq_some_iff.1 HE1.out).1).trans HE1.out)
              have d10 := row_cells HE1.out 0
              have d11 := row_cells HE1.out 1
              have d12 := row_cells HE1.out 2
              have HE2 := Lib.hid ((hb.block _ (Array.getElem?_eq_some_iff.1 HE2.out).1).trans HE2.out)
              have d20 := row_cells HE2.out 0
              have d21 := row_cells HE2.out 1
              have d22 := row_cells HE2.out 2
              have HC1 : Hid (Below w7.heap.size w7 v1) := HBL.out.trans (hb.mono HBL.out.size)
              have HY := Lib.hid (HY.out.below hb)
              clear hb
              go_wp2_with fail
              refine (HG2.out v1 HY.out).mono ?_
              rintro e v2 ⟨rfl, hb⟩
              have HC2 : Hid (Below w7.heap.size w7 v2) := HC1.out.trans (hb.mono HC1.out.size)
              clear hb HG1 HG2 d00 d01 d02 d10 d11 d12 d20 d21 d22
              go_wp2_with fail
              go_roundw
              case rel => exact ⟨m + 1, by go_num, by omega, by rw [HN.out], HC2.out⟩
              case measure => simp [intOf]; omega
          · have hme : m = n + 2 := by omega
            subst hme
            have HAE := Lib.hid (HEND.out)
            go_wp2_with fail
            rw [HAE.out]
            have hz0 : w.heap.size < wr.heap.size := (Array.getElem?_eq_some_iff.1 HE0.out).1
            have hz1 : w3.heap.size < wr.heap.size := (Array.getElem?_eq_some_iff.1 HE1.out).1
            have hz2 : w5.heap.size < wr.heap.size := (Array.getElem?_eq_some_iff.1 HE2.out).1
            refine wp_region_ext (by kernel_rfl) (by kernel_rfl) ?_
            repeat (go_big_quiet_step (first
              | (go_at_call 21; (with_reducible exact Calls.ext (HPB.out _ (HX.out.below (Subtype.property _)))))
              | (go_at_call 21; (with_reducible exact Calls.ext (HPB2.out _ (HY.out.below (Subtype.property _)))))))
            refine wpQuiet_nil ?_
            intro _ hw'
            obtain ⟨y, hw''⟩ := hw'
            subst hw''
            have HW := Lib.hid (HB7.out.trans (HBL.out.mono HB7.out.size))
            rw [HBA.out, HBB.out]
            have q0 := HTS.out
            rw [HBA.out] at q0
            have q1 := HPS.out
            have q2 := HOS.out
            clear HBA HBB HTS HPS HSZ HOS HEND HAE HHI HLO HNE HEQ HAL hal HGX HGY HPB HPB2 HX HY HX7 HY7 HS3 HS7 HN7 HL7 HE0 HE1 HE2 HD0 HD1 HD2 d00 d01 d02 d10 d11 d12 d20 d21 d22
            have p1 : (P ++ O ++ S).extract 0 P.size = P := by rw [ByteArray.append_assoc]; exact ba_pre _ _
            have p2 : (P ++ O ++ S).extract (P.size + O.size) (P ++ O ++ S).size = S := by
              have := ba_suf (P ++ O) S
              rwa [← ByteArray.size_append, ByteArray.size_append] at this
            have p3 : (P ++ O ++ S).size = P.size + O.size + S.size := by rw [ByteArray.size_append, ByteArray.size_append]
            generalize P ++ O ++ S = TA at *
            have g1 : (P.size : Int) ≤ (TA.size : Int) := by omega
            have g2 : (P.size : Int) + (O.size : Int) ≤ (TA.size : Int) := by omega
            have g3 : S.size ≤ 44000 := by omega
            have g4 : ((P.size : Int) + (O.size : Int)).toNat = P.size + O.size := by omega
            have g5 : (0 : Int) ≤ (P.size : Int) + (O.size : Int) := by omega
            have a1 := fun w => run_string_add_sum (P := Tryd.prog) (w := w) P s (by omega)
            have a2 := fun w => run_string_add_sum (P := Tryd.prog) (w := w) (P ++ s) S (by rw [ByteArray.size_append]; omega)
            clear p3
            go_wp2_with fail
            go_quiet (fail)
            go_wp2_with fail
            go_ret
            exact ⟨rfl, (show Bel w _ from Bel.drewN (Bel.ext HW.out _) _)⟩
      · have hgr : getV (allV h xs t) i = (.empty, false) := getV_out (by omega)
        rw [hgr] at HPG
        have hwr : withR (allV h xs t) i s = (zeroD, 2) := by unfold withR; rw [if_neg hin]
        rw [hwr] at HPW
        simp only [getR] at HPG
        clear f1 hx hc hr l1 hf1 hlen hin hgr hwr
        go_enter Tryd.func5, Tryd.ntmps5
        go_wp2_with fail
        refine (HA.out _).mono ?_
        rintro e w1 ⟨rfl, hb⟩
        have HD0 : Hid (w1.heap[w.heap.size]? = some (.cells #[.string h, .slice ad n c, .string t] 24 (0, 0))) := (hb.block w.heap.size (by simp)).trans (row_new _ _ _)
        have c00 := row_cells HD0.out 0
        have c01 := row_cells HD0.out 1
        have c02 := row_cells HD0.out 2
        have HB1 : Hid (Below w.heap.size w w1) := ((Below.refl _ _).alloc (Nat.le_refl _) _).trans (hb.mono (by simp))
        clear hb
        go_wp2_with fail
        refine (HF1.out _ HB1.out).mono ?_
        rintro e w2 ⟨rfl, hb⟩
        clear c00 c01 c02
        have HD0 := Lib.hid ((hb.block _ (Array.getElem?_eq_some_iff.1 HD0.out).1).trans HD0.out)
        have c00 := row_cells HD0.out 0
        have c01 := row_cells HD0.out 1
        have c02 := row_cells HD0.out 2
        have HB2 : Hid (Below w.heap.size w w2) := HB1.out.trans (hb.mono HB1.out.size)
        clear hb
        go_wp2_with fail
        refine (HO1.out _ HB2.out).mono ?_
        rintro e w3 ⟨ad3, c3, rfl, hown, hnn, hb⟩
        clear c00 c01 c02
        have HD0 := Lib.hid ((hb.block _ (Array.getElem?_eq_some_iff.1 HD0.out).1).trans HD0.out)
        have c00 := row_cells HD0.out 0
        have c01 := row_cells HD0.out 1
        have c02 := row_cells HD0.out 2
        have HB3 : Hid (Below w.heap.size w w3) := HB2.out.trans (hb.mono HB2.out.size)
        obtain ⟨A3, rfl⟩ := Option.ne_none_iff_exists'.1 hnn
        have HS3 := Lib.hid (Own.sl hown)
        clear hb hown hnn
        go_wp2_with fail
        generalize hW4 : World.alloc w3 _ = w4
        replace hW4 := hW4.symm
        have hb : Below w3.heap.size w3 w4 := by rw [hW4]; exact (Below.refl _ _).alloc (Nat.le_refl _) _
        have HD1 : Hid (w4.heap[w3.heap.size]? = some (.cells #[.string h, .slice (some A3) xs.length c3, .string t] 31 (0, 0))) := by rw [hW4]; exact row_new _ _ _
        clear hW4
        clear c00 c01 c02
        have HD0 := Lib.hid ((hb.block _ (Array.getElem?_eq_some_iff.1 HD0.out).1).trans HD0.out)
        have c00 := row_cells HD0.out 0
        have c01 := row_cells HD0.out 1
        have c02 := row_cells HD0.out 2
        have c10 := row_cells HD1.out 0
        have c11 := row_cells HD1.out 1
        have c12 := row_cells HD1.out 2
        have HB4 : Hid (Below w.heap.size w w4) := HB3.out.trans (hb.mono HB3.out.size)
        have HS3 := Lib.hid (HS3.out.below hb)
        clear hb
        refine (HPW.out _ _ _ HS3.out).mono ?_
        rintro e w5 ⟨h7, xs7, t7, ad7, c7, hl7, rfl, hown, hnn7, hb⟩
        clear c00 c01 c02 c10 c11 c12
        have HD0 := Lib.hid ((hb.block _ (Array.getElem?_eq_some_iff.1 HD0.out).1).trans HD0.out)
        have c00 := row_cells HD0.out 0
        have c01 := row_cells HD0.out 1
        have c02 := row_cells HD0.out 2
        have HD1 := Lib.hid ((hb.block _ (Array.getElem?_eq_some_iff.1 HD1.out).1).trans HD1.out)
        have c10 := row_cells HD1.out 0
        have c11 := row_cells HD1.out 1
        have c12 := row_cells HD1.out 2
        have HB5 : Hid (Below w.heap.size w w5) := HB4.out.trans (hb.mono HB4.out.size)
        have HS3 := Lib.hid (HS3.out.below hb)
        have HS7 := Lib.hid (Own.sl hown)
        have HN7 := Lib.hid hnn7
        have HL7 := Lib.hid hl7
        clear hb hown hnn7 hl7
        have e10 := fun o => (World.cell?_alloc_some w5 _ o (by rw [c10]; rfl)).trans c10
        have e11 := fun o => (World.cell?_alloc_some w5 _ o (by rw [c11]; rfl)).trans c11
        have e12 := fun o => (World.cell?_alloc_some w5 _ o (by rw [c12]; rfl)).trans c12
        go_wp2_with fail
        clear e10 e11 e12
        generalize hW6 : World.alloc w5 _ = w6
        replace hW6 := hW6.symm
        have hb : Below w5.heap.size w5 w6 := by rw [hW6]; exact (Below.refl _ _).alloc (Nat.le_refl _) _
        have HD2 : Hid (w6.heap[w5.heap.size]? = some (.cells #[.string h7, .slice ad7 xs7.length c7, .string t7] 31 (0, 0))) := by rw [hW6]; exact row_new _ _ _
        clear hW6
        clear c00 c01 c02 c10 c11 c12
        have HD0 := Lib.hid ((hb.block _ (Array.getElem?_eq_some_iff.1 HD0.out).1).trans HD0.out)
        have c00 := row_cells HD0.out 0
        have c01 := row_cells HD0.out 1
        have c02 := row_cells HD0.out 2
        have HD1 := Lib.hid ((hb.block _ (Array.getElem?_eq_some_iff.1 HD1.out).1).trans HD1.out)
        have c10 := row_cells HD1.out 0
        have c11 := row_cells HD1.out 1
        have c12 := row_cells HD1.out 2
        have c20 := row_cells HD2.out 0
        have c21 := row_cells HD2.out 1
        have c22 := row_cells HD2.out 2
        have HB6 : Hid (Below w.heap.size w w6) := HB5.out.trans (hb.mono HB5.out.size)
        have HS3 := Lib.hid (HS3.out.below hb)
        have HS7 := Lib.hid (HS7.out.below hb)
        clear hb
        refine (HPG.out _ _ _ HS3.out).mono ?_
        rintro e w7 ⟨rfl, hb⟩
        clear c00 c01 c02 c10 c11 c12 c20 c21 c22
        have HD0 := Lib.hid ((hb.block _ (Array.getElem?_eq_some_iff.1 HD0.out).1).trans HD0.out)
        have c00 := row_cells HD0.out 0
        have c01 := row_cells HD0.out 1
        have c02 := row_cells HD0.out 2
        have HD1 := Lib.hid ((hb.block _ (Array.getElem?_eq_some_iff.1 HD1.out).1).trans HD1.out)
        have c10 := row_cells HD1.out 0
        have c11 := row_cells HD1.out 1
        have c12 := row_cells HD1.out 2
        have HD2 := Lib.hid ((hb.block _ (Array.getElem?_eq_some_iff.1 HD2.out).1).trans HD2.out)
        have c20 := row_cells HD2.out 0
        have c21 := row_cells HD2.out 1
        have c22 := row_cells HD2.out 2
        have HB7 : Hid (Below w.heap.size w w7) := HB6.out.trans (hb.mono HB6.out.size)
        have HS3 := Lib.hid (HS3.out.below hb)
        have HS7 := Lib.hid (HS7.out.below hb)
        clear hb
        go_wp2_with fail
        go_ret
        exact ⟨rfl, HB7.out⟩
end Go.Proofs.YtkkggpahanddnaaDoor
namespace Go.Proofs.YtkkggpahanddnaaDoor.lawPiecesOther
open Go.ChangeShapes Go.WideShapes Go.ChangeAt Go.RowKit Go.Joins
open Go.ChangeMaps (open_string shut_string)
set_option maxRecDepth 100000 in
theorem lifted (os : Os) (started : os.Started) (H : Type) (enc : TypeId × Value → H) :
    ReturnsInHanded {} Tryd.checked os 5 .any (fun w args => (Rows.piecesOtherSpec.pre enc Tryd.prog Tryd.f5 Rows.piecesOtherRow.domain false w args ∧ laidMetH Tryd.prog Rows.piecesOtherRow.laid w) ∧ sizedMet enc Tryd.prog Tryd.f5 (OpenSpec.ofChange Rows.piecesOtherSpec) false w args)
      (Rows.piecesOtherSpec.post enc Tryd.prog Tryd.f5 false true false false) := by
  refine returnsInHanded_of_change_and (C := Tryd.checked) (X := fun w _ => laidMetH Tryd.prog Rows.piecesOtherRow.laid w) (fun _ _ _ hh h => h.of_heap hh) own started (by kernel_rfl) Tryd.func5
    (ChangeSpec.witness_shaped (enc := enc) (C := Tryd.checked) (os := os) (X := fun w _ => laidMetH Tryd.prog Rows.piecesOtherRow.laid w) false (World.laidAll Tryd.prog os Rows.piecesOtherRow.laid) #[.agg #[.string .empty, .slice none 0 0, .string .empty], .int .i64 0, .string .empty] 8 (World.laidAll_os _ _ _)
      (World.shaped_of_ZipB (by kernel_rfl) (by kernel_rfl)) (by kernel_rfl) (by kernel_rfl) (by kernel_rfl)
      (by rw [MakeChecks.laidMetH_plain _ _ _ (by kernel_rfl)]; exact laidMet_laidAll _ (by kernel_rfl) (by kernel_rfl))) ?_
  intro W base args ds gs before hval0 hW _ hsz0 hL _
  have hval : ∀ (j : Nat) t v, Tryd.f5.params[j]? = some t → args[j]? = some v → Value.okWide Tryd.prog W .any base t v := hval0
  have hW' := hW
  obtain ⟨p, q, hA0, hV, rfl, hfz, hnd⟩ := hW
  have hA : DataW.TrodAll enc Tryd.prog W 0 (fun _ => true) true Tryd.f5.params.toList args.toList ds p := hA0
  rw [Tryd.params5] at hA hval
  obtain ⟨v0, vs0, d0, ds0, p0, q0, hargs, rfl, rfl, h0, r0⟩ := trodAll_cons hA
  obtain ⟨v1, vs1, d1, ds1, p1, q1, rfl, rfl, rfl, h1, r1⟩ := trodAll_cons r0
  obtain ⟨v2, vs2, d2, ds2, p2, q2, rfl, rfl, rfl, h2, r2⟩ := trodAll_cons r1
  obtain ⟨rfl, rfl, rfl⟩ := trodAll_nil r2
  obtain rfl : args = #[v0, v1, v2] := by cases args; simp_all
  obtain ⟨rfl, rfl⟩ := trodVars_none hV
  have k0 := h0
  have lt0 : ∀ x ∈ p0, x.block < W.heap.size := by obtain ⟨m, hm⟩ := k0; exact DataW.trod_lt m _ _ _ hm
  obtain ⟨cs0, rfl, hcs0⟩ := okWide_struct Tryd.underlying24 (hval 0 24 v0 rfl rfl)
  obtain ⟨fuel0, hf0⟩ := h0
  obtain ⟨hd0, tl0, ad0, n0, c0, xs0, hx0, hs0, hc0, hr0⟩ := doc_cells (rz_sized (by simpa [Value.cells] using hf0) hsz0 0 rfl rfl)
  obtain rfl : cs0 = #[.string hd0, .slice ad0 n0 c0, .string tl0] := Array.toList_inj.1 hx0
  obtain ⟨z1, rfl, rfl, rfl, hz1⟩ := open_int Tryd.underlying3 (hval 1 3 v1 rfl rfl) h1
  obtain ⟨s2, rfl, rfl, rfl, hs2⟩ := open_string Tryd.underlying9 (hval 2 9 v2 rfl rfl) h2
  clear hA0 hval0
  refine (piecesOther_walk hd0 tl0 ad0 n0 c0 xs0 z1 s2 W hs0 hc0 hr0 hz1 (by unfold maxLen at hs2; omega)).mono fun e W' ⟨he, bel⟩ => ?_
  subst he
  exact ⟨_, rfl, _, _, _, [], _, [], hW', trodAll_mk1 (shut_bool Tryd.underlying4 _), (trodAll_cons_mk (Below.trod laidOut (by kernel_rfl) (of_decide_eq_true (by kernel_rfl)) k0 bel lt0) (trodAll_cons_mk (shut_int Tryd.underlying3 hz1) (trodAll_cons_mk (shut_string Tryd.underlying9 hs2) trodAll_mk0))), rfl, bel.frame _, fun h => by cases h⟩

theorem proved : Rows.PiecesOtherSaid :=
  OpenClaim.holds_of_wide 5 Tryd.f5 rfl rfl rfl rfl rfl rfl rfl ⟨rfl, rfl, rfl, rfl, rfl⟩ rfl rfl rfl rfl rfl (by kernel_rfl) Tryd.func5 (by kernel_rfl)
    (of_decide_eq_true (by kernel_rfl)) (by unfold Func.isWrapper; first | (rw [if_pos (by decide +kernel)]; kernel_rfl) | (rw [if_neg (by decide +kernel)]; exact ⟨rfl, rfl⟩))
    (fun os started H enc _ => lifted os started H enc)
theorem card : Rows.PiecesOtherCardSaid :=
  Claim7.holds_tied_plain_at .later [] [.data, .data, .data] true (true, "efc16c150bd8a079ed20abb9e83b2512658c21054536f9f11f04808dc99df498") true proved (fun _ h => by cases h) (by kernel_rfl) (fun _ h => by cases h) piecesOther_row_tie rfl ⟨rfl, rfl⟩ (by kernel_rfl) rfl
    (fun f fn hf hfn => by
      obtain rfl : f = 5 := Option.some.inj ((show Tryd.prog.funcNamed "calque/calquelaw37.PiecesOther" = some 5 by kernel_rfl).symm.trans hf) |>.symm
      obtain rfl : fn = Tryd.f5 := (Option.some.inj (Tryd.func5.symm.trans hfn)).symm
      exact ⟨by kernel_rfl, fun j t ht => by
        rw [Tryd.params5] at ht
        have hm : t ∈ [24, 3, 9] := by simpa using Array.mem_of_getElem? ht
        have hall : ([24, 3, 9].all fun u => !Tryd.prog.wantsStandIn u) = true := by kernel_rfl
        exact (show Tryd.prog.wantsStandIn t = false by simpa using List.all_eq_true.1 hall t hm)⟩)
    (by kernel_rfl)
#print axioms card
end Go.Proofs.YtkkggpahanddnaaDoor.lawPiecesOther
