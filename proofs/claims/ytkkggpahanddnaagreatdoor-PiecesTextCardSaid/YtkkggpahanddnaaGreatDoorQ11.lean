/- Plain: where a piece's text is cut, and its number; the cell that strings.Index reads. -/
import Derived.Test.YtkkggpahanddnaaGreatDoorQ09
import Derived.Test.YtkkggpahanddnaaGreatDoorQ10
import Derived.Deep.DeepCutAuto
namespace Go.Proofs.YtkkggpahanddnaaGreatDoor
open Go.RowKit
theorem cut_at (ds r : List UInt8) (h : ∀ c ∈ ds, c ≠ 32) : Lib.cut (ds ++ 32 :: 34 :: r) [32, 34] = (ds, r, true) := by
  have e : Lib.index (ds ++ 32 :: 34 :: r) [32, 34] = (ds.length : Int) := by
    refine Lib.index_first (by simp) ?_ ?_
    · unfold Lib.occAt; rw [List.drop_left]; simp
    · intro j hj
      unfold Lib.occAt
      rw [List.drop_append_of_le_length (by omega), List.drop_eq_getElem_cons hj]
      have := h (ds[j]) (List.getElem_mem hj)
      simp only [List.cons_append, List.isPrefixOf, Bool.and_eq_false_imp]
      intro g
      exact absurd (beq_iff_eq.1 g).symm this
  unfold Lib.cut
  rw [e, if_pos (by omega), Int.toNat_natCast, List.take_left, ← List.drop_drop, List.drop_left]
  rfl
theorem itoa_le (n : Nat) (h : n ≤ 1001) : Lib.atoi (Lib.itoa (n : Int)) = some (n : Int) ∧ (Lib.itoa (n : Int)).all (· != 32) = true ∧ (Lib.itoa (n : Int)).length ≤ 4 := by
  have k : ∀ v : Fin 1002, Lib.atoi (Lib.itoa (v.1 : Int)) = some (v.1 : Int) ∧ (Lib.itoa (v.1 : Int)).all (· != 32) = true ∧ (Lib.itoa (v.1 : Int)).length ≤ 4 := by decide +kernel
  exact k ⟨n, by omega⟩
def MaxLen (w : World) : Prop := ∃ m, w.cell? ⟨0, 0, none⟩ = some (.int .i64 m)
theorem MaxLen.below {w w' : World} (h : MaxLen w) (hb : Below w.heap.size w w') : MaxLen w' := by
  obtain ⟨m, h⟩ := h
  exact ⟨m, (hb.cell (p := ⟨0, 0, none⟩) (World.block_lt_of_cell? w _ h)).trans h⟩
end Go.Proofs.YtkkggpahanddnaaGreatDoor
/- Walk: the program reads a piece's text back. -/
namespace Go.Proofs.YtkkggpahanddnaaGreatDoor
open Go.RowKit
attribute [local go_sem] Ext.cell Ext.frozen
attribute [local go_sem ↓] Go.wp_at_zero Go.wp_at_succ
theorem cut_calls (ds r : List UInt8) (h : ∀ c ∈ ds, c ≠ 32) (hs : (ds ++ 32 :: 34 :: r).length ≤ 1000000) (w : World) (hM : MaxLen w) :
    Calls Tryz.prog 26 #[.string (bs (ds ++ 32 :: 34 :: r)), .string ⟨#[32, 34]⟩] w fun e w' => e = .returned (.tuple #[.string (bs ds), .string (bs r), .bool true]) ∧ Below w.heap.size w w' := by
  obtain ⟨m, hm⟩ := hM
  refine (Tryz.strings_Cut (bs (ds ++ 32 :: 34 :: r)) ⟨#[32, 34]⟩ m w (by rw [bs_size]; omega) hm).mono ?_
  rintro e _ ⟨rfl, k, rfl⟩
  refine ⟨?_, below_drewN _ _⟩
  rw [bs_data, show (⟨#[32, 34]⟩ : ByteArray).data.toList = [32, 34] from rfl, cut_at ds r h]
  rfl
theorem atoi_calls (n : Nat) (hn : n ≤ 1001) (w : World) :
    Calls Tryz.prog 27 #[.string (bs (Lib.itoa (n : Int)))] w fun e w' => e = .returned (.tuple #[.int .i64 (n : Int), .nilIface]) ∧ Below w.heap.size w w' := by
  obtain ⟨hat, -, hlen⟩ := itoa_le n hn
  refine (Tryz.strconv_Atoi (bs (Lib.itoa (n : Int))) n (by rw [bs_size]; omega) (by rw [bs_data]; exact hat) w).mono ?_
  rintro e w' ⟨e0, t, hw⟩
  exact ⟨e0, by rw [hw]; exact bytes_below _ _ _⟩
theorem end_calls (x R : List UInt8) (hs : (escS x ++ 34 :: R).length ≤ 1000000) (w : World) :
    Calls Tryz.prog 28 #[.int .i64 2, .string (bs (escS x ++ 34 :: R)), .int .u8 34] w fun e w' => e = .returned (.int .i64 ((escS x).length : Int)) ∧ w = w' := by
  have := end_any (bs (escS x ++ 34 :: R)) w (by rw [bs_size]; exact hs)
  rw [bs_data, endV_some (endL_escS x R)] at this
  exact this
theorem below_set2 {base : Nat} {w W : World} {B : Nat} (h : Below base w W) (hB : base ≤ B) (x y : Value) : Below base w ((W.setCell ⟨B, 0, none⟩ x).setCell ⟨B, 1, none⟩ y) :=
  (h.setCell (p := ⟨B, 0, none⟩) hB x).setCell (p := ⟨B, 1, none⟩) hB y
theorem pc_set {w : World} {B : Nat} {a b : Value} {T : TypeId} (hk : w.heap[B]? = some (.cells #[a, b] T (0, 0))) (x y : Value) :
    ((w.setCell ⟨B, 0, none⟩ x).setCell ⟨B, 1, none⟩ y).cell? ⟨B, 0, none⟩ = some x ∧ ((w.setCell ⟨B, 0, none⟩ x).setCell ⟨B, 1, none⟩ y).cell? ⟨B, 1, none⟩ = some y := by
  have kr := row_set (row_set hk 0 x) 1 y
  exact ⟨(row_cells kr 0).trans rfl, (row_cells kr 1).trans rfl⟩
set_option maxRecDepth 20000 in
set_option maxHeartbeats 4000000 in
theorem piece_any (n : Nat) (x R : List UInt8) (w : World) (hn : n ≤ 1001) (hx : x.length ≤ 3000) (hR : R.length ≤ 400000) (hM : MaxLen w) :
    Calls Tryz.prog 14 #[.string (bs (txtP ((n : Int), bs x) ++ R))] w fun e w' => e = .returned (.tuple #[.agg #[.int .i64 (n : Int), .string (bs x)], .string (bs R), .bool true]) ∧ Below w.heap.size w w' := by
  obtain ⟨hat, hno, hlen⟩ := itoa_le n hn
  have hno' : ∀ c ∈ Lib.itoa (n : Int), c ≠ 32 := fun c hc => by have := List.all_eq_true.1 hno c hc; simpa using this
  have hL := escS_len x
  have e1 : txtP ((n : Int), bs x) ++ R = Lib.itoa (n : Int) ++ 32 :: 34 :: (escS x ++ 34 :: R) := by simp [txtP, bs_data]
  have hl1 : (escS x ++ 34 :: R).length ≤ 500000 := by simp only [List.length_append, List.length_cons]; omega
  have HCUT := Lib.hid (fun w h => cut_calls (Lib.itoa (n : Int)) (escS x ++ 34 :: R) hno' (by simp only [List.length_append, List.length_cons] at hl1 ⊢; omega) w h)
  have HAT := Lib.hid (fun w => atoi_calls n hn w)
  have HEND := Lib.hid (fun w => end_calls x R (by omega) w)
  have HUN := Lib.hid (fun w => unesc_any x w hx)
  have hc1 : (bs (escS x ++ 34 :: R)).extract 0 (escS x).length = bs (escS x) := by
    rw [bs_extract, List.take_left]; rfl
  have hc2 : (bs (escS x ++ 34 :: R)).extract ((escS x).length + 1) (bs (escS x ++ 34 :: R)).size = bs R := by
    have := cut_split (escS x ++ [34]) R
    simpa using this
  have hN1 : (escS x).length + 1 ≤ (bs (escS x ++ 34 :: R)).size := by rw [bs_size]; simp only [List.length_append, List.length_cons]; omega
  have hN2 : (bs (escS x ++ 34 :: R)).size ≤ 500000 := by rw [bs_size]; omega
  have HM := Lib.hid (fun w' (h : Below w.heap.size w w') => hM.below h)
  rw [e1]
  clear e1 hat hno hno' hlen hL hl1 hM hR hx
  generalize bs (Lib.itoa (n : Int) ++ 32 :: 34 :: (escS x ++ 34 :: R)) = S at *
  generalize bs (Lib.itoa (n : Int)) = D at *
  generalize bs (escS x ++ 34 :: R) = E at *
  generalize bs (escS x) = U at *
  generalize (escS x).length = N at *
  generalize bs x = X at *
  generalize bs R = Y at *
  go_enter Tryz.func14, Tryz.ntmps14
  go_wp2_with fail
  refine (HCUT.out _ (HM.out _ ((Below.refl _ _).alloc (Nat.le_refl _) _))).mono ?_
  rintro e w1 ⟨rfl, hb1⟩
  have HB1 : Hid (Below w.heap.size w w1) := ((Below.refl _ _).alloc (Nat.le_refl _) _).trans (hb1.mono (by simp))
  have HK1 : Hid (w1.heap[w.heap.size]? = some (.cells #[.int .i64 0, .string ⟨#[]⟩] 43 (0, 0))) := (hb1.block w.heap.size (by simp)).trans (row_new _ _ _)
  have z1 : w.heap.size + 1 ≤ w1.heap.size := by have := hb1.size; simpa using this
  clear hb1
  go_wp2_with fail
  refine (HAT.out _).mono ?_
  rintro e w2 ⟨rfl, hb2⟩
  have HB2 : Hid (Below w.heap.size w w2) := HB1.out.trans (hb2.mono (by omega))
  have HK2 : Hid (w2.heap[w.heap.size]? = some (.cells #[.int .i64 0, .string ⟨#[]⟩] 43 (0, 0))) := (hb2.block w.heap.size (by omega)).trans HK1.out
  have z2 : w.heap.size + 1 ≤ w2.heap.size := Nat.le_trans z1 hb2.size
  clear hb2 HB1 HK1 z1
  go_wp2_with fail
  refine (HEND.out _).mono ?_
  rintro e _ ⟨rfl, rfl⟩
  go_wp2_with fail
  refine (HUN.out _).mono ?_
  rintro e w3 ⟨rfl, hb3⟩
  have k3 : w3.heap[w.heap.size]? = some (.cells #[.int .i64 0, .string ⟨#[]⟩] 43 (0, 0)) := (hb3.block w.heap.size (by omega)).trans HK2.out
  have HB3 : Hid (Below w.heap.size w w3) := HB2.out.trans (hb3.mono (by omega))
  have g0 := row_cells k3 0
  have g1 := row_cells k3 1
  have f0 := row_frozen k3 0
  have f1 := row_frozen k3 1
  have HK3 := Lib.hid k3
  clear hb3 k3 HB2 HK2 z2
  go_wp2_with fail
  have d1 : IntKind.i64.wrap ((N : Int) + 1) = (N : Int) + 1 := by rw [IntKind.wrap_i64]; omega
  have d2 : ((N : Int) + 1).toNat = N + 1 := by omega
  have d3 : 0 ≤ (N : Int) + 1 := by omega
  have d4 : (N : Int) + 1 ≤ (E.size : Int) := by omega
  go_region_with (fail)
  all_goals
    go_wp2_with fail
    obtain ⟨y0, y1⟩ := pc_set HK3.out (.int .i64 (n : Int)) (.string X)
    exact bodyPost_ret (v := .tuple #[.agg #[.int .i64 (n : Int), .string X], .string Y, .bool true]) (by simp [results, Tryz.f14, go_sem, y0, y1]) rfl ⟨rfl, (below_set2 HB3.out (Nat.le_refl _) _ _).drew⟩
end Go.Proofs.YtkkggpahanddnaaGreatDoor
/- Walk: the program reads a valid layout's text back. -/
namespace Go.Proofs.YtkkggpahanddnaaGreatDoor
open Go.RowKit
attribute [local go_sem] Ext.cell Ext.frozen
attribute [local go_sem ↓] Go.wp_at_zero Go.wp_at_succ
/-- what stands behind a piece's text -/
def tailV : List (Int × ByteArray) → List UInt8
  | [] => []
  | q :: qs => 32 :: textV (q :: qs)
theorem textV_cons (p : Int × ByteArray) (qs : List (Int × ByteArray)) : textV (p :: qs) = txtP p ++ tailV qs := by
  cases qs with
  | nil => simp [textV, tailV, Lib.join_one]
  | cons q qs => simp [textV, tailV, Lib.join, List.intercalate]
theorem textV_nil : textV [] = [] := rfl
theorem trim_tailV (qs : List (Int × ByteArray)) : Lib.trimPrefix (tailV qs) [32] = textV qs := by
  cases qs with
  | nil => rfl
  | cons q qs => simp [tailV, Lib.trimPrefix, Lib.hasPrefix]
/-- pieces whose texts the program reads -/
def Good (ps : List (Int × ByteArray)) : Prop := ∀ p ∈ ps, 0 ≤ p.1 ∧ p.1 ≤ 1001 ∧ p.2.size ≤ 3000
theorem txtP_len {p : Int × ByteArray} (h : 0 ≤ p.1 ∧ p.1 ≤ 1001 ∧ p.2.size ≤ 3000) : (txtP p).length ≤ 12010 := by
  obtain ⟨h0, h1, h2⟩ := h
  have e : p.1 = ((p.1.toNat : Nat) : Int) := by omega
  have := (itoa_le p.1.toNat (by omega)).2.2
  rw [← e] at this
  have h3 := escS_len p.2.data.toList
  have h4 : p.2.data.toList.length = p.2.size := by rw [Array.length_toList]; rfl
  simp only [txtP, List.length_append, List.length_cons, List.length_nil]
  omega
theorem txtP_pos (p : Int × ByteArray) : 3 ≤ (txtP p).length := by simp only [txtP, List.length_append, List.length_cons, List.length_nil]; omega
theorem textV_len {ps : List (Int × ByteArray)} (h : Good ps) : (textV ps).length ≤ ps.length * 12011 := by
  have := join_len (ps.map txtP) 12010 (fun x hx => by obtain ⟨p, hp, rfl⟩ := List.mem_map.1 hx; exact txtP_len (h p hp))
  simpa [textV] using this
theorem tailV_len {ps : List (Int × ByteArray)} (h : Good ps) : (tailV ps).length ≤ ps.length * 12011 + 1 := by
  cases ps with
  | nil => simp [tailV]
  | cons p ps => have := textV_len h; simp only [tailV, List.length_cons] at this ⊢; omega
theorem piece_p (p : Int × ByteArray) (hp : 0 ≤ p.1 ∧ p.1 ≤ 1001 ∧ p.2.size ≤ 3000) (R : List UInt8) (w : World) (hR : R.length ≤ 400000) (hM : MaxLen w) :
    Calls Tryz.prog 14 #[.string (bs (txtP p ++ R))] w fun e w' => e = .returned (.tuple #[.agg #[.int .i64 p.1, .string p.2], .string (bs R), .bool true]) ∧ Below w.heap.size w w' := by
  obtain ⟨h0, h1, h2⟩ := hp
  have e1 : ((p.1.toNat : Nat) : Int) = p.1 := by omega
  have e2 : bs p.2.data.toList = p.2 := rfl
  have := piece_any p.1.toNat p.2.data.toList R w (by omega) (by rw [Array.length_toList]; exact h2) hR hM
  rw [e1, e2] at this
  exact this
theorem textV_drop (ps : List (Int × ByteArray)) : ∀ k, (textV (ps.drop k)).length ≤ (textV ps).length
  | 0 => Nat.le_refl _
  | k + 1 => by
    refine Nat.le_trans ?_ (textV_drop ps k)
    rw [show ps.drop (k + 1) = (ps.drop k).drop 1 by rw [List.drop_drop]]
    cases ps.drop k with
    | nil => exact Nat.le_refl _
    | cons p qs =>
      rw [textV_cons, List.length_append]
      show (textV qs).length ≤ _
      cases qs with
      | nil => exact Nat.zero_le _
      | cons q qs => simp only [tailV, List.length_cons]; omega
set_option maxRecDepth 20000 in
set_option maxHeartbeats 4000000 in
theorem parse_text3 (ps : List (Int × ByteArray)) (w : World) (hn : (textV ps).length ≤ 400000) (hc : ps.length ≤ 100000) (hs : ∀ p ∈ ps, p.2.size ≤ 3000) (hv : validV ps 1000 = true) (hM : MaxLen w) (ht : TabTen w) (hd : TabDeB w) :
    Calls Tryz.prog 6 #[.string (bs (textV ps))] w fun e w' => ∃ ad c, e = .returned (.tuple #[.slice ad ps.length c, .int .i64 0]) ∧ w'.ownsRow w.heap.size 43 2 (.slice ad ps.length c) ps.length (pcCells ps) ∧ Below w.heap.size w w' := by
  have hg : Good ps := fun p hp => by
    obtain ⟨i, hi, rfl⟩ := List.getElem_of_mem hp
    have := validV_at hv hi
    simp only [List.getD, List.getElem?_eq_getElem hi, Option.getD_some] at this
    exact ⟨this.1, by omega, hs _ hp⟩
  obtain ⟨i0, hi, hz0, hz1, hz2⟩ := info_parts infoPc
  have HI := Lib.hid hi
  have HZ0 := Lib.hid hz0
  have HZ1 := Lib.hid hz1
  have HZ2 := Lib.hid hz2
  have HG := Lib.hid hg
  have HM := Lib.hid (fun w' (h : Below w.heap.size w w') => hM.below h)
  have HT := Lib.hid (fun w' (h : Below w.heap.size w w') => ht.below h)
  have HD := Lib.hid (fun w' (h : Below w.heap.size w w') => hd.below h)
  have HV := Lib.hid (fun ad c w (h : Pc w ad ps.length ps) => pvalid_any ad ps.length c ps 1000 w h (fun p hp => by have := (hg p hp).2.1; omega))
  rw [hv] at HV
  have HX := Lib.hid (fun ad c w (h : Pc w ad ps.length ps) ht hd => text_all3 ad ps.length c ps w h (by omega) hs (fun p hp => by have := hg p hp; omega) ht hd)
  clear hi hz0 hz1 hz2 hg hM ht hd hs hv
  go_enter Tryz.func6, Tryz.ntmps6
  go_wp2_with fail
  go_loopw [4, 5] (fun o s wr => ∃ (k : Nat) (ad : Option Addr) (c : Nat), k ≤ ps.length ∧ o = .slice ad k c ∧ s = .string (bs (textV (ps.drop k))) ∧ wr.ownsRow w.heap.size 43 2 (.slice ad k c) k (pcCells (ps.take k)) ∧ Below w.heap.size w wr) (fun o _ _ => ps.length - (match o with | .slice _ k _ => k | _ => 0))
  case atStart => exact ⟨0, none, 0, Nat.zero_le _, rfl, rfl, by rw [List.take_zero]; exact World.ownsRow_nil _ _ _ _, Below.refl _ _⟩
  case round =>
    obtain ⟨k, ad, c, hk, rfl, rfl, hown, hbl⟩ := hrel
    have HOWN := Lib.hid hown
    have HBL := Lib.hid hbl
    have hzr := hbl.size
    clear hown hbl
    by_cases hlt : k < ps.length
    · have HTS : Hid (ps.take (k + 1) = ps.take k ++ [ps.getD k (0, .empty)]) := by
        unfold Hid
        rw [List.take_succ_eq_append_getElem hlt]
        simp [List.getD, List.getElem?_eq_getElem hlt]
      have hdr : ps.drop k = ps.getD k (0, .empty) :: ps.drop (k + 1) := by
        rw [List.drop_eq_getElem_cons hlt]; simp [List.getD, List.getElem?_eq_getElem hlt]
      have hmem : ps.getD k (0, .empty) ∈ ps := by simp [List.getD, List.getElem?_eq_getElem hlt]
      have hgk := HG.out _ hmem
      have hgt : Good (ps.drop (k + 1)) := fun p hp => HG.out p (List.mem_of_mem_drop hp)
      have hlt2 := textV_drop ps k
      rw [hdr, textV_cons, List.length_append] at hlt2
      have HPC := Lib.hid (fun w h => piece_p (ps.getD k (0, .empty)) hgk (tailV (ps.drop (k + 1))) w (by omega) h)
      have HTR : Hid (∀ w, Calls Tryz.prog 15 #[.string (bs (tailV (ps.drop (k + 1)))), .string ⟨#[32]⟩] w fun e w' => e = .returned (.string (bs (textV (ps.drop (k + 1))))) ∧ w' = w) := by
        intro w
        have := Tryz.strings_TrimPrefix (bs (tailV (ps.drop (k + 1)))) ⟨#[32]⟩ w
        rw [bs_data, show (⟨#[32]⟩ : ByteArray).data.toList = [32] from rfl, trim_tailV] at this
        exact this
      have hne : (bs (textV (ps.drop k))).toList.isEmpty = false := by
        rw [bs_toList, hdr, textV_cons]
        cases h : txtP (ps.getD k (0, .empty)) ++ tailV (ps.drop (k + 1)) with
        | nil =>
          have h1 := congrArg List.length h
          rw [List.length_append] at h1
          have := txtP_pos (ps.getD k (0, .empty))
          simp only [List.length_nil] at h1
          omega
        | cons _ _ => rfl
      rw [← textV_cons, ← hdr] at HPC
      clear hdr hmem hgk hgt hlt2
      generalize bs (textV (ps.drop k)) = S at *
      obtain ⟨T, hT⟩ : ∃ T, bs (textV (ps.drop (k + 1))) = T := ⟨_, rfl⟩
      rw [hT] at HTR
      have HTT := Lib.hid hT
      clear hT
      generalize bs (tailV (ps.drop (k + 1))) = U at *
      generalize ps.getD k (0, .empty) = p at *
      obtain ⟨p0, p1⟩ := p
      simp only at HPC
      go_wp2_with fail
      refine (HPC.out _ (HM.out _ HBL.out)).mono ?_
      rintro e w1 ⟨rfl, hb1⟩
      go_upto_region 7 with (fail)
      refine wp_at_worldH ?_
      intro W hW
      have hbW : Below w1.heap.size w1 W := by rw [hW]; exact (Below.refl _ _).alloc (Nat.le_refl _) _
      have kW : W.heap[w1.heap.size]? = some (.cells #[.int .i64 p0, .string p1] 43 (0, 0)) := by rw [hW]; exact row_new _ _ _
      have c0 := row_cells kW 0
      have c1 := row_cells kW 1
      have HOW := Lib.hid (own_below2 (own_below2 HOWN.out hb1) hbW)
      have HBW : Hid (Below w.heap.size w W) := (HBL.out.trans (hb1.mono hzr)).trans (hbW.mono (Nat.le_trans hzr hb1.size))
      have hzW := HBW.out.size
      clear hW hbW kW hb1 HPC
      go_wp2_with (at_builtin; refine wpList_app2 25 43 Tryz.underlying25 i0 _ HI.out HZ0.out HZ1.out HZ2.out rfl rfl _ _ rfl w.heap.size ad k c _ rfl HOW.out _ _ _ rfl rfl rfl (by omega) hzW ?_; intro ad6 c6 w3 hown3 hb3 hg3 hz3; have HOWN3 := Lib.hid hown3; have HB3 := Lib.hid hb3; clear hown3 hb3 hg3 hz3)
      refine (HTR.out _).mono ?_
      rintro e _ ⟨rfl, rfl⟩
      go_wp2_with fail
      go_roundw
      case rel => exact ⟨k + 1, ad6, c6, hlt, rfl, by rw [HTT.out], by rw [HTS.out, pcCells_snoc]; exact HOWN3.out, HBW.out.trans HB3.out⟩
      case measure => simp; omega
    · obtain rfl : k = ps.length := by omega
      have he : (bs (textV (ps.drop ps.length))).toList.isEmpty = true := by rw [bs_toList, List.drop_length]; rfl
      have h1 := HOWN.out
      rw [List.take_length] at h1
      have HPS : Hid (Pc wr ad ps.length ps) := own_pc h1
      have HO := Lib.hid h1
      clear h1 HOWN
      generalize bs (textV (ps.drop ps.length)) = S at *
      go_wp2_with fail
      refine (HV.out _ _ _ HPS.out).mono ?_
      rintro e w1 ⟨rfl, hb1⟩
      have HB1 : Hid (Below w.heap.size w w1) := HBL.out.trans (hb1.mono hzr)
      have HO1 := Lib.hid (own_below2 HO.out hb1)
      have HP1 : Hid (Pc w1 ad ps.length ps) := HPS.out.below hb1
      have hz1 := HB1.out.size
      clear hb1 HO HPS
      go_wp2_with fail
      refine (HX.out _ _ _ HP1.out (HT.out _ HB1.out) (HD.out _ HB1.out)).mono ?_
      rintro e w2 ⟨rfl, hb2⟩
      have HB2 : Hid (Below w.heap.size w w2) := HB1.out.trans (hb2.mono hz1)
      have HO2 := Lib.hid (own_below2 HO1.out hb2)
      clear hb2 HO1 HP1
      go_wp2_with fail
      go_ret2
      exact ⟨ad, c, rfl, HO2.out, HB2.out⟩
theorem parse_text (ps : List (Int × ByteArray)) (w : World) (hn : ps.length ≤ 30) (hs : ∀ p ∈ ps, p.2.size ≤ 2000) (hv : validV ps 1000 = true) (hM : MaxLen w) (ht : TabTen w) (hd : TabDeB w) :
    Calls Tryz.prog 6 #[.string (bs (textV ps))] w fun e w' => ∃ ad c, e = .returned (.tuple #[.slice ad ps.length c, .int .i64 0]) ∧ w'.ownsRow w.heap.size 43 2 (.slice ad ps.length c) ps.length (pcCells ps) ∧ Below w.heap.size w w' :=
  parse_text3 ps w (by
    have hg : Good ps := fun p hp => by
      obtain ⟨i, hi, rfl⟩ := List.getElem_of_mem hp
      have := validV_at hv hi
      simp only [List.getD, List.getElem?_eq_getElem hi, Option.getD_some] at this
      exact ⟨this.1, by omega, Nat.le_trans (hs _ hp) (by decide)⟩
    have := textV_len hg
    omega) (by omega) (fun p h => Nat.le_trans (hs p h) (by decide)) hv hM ht hd
end Go.Proofs.YtkkggpahanddnaaGreatDoor
/- Plain: different valid layouts have different texts; the laid tables of the rows of Text. -/
namespace Go.Proofs.YtkkggpahanddnaaGreatDoor
open Go.RowKit
theorem escC_pre : ∀ c d : Fin 256, (escC (UInt8.ofNat c.1)).isPrefixOf (escC (UInt8.ofNat d.1)) = true → c = d := by decide +kernel
theorem u8_fin (c : UInt8) : ∃ f : Fin 256, UInt8.ofNat f.1 = c := ⟨⟨c.toNat, c.toNat_lt⟩, by simp⟩
theorem escC_prefix {c d : UInt8} (h : escC c <+: escC d) : c = d := by
  obtain ⟨f, rfl⟩ := u8_fin c
  obtain ⟨g, rfl⟩ := u8_fin d
  rw [escC_pre f g (List.isPrefixOf_iff_prefix.2 h)]
theorem escC_ne (c : UInt8) : escC c ≠ [] := by unfold escC; (repeat' split) <;> simp
theorem escS_inj : ∀ {x y : List UInt8}, escS x = escS y → x = y
  | [], [], _ => rfl
  | [], d :: y, h => by
    have : escS (d :: y) = escC d ++ escS y := rfl
    rw [this] at h
    exact absurd (List.append_eq_nil_iff.1 h.symm).1 (escC_ne d)
  | c :: x, [], h => by
    have : escS (c :: x) = escC c ++ escS x := rfl
    rw [this] at h
    exact absurd (List.append_eq_nil_iff.1 h).1 (escC_ne c)
  | c :: x, d :: y, h => by
    have h1 : escC c ++ escS x = escC d ++ escS y := h
    have h2 : c = d := by
      have p1 : escC c <+: escC c ++ escS x := List.prefix_append _ _
      have p2 : escC d <+: escC c ++ escS x := by rw [h1]; exact List.prefix_append _ _
      by_cases hl : (escC c).length ≤ (escC d).length
      · exact escC_prefix (List.prefix_of_prefix_length_le p1 p2 hl)
      · exact (escC_prefix (List.prefix_of_prefix_length_le p2 p1 (by omega))).symm
    subst h2
    rw [escS_inj (List.append_cancel_left h1)]
theorem txtP_inj {p q : Int × ByteArray} {R T : List UInt8} (hp : 0 ≤ p.1 ∧ p.1 ≤ 1001) (hq : 0 ≤ q.1 ∧ q.1 ≤ 1001) (h : txtP p ++ R = txtP q ++ T) : p = q ∧ R = T := by
  have k : ∀ (p : Int × ByteArray), 0 ≤ p.1 ∧ p.1 ≤ 1001 → ∀ R, Lib.cut (txtP p ++ R) [32, 34] = (Lib.itoa p.1, escS p.2.data.toList ++ 34 :: R, true) ∧ Lib.atoi (Lib.itoa p.1) = some p.1 := by
    intro p hp R
    have e : ((p.1.toNat : Nat) : Int) = p.1 := by omega
    obtain ⟨hat, hno, -⟩ := itoa_le p.1.toNat (by omega)
    rw [e] at hat hno
    refine ⟨?_, hat⟩
    have := cut_at (Lib.itoa p.1) (escS p.2.data.toList ++ 34 :: R) (fun c hc => by have := List.all_eq_true.1 hno c hc; simpa using this)
    rw [← this]
    congr 1
    simp [txtP]
  have h1 := (k p hp R).1
  rw [h, (k q hq T).1] at h1
  injection h1 with e1 e2
  injection e2 with e2 _
  have e3 : p.1 = q.1 := by
    have := (k p hp R).2
    rw [← e1, (k q hq T).2] at this
    exact (Option.some.inj this).symm
  have e4 : (escS p.2.data.toList).length = (escS q.2.data.toList).length := by
    have := endL_escS p.2.data.toList R
    rw [← e2, endL_escS q.2.data.toList T] at this
    exact (Option.some.inj this).symm
  obtain ⟨e5, e6⟩ := List.append_inj e2 e4.symm
  have e7 := escS_inj e5
  have e8 : q.2 = p.2 := ByteArray.ext (Array.toList_inj.1 e7)
  exact ⟨Prod.ext e3 e8.symm, by injection e6 with _ e; exact e.symm⟩
theorem textV_inj : ∀ {ps qs : List (Int × ByteArray)}, Good ps → Good qs → textV ps = textV qs → ps = qs
  | [], [], _, _, _ => rfl
  | [], q :: qs, _, _, h => by
    rw [textV_cons, textV_nil] at h
    have h1 := congrArg List.length h
    have := txtP_pos q
    rw [List.length_append, List.length_nil] at h1
    omega
  | p :: ps, [], _, _, h => by
    rw [textV_cons, textV_nil] at h
    have h1 := congrArg List.length h
    have := txtP_pos p
    rw [List.length_append, List.length_nil] at h1
    omega
  | p :: ps, q :: qs, hp, hq, h => by
    rw [textV_cons, textV_cons] at h
    obtain ⟨e1, e2⟩ := txtP_inj ⟨(hp p (List.mem_cons_self ..)).1, (hp p (List.mem_cons_self ..)).2.1⟩ ⟨(hq q (List.mem_cons_self ..)).1, (hq q (List.mem_cons_self ..)).2.1⟩ h
    have e3 : textV ps = textV qs := by rw [← trim_tailV ps, ← trim_tailV qs, e2]
    rw [e1, textV_inj (fun r hr => hp r (List.mem_cons_of_mem _ hr)) (fun r hr => hq r (List.mem_cons_of_mem _ hr)) e3]
theorem good_of {ps : List (Int × ByteArray)} (hv : validV ps 1000 = true) (hs : ∀ p ∈ ps, p.2.size ≤ 2000) : Good ps := fun p hp => by
  obtain ⟨i, hi, rfl⟩ := List.getElem_of_mem hp
  have := validV_at hv hi
  simp only [List.getD, List.getElem?_eq_getElem hi, Option.getD_some] at this
  exact ⟨this.1, by omega, Nat.le_trans (hs _ hp) (by decide)⟩
end Go.Proofs.YtkkggpahanddnaaGreatDoor
