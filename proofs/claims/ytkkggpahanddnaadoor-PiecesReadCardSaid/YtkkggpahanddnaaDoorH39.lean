/- Walk: the program reads a valid layout's text back. -/
import Derived.Test.YtkkggpahanddnaaDoorH38
import Derived.Deep.DeepCutAuto
namespace Go.Proofs.YtkkggpahanddnaaDoor
open Go.RowKit
attribute [local go_sem] Ext.cell Ext.frozen
attribute [local go_sem ↓] Go.wp_at_zero Go.wp_at_succ
/-- what stands behind a piece's text -/
def tailV : List (Int × ByteArray) → List UInt8
  | [] => []
  | q :: qs => 32 :: textV (q :: qs)
theorem textV_cons (p : Int × ByteArray) (qs : List (Int × ByteArray)) : textV (p :: qs) = txtP p ++ tailV qs := by
  cases qs with
  | nil => simp [textV, tailV, Lib.join_one]
  | cons q qs => simp [textV, tailV, Lib.join, List.intercalate]
theorem textV_nil : textV [] = [] := rfl
theorem trim_tailV (qs : List (Int × ByteArray)) : Lib.trimPrefix (tailV qs) [32] = textV qs := by
  cases qs with
  | nil => rfl
  | cons q qs => simp [tailV, Lib.trimPrefix, Lib.hasPrefix]
/-- pieces whose texts the program reads -/
def Good (ps : List (Int × ByteArray)) : Prop := ∀ p ∈ ps, 0 ≤ p.1 ∧ p.1 ≤ 1001 ∧ p.2.size ≤ 2000
theorem txtP_len {p : Int × ByteArray} (h : 0 ≤ p.1 ∧ p.1 ≤ 1001 ∧ p.2.size ≤ 2000) : (txtP p).length ≤ 8010 := by
  obtain ⟨h0, h1, h2⟩ := h
  have e : p.1 = ((p.1.toNat : Nat) : Int) := by omega
  have := (itoa_le p.1.toNat (by omega)).2.2
  rw [← e] at this
  have h3 := escS_len p.2.data.toList
  have h4 : p.2.data.toList.length = p.2.size := by rw [Array.length_toList]; rfl
  simp only [txtP, List.length_append, List.length_cons, List.length_nil]
  omega
theorem txtP_pos (p : Int × ByteArray) : 3 ≤ (txtP p).length := by simp only [txtP, List.length_append, List.length_cons, List.length_nil]; omega
theorem textV_len {ps : List (Int × ByteArray)} (h : Good ps) : (textV ps).length ≤ ps.length * 8011 := by
  have := join_len (ps.map txtP) 8010 (fun x hx => by obtain ⟨p, hp, rfl⟩ := List.mem_map.1 hx; exact txtP_len (h p hp))
  simpa [textV] using this
theorem tailV_len {ps : List (Int × ByteArray)} (h : Good ps) : (tailV ps).length ≤ ps.length * 8011 + 1 := by
  cases ps with
  | nil => simp [tailV]
  | cons p ps => have := textV_len h; simp only [tailV, List.length_cons] at this ⊢; omega
theorem piece_p (p : Int × ByteArray) (hp : 0 ≤ p.1 ∧ p.1 ≤ 1001 ∧ p.2.size ≤ 2000) (R : List UInt8) (w : World) (hR : R.length ≤ 300000) (hM : MaxLen w) :
    Calls Tryd.prog 43 #[.string (bs (txtP p ++ R))] w fun e w' => e = .returned (.tuple #[.agg #[.int .i64 p.1, .string p.2], .string (bs R), .bool true]) ∧ Below w.heap.size w w' := by
  obtain ⟨h0, h1, h2⟩ := hp
  have e1 : ((p.1.toNat : Nat) : Int) = p.1 := by omega
  have e2 : bs p.2.data.toList = p.2 := rfl
  have := piece_any p.1.toNat p.2.data.toList R w (by omega) (by rw [Array.length_toList]; exact h2) hR hM
  rw [e1, e2] at this
  exact this
set_option maxRecDepth 20000 in
set_option maxHeartbeats 4000000 in
theorem parse_text (ps : List (Int × ByteArray)) (w : World) (hn : ps.length ≤ 30) (hs : ∀ p ∈ ps, p.2.size ≤ 2000) (hv : validV ps 1000 = true) (hM : MaxLen w) (ht : TabTen w) (hd : TabDeB w) :
    Calls Tryd.prog 32 #[.string (bs (textV ps))] w fun e w' => ∃ ad c, e = .returned (.tuple #[.slice ad ps.length c, .int .i64 0]) ∧ w'.ownsRow w.heap.size 66 2 (.slice ad ps.length c) ps.length (pcCells ps) ∧ Below w.heap.size w w' := by
  have hg : Good ps := fun p hp => by
    obtain ⟨i, hi, rfl⟩ := List.getElem_of_mem hp
    have := validV_at hv hi
    simp only [List.getD, List.getElem?_eq_getElem hi, Option.getD_some] at this
    exact ⟨this.1, by omega, hs _ hp⟩
  obtain ⟨i0, hi, hz0, hz1, hz2⟩ := info_parts infoPc
  have HI := Lib.hid hi
  have HZ0 := Lib.hid hz0
  have HZ1 := Lib.hid hz1
  have HZ2 := Lib.hid hz2
  have HG := Lib.hid hg
  have HM := Lib.hid (fun w' (h : Below w.heap.size w w') => hM.below h)
  have HT := Lib.hid (fun w' (h : Below w.heap.size w w') => ht.below h)
  have HD := Lib.hid (fun w' (h : Below w.heap.size w w') => hd.below h)
  have HV := Lib.hid (fun ad c w (h : Pc w ad ps.length ps) => pvalid_any ad ps.length c ps 1000 w h (fun p hp => by have := (hg p hp).2.1; omega))
  rw [hv] at HV
  have HX := Lib.hid (fun ad c w (h : Pc w ad ps.length ps) ht hd => text_all ad ps.length c ps w h (by omega) hs (fun p hp => by have := hg p hp; omega) ht hd)
  clear hi hz0 hz1 hz2 hg hM ht hd hs hv
  go_enter Tryd.func32, Tryd.ntmps32
  go_wp2_with fail
  go_loopw [4, 5] (fun o s wr => ∃ (k : Nat) (ad : Option Addr) (c : Nat), k ≤ ps.length ∧ o = .slice ad k c ∧ s = .string (bs (textV (ps.drop k))) ∧ wr.ownsRow w.heap.size 66 2 (.slice ad k c) k (pcCells (ps.take k)) ∧ Below w.heap.size w wr) (fun o _ _ => ps.length - (match o with | .slice _ k _ => k | _ => 0))
  case atStart => exact ⟨0, none, 0, Nat.zero_le _, rfl, rfl, by rw [List.take_zero]; exact World.ownsRow_nil _ _ _ _, Below.refl _ _⟩
  case round =>
    obtain ⟨k, ad, c, hk, rfl, rfl, hown, hbl⟩ := hrel
    have HOWN := Lib.hid hown
    have HBL := Lib.hid hbl
    have hzr := hbl.size
    clear hown hbl
    by_cases hlt : k < ps.length
    · have HTS : Hid (ps.take (k + 1) = ps.take k ++ [ps.getD k (0, .empty)]) := by
        unfold Hid
        rw [List.take_succ_eq_append_getElem hlt]
        simp [List.getD, List.getElem?_eq_getElem hlt]
      have hdr : ps.drop k = ps.getD k (0, .empty) :: ps.drop (k + 1) := by
        rw [List.drop_eq_getElem_cons hlt]; simp [List.getD, List.getElem?_eq_getElem hlt]
      have hmem : ps.getD k (0, .empty) ∈ ps := by simp [List.getD, List.getElem?_eq_getElem hlt]
      have hgk := HG.out _ hmem
      have hgt : Good (ps.drop (k + 1)) := fun p hp => HG.out p (List.mem_of_mem_drop hp)
      have hlt2 := tailV_len hgt
      have hdl : (ps.drop (k + 1)).length ≤ 30 := by rw [List.length_drop]; omega
      have HPC := Lib.hid (fun w h => piece_p (ps.getD k (0, .empty)) hgk (tailV (ps.drop (k + 1))) w (by omega) h)
      have HTR : Hid (∀ w, Calls Tryd.prog 44 #[.string (bs (tailV (ps.drop (k + 1)))), .string ⟨#[32]⟩] w fun e w' => e = .returned (.string (bs (textV (ps.drop (k + 1))))) ∧ w' = w) := by
        intro w
        have := Tryd.strings_TrimPrefix (bs (tailV (ps.drop (k + 1)))) ⟨#[32]⟩ w
        rw [bs_data, show (⟨#[32]⟩ : ByteArray).data.toList = [32] from rfl, trim_tailV] at this
        exact this
      have hne : (bs (textV (ps.drop k))).toList.isEmpty = false := by
        rw [bs_toList, hdr, textV_cons]
        cases h : txtP (ps.getD k (0, .empty)) ++ tailV (ps.drop (k + 1)) with
        | nil =>
          have h1 := congrArg List.length h
          rw [List.length_append] at h1
          have := txtP_pos (ps.getD k (0, .empty))
          simp only [List.length_nil] at h1
          omega
        | cons _ _ => rfl
      rw [← textV_cons, ← hdr] at HPC
      clear hdr hmem hgk hgt hlt2 hdl
      generalize bs (textV (ps.drop k)) = S at *
      obtain ⟨T, hT⟩ : ∃ T, bs (textV (ps.drop (k + 1))) = T := ⟨_, rfl⟩
      rw [hT] at HTR
      have HTT := Lib.hid hT
      clear hT
      generalize bs (tailV (ps.drop (k + 1))) = U at *
      generalize ps.getD k (0, .empty) = p at *
      obtain ⟨p0, p1⟩ := p
      simp only at HPC
      go_wp2_with fail
      refine (HPC.out _ (HM.out _ HBL.out)).mono ?_
      rintro e w1 ⟨rfl, hb1⟩
      go_upto_region 7 with (fail)
      refine wp_at_worldH ?_
      intro W hW
      have hbW : Below w1.heap.size w1 W := by rw [hW]; exact (Below.refl _ _).alloc (Nat.le_refl _) _
      have kW : W.heap[w1.heap.size]? = some (.cells #[.int .i64 p0, .string p1] 66 (0, 0)) := by rw [hW]; exact row_new _ _ _
      have c0 := row_cells kW 0
      have c1 := row_cells kW 1
      have HOW := Lib.hid (own_below2 (own_below2 HOWN.out hb1) hbW)
      have HBW : Hid (Below w.heap.size w W) := (HBL.out.trans (hb1.mono hzr)).trans (hbW.mono (Nat.le_trans hzr hb1.size))
      have hzW := HBW.out.size
      clear hW hbW kW hb1 HPC
      go_wp2_with (at_builtin; refine wpList_app2 27 66 Tryd.underlying27 i0 _ HI.out HZ0.out HZ1.out HZ2.out rfl rfl _ _ rfl w.heap.size ad k c _ rfl HOW.out _ _ _ rfl rfl rfl (by omega) hzW ?_; intro ad6 c6 w3 hown3 hb3 hg3 hz3; have HOWN3 := Lib.hid hown3; have HB3 := Lib.hid hb3; clear hown3 hb3 hg3 hz3)
      refine (HTR.out _).mono ?_
      rintro e _ ⟨rfl, rfl⟩
      go_wp2_with fail
      go_roundw
      case rel => exact ⟨k + 1, ad6, c6, hlt, rfl, by rw [HTT.out], by rw [HTS.out, pcCells_snoc]; exact HOWN3.out, HBW.out.trans HB3.out⟩
      case measure => simp; omega
    · obtain rfl : k = ps.length := by omega
      have he : (bs (textV (ps.drop ps.length))).toList.isEmpty = true := by rw [bs_toList, List.drop_length]; rfl
      have h1 := HOWN.out
      rw [List.take_length] at h1
      have HPS : Hid (Pc wr ad ps.length ps) := own_pc h1
      have HO := Lib.hid h1
      clear h1 HOWN
      generalize bs (textV (ps.drop ps.length)) = S at *
      go_wp2_with fail
      refine (HV.out _ _ _ HPS.out).mono ?_
      rintro e w1 ⟨rfl, hb1⟩
      have HB1 : Hid (Below w.heap.size w w1) := HBL.out.trans (hb1.mono hzr)
      have HO1 := Lib.hid (own_below2 HO.out hb1)
      have HP1 : Hid (Pc w1 ad ps.length ps) := HPS.out.below hb1
      have hz1 := HB1.out.size
      clear hb1 HO HPS
      go_wp2_with fail
      refine (HX.out _ _ _ HP1.out (HT.out _ HB1.out) (HD.out _ HB1.out)).mono ?_
      rintro e w2 ⟨rfl, hb2⟩
      have HB2 : Hid (Below w.heap.size w w2) := HB1.out.trans (hb2.mono hz1)
      have HO2 := Lib.hid (own_below2 HO1.out hb2)
      clear hb2 HO1 HP1
      go_wp2_with fail
      go_ret2
      exact ⟨ad, c, rfl, HO2.out, HB2.out⟩
end Go.Proofs.YtkkggpahanddnaaDoor
