/- Walks: the program's Apply. -/
import Derived.Test.YtkkggpahanddnaaDoorH13
namespace Go.Proofs.YtkkggpahanddnaaDoor
open Go.RowKit
attribute [local go_sem] Ext.cell Ext.frozen
attribute [local go_sem ↓] Go.wp_at_zero Go.wp_at_succ

set_option maxRecDepth 20000 in
set_option maxHeartbeats 4000000 in
theorem papply_no (h t : ByteArray) (ad : Option Addr) (n c : Nat) (ad' : Option Addr) (m c' : Nat) (ps : List (Int × ByteArray)) (w : World) (hp : Pc w ad' m ps) (hbd : ∀ p ∈ ps, p.1 ≤ 9223372036854775807) (hv : validV ps (n : Int) = false) :
    Calls Tryd.prog 26 #[.agg #[.string h, .slice ad n c, .string t], .slice ad' m c'] w fun e w' => e = .returned (.tuple #[.agg #[.string ⟨#[]⟩, .slice none 0 0, .string ⟨#[]⟩], .int .i64 1]) ∧ Below w.heap.size w w' := by
  have HV : Hid (∀ w', Below w.heap.size w w' → Calls Tryd.prog 29 #[.slice ad' m c', .int .i64 (n : Int)] w' fun e w'' => e = .returned (.bool (validV ps (n : Int))) ∧ Below w'.heap.size w' w'') := fun w' g => pvalid_any ad' m c' ps (n : Int) w' (hp.below g) hbd
  rw [hv] at HV
  clear hp hbd hv
  go_enter Tryd.func26, Tryd.ntmps26
  go_wp2_with fail
  refine (HV.out _ (((Below.refl _ _).alloc (Nat.le_refl _) _).alloc (by simp) _)).mono ?_
  rintro e w1 ⟨rfl, hb⟩
  have ks := (hb.block (w.heap.size + 1) (by simp)).trans (row_new2 _ _ _ _)
  have g0 := row_cells ks 0
  have g1 := row_cells ks 1
  have g2 := row_cells ks 2
  have f0 := row_frozen ks 0
  have f1 := row_frozen ks 1
  have f2 := row_frozen ks 2
  have HB : Hid (Below w.heap.size w w1) := (((Below.refl _ _).alloc (Nat.le_refl _) _).alloc (by simp) _).trans (hb.mono (by simp; omega))
  have HK := Lib.hid ks
  clear hb ks
  go_wp2_with fail
  obtain ⟨q0, q1, q2⟩ := doc_set HK.out (.string ⟨#[]⟩) (.slice none 0 0) (.string ⟨#[]⟩)
  exact bodyPost_ret (v := .tuple #[.agg #[.string ⟨#[]⟩, .slice none 0 0, .string ⟨#[]⟩], .int .i64 1]) (by simp [results, Tryd.f26, go_sem, q0, q1, q2]) rfl ⟨rfl, below_set3 HB.out (by omega) _ _ _⟩
set_option maxRecDepth 20000 in
set_option maxHeartbeats 8000000 in
theorem papply_yes (h t : ByteArray) (A : Addr) (n c : Nat) (xs : List ByteArray) (ad' : Option Addr) (m c' : Nat) (ps : List (Int × ByteArray)) (h' : ByteArray) (xs' : List ByteArray) (t' : ByteArray) (w : World) (hx : Sl w (some A) n (strs xs)) (hn : n ≤ 10000)
    (hp : Pc w ad' m ps) (hbd : ∀ p ∈ ps, p.1 ≤ 9223372036854775807) (hv : validV ps (n : Int) = true) (he : applyV (allV h xs t) ps = allV h' xs' t') :
    Calls Tryd.prog 26 #[.agg #[.string h, .slice (some A) n c, .string t], .slice ad' m c'] w (DocErr w h' xs' t') := by
  have HV : Hid (∀ w', Below w.heap.size w w' → Calls Tryd.prog 29 #[.slice ad' m c', .int .i64 (n : Int)] w' fun e w'' => e = .returned (.bool (validV ps (n : Int))) ∧ Below w'.heap.size w' w'') := fun w' g => pvalid_any ad' m c' ps (n : Int) w' (hp.below g) hbd
  rw [hv] at HV
  have hnm := hp.max
  have HLP := Lib.hid hp.len
  obtain ⟨b, off, hp⟩ := hp
  have HP := Lib.hid hp
  have hl : xs.length = n := by have := hx.len; rwa [strs_length] at this
  have HX := Lib.hid hx
  have HL := Lib.hid hl
  have HE := Lib.hid he
  have HVV := Lib.hid hv
  clear hx hp hbd hv he hl
  go_enter Tryd.func26, Tryd.ntmps26
  go_wp2_with fail
  refine (HV.out _ (((Below.refl _ _).alloc (Nat.le_refl _) _).alloc (by simp) _)).mono ?_
  rintro e w1 ⟨rfl, hb⟩
  have kr := (hb.block (w.heap.size + 1) (by simp)).trans (row_new2 _ _ _ _)
  have k0 : w1.heap[w.heap.size]? = some (.cells #[.string h, .slice (some A) n c, .string t] 31 (0, 0)) := (hb.block w.heap.size (by simp; omega)).trans ((Below.heap_alloc _ _ _ (by simp)).trans (row_new _ _ _))
  have q0 := row_cells k0 0
  have q1 := row_cells k0 1
  have q2 := row_cells k0 2
  have HB : Hid (Below w.heap.size w w1) := (((Below.refl _ _).alloc (Nat.le_refl _) _).alloc (by simp) _).trans (hb.mono (by simp; omega))
  have HKR := Lib.hid kr
  have hz1 : w.heap.size + 1 < w1.heap.size := by have := hb.size; simp at this; omega
  have hz0 : w.heap.size < w1.heap.size := by omega
  clear hb kr k0
  go_wp2_with fail
  refine (clone_any A n c xs _ ((HX.out.below HB.out).alloc _) (by omega)).mono ?_
  rintro e w2 ⟨g, c1, rfl, hown, hg1, hg2, hb2⟩
  have k2 : w2.heap[w1.heap.size]? = some (.cells #[.string h, .slice (some A) n c, .string t] 31 (0, 0)) := (hb2.block w1.heap.size (by simp)).trans (row_new _ _ _)
  have kr2 := (hb2.block (w.heap.size + 1) (by simp; omega)).trans ((Below.heap_alloc _ _ _ hz1).trans HKR.out)
  have p0 := row_cells k2 0
  have p1 := row_cells k2 1
  have p2 := row_cells k2 2
  have f1 := row_frozen k2 1
  have hgz : w1.heap.size < g := by simp at hg1; omega
  have HBX : Hid (DocBox (w2.setCell ⟨w1.heap.size, 1, none⟩ (.slice (some ⟨g, 0, none⟩) n c1)) w.heap.size w1.heap.size g c1 (allV h xs t)) := by
    refine ⟨h, xs, t, rfl, ?_, ?_⟩
    · rw [HL.out]; exact row_set k2 1 _
    · rw [HL.out]; exact own_set (own_rebase hown (by simp; omega)) k2 (by decide) 1 _
  have HB2 : Hid (Below w.heap.size w (w2.setCell ⟨w1.heap.size, 1, none⟩ (.slice (some ⟨g, 0, none⟩) n c1))) := (((HB.out.alloc (by omega) _).trans (hb2.mono (by simp; omega))).setCell (p := ⟨w1.heap.size, 1, none⟩) (by show w.heap.size ≤ w1.heap.size; omega) _)
  have HKR2 : Hid ((w2.setCell ⟨w1.heap.size, 1, none⟩ (.slice (some ⟨g, 0, none⟩) n c1)).heap[w.heap.size + 1]? = some (.cells #[.string ⟨#[]⟩, .slice none 0 0, .string ⟨#[]⟩] 31 (0, 0))) := (Below.heap_setCell w2 ⟨w1.heap.size, 1, none⟩ _ (w.heap.size + 1) (by show w.heap.size + 1 ≠ w1.heap.size; omega)).trans kr2
  have hll : (allV h xs t).length = n + 2 := by rw [allV_len, HL.out]
  clear hown hb2 k2 kr2 hg1 q0 q1 q2
  generalize allV h xs t = l at *
  go_wp2_with fail
  clear p0 p1 p2 f1
  go_loopw [23] (fun i wr => ∃ (k : Nat), i = .int .i64 (k : Int) ∧ k ≤ m ∧ DocBox wr w.heap.size w1.heap.size g c1 (applyV l (ps.take k)) ∧ Below w.heap.size w wr ∧ wr.heap[w.heap.size + 1]? = some (.cells #[.string ⟨#[]⟩, .slice none 0 0, .string ⟨#[]⟩] 31 (0, 0))) (fun i _ => m - (intOf i).toNat)
  case atStart => exact ⟨0, rfl, Nat.zero_le _, HBX.out, HB2.out, HKR2.out⟩
  case round =>
    obtain ⟨k, rfl, hkm, hbox, hbl, hks⟩ := hrel
    have HBOX := Lib.hid hbox
    have HBL := Lib.hid hbl
    have HKS := Lib.hid hks
    have hzr := hbl.size
    clear hbox hbl hks
    by_cases hlt : k < m
    · have q := HP.out.below HBL.out
      have hixp := fun W => q.ix 27 66 Tryd.underlying27 cellsPc hlt c' W
      have h0 := q.c0 k hlt
      have h1 := q.c1 k hlt
      have hkl : k < ps.length := by rw [HLP.out]; exact hlt
      obtain ⟨v1, v2⟩ := validV_at HVV.out hkl
      have HST := Lib.hid (applyV_take_succ l ps k hkl)
      have hal : (applyV l (ps.take k)).length = n + 2 := by rw [applyV_len]; exact hll
      clear q hkl
      generalize ps.getD k (0, .empty) = p at *
      obtain ⟨p0, p1⟩ := p
      simp only at h0 h1 v1 v2
      obtain ⟨j, rfl⟩ : ∃ j : Nat, p0 = (j : Int) := ⟨p0.toNat, by omega⟩
      have HSB : Hid (∀ wz, Below wr.heap.size wr wz → Calls Tryd.prog 36 #[.pointer (some ⟨w1.heap.size, 0, none⟩), .int .i64 (j : Int), .string p1] wz (SetPost w.heap.size w1.heap.size g c1 ((applyV l (ps.take k)).set j p1) wz)) := fun wz hz => set_box w.heap.size w1.heap.size g c1 j _ p1 wz (HBOX.out.below hz) (by omega) (by omega)
      have HST2 : Hid (applyV l (ps.take (k + 1)) = (applyV l (ps.take k)).set j p1) := HST.out
      clear HST
      go_wp2_with fail
      refine (HSB.out _ (by exact (Below.refl _ _).alloc (Nat.le_refl _) _)).mono ?_
      intro e w3 hst
      obtain rfl := hst.1
      have HB3 : Hid (Below w.heap.size w w3) := hst.below (HBL.out.alloc (by omega) _) (by omega) (by omega)
      have HBOX3 : Hid (DocBox w3 w.heap.size w1.heap.size g c1 (applyV l (ps.take (k + 1)))) := by unfold Hid; rw [HST2.out]; exact hst.2.1
      have HK3 : Hid (w3.heap[w.heap.size + 1]? = some (.cells #[.string ⟨#[]⟩, .slice none 0 0, .string ⟨#[]⟩] 31 (0, 0))) := (hst.block (w.heap.size + 1) (by omega) (by omega)).trans ((Below.heap_alloc _ _ _ (Array.getElem?_eq_some_iff.1 HKS.out).1).trans HKS.out)
      clear hst
      go_wp2_with fail
      go_roundw
      case rel => exact ⟨k + 1, by go_num, by omega, HBOX3.out, HB3.out, HK3.out⟩
      case measure => simp [intOf]; omega
    · obtain rfl : k = m := by omega
      obtain ⟨a, xs2, t2, he2, hb2, ho2⟩ := HBOX.out
      rw [List.take_of_length_le (by rw [HLP.out]; exact Nat.le_refl _), HE.out] at he2
      obtain ⟨rfl, rfl, rfl⟩ := allV_inj he2
      have g0 := row_cells hb2 0
      have g1 := row_cells hb2 1
      have g2 := row_cells hb2 2
      have r0 := row_cells HKS.out 0
      have r1 := row_cells HKS.out 1
      have r2 := row_cells HKS.out 2
      have z0 := row_frozen HKS.out 0
      have z1 := row_frozen HKS.out 1
      have z2 := row_frozen HKS.out 2
      have HO2 := Lib.hid ho2
      clear hb2 ho2 he2
      go_wp2_with fail
      obtain ⟨y0, y1, y2⟩ := doc_set HKS.out (.string h') (.slice (some ⟨g, 0, none⟩) xs'.length c1) (.string t')
      exact bodyPost_ret (v := .tuple #[.agg #[.string h', .slice (some ⟨g, 0, none⟩) xs'.length c1, .string t'], .int .i64 0]) (by simp [results, Tryd.f26, go_sem, y0, y1, y2]) rfl ⟨some ⟨g, 0, none⟩, c1, rfl, own_set3 HO2.out HKS.out (by decide) _ _ _, fun e => (by cases e), below_set3 HBL.out (by omega) _ _ _⟩
end Go.Proofs.YtkkggpahanddnaaDoor
