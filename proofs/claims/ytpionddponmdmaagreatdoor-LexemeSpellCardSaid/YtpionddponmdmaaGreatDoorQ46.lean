/- LexemeSpell: Spell, IsWord, IsText and Number return what is specified. -/
import Derived.Test.YtpionddponmdmaaGreatDoorQ45
import Derived.Deep.DeepCutAuto
namespace Go.Proofs.YtpionddponmdmaaGreatDoor
open Go.RowKit
attribute [local go_sem] Ext.cell Ext.frozen
attribute [local go_sem ↓] Go.wp_at_zero Go.wp_at_succ
theorem fewZ_partsS {xs : List Tz} (h : fewZ xs = true) : (∀ x ∈ xs, x.2.1.length ≤ 500) ∧ xs.length ≤ 60 := by simpa [fewZ] using h
set_option maxRecDepth 20000 in
set_option maxHeartbeats 8000000 in
theorem lexemeSpell_walk (ad : Option Addr) (n c : Nat) (ps : List Tz) (b off : Nat) (s : ByteArray) (w : World) (hp : TzAt w ad n ps b off) (hps : ∀ x ∈ ps, x.2.1.length ≤ 140737488351232) (hsm : s.size ≤ 9223372036854775807) (hM : MaxLen w) (hU : TabU w) (hD : TabDeB w) :
    Calls Tryz.prog 3 #[.slice ad n c, .string s] w fun e w' => e = .returned (.bool true) ∧ Below w.heap.size w w' := by
  have HA := Lib.hid (fun w' (h : Below w.heap.size w w') => awake_any w' (hM.below h) (hU.below h))
  have HFW := Lib.hid (fun w' (h : Below w.heap.size w w') => few_any11 ad n c ps b off w' (hp.below h) hps)
  cases hf : fewZ ps
  · rw [hf] at HFW
    clear hp hps hM hU hD hf
    go_enter Tryz.func3, Tryz.ntmps3
    go_wp2_with fail
    refine (HA.out _ (Below.refl _ _)).mono ?_
    rintro e w1 ⟨rfl, hb1⟩
    have HB1 := Lib.hid hb1
    clear hb1
    go_wp2_with fail
    refine (HFW.out _ HB1.out).mono ?_
    rintro e _ ⟨rfl, rfl⟩
    go_wp2_with fail
    refine (HA.out _ HB1.out).mono ?_
    rintro e w2 ⟨rfl, hb2⟩
    have HB2 : Hid (Below w.heap.size w w2) := HB1.out.trans (hb2.mono HB1.out.size)
    clear hb2
    go_wp2_with fail
    go_ret
    exact ⟨rfl, HB2.out⟩
  obtain ⟨hf5, hf6⟩ := fewZ_partsS hf
  rw [hf] at HFW
  have hn6 : n ≤ 60 := by rw [← hp.len]; exact hf6
  by_cases hs : s.size ≤ 500
  rotate_left
  · have hsi : 500 < (s.size : Int) := by omega
    clear hp hps hM hU hD hf hf5 hf6
    go_enter Tryz.func3, Tryz.ntmps3
    go_wp2_with fail
    refine (HA.out _ (Below.refl _ _)).mono ?_
    rintro e w1 ⟨rfl, hb1⟩
    have HB1 := Lib.hid hb1
    clear hb1
    go_wp2_with fail
    refine (HFW.out _ HB1.out).mono ?_
    rintro e _ ⟨rfl, rfl⟩
    go_wp2_with fail
    refine (HA.out _ HB1.out).mono ?_
    rintro e w2 ⟨rfl, hb2⟩
    have HB2 : Hid (Below w.heap.size w w2) := HB1.out.trans (hb2.mono HB1.out.size)
    clear hb2
    go_wp2_with fail
    go_ret
    exact ⟨rfl, HB2.out⟩
  have hsi : ¬ 500 < (s.size : Int) := by omega
  obtain ⟨l, hl⟩ : ∃ l, s.data.toList = l := ⟨_, rfl⟩
  obtain rfl : s = bs l := by rw [← hl]; rfl
  clear hl
  have hsz : (bs l).size = l.length := bs_size l
  have hl2 : l.length ≤ 500 := by omega
  have HTO := Lib.hid (fun w' (h : Below w.heap.size w w') => totk_any ad n c ps w' b off (hp.below h) (by omega))
  have HSP := Lib.hid (fun (ad : Option Addr) (n c : Nat) (b off : Nat) w' (h : Below w.heap.size w w') (h1 : TzAt w' ad n ps b off) (h2 : n ≤ 100000) => spell_any ad n c ps b off w' h1 h2 hf5 (hU.below h) (hD.below h))
  have HRS := Lib.hid (fun w' (h : Below w.heap.size w w') => rspell_any ad n c ps b off w' (hp.below h) (by omega) hf5)
  have HN := Lib.hid (fun w' => number_any l (by omega) w')
  have HRN := Lib.hid (fun w' => rnumber_any11 l (by omega) w')
  have HIW := Lib.hid (fun w' => isword_any l (by omega) w')
  have HRW := Lib.hid (fun w' => risword_any l (by omega) w')
  have HIT := Lib.hid (fun w' (h : Below w.heap.size w w') => istext_any l (by omega) w' (hU.below h))
  have HRT := Lib.hid (fun w' => ristext_any l (by omega) w')
  have HPL := Lib.hid hp.len
  clear hp hps hM hU hD hf hf5 hf6 hsz
  unfold SpP at HSP HRS
  unfold numE at HN HRN
  generalize numW l = NV at *
  obtain ⟨v, vb⟩ := NV
  generalize spellV ps = SV at *
  obtain ⟨sx, se⟩ := SV
  generalize isWordV l = IW at *
  generalize isTextV l = IT at *
  simp only at HSP HRS HN HRN
  generalize bs l = S at *
  generalize bs sx = SX at *
  have m1 : (SX.toList == SX.toList) = true := by simp
  have m2 : ((se : Int) == (se : Int)) = true := by simp
  have m3 : (IW == IW) = true := by simp
  have m4 : (IT == IT) = true := by simp
  have m5 : ((v : Int) == (v : Int)) = true := by simp
  have m6 : (vb == vb) = true := by simp
  go_enter Tryz.func3, Tryz.ntmps3
  go_wp2_with fail
  refine (HA.out _ (Below.refl _ _)).mono ?_
  rintro e w1 ⟨rfl, hb1⟩
  have HB1 := Lib.hid hb1
  clear hb1
  go_wp2_with fail
  refine (HFW.out _ HB1.out).mono ?_
  rintro e _ ⟨rfl, rfl⟩
  go_wp2_with fail
  refine (HTO.out _ HB1.out).mono ?_
  rintro e w2 ⟨ad2, c2, rfl, own2, hb2⟩
  rw [HPL.out] at own2 ⊢
  have HB2 : Hid (Below w.heap.size w w2) := HB1.out.trans (hb2.mono HB1.out.size)
  obtain ⟨b2, tz2⟩ := own_tz own2 (by omega)
  have HT2 := Lib.hid tz2
  clear own2 hb2 tz2
  go_wp2_with fail
  refine (HSP.out ad2 n c2 b2 0 _ HB2.out HT2.out (by omega)).mono ?_
  rintro e w3 ⟨rfl, hb9⟩
  have Hw3 : Hid (Below w.heap.size w w3) := HB2.out.trans (hb9.mono HB2.out.size)
  clear hb9
  go_wp2_with fail
  refine (HRS.out _ Hw3.out).mono ?_
  rintro e w4 ⟨rfl, hb9⟩
  have Hw4 : Hid (Below w.heap.size w w4) := Hw3.out.trans (hb9.mono Hw3.out.size)
  clear hb9
  go_wp2_with fail
  refine (HN.out _).mono ?_
  rintro e w5 ⟨rfl, hb9⟩
  have Hw5 : Hid (Below w.heap.size w w5) := Hw4.out.trans (hb9.mono Hw4.out.size)
  clear hb9
  go_wp2_with fail
  refine (HRN.out _).mono ?_
  rintro e w6 ⟨rfl, hb9⟩
  have Hw6 : Hid (Below w.heap.size w w6) := Hw5.out.trans (hb9.mono Hw5.out.size)
  clear hb9
  go_wp2_with fail
  refine (HIW.out _).mono ?_
  rintro e w7 ⟨rfl, hb9⟩
  have Hw7 : Hid (Below w.heap.size w w7) := Hw6.out.trans (hb9.mono Hw6.out.size)
  clear hb9
  go_wp2_with fail
  refine (HRW.out _).mono ?_
  rintro e w8 ⟨rfl, hb9⟩
  have Hw8 : Hid (Below w.heap.size w w8) := Hw7.out.trans (hb9.mono Hw7.out.size)
  clear hb9
  go_wp2_with fail
  refine (HIT.out _ Hw8.out).mono ?_
  rintro e w9 ⟨rfl, hb9⟩
  have Hw9 : Hid (Below w.heap.size w w9) := Hw8.out.trans (hb9.mono Hw8.out.size)
  clear hb9
  go_wp2_with fail
  refine (HRT.out _).mono ?_
  rintro e wA ⟨rfl, hb9⟩
  have HwA : Hid (Below w.heap.size w wA) := Hw9.out.trans (hb9.mono Hw9.out.size)
  clear hb9
  go_wp2_with fail
  go_ret
  exact ⟨rfl, HwA.out⟩
end Go.Proofs.YtpionddponmdmaaGreatDoor
