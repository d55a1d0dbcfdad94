/- LexemeInverse: Tokens returns the tokens of a spelled line, and spelling the tokens of a string and reading them again changes nothing. -/
import Derived.Test.YtpionddponmdmaaDoorQ48
import Derived.Test.YtpionddponmdmaaDoorQ32
namespace Go.Proofs.YtpionddponmdmaaDoor
open Go.RowKit
attribute [local go_sem] Ext.cell Ext.frozen
attribute [local go_sem ↓] Go.wp_at_zero Go.wp_at_succ
theorem fewZ_parts {xs : List Tz} (h : fewZ xs = true) : (∀ x ∈ xs, x.2.1.length ≤ 500) ∧ xs.length ≤ 60 := by simpa [fewZ] using h
theorem spellV_ok {xs : List Tz} (h : ∀ x ∈ xs, okZ x = true) : spellV xs = (lineZ xs, 0) := by
  unfold spellV lineZ
  rw [if_pos (List.all_eq_true.2 h)]
theorem spellV_no {xs : List Tz} (h : ¬ ∀ x ∈ xs, okZ x = true) : spellV xs = ([], 1) := by
  unfold spellV
  rw [if_neg (fun e => h (List.all_eq_true.1 e))]
theorem upto_ok {l : List UInt8} {M : Nat} (hr : RunP l M) (hok : ∀ k, k < M → (itemV l k).2.2.2 = 0) : ∀ x ∈ (upto (itemV l) M).map zOf, okZ x = true := fun x hx => by
  obtain ⟨y, hy, rfl⟩ := List.mem_map.1 hx
  unfold upto at hy
  obtain ⟨k, hk, rfl⟩ := List.mem_map.1 hy
  have hk2 := List.mem_range.1 hk
  exact (next_ok (hr.1 k hk2) (hok k hk2)).1
theorem sameZ_symm {a b : List Tz} (h : sameZ a b = true) : sameZ b a = true := decide_eq_true (of_decide_eq_true h).symm
theorem tzAt_nil (w : World) : TzAt w none 0 [] 0 0 := ⟨rfl, Nat.zero_le _, fun h => absurd rfl h, fun _i hi => absurd hi (Nat.not_lt_zero _), fun _i hi => absurd hi (Nat.not_lt_zero _), fun _i hi => absurd hi (Nat.not_lt_zero _)⟩
set_option maxRecDepth 20000 in
set_option maxHeartbeats 8000000 in
theorem lexemeInverse_walk (ad : Option Addr) (n c : Nat) (ps : List Tz) (b off : Nat) (s : ByteArray) (w : World) (hp : TzAt w ad n ps b off) (hps : ∀ x ∈ ps, x.2.1.length ≤ 140737488351232) (hsm : s.size ≤ 9223372036854775807) (hM : MaxLen w) (hU : TabU w) (hD : TabDeB w) :
    Calls Tryd.prog 6 #[.slice ad n c, .string s] w fun e w' => e = .returned (.bool true) ∧ Below w.heap.size w w' := by
  have HA := Lib.hid (fun w' (h : Below w.heap.size w w') => awake_any w' (hM.below h) (hU.below h))
  have HFW := Lib.hid (fun w' (h : Below w.heap.size w w') => few_any11 ad n c ps b off w' (hp.below h) hps)
  cases hf : fewZ ps
  · rw [hf] at HFW
    clear hp hps hM hU hD hf
    go_enter Tryd.func6, Tryd.ntmps6
    go_wp2_with fail
    refine (HA.out _ (Below.refl _ _)).mono ?_
    rintro e w1 ⟨rfl, hb1⟩
    have HB1 := Lib.hid hb1
    clear hb1
    go_wp2_with fail
    refine (HFW.out _ HB1.out).mono ?_
    rintro e _ ⟨rfl, rfl⟩
    go_wp2_with fail
    refine (HA.out _ HB1.out).mono ?_
    rintro e w2 ⟨rfl, hb2⟩
    have HB2 : Hid (Below w.heap.size w w2) := HB1.out.trans (hb2.mono HB1.out.size)
    clear hb2
    go_wp2_with fail
    go_ret
    exact ⟨rfl, HB2.out⟩
  obtain ⟨hf5, hf6⟩ := fewZ_parts hf
  rw [hf] at HFW
  have hn6 : n ≤ 60 := by rw [← hp.len]; exact hf6
  by_cases hs : s.size ≤ 2000
  rotate_left
  · have hsi : 2000 < (s.size : Int) := by omega
    clear hp hps hM hU hD hf hf5 hf6
    go_enter Tryd.func6, Tryd.ntmps6
    go_wp2_with fail
    refine (HA.out _ (Below.refl _ _)).mono ?_
    rintro e w1 ⟨rfl, hb1⟩
    have HB1 := Lib.hid hb1
    clear hb1
    go_wp2_with fail
    refine (HFW.out _ HB1.out).mono ?_
    rintro e _ ⟨rfl, rfl⟩
    go_wp2_with fail
    refine (HA.out _ HB1.out).mono ?_
    rintro e w2 ⟨rfl, hb2⟩
    have HB2 : Hid (Below w.heap.size w w2) := HB1.out.trans (hb2.mono HB1.out.size)
    clear hb2
    go_wp2_with fail
    go_ret
    exact ⟨rfl, HB2.out⟩
  have hsi : ¬ 2000 < (s.size : Int) := by omega
  obtain ⟨l, hl⟩ : ∃ l, s.data.toList = l := ⟨_, rfl⟩
  obtain rfl : s = bs l := by rw [← hl]; rfl
  clear hl
  have hsz : (bs l).size = l.length := bs_size l
  have hl2 : l.length ≤ 2000 := by omega
  have HTK := Lib.hid (fun (l : List UInt8) (hl : l.length ≤ 100000) w' (h : Below w.heap.size w w') => tokens_any l hl w' (hM.below h) (hU.below h))
  have HTO := Lib.hid (fun w' (h : Below w.heap.size w w') => totk_any ad n c ps w' b off (hp.below h) (by omega))
  have HSP := Lib.hid (fun (ad : Option Addr) (n c : Nat) (xs : List Tz) (b off : Nat) w' (h : Below w.heap.size w w') (h1 : TzAt w' ad n xs b off) (h2 : n ≤ 100000) (h3 : ∀ p ∈ xs, p.2.1.length ≤ 500) => spell_any ad n c xs b off w' h1 h2 h3 (hU.below h) (hD.below h))
  have HPL := Lib.hid hp.len
  have HP := Lib.hid hp
  have HF5 := Lib.hid hf5
  have hsb : (bs l).size ≤ 2000 := hs
  clear hp hps hM hU hD hf hf5 hf6 hsz
  generalize hSE : bs l = S at *
  have HSE := Lib.hid hSE
  clear hSE
  go_enter Tryd.func6, Tryd.ntmps6
  go_wp2_with fail
  refine (HA.out _ (Below.refl _ _)).mono ?_
  rintro e w1 ⟨rfl, hb1⟩
  have HB1 := Lib.hid hb1
  clear hb1
  go_wp2_with fail
  refine (HFW.out _ HB1.out).mono ?_
  rintro e _ ⟨rfl, rfl⟩
  go_wp2_with fail
  refine (HTO.out _ HB1.out).mono ?_
  rintro e w2 ⟨ad2, c2, rfl, own2, hb2⟩
  rw [HPL.out] at own2 ⊢
  have HB2 : Hid (Below w.heap.size w w2) := HB1.out.trans (hb2.mono HB1.out.size)
  obtain ⟨b2, tz2⟩ := own_tz own2 (by omega)
  have HT2 := Lib.hid tz2
  clear own2 hb2 tz2
  go_wp2_with fail
  refine (HSP.out ad2 n c2 ps b2 0 _ HB2.out HT2.out (by omega) HF5.out).mono ?_
  rintro e w3 ⟨rfl, hb3⟩
  have HB3 : Hid (Below w.heap.size w w3) := HB2.out.trans (hb3.mono HB2.out.size)
  clear hb3
  by_cases hall : ∀ x ∈ ps, okZ x = true
  · rw [spellV_ok hall]
    have HALL := Lib.hid hall
    have HSPL := Lib.hid (fun K hr => spelled_run (M := K) (spelled_line _ hall) hr)
    have HL1 : Hid ((lineZ ps).length ≤ 100000) := by
      have h1 := lineZ_len ps
      have h2 := textSum_le ps (fun x hx => okZ_len (hall x hx))
      have h3 := HPL.out
      unfold Hid; omega
    clear hall
    generalize hLN1 : bs (lineZ ps) = LN1 at *
    have HLN1 := Lib.hid hLN1
    clear hLN1
    go_wp2_with fail
    rw [← HLN1.out]
    refine (HTK.out (lineZ ps) HL1.out _ HB3.out).mono ?_
    rintro e w4 ⟨hb4, K1, hrun4, hMl4, hor4⟩
    have HB4 : Hid (Below w.heap.size w w4) := HB3.out.trans (hb4.mono HB3.out.size)
    obtain ⟨hKe4, hok4, hsm4⟩ := HSPL.out K1 hrun4
    rcases hor4 with ⟨-, ad4, c4, rfl, hown4⟩ | ⟨h0, h6, rfl⟩
    rotate_left
    · exact absurd (hok4 (K1 - 1) (by omega)) h6
    have hK1 : K1 ≤ 60 := by have := HPL.out; omega
    obtain ⟨b4, tk4⟩ := own_tk hown4 (by omega)
    have HT4 := Lib.hid tk4
    have HSM4 := Lib.hid hsm4
    have HYL4 : Hid ((upto (itemV (lineZ ps)) K1).length = K1) := by unfold Hid; rw [upto_length]
    generalize hY4 : upto (itemV (lineZ ps)) K1 = Y4 at *
    clear hb4 hrun4 hMl4 hown4 tk4 hok4 hsm4 hY4 hKe4 HSPL
    go_wp2_with fail
    refine (fromtk_any ad4 K1 c4 Y4 w4 b4 0 HT4.out).mono ?_
    rintro e w5 ⟨ad5, c5, rfl, own5, hb5⟩
    rw [HYL4.out] at own5 ⊢
    obtain ⟨b5, tk5⟩ := own_tk own5 (by omega)
    have HT5 := Lib.hid tk5
    have HB5 : Hid (Below w.heap.size w w5) := HB4.out.trans (hb5.mono HB4.out.size)
    clear own5 hb5 tk5
    go_wp2_with fail
    refine (samez_any ad5 K1 c5 (Y4.map zOf) b5 0 ad n c ps b off w5 HT5.out.z (HP.out.below HB5.out)).mono ?_
    rintro e wq ⟨rfl, hbq⟩
    rw [HSM4.out]
    have HBQ : Hid (Below w.heap.size w wq) := HB5.out.trans (hbq.mono HB5.out.size)
    clear hbq HSM4 HT5 HYL4 HT4
    go_wp2_with fail
    rw [← HSE.out]
    refine (HTK.out l (by omega) _ HBQ.out).mono ?_
    rintro e w6 ⟨hb6, M, hrun, hMl, hor⟩
    have HB6 : Hid (Below w.heap.size w w6) := HBQ.out.trans (hb6.mono HBQ.out.size)
    clear hb6
    rcases hor with ⟨hok, ad6, c6, rfl, hown⟩ | ⟨h0, h6, rfl⟩
    rotate_left
    · generalize (itemV l (M - 1)).2.2.1 = fa at *
      generalize (itemV l (M - 1)).2.2.2 = fe at *
      have h6i : ((fe : Int) == 0) = false := by simp only [beq_eq_false_iff_ne]; omega
      have h6j : ((fe : Int) != 0) = true := by unfold bne; rw [h6i]; rfl
      clear hrun hMl h0 h6 HTK HSP HTO HFW HA
      go_wp2_with fail
      go_ret
      exact ⟨rfl, HB6.out⟩
    obtain ⟨b6, tk6⟩ := own_tk hown (by omega)
    have hxo := upto_ok hrun hok
    have HSPV := Lib.hid (spellV_ok hxo)
    have hts := texts_le hrun hok M (Nat.le_refl _)
    have hpe := pos_le hrun hok
    have HLL : Hid ((lineZ ((upto (itemV l) M).map zOf)).length ≤ 100000) := by
      have := lineZ_len ((upto (itemV l) M).map zOf)
      rw [List.length_map, upto_length] at this
      unfold Hid; omega
    have HSPD := Lib.hid (fun K hr => spelled_run (M := K) (spelled_line _ hxo) hr)
    have HLEN : Hid (∀ p ∈ (upto (itemV l) M).map zOf, p.2.1.length ≤ 500) := fun p hp => by have := okZ_len (hxo p hp); omega
    have HXL : Hid (((upto (itemV l) M).map zOf).length = M) := by unfold Hid; rw [List.length_map, upto_length]
    have HXL0 : Hid ((upto (itemV l) M).length = M) := by unfold Hid; rw [upto_length]
    have HT6 := Lib.hid tk6
    have hMb : M ≤ 2001 := by omega
    generalize hX : upto (itemV l) M = X at *
    clear hxo hts hpe hown tk6 hrun hMl hok hX
    go_wp2_with fail
    refine (HSP.out ad6 M c6 (X.map zOf) b6 0 _ HB6.out HT6.out.z (by omega) HLEN.out).mono ?_
    rintro e w7 ⟨rfl, hb7⟩
    rw [HSPV.out]
    have HB7 : Hid (Below w.heap.size w w7) := HB6.out.trans (hb7.mono HB6.out.size)
    have HT7 := Lib.hid (HT6.out.below hb7)
    clear hb7
    go_wp2_with fail
    refine (HTK.out (lineZ (X.map zOf)) HLL.out _ HB7.out).mono ?_
    rintro e w8 ⟨hb8, K, hrun8, hMl8, hor8⟩
    have HB8 : Hid (Below w.heap.size w w8) := HB7.out.trans (hb8.mono HB7.out.size)
    have HT8 := Lib.hid (HT7.out.below hb8)
    obtain ⟨hKe, hok8, hsm8⟩ := HSPD.out K hrun8
    rcases hor8 with ⟨-, ad8, c8, rfl, hown8⟩ | ⟨h0, h6, rfl⟩
    rotate_left
    · exact absurd (hok8 (K - 1) (by omega)) h6
    obtain ⟨b8, tk8⟩ := own_tk hown8 (by have := HXL.out; omega)
    have HTB := Lib.hid tk8
    have HSM := Lib.hid hsm8
    have HYL : Hid ((upto (itemV (lineZ (X.map zOf))) K).length = K) := by unfold Hid; rw [upto_length]
    have hKM : K ≤ 2001 := by have := HXL.out; omega
    generalize hY : upto (itemV (lineZ (X.map zOf))) K = Y at *
    generalize bs (lineZ (X.map zOf)) = LN at *
    clear hb8 hrun8 hMl8 hown8 tk8 hok8 hsm8 hY HSPD hKe
    go_wp2_with fail
    refine (fromtk_any ad6 M c6 X w8 b6 0 HT8.out).mono ?_
    rintro e w9 ⟨ad9, c9, rfl, own9, hb9⟩
    rw [HXL0.out] at own9 ⊢
    obtain ⟨b9, tk9⟩ := own_tk own9 (by omega)
    have HT9 := Lib.hid tk9
    have HTB9 := Lib.hid (HTB.out.below hb9)
    have HB9 : Hid (Below w.heap.size w w9) := HB8.out.trans (hb9.mono HB8.out.size)
    clear own9 hb9 tk9
    go_wp2_with fail
    refine (fromtk_any ad8 K c8 Y w9 b8 0 HTB9.out).mono ?_
    rintro e wA ⟨adA, cA, rfl, ownA, hbA⟩
    rw [HYL.out] at ownA ⊢
    obtain ⟨bA, tkA⟩ := own_tk ownA (by omega)
    have HTA := Lib.hid tkA
    have HT9A := Lib.hid (HT9.out.below hbA)
    have HBA : Hid (Below w.heap.size w wA) := HB9.out.trans (hbA.mono HB9.out.size)
    clear ownA hbA tkA
    go_wp2_with fail
    refine (samez_any ad9 M c9 (X.map zOf) b9 0 adA K cA (Y.map zOf) bA 0 wA HT9A.out.z HTA.out.z).mono ?_
    rintro e wB ⟨rfl, hbB⟩
    rw [sameZ_symm HSM.out]
    have HBB : Hid (Below w.heap.size w wB) := HBA.out.trans (hbB.mono HBA.out.size)
    clear hbB
    go_wp2_with fail
    go_ret
    exact ⟨rfl, HBB.out⟩
  · rw [spellV_no hall]
    clear hall
    have HBQ := HB3
    go_wp2_with fail
    rw [← HSE.out]
    refine (HTK.out l (by omega) _ HBQ.out).mono ?_
    rintro e w6 ⟨hb6, M, hrun, hMl, hor⟩
    have HB6 : Hid (Below w.heap.size w w6) := HBQ.out.trans (hb6.mono HBQ.out.size)
    clear hb6
    rcases hor with ⟨hok, ad6, c6, rfl, hown⟩ | ⟨h0, h6, rfl⟩
    rotate_left
    · generalize (itemV l (M - 1)).2.2.1 = fa at *
      generalize (itemV l (M - 1)).2.2.2 = fe at *
      have h6i : ((fe : Int) == 0) = false := by simp only [beq_eq_false_iff_ne]; omega
      have h6j : ((fe : Int) != 0) = true := by unfold bne; rw [h6i]; rfl
      clear hrun hMl h0 h6 HTK HSP HTO HFW HA
      go_wp2_with fail
      go_ret
      exact ⟨rfl, HB6.out⟩
    obtain ⟨b6, tk6⟩ := own_tk hown (by omega)
    have hxo := upto_ok hrun hok
    have HSPV := Lib.hid (spellV_ok hxo)
    have hts := texts_le hrun hok M (Nat.le_refl _)
    have hpe := pos_le hrun hok
    have HLL : Hid ((lineZ ((upto (itemV l) M).map zOf)).length ≤ 100000) := by
      have := lineZ_len ((upto (itemV l) M).map zOf)
      rw [List.length_map, upto_length] at this
      unfold Hid; omega
    have HSPD := Lib.hid (fun K hr => spelled_run (M := K) (spelled_line _ hxo) hr)
    have HLEN : Hid (∀ p ∈ (upto (itemV l) M).map zOf, p.2.1.length ≤ 500) := fun p hp => by have := okZ_len (hxo p hp); omega
    have HXL : Hid (((upto (itemV l) M).map zOf).length = M) := by unfold Hid; rw [List.length_map, upto_length]
    have HXL0 : Hid ((upto (itemV l) M).length = M) := by unfold Hid; rw [upto_length]
    have HT6 := Lib.hid tk6
    have hMb : M ≤ 2001 := by omega
    generalize hX : upto (itemV l) M = X at *
    clear hxo hts hpe hown tk6 hrun hMl hok hX
    go_wp2_with fail
    refine (HSP.out ad6 M c6 (X.map zOf) b6 0 _ HB6.out HT6.out.z (by omega) HLEN.out).mono ?_
    rintro e w7 ⟨rfl, hb7⟩
    rw [HSPV.out]
    have HB7 : Hid (Below w.heap.size w w7) := HB6.out.trans (hb7.mono HB6.out.size)
    have HT7 := Lib.hid (HT6.out.below hb7)
    clear hb7
    go_wp2_with fail
    refine (HTK.out (lineZ (X.map zOf)) HLL.out _ HB7.out).mono ?_
    rintro e w8 ⟨hb8, K, hrun8, hMl8, hor8⟩
    have HB8 : Hid (Below w.heap.size w w8) := HB7.out.trans (hb8.mono HB7.out.size)
    have HT8 := Lib.hid (HT7.out.below hb8)
    obtain ⟨hKe, hok8, hsm8⟩ := HSPD.out K hrun8
    rcases hor8 with ⟨-, ad8, c8, rfl, hown8⟩ | ⟨h0, h6, rfl⟩
    rotate_left
    · exact absurd (hok8 (K - 1) (by omega)) h6
    obtain ⟨b8, tk8⟩ := own_tk hown8 (by have := HXL.out; omega)
    have HTB := Lib.hid tk8
    have HSM := Lib.hid hsm8
    have HYL : Hid ((upto (itemV (lineZ (X.map zOf))) K).length = K) := by unfold Hid; rw [upto_length]
    have hKM : K ≤ 2001 := by have := HXL.out; omega
    generalize hY : upto (itemV (lineZ (X.map zOf))) K = Y at *
    generalize bs (lineZ (X.map zOf)) = LN at *
    clear hb8 hrun8 hMl8 hown8 tk8 hok8 hsm8 hY HSPD hKe
    go_wp2_with fail
    refine (fromtk_any ad6 M c6 X w8 b6 0 HT8.out).mono ?_
    rintro e w9 ⟨ad9, c9, rfl, own9, hb9⟩
    rw [HXL0.out] at own9 ⊢
    obtain ⟨b9, tk9⟩ := own_tk own9 (by omega)
    have HT9 := Lib.hid tk9
    have HTB9 := Lib.hid (HTB.out.below hb9)
    have HB9 : Hid (Below w.heap.size w w9) := HB8.out.trans (hb9.mono HB8.out.size)
    clear own9 hb9 tk9
    go_wp2_with fail
    refine (fromtk_any ad8 K c8 Y w9 b8 0 HTB9.out).mono ?_
    rintro e wA ⟨adA, cA, rfl, ownA, hbA⟩
    rw [HYL.out] at ownA ⊢
    obtain ⟨bA, tkA⟩ := own_tk ownA (by omega)
    have HTA := Lib.hid tkA
    have HT9A := Lib.hid (HT9.out.below hbA)
    have HBA : Hid (Below w.heap.size w wA) := HB9.out.trans (hbA.mono HB9.out.size)
    clear ownA hbA tkA
    go_wp2_with fail
    refine (samez_any ad9 M c9 (X.map zOf) b9 0 adA K cA (Y.map zOf) bA 0 wA HT9A.out.z HTA.out.z).mono ?_
    rintro e wB ⟨rfl, hbB⟩
    rw [sameZ_symm HSM.out]
    have HBB : Hid (Below w.heap.size w wB) := HBA.out.trans (hbB.mono HBA.out.size)
    clear hbB
    go_wp2_with fail
    go_ret
    exact ⟨rfl, HBB.out⟩
end Go.Proofs.YtpionddponmdmaaDoor
