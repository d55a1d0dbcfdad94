/- LexemeBlanks: two strings with a line feed, spaces and comments between them have the tokens of both. -/
import Derived.Test.YtpionddponmdmaaDoorQ35
import Derived.Test.YtpionddponmdmaaDoorQ32
import Derived.Deep.QuietTactic
import Derived.Deep.DeepCutAuto
import Derived.BigQuiet
import Derived.Deep.RegionHeld
import Derived.Test.YtpionddponmdmaaDoorQ01
import Derived.Test.YtpionddponmdmaaDoorQ04
namespace Go.Proofs.YtpionddponmdmaaDoor
open Go.RowKit
attribute [local go_sem] Ext.cell Ext.frozen
attribute [local go_sem ↓] Go.wp_at_zero Go.wp_at_succ
theorem blanks_same {a b g : List UInt8} {M N : Nat} (hr : RunP a M) (hok : ∀ k, k < M → (itemV a k).2.2.2 = 0) :
    sameT false (upto (itemV a) M ++ upto (itemV b) N) (upto (itemV (a ++ 10 :: (gapT g ++ b))) (M + N)) = true := by
  refine decide_eq_true ?_
  unfold upto
  rw [List.range_add, List.map_append, List.map_append, List.map_append, List.map_map, List.map_map, List.map_map, List.map_map, List.map_map]
  congr 1
  · refine List.map_congr_left fun k hk => ?_
    have := (blanks_fst (g := g) (b := b) hr hok k (List.mem_range.1 hk)).2
    show keyT false (itemV a k) = keyT false _
    rw [this]
  · refine List.map_congr_left fun j _ => ?_
    obtain ⟨h1, h2, _⟩ := (blanks_snd (g := g) (b := b) hr hok j).2
    show keyT false (itemV b j) = keyT false (itemV _ (M + j))
    unfold keyT
    rw [h1, h2]
    rfl
/-- what Tokens answers, with or without an error -/
def TokG (l : List UInt8) (w : World) (e : Ending) (w' : World) : Prop :=
  Below w.heap.size w w' ∧ ∃ M, RunP l M ∧ M ≤ l.length + 1 ∧ ∃ ad n c p q, n ≤ 1000000 ∧ p ≤ 1000000 ∧ q ≤ 100 ∧ e = .returned (.tuple #[.slice ad n c, .int .i64 ((p : Nat) : Int), .int .i64 ((q : Nat) : Int)]) ∧
    ((q = 0 ∧ n = M ∧ (∀ k, k < M → (itemV l k).2.2.2 = 0) ∧ w'.ownsRow w.heap.size 34 3 (.slice ad n c) n (tkCells (upto (itemV l) M))) ∨ (q ≠ 0 ∧ 0 < M ∧ q = (itemV l (M - 1)).2.2.2))
theorem quoted_errs (l : List UInt8) (i : Nat) : (quotedV l i).2.2.2 ≤ 100 := by
  cases hn : endL (l.drop (i + 1)) with
  | none => rw [quotedV_none hn]; show (3 : Nat) ≤ 100; omega
  | some n =>
    rw [quotedV_some hn]
    split
    · show (3 : Nat) ≤ 100; omega
    · split
      · show (6 : Nat) ≤ 100; omega
      · split
        · show (4 : Nat) ≤ 100; omega
        · show (0 : Nat) ≤ 100; omega
theorem next_errs (l : List UInt8) (i : Nat) : (nextV l i).2.2.2 ≤ 100 := by
  unfold nextV
  split
  · show (0 : Nat) ≤ 100; omega
  · split
    · exact quoted_errs l i
    · split
      · show (3 : Nat) ≤ 100; omega
      · split
        · show (6 : Nat) ≤ 100; omega
        · show (0 : Nat) ≤ 100; omega
theorem tokG_of {l : List UInt8} {w : World} (hl : l.length ≤ 100000) {e : Ending} {w' : World} (h : TokP l w e w') : TokG l w e w' := by
  obtain ⟨hb, M, hrun, hM, ⟨hok, ad, c, rfl, hown⟩ | ⟨h0, h6, rfl⟩⟩ := h
  · exact ⟨hb, M, hrun, hM, ad, M, c, 0, 0, by omega, by omega, by omega, rfl, .inl ⟨rfl, rfl, hok, hown⟩⟩
  · have := (next_from l _ (hrun.1 (M - 1) (by omega))).2 h6
    replace this : (itemV l (M - 1)).2.2.1 < l.length := this
    exact ⟨hb, M, hrun, hM, none, 0, 0, _, _, by omega, by omega, next_errs l _, rfl, .inr ⟨h6, h0, rfl⟩⟩
theorem gapT_snoc (g : List UInt8) {k : Nat} (h : k < g.length) : gapT (g.take (k + 1)) = gapT (g.take k) ++ gapP ((g.getD k 0).toNat % 6) := by
  unfold gapT
  rw [List.take_succ_eq_append_getElem h, List.flatMap_append]
  congr 1
  simp [List.getD, List.getElem?_eq_getElem h]
theorem gapP_len (n : Nat) : (gapP n).length ≤ 8 := by unfold gapP; split <;> simp
theorem gapT_len : ∀ g : List UInt8, (gapT g).length ≤ 8 * g.length
  | [] => Nat.le_refl _
  | n :: g => by
    have := gapT_len g
    have := gapP_len (n.toNat % 6)
    rw [show gapT (n :: g) = gapP (n.toNat % 6) ++ gapT g from rfl, List.length_append, List.length_cons]
    omega
set_option maxRecDepth 20000 in
set_option maxHeartbeats 8000000 in
theorem lexemeBlanks_walk (sa sb : ByteArray) (ad : Option Addr) (n c : Nat) (g : List UInt8) (w : World) (hsa : sa.size ≤ 140737488351232) (hsb : sb.size ≤ 140737488351232) (hg : Sl w ad n (Lib.byteCells g)) (hM : MaxLen w) (hU : TabU w) :
    Calls Tryd.prog 5 #[.string sa, .string sb, .slice ad n c] w fun e w' => e = .returned (.bool true) ∧ Below w.heap.size w w' := by
  have HA := Lib.hid (fun w' (h : Below w.heap.size w w') => awake_any w' (hM.below h) (hU.below h))
  have hnm := hg.max
  by_cases hs : sa.size + sb.size ≤ 1500
  rotate_left
  · have hsi : 1500 < (sa.size : Int) + (sb.size : Int) := by omega
    clear hM hU hg
    go_enter Tryd.func5, Tryd.ntmps5
    go_wp2_with fail
    refine (HA.out _ (Below.refl _ _)).mono ?_
    rintro e w1 ⟨rfl, hb1⟩
    have HB1 := Lib.hid hb1
    clear hb1
    go_wp2_with fail
    refine (HA.out _ HB1.out).mono ?_
    rintro e w2 ⟨rfl, hb2⟩
    have HB2 : Hid (Below w.heap.size w w2) := HB1.out.trans (hb2.mono HB1.out.size)
    clear hb2
    go_wp2_with fail
    go_ret
    exact ⟨rfl, HB2.out⟩
  have hsi : ¬ 1500 < (sa.size : Int) + (sb.size : Int) := by omega
  by_cases hn : n ≤ 40
  rotate_left
  · have hni : 40 < (n : Int) := by omega
    clear hM hU hg
    go_enter Tryd.func5, Tryd.ntmps5
    go_wp2_with fail
    refine (HA.out _ (Below.refl _ _)).mono ?_
    rintro e w1 ⟨rfl, hb1⟩
    have HB1 := Lib.hid hb1
    clear hb1
    go_wp2_with fail
    refine (HA.out _ HB1.out).mono ?_
    rintro e w2 ⟨rfl, hb2⟩
    have HB2 : Hid (Below w.heap.size w w2) := HB1.out.trans (hb2.mono HB1.out.size)
    clear hb2
    go_wp2_with fail
    go_ret
    exact ⟨rfl, HB2.out⟩
  have hni : ¬ 40 < (n : Int) := by omega
  obtain ⟨la, hla⟩ : ∃ l, sa.data.toList = l := ⟨_, rfl⟩
  obtain rfl : sa = bs la := by rw [← hla]; rfl
  obtain ⟨lb, hlb⟩ : ∃ l, sb.data.toList = l := ⟨_, rfl⟩
  obtain rfl : sb = bs lb := by rw [← hlb]; rfl
  clear hla hlb
  have hza : (bs la).size = la.length := bs_size la
  have hzb : (bs lb).size = lb.length := bs_size lb
  have hgl : g.length = n := by have := hg.len; simpa [Lib.byteCells] using this
  have HGL := Lib.hid hgl
  have HTA := Lib.hid (fun w' (h : Below w.heap.size w w') => (tokens_any la (by omega) w' (hM.below h) (hU.below h)).mono (fun e w' h => tokG_of (by omega) h))
  have HTB := Lib.hid (fun w' (h : Below w.heap.size w w') => (tokens_any lb (by omega) w' (hM.below h) (hU.below h)).mono (fun e w' h => tokG_of (by omega) h))
  have htl := gapT_len g
  have HTC := Lib.hid (fun w' (h : Below w.heap.size w w') => (tokens_any (la ++ 10 :: (gapT g ++ lb)) (by simp; omega) w' (hM.below h) (hU.below h)).mono (fun e w' h => tokG_of (by simp; omega) h))
  have HNC : Hid ((la ++ 10 :: (gapT g ++ lb)).length ≤ 2000) := by unfold Hid; simp; omega
  have hba : (bs la).size ≤ 1500 := by omega
  have hbb : (bs lb).size ≤ 1500 := by omega
  have HLA : Hid (la.length ≤ 1500) := by unfold Hid; omega
  have HLB : Hid (lb.length ≤ 1500) := by unfold Hid; omega
  obtain ⟨bg, og, hgs⟩ := hg
  have HGS := Lib.hid hgs
  have HS1 : Hid (bs la ++ ⟨#[10]⟩ = bs (la ++ 10 :: gapT (g.take 0))) := by unfold Hid; rw [show (⟨#[10]⟩ : ByteArray) = bs [10] from rfl, bs_append]; rfl
  have HSZ := Lib.hid (fun l => bs_size l)
  have HADD := Lib.hid (fun (x y : List UInt8) => bs_append x y)
  clear hM hU hgs hza hzb hs htl hgl
  go_enter Tryd.func5, Tryd.ntmps5
  go_wp2_with fail
  refine (HA.out _ (Below.refl _ _)).mono ?_
  rintro e w1 ⟨rfl, hb1⟩
  have HB1 := Lib.hid hb1
  clear hb1
  go_wp2_with fail
  go_loopw [7, 39] (fun s i wr => ∃ k : Nat, k ≤ n ∧ i = .int .i64 (k : Int) ∧ s = .string (bs (la ++ 10 :: gapT (g.take k))) ∧ Below w.heap.size w wr) (fun _ i _ => n - (intOf i).toNat)
  case atStart => exact ⟨0, Nat.zero_le _, rfl, by rw [← HS1.out], HB1.out⟩
  case round =>
    obtain ⟨k, hk, rfl, rfl, hbl⟩ := hrel
    have HBL := Lib.hid hbl
    have hzr := hbl.size
    clear hbl
    by_cases hlt : k < n
    · have hgr := HGS.out.below HBL.out
      have hix := fun W => hgr.ix (c := c) 35 5 Tryd.underlying35 (by kernel_rfl) hlt W
      have hcl := hgr.cell k hlt
      have hgk : k < g.length := by rw [HGL.out]; exact hlt
      rw [show (Lib.byteCells g).getD k undef = .int .u8 ((g.getD k 0).toNat : Int) by simp [Lib.byteCells, List.getD, List.getElem?_eq_getElem hgk]] at hcl
      have HSN := Lib.hid (gapT_snoc g hgk)
      have hlen : (gapT (g.take k)).length ≤ 320 := by
        have := gapT_len (g.take k)
        rw [List.length_take] at this
        omega
      have hsl : (bs (la ++ 10 :: gapT (g.take k))).size ≤ 1821 := by rw [HSZ.out]; have := HLA.out; simp; omega
      have hzu := (g.getD k 0).toNat_lt
      clear hgr hgk hlen
      generalize g.getD k 0 = u at *
      generalize gapT (g.take k) = G at *
      have HAD : Hid (∀ P, bs (la ++ 10 :: G) ++ bs P = bs (la ++ 10 :: (G ++ P))) := fun P => by rw [HADD.out]; simp
      generalize bs (la ++ 10 :: G) = S at *
      have hcases : u.toNat % 6 = 0 ∨ u.toNat % 6 = 1 ∨ u.toNat % 6 = 2 ∨ u.toNat % 6 = 3 ∨ u.toNat % 6 = 4 ∨ u.toNat % 6 = 5 := by omega
      rcases hcases with hq | hq | hq | hq | hq | hq
      · have hr : (u.toNat : Int).tmod 6 = 0 := by rw [Int.tmod_eq_emod_of_nonneg (by omega)]; omega
        have hr2 : (u.toNat : Int) % 6 = 0 := by omega
        have HN : Hid (S ++ ⟨#[32]⟩ = bs (la ++ 10 :: gapT (g.take (k + 1)))) := by unfold Hid; rw [HSN.out, hq]; exact HAD.out [32]
        go_wp2_with fail
        go_roundw
        case rel => exact ⟨k + 1, hlt, by go_num, by rw [← HN.out], by (show Bel w _); first | exact (Bel.alloc HBL.out _).drewN _ | exact Bel.alloc HBL.out _ | skip⟩
        case measure => simp [intOf]; omega
      · have hr : (u.toNat : Int).tmod 6 = 1 := by rw [Int.tmod_eq_emod_of_nonneg (by omega)]; omega
        have hr2 : (u.toNat : Int) % 6 = 1 := by omega
        have HN : Hid (S ++ ⟨#[9]⟩ = bs (la ++ 10 :: gapT (g.take (k + 1)))) := by unfold Hid; rw [HSN.out, hq]; exact HAD.out [9]
        go_wp2_with fail
        go_roundw
        case rel => exact ⟨k + 1, hlt, by go_num, by rw [← HN.out], by (show Bel w _); first | exact (Bel.alloc HBL.out _).drewN _ | exact Bel.alloc HBL.out _ | skip⟩
        case measure => simp [intOf]; omega
      · have hr : (u.toNat : Int).tmod 6 = 2 := by rw [Int.tmod_eq_emod_of_nonneg (by omega)]; omega
        have hr2 : (u.toNat : Int) % 6 = 2 := by omega
        have HN : Hid (S ++ ⟨#[13]⟩ = bs (la ++ 10 :: gapT (g.take (k + 1)))) := by unfold Hid; rw [HSN.out, hq]; exact HAD.out [13]
        go_wp2_with fail
        go_roundw
        case rel => exact ⟨k + 1, hlt, by go_num, by rw [← HN.out], by (show Bel w _); first | exact (Bel.alloc HBL.out _).drewN _ | exact Bel.alloc HBL.out _ | skip⟩
        case measure => simp [intOf]; omega
      · have hr : (u.toNat : Int).tmod 6 = 3 := by rw [Int.tmod_eq_emod_of_nonneg (by omega)]; omega
        have hr2 : (u.toNat : Int) % 6 = 3 := by omega
        have HN : Hid (S ++ ⟨#[10]⟩ = bs (la ++ 10 :: gapT (g.take (k + 1)))) := by unfold Hid; rw [HSN.out, hq]; exact HAD.out [10]
        go_wp2_with fail
        go_roundw
        case rel => exact ⟨k + 1, hlt, by go_num, by rw [← HN.out], by (show Bel w _); first | exact (Bel.alloc HBL.out _).drewN _ | exact Bel.alloc HBL.out _ | skip⟩
        case measure => simp [intOf]; omega
      · have hr : (u.toNat : Int).tmod 6 = 4 := by rw [Int.tmod_eq_emod_of_nonneg (by omega)]; omega
        have hr2 : (u.toNat : Int) % 6 = 4 := by omega
        have HN : Hid (S ++ ⟨#[35, 32, 120, 32, 34, 32, 123, 10]⟩ = bs (la ++ 10 :: gapT (g.take (k + 1)))) := by unfold Hid; rw [HSN.out, hq]; exact HAD.out [35, 32, 120, 32, 34, 32, 123, 10]
        go_wp2_with fail
        go_roundw
        case rel => exact ⟨k + 1, hlt, by go_num, by rw [← HN.out], by (show Bel w _); first | exact (Bel.alloc HBL.out _).drewN _ | exact Bel.alloc HBL.out _ | skip⟩
        case measure => simp [intOf]; omega
      · have hr : (u.toNat : Int).tmod 6 = 5 := by rw [Int.tmod_eq_emod_of_nonneg (by omega)]; omega
        have hr2 : (u.toNat : Int) % 6 = 5 := by omega
        have HN : Hid (S ++ ⟨#[35, 10]⟩ = bs (la ++ 10 :: gapT (g.take (k + 1)))) := by unfold Hid; rw [HSN.out, hq]; exact HAD.out [35, 10]
        go_wp2_with fail
        go_roundw
        case rel => exact ⟨k + 1, hlt, by go_num, by rw [← HN.out], by (show Bel w _); first | exact (Bel.alloc HBL.out _).drewN _ | exact Bel.alloc HBL.out _ | skip⟩
        case measure => simp [intOf]; omega
    · obtain rfl : k = n := by omega
      rw [show g.take k = g from List.take_of_length_le (by rw [HGL.out]; exact Nat.le_refl _)]
      have hsl : (bs (la ++ 10 :: gapT g)).size ≤ 2000 := by rw [HSZ.out]; have := HNC.out; simp at this ⊢; omega
      have hcat : bs (la ++ 10 :: gapT g) ++ bs lb = bs (la ++ 10 :: (gapT g ++ lb)) := by rw [HADD.out]; simp
      generalize bs (la ++ 10 :: gapT g) = S at *
      generalize bs (la ++ 10 :: (gapT g ++ lb)) = SC at *
      generalize bs la = SA at *
      generalize bs lb = SB at *
      have hB1 : Below w.heap.size w wr := HBL.out
      go_wp2_with fail
      refine (HTA.out _ HBL.out).mono ?_
      rintro e wa ⟨hba1, M, hrunA, hMA, adA, nA, cA, pA, qA, hnA, hpA, hqA, rfl, horA⟩
      have HBA : Hid (Below w.heap.size w wa) := HBL.out.trans (hba1.mono hzr)
      have HRA := Lib.hid hrunA
      have HORA := Lib.hid horA
      clear hba1 hrunA horA hB1
      go_wp2_with fail
      refine (HTB.out _ HBA.out).mono ?_
      rintro e wb ⟨hbb1, N, hrunB, hMB, adB, nB, cB, pB, qB, hnB, hpB, hqB, rfl, horB⟩
      have HBAB := Lib.hid hbb1
      have HBB : Hid (Below w.heap.size w wb) := HBA.out.trans (hbb1.mono HBA.out.size)
      have HRB := Lib.hid hrunB
      have HORB := Lib.hid horB
      clear hbb1 hrunB horB
      go_wp2_with fail
      refine (HTC.out _ HBB.out).mono ?_
      rintro e wc ⟨hbc1, K, hrunC, hMC, adC, nC, cC, pC, qC, hnC, hpC, hqC, rfl, horC⟩
      have HBBC := Lib.hid hbc1
      have HBC : Hid (Below w.heap.size w wc) := HBB.out.trans (hbc1.mono HBB.out.size)
      have HRC := Lib.hid hrunC
      have HORC := Lib.hid horC
      clear hbc1 hrunC horC
      by_cases ha : qA = 0
      rotate_left
      · have gA : ((qA : Int) == 0) = false := by simp only [beq_eq_false_iff_ne]; omega
        have gA2 : ((qA : Int) != 0) = true := by unfold bne; rw [gA]; rfl
        clear ha
        go_wp2_with fail
        go_ret
        exact ⟨rfl, HBC.out⟩
      subst ha
      obtain ⟨-, rfl, hokA, hownA⟩ := HORA.out.resolve_right (fun h => h.1 rfl)
      have HNUM := Lib.hid (blanks_num HRA.out hokA HRB.out HRC.out)
      by_cases hb : qB = 0
      rotate_left
      · have hqe : qC = qB := by
          obtain ⟨-, h0, h1⟩ := HORB.out.resolve_left (fun h => hb h.1)
          have h2 := (blanks_snd (g := g) (b := lb) HRA.out hokA (N - 1)).2.2.2.2
          rcases HORC.out with ⟨_, _, h3, _⟩ | ⟨_, _, h3⟩
          · exact absurd ((h2.symm.trans (h3 (nA + (N - 1)) (by rw [HNUM.out]; omega)))) (by rw [← h1]; exact hb)
          · rw [h3, h1, HNUM.out, show nA + N - 1 = nA + (N - 1) by omega, h2]
        subst hqe
        have gB : ((qC : Int) == 0) = false := by simp only [beq_eq_false_iff_ne]; omega
        have gB2 : ((qC : Int) != 0) = true := by unfold bne; rw [gB]; rfl
        have gB3 : ((qC : Int) == (qC : Int)) = true := by simp
        clear hb hokA hownA
        go_wp2_with fail
        go_ret
        exact ⟨rfl, HBC.out⟩
      subst hb
      obtain ⟨-, rfl, hokB, hownB⟩ := HORB.out.resolve_right (fun h => h.1 rfl)
      have hqc : qC = 0 := by
        rcases Nat.eq_zero_or_pos qC with h | h
        · exact h
        · obtain ⟨-, h0, h1⟩ := HORC.out.resolve_left (fun h' => by have := h'.1; omega)
          rw [HNUM.out] at h1 h0
          rcases Nat.lt_or_ge (nA + nB - 1) nA with h2 | h2
          · have := (blanks_fst (g := g) (b := lb) HRA.out hokA _ h2).2
            rw [this, hokA _ h2] at h1
            exact h1
          · obtain ⟨j, hj⟩ : ∃ j, nA + nB - 1 = nA + j := ⟨nA + nB - 1 - nA, by omega⟩
            rw [hj, (blanks_snd (g := g) (b := lb) HRA.out hokA j).2.2.2.2, hokB j (by omega)] at h1
            exact h1
      subst hqc
      obtain ⟨-, rfl, hokC, hownC⟩ := HORC.out.resolve_right (fun h => h.1 rfl)
      obtain rfl : nC = nA + nB := HNUM.out
      have HSAME := Lib.hid (blanks_same (g := g) (b := lb) (N := nB) HRA.out hokA)
      obtain ⟨b1, tkA⟩ := own_tk hownA hnA
      obtain ⟨b2, tkB⟩ := own_tk hownB hnB
      obtain ⟨b3, tkC⟩ := own_tk hownC hnC
      have HTKA := Lib.hid ((tkA.below HBAB.out).below HBBC.out)
      have HTKB := Lib.hid (tkB.below HBBC.out)
      have HTKC := Lib.hid tkC
      generalize hxA : upto (itemV la) nA = xA at *
      generalize hxB : upto (itemV lb) nB = xB at *
      generalize hxC : upto (itemV (la ++ 10 :: (gapT g ++ lb))) (nA + nB) = xC at *
      have HLXA : Hid (xA.length = nA) := by unfold Hid; rw [← hxA, upto_length]
      have HLXB : Hid (xB.length = nB) := by unfold Hid; rw [← hxB, upto_length]
      have HLXC : Hid (xC.length = nA + nB) := by unfold Hid; rw [← hxC, upto_length]
      clear hokA hokB hokC hownA hownB hownC tkA tkB tkC hxA hxB hxC HORA HORB HORC HNUM HRA HRB HRC HTA HTB HTC HA
      have hsum : nA + nB ≤ 1000000 := hnC
      go_wp2_with fail
      refine (fromtk_any adA nA cA xA wc b1 0 HTKA.out).mono ?_
      rintro e wd ⟨ad1, c1, rfl, own1, hbd⟩
      rw [HLXA.out] at own1 ⊢
      have HO1 := Lib.hid own1
      have HBD := Lib.hid hbd
      clear own1 hbd
      go_wp2_with fail
      refine (fromtk_any adB nB cB xB wd b2 0 (HTKB.out.below HBD.out)).mono ?_
      rintro e we ⟨ad2, c2, rfl, own2, hbe⟩
      rw [HLXB.out] at own2 ⊢
      have HO2 := Lib.hid own2
      have HO1e := Lib.hid (own_below2 HO1.out hbe)
      have HBE : Hid (Below wc.heap.size wc we) := HBD.out.trans (hbe.mono HBD.out.size)
      clear own2 hbe
      have hze := HBE.out.size
      go_wp2_with (at_builtin; refine wpList_app_tkG (by first | rfl | simp [Region.wanted, yielded]) _ _ rfl wc.heap.size wd.heap.size ad1 nA c1 _ rfl HO1e.out ad2 nB c2 xB rfl HO2.out hsum hze ?_; intro ad6 c6 wf hown6 hg6; have HOWN6 := Lib.hid hown6; have HG6 := Lib.hid hg6; clear hown6 hg6)
      have HBF : Hid (Below wc.heap.size wc wf) := HBE.out.grown HG6.out hze (fun k hk => (HO1e.out.lt k hk).1)
      refine (fromtk_any adC (nA + nB) cC xC wf b3 0 (HTKC.out.below HBF.out)).mono ?_
      rintro e wg ⟨ad3, c3, rfl, own3, hbg⟩
      rw [HLXC.out] at own3 ⊢
      obtain ⟨b4, tk3⟩ := own_tk own3 hsum
      have hrow6 := HOWN6.out
      rw [← tkCells_app] at hrow6
      obtain ⟨b5, tk6⟩ := own_tk hrow6 hsum
      have HT3 := Lib.hid tk3
      have HT6 := Lib.hid (tk6.below hbg)
      have HBG : Hid (Below wc.heap.size wc wg) := HBF.out.trans (hbg.mono HBF.out.size)
      clear own3 hbg tk3 tk6 hrow6
      go_wp2_with fail
      refine (sametk_any ad6 (nA + nB) c6 (xA ++ xB) b5 0 ad3 (nA + nB) c3 xC b4 0 false wg HT6.out HT3.out).mono ?_
      rintro e wh ⟨rfl, hbh⟩
      rw [HSAME.out]
      have HBH : Hid (Below w.heap.size w wh) := HBC.out.trans ((HBG.out.trans (hbh.mono HBG.out.size)).mono HBC.out.size)
      clear hbh
      go_wp2_with fail
      go_ret
      exact ⟨rfl, HBH.out⟩
end Go.Proofs.YtpionddponmdmaaDoor
/- Tables in memory: slices of structs, whatever the number of their cells. -/
namespace Go.Proofs.YtpionddponmdmaaDoor
open Go.RowKit

/-- a slice of n elements of k cells each, from block b, offset off on: cell j of element i holds f i j -/
structure Rw (w : World) (ad : Option Addr) (n k : Nat) (f : Nat → Nat → Value) (b off : Nat) : Prop where
  max : n ≤ 9223372036854775807
  adr : n ≠ 0 → ad = some ⟨b, off, none⟩
  cell : ∀ i j, i < n → j < k → w.cell? ⟨b, off + i * k + j, none⟩ = some (f i j)
theorem Rw.block {w : World} {ad : Option Addr} {n k : Nat} {f b off} (h : Rw w ad n k f b off) (hn : n ≠ 0) (hk : k ≠ 0) : b < w.heap.size :=
  World.block_lt_of_cell? w _ (h.cell 0 0 (by omega) (by omega))
theorem Rw.below {w w' : World} {ad : Option Addr} {n k : Nat} {f b off} (h : Rw w ad n k f b off) (hb : Below w.heap.size w w') : Rw w' ad n k f b off :=
  ⟨h.max, h.adr, fun i j hi hj => by rw [hb.cell (p := ⟨b, off + i * k + j, none⟩) (h.block (by omega) (by omega))]; exact h.cell i j hi hj⟩
theorem Rw.ix {P : Program} {w : World} {ad : Option Addr} {n k : Nat} {f b off} (h : Rw w ad n k f b off) (T E : TypeId) (hT : P.underlying T = some (.slice E)) (hE : P.cellsOf E = k) (hk : 0 < k) {i : Nat} (hi : i < n) (c : Nat) (W : World) :
    (Instr.indexAt T (.slice ad n c) (.int .i64 (i : Int))).run P W = .ok (.pointer (some ⟨b, off + i * k, none⟩)) W := by
  rw [h.adr (by omega)]
  have hel : P.elem T = E := by simp [Program.elem, hT]
  rw [run_indexAt_slice W T _ n c .i64 i (by rw [hel]; exact hT), hel, if_pos (by omega)]
  have hs : (sizeOf E).run P W = .ok k W := by
    unfold Program.cellsOf at hE
    cases hi' : P.info? E with
    | none => simp [hi'] at hE; omega
    | some q => simp [hi'] at hE; simp [sizeOf, typeInfo, hi', hE]
  rw [hs]
  simp only [Result.andThen, Addr.add]
  by_cases h0 : i * k = 0
  · simp [h0]
  · simp [h0]
/-- a slice of structs of k strings -/
def StrRows (w : World) (k : Nat) (v : Value) : Prop := ∃ ad n c, ∃ g : Nat → Nat → ByteArray, ∃ b off, v = .slice ad n c ∧ Rw w ad n k (fun i j => .string (g i j)) b off
/-- a slice of relations: its fourth field is a slice -/
def RelRows (w : World) (v : Value) : Prop := ∃ ad n c f b off, v = .slice ad n c ∧ Rw w ad n 4 f b off ∧ ∀ i, i < n → ∃ a m c', f i 3 = .slice a m c' ∧ m ≤ 9223372036854775807
/-- a condition -/
def CondOk (w : World) (v : Value) : Prop := ∃ ad n c f b off, v = .slice ad n c ∧ Rw w ad n 1 f b off ∧ ∀ i, i < n → RelRows w (f i 0)
/-- a slice of rules -/
def RuleRows (w : World) (v : Value) : Prop := ∃ ad n c f b off, v = .slice ad n c ∧ Rw w ad n 2 f b off ∧ (ad = none → c = 0) ∧ ∀ i, i < n → (∃ s, f i 0 = .string s) ∧ CondOk w (f i 1)
theorem StrRows.below {w w' : World} {k : Nat} {v : Value} (h : StrRows w k v) (hb : Below w.heap.size w w') : StrRows w' k v := by
  obtain ⟨ad, n, c, g, b, off, h1, h2⟩ := h
  exact ⟨ad, n, c, g, b, off, h1, h2.below hb⟩
theorem RelRows.below {w w' : World} {v : Value} (h : RelRows w v) (hb : Below w.heap.size w w') : RelRows w' v := by
  obtain ⟨ad, n, c, f, b, off, h1, h2, h3⟩ := h
  exact ⟨ad, n, c, f, b, off, h1, h2.below hb, h3⟩
theorem CondOk.below {w w' : World} {v : Value} (h : CondOk w v) (hb : Below w.heap.size w w') : CondOk w' v := by
  obtain ⟨ad, n, c, f, b, off, h1, h2, h3⟩ := h
  exact ⟨ad, n, c, f, b, off, h1, h2.below hb, fun i hi => (h3 i hi).below hb⟩
theorem RuleRows.below {w w' : World} {v : Value} (h : RuleRows w v) (hb : Below w.heap.size w w') : RuleRows w' v := by
  obtain ⟨ad, n, c, f, b, off, h1, h2, h3, h4⟩ := h
  exact ⟨ad, n, c, f, b, off, h1, h2.below hb, h3, fun i hi => ⟨(h4 i hi).1, (h4 i hi).2.below hb⟩⟩
/-- a locale's sixteen cells -/
structure LocOk (w : World) (x : Nat → Value) : Prop where
  s0 : ∃ s, x 0 = .string s
  s1 : ∃ s, x 1 = .string s
  s2 : ∃ s, x 2 = .string s
  r3 : RuleRows w (x 3)
  r4 : RuleRows w (x 4)
  s5 : ∃ s, x 5 = .string s
  s6 : ∃ s, x 6 = .string s
  s7 : ∃ s, x 7 = .string s
  s8 : ∃ s, x 8 = .string s
  i9 : ∃ z, x 9 = .int .i64 z
  i10 : ∃ z, x 10 = .int .i64 z
  l11 : StrRows w 5 (x 11)
  u12 : StrRows w 3 (x 12)
  d13 : StrRows w 2 (x 13)
  m14 : StrRows w 1 (x 14)
  m15 : StrRows w 1 (x 15)
theorem LocOk.below {w w' : World} {x : Nat → Value} (h : LocOk w x) (hb : Below w.heap.size w w') : LocOk w' x :=
  ⟨h.s0, h.s1, h.s2, h.r3.below hb, h.r4.below hb, h.s5, h.s6, h.s7, h.s8, h.i9, h.i10, h.l11.below hb, h.u12.below hb, h.d13.below hb, h.m14.below hb, h.m15.below hb⟩
/-- a table: its locales, aliases and near entries -/
structure TabOk (w : World) (v0 v1 v2 : Value) : Prop where
  locs : ∃ ad n c f b off, v0 = .slice ad n c ∧ Rw w ad n 16 f b off ∧ ∀ i, i < n → LocOk w (f i)
  als : StrRows w 2 v1
  nears : ∃ ad n c f b off, v2 = .slice ad n c ∧ Rw w ad n 3 f b off ∧ ∀ i, i < n → (∃ s, f i 0 = .string s) ∧ (∃ s, f i 1 = .string s)
theorem TabOk.below {w w' : World} {v0 v1 v2 : Value} (h : TabOk w v0 v1 v2) (hb : Below w.heap.size w w') : TabOk w' v0 v1 v2 := by
  obtain ⟨⟨ad, n, c, f, b, off, h1, h2, h3⟩, h4, ⟨ad', n', c', f', b', off', h5, h6, h7⟩⟩ := h
  exact ⟨⟨ad, n, c, f, b, off, h1, h2.below hb, fun i hi => (h3 i hi).below hb⟩, h4.below hb, ⟨ad', n', c', f', b', off', h5, h6.below hb, h7⟩⟩
/-- some integer, and nothing that was there has changed -/
def SomeInt (w : World) (e : Ending) (w' : World) : Prop := ∃ z : Int, e = .returned (.int .i64 z) ∧ Below w.heap.size w w'
/-- some integer, the world as it was -/
def QInt (w : World) (e : Ending) (w' : World) : Prop := ∃ z : Int, e = .returned (.int .i64 z) ∧ w = w'
/-- some truth value, the world as it was -/
def QBool (w : World) (e : Ending) (w' : World) : Prop := ∃ b : Bool, e = .returned (.bool b) ∧ w = w'
/-- some truth value, and nothing that was there has changed -/
def SomeBool (w : World) (e : Ending) (w' : World) : Prop := ∃ b : Bool, e = .returned (.bool b) ∧ Below w.heap.size w w'
end Go.Proofs.YtpionddponmdmaaDoor
