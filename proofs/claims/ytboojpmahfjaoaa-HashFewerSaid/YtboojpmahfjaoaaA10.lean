/- Walks: the reference's fit; equal tables. -/
import Derived.Test.YtboojpmahfjaoaaA9
namespace Go.Proofs.Ytboojpmahfjaoaa
open Go.RowKit
attribute [local go_sem] Ext.cell Ext.frozen
theorem cells4 : Try.prog.cellsOf 4 = 1 := by kernel_rfl
theorem any_cast (l : List Nat) (q : Nat) : (l.map (fun x : Nat => (x : Int))).any (· == (q : Int)) = l.any (· == q) := by
  induction l with
  | nil => rfl
  | cons x l ih =>
    simp only [List.map_cons, List.any_cons, ih]
    congr 1
    rw [Bool.eq_iff_iff]
    simp
    omega

def bools (f : Nat → Bool) (N : Nat) : List Value := (List.range N).map fun i => .bool (f i)
theorem bools_getD (f : Nat → Bool) (N i : Nat) (h : i < N) : (bools f N).getD i undef = .bool (f i) := by
  simp [bools, List.getD, List.getElem?_map, List.getElem?_range h]

def FitPost (f : Nat → Bool) (ks : List ByteArray) (seed : Int) (N n base : Nat) (e : Ending) (w' : World) : Prop :=
  (fitK f (slots ks seed N) ks.length = true ∧ ∃ ad c, e = .returned (.tuple #[.slice ad n c, .bool true]) ∧ w'.ownsRow base 3 1 (.slice ad n c) n (ints ((slots ks seed N).map (fun x : Nat => (x : Int))))) ∨
  (fitK f (slots ks seed N) ks.length = false ∧ e = .returned (.tuple #[.slice none 0 0, .bool false]))

set_option maxHeartbeats 1000000 in
theorem rfit_any (f : Nat → Bool) (ad ad2 : Option Addr) (n c c2 : Nat) (keys : List ByteArray) (seed : Int) (N : Nat) (w : World) (hk : Sl w ad n (strs keys)) (ht : Sl w ad2 N (bools f N))
    (hm : ∀ s ∈ keys, s.size ≤ 9223372036854775807) (h0 : 0 ≤ seed) (hs1 : seed ≤ 100000) (hN : 0 < N) (hN1 : N ≤ 1000) (hn1 : n ≤ 1000) :
    Calls Try.prog 26 #[.slice ad n c, .int .i64 seed, .slice ad2 N c2] w fun e w' => FitPost f keys seed N n w.heap.size e w' ∧ Below w.heap.size w w' := by
  have hl := hk.len
  rw [strs_length] at hl
  have HL := Lib.hid hl
  obtain ⟨b, off, hk⟩ := hk
  have HK := Lib.hid hk
  have HM := Lib.hid hm
  have hbl : n ≠ 0 → b < w.heap.size := fun h => hk.block h
  obtain ⟨b2, off2, ht⟩ := ht
  have HT := Lib.hid ht
  have hbl2 : b2 < w.heap.size := ht.block (by omega)
  clear hl hk hm ht
  go_enter Try.func26, Try.ntmps26
  go_wp2_with fail
  go_loopw [8, 9] (fun v i wr => ∃ (k : Nat) (ad5 : Option Addr) (c5 : Nat), k ≤ n ∧ i = .int .i64 k ∧ v = .slice ad5 k c5 ∧ fitK f (slots keys seed N) k = true ∧
      wr.ownsRow w.heap.size 3 1 (.slice ad5 k c5) k (ints (((slots keys seed N).take k).map (fun x : Nat => (x : Int)))) ∧ Below w.heap.size w wr) (fun _ i _ => n - (intOf i).toNat)
  case atStart => exact ⟨0, none, 0, Nat.zero_le _, rfl, rfl, rfl, World.ownsRow_nil _ _ _ _, Below.refl _ _⟩
  case round =>
    obtain ⟨k, ad5, c5, hkn, rfl, rfl, hf, hown, hbr⟩ := hrel
    have HF := Lib.hid hf
    have HOWN := Lib.hid hown
    have HBR := Lib.hid hbr
    have hzr := hbr.size
    clear hf hown hbr
    by_cases hlt : k < n
    · have hix := HK.out.ix (P := Try.prog) (c := c) 22 9 Try.underlying22 cells9 hlt
      have hcl := HK.out.cell k hlt
      have hks := HM.out _ (getD_mem keys k .empty (by rw [HL.out]; exact hlt))
      rw [strs_getD keys k (by rw [HL.out]; exact hlt)] at hcl
      have hclr := (HBR.out.cell (p := ⟨b, off + k, none⟩) (hbl (by omega))).trans hcl
      have HGD : Hid ((slots keys seed N).getD k 0 = hval (keys.getD k .empty) seed N) := by
        have : k < keys.length := by rw [HL.out]; exact hlt
        simp [slots, List.getD, List.getElem?_map, List.getElem?_eq_getElem this, Hid]
      have HTK : Hid ((slots keys seed N).take (k + 1) = (slots keys seed N).take k ++ [hval (keys.getD k .empty) seed N]) := by
        have : k < keys.length := by rw [HL.out]; exact hlt
        rw [← HGD.out]
        rw [List.take_succ_eq_append_getElem (by simpa [slots] using this)]
        simp [slots, List.getD, List.getElem?_eq_getElem this, Hid]
      generalize keys.getD k .empty = key at *
      have hq := hval_lt key seed N hN
      clear hcl
      go_wp2_with fail
      refine (mod_any key seed N _ hks h0 hs1 hN (by omega)).mono ?_
      rintro e w2 ⟨rfl, hb2⟩
      generalize hval key seed N = q at *
      have hix2 := HT.out.ix (P := Try.prog) (c := c2) 56 4 Try.underlying56 cells4 hq
      have hct := HT.out.cell q hq
      rw [bools_getD f N q hq] at hct
      have HB2 := Lib.hid (HBR.out.trans (hb2.mono (by omega)))
      have hct2 := (HB2.out.cell (p := ⟨b2, off2 + q, none⟩) hbl2).trans hct
      have HOWN2 := Lib.hid (Own.below HOWN.out hb2)
      have hz2 : w.heap.size ≤ w2.heap.size := by have := hb2.size; omega
      clear hb2 hclr hct HBR HOWN
      cases hfq : f q with
      | true =>
        rw [hfq] at hct2
        have HFF : Hid (fitK f (slots keys seed N) (k + 1) = false) := by
          simp only [fitK, HGD.out, hfq, Hid]
          simp
        clear hfq
        go_wp2
        go_ret2
        exact ⟨.inr ⟨by have := fitK_false HFF.out hlt; rw [← HL.out] at this; exact this, rfl⟩, HB2.out⟩
      | false =>
        rw [hfq] at hct2
        have HFQ := Lib.hid hfq
        clear hfq
        cases hin : ((slots keys seed N).take k).any (· == q) with
        | true =>
          have HIN := Lib.hid ((any_cast _ q).trans hin)
          have HFF : Hid (fitK f (slots keys seed N) (k + 1) = false) := by
            simp only [fitK, HGD.out, hin, Hid]
            simp
          clear hin
          go_wp2_with (go_at_call 32; refine (rhas_any _ _ _ _ (q : Int) _ (Own.sl HOWN2.out)).mono ?_; rintro e w' ⟨rfl, rfl⟩; rw [HIN.out])
          go_ret2
          exact ⟨.inr ⟨by have := fitK_false HFF.out hlt; rw [← HL.out] at this; exact this, rfl⟩, HB2.out⟩
        | false =>
          have HIN := Lib.hid ((any_cast _ q).trans hin)
          have HFF : Hid (fitK f (slots keys seed N) (k + 1) = true) := by
            simp only [fitK, HGD.out, hin, HF.out, HFQ.out, Hid]
            rfl
          clear hin
          go_wp2_with (first
            | (go_at_call 32; refine (rhas_any _ _ _ _ (q : Int) _ (Own.sl HOWN2.out)).mono ?_; rintro e w' ⟨rfl, rfl⟩; rw [HIN.out])
            | (at_builtin; refine app25 rfl _ _ rfl w.heap.size _ _ _ _ rfl HOWN2.out _ _ rfl rfl (by unfold maxLen; omega) (by omega) hz2 ?_; intro ad6 c6 w3 hown3 hb3 hg3 hz3; have HOWN3 := Lib.hid hown3; have HB3 := Lib.hid hb3; clear hown3 hb3 hg3 hz3))
          go_roundw
          case rel =>
            exact ⟨k + 1, _, _, by omega, by go_num, rfl, HFF.out, by rw [HTK.out]; simpa [ints] using HOWN3.out, HB2.out.trans HB3.out⟩
          case measure => simp [intOf]; omega
    · obtain rfl : k = n := by omega
      go_wp2
      go_ret2
      refine ⟨.inl ⟨by rw [HL.out]; exact HF.out, _, _, rfl, ?_⟩, HBR.out⟩
      have := HOWN.out
      rwa [List.take_of_length_le (by simp [slots, HL.out])] at this

def sameT (s1 s2 : Int) (z1 z2 : List Int) : Bool := decide (s1 = s2) && decide (z1 = z2)

theorem list_ne_of_getD {z1 z2 : List Int} {k : Nat} (h : z1.getD k 0 ≠ z2.getD k 0) : z1 ≠ z2 := fun e => h (by rw [e])

set_option maxHeartbeats 1000000 in
theorem rsame_any (s1 s2 : Int) (ad1 ad2 : Option Addr) (n1 n2 c1 c2 : Nat) (z1 z2 : List Int) (w : World) (h1 : Sl w ad1 n1 (ints z1)) (h2 : Sl w ad2 n2 (ints z2)) :
    Calls Try.prog 13 #[.agg #[.int .i64 s1, .slice ad1 n1 c1], .agg #[.int .i64 s2, .slice ad2 n2 c2]] w fun e w' => e = .returned (.bool (sameT s1 s2 z1 z2)) ∧ Below w.heap.size w w' := by
  have hl1 := h1.len
  have hl2 := h2.len
  rw [ints_length] at hl1 hl2
  have hmax := h1.max
  have hmax2 := h2.max
  by_cases hs : s1 = s2
  · by_cases hn : n1 = n2
    · subst hs
      subst hn
      have HL1 := Lib.hid hl1
      have HL2 := Lib.hid hl2
      have e1 : (s1 != s1) = false := by simp
      have e2 : ((n1 : Int) != (n1 : Int)) = false := by simp
      obtain ⟨b1, o1, h1⟩ := h1
      obtain ⟨b2, o2, h2⟩ := h2
      have HH1 := Lib.hid h1
      have HH2 := Lib.hid h2
      clear h1 h2 hl1 hl2
      go_enter Try.func13, Try.ntmps13
      go_wp2_with fail
      go_loopw [5] (fun i wr => ∃ k : Nat, k ≤ n1 ∧ i = .int .i64 k ∧ z1.take k = z2.take k ∧ ∃ q, wr = (((w.alloc (.cells #[.int .i64 s1, .slice ad1 n1 c1] 31)).alloc (.cells #[.int .i64 s1, .slice ad2 n1 c2] 31)).drewN q)) (fun i _ => n1 - (intOf i).toNat)
      case atStart => exact ⟨0, Nat.zero_le _, rfl, rfl, 0, rfl⟩
      case round =>
        obtain ⟨k, hk, rfl, ht, q, rfl⟩ := hrel
        have HT := Lib.hid ht
        clear ht
        have HBB : Hid (∀ q, Below w.heap.size w (((w.alloc (.cells #[.int .i64 s1, .slice ad1 n1 c1] 31)).alloc (.cells #[.int .i64 s1, .slice ad2 n1 c2] 31)).drewN q)) := fun q =>
          (((Below.refl _ w).alloc (Nat.le_refl _) _).alloc (by simp) _).trans ⟨rfl, rfl, rfl, Nat.le_refl _, fun _ _ => rfl⟩
        by_cases hlt : k < n1
        · have hix1 := HH1.out.ix (P := Try.prog) (c := c1) 25 3 Try.underlying25 cells3 hlt
          have hcl1 := HH1.out.cell k hlt
          have hbl1 := HH1.out.block (by omega)
          rw [ints_getD z1 k (by rw [HL1.out]; exact hlt)] at hcl1
          have hix2 := HH2.out.ix (P := Try.prog) (c := c2) 25 3 Try.underlying25 cells3 hlt
          have hcl2 := HH2.out.cell k hlt
          have hbl2 := HH2.out.block (by omega)
          rw [ints_getD z2 k (by rw [HL2.out]; exact hlt)] at hcl2
          have hb1' : b1 < w.heap.size + 1 := by omega
          have hb2' : b2 < w.heap.size + 1 := by omega
          have HNE := Lib.hid (list_ne_of_getD (z1 := z1) (z2 := z2) (k := k))
          have HTS : Hid (z1.getD k 0 = z2.getD k 0 → z1.take (k + 1) = z2.take (k + 1)) := fun e => by
            have g1 : k < z1.length := by rw [HL1.out]; exact hlt
            have g2 : k < z2.length := by rw [HL2.out]; exact hlt
            rw [List.take_succ_eq_append_getElem g1, List.take_succ_eq_append_getElem g2, HT.out]
            simp [List.getD, List.getElem?_eq_getElem g1, List.getElem?_eq_getElem g2] at e
            rw [e]
          generalize z1.getD k 0 = x at *
          generalize z2.getD k 0 = y at *
          cases hxy : (x != y) with
          | true =>
            have HXY : Hid (sameT s1 s1 z1 z2 = false) := by
              have := HNE.out (by simpa using hxy)
              simp [sameT, this, Hid]
            go_wp2_with fail
            go_quiet (fail)
            go_wp2
            go_ret
            exact ⟨ret_bool HXY.out.symm, by have := HBB.out; simpa using this _⟩
          | false =>
            have HXY := Lib.hid (HTS.out (by simpa using hxy))
            go_wp2_with fail
            go_quiet (fail)
            go_wp2
            go_roundw
            case rel => exact ⟨k + 1, by omega, by go_num, HXY.out, _, rfl⟩
            case measure => simp [intOf]; omega
        · obtain rfl : k = n1 := by omega
          have HXY : Hid (sameT s1 s1 z1 z2 = true) := by
            have := HT.out
            rw [List.take_of_length_le (by rw [HL1.out]; omega), List.take_of_length_le (by rw [HL2.out]; omega)] at this
            simp [sameT, this, Hid]
          go_wp2
          go_ret
          exact ⟨ret_bool HXY.out.symm, HBB.out _⟩
    · have HR : Hid (sameT s1 s2 z1 z2 = false) := by
        have : z1 ≠ z2 := fun e => hn (by rw [← hl1, ← hl2, e])
        simp [sameT, this, Hid]
      have e1 : (s1 != s2) = false := by simp [hs]
      have e2 : ((n1 : Int) != (n2 : Int)) = true := by simp; omega
      clear hs hn hl1 hl2
      go_enter Try.func13, Try.ntmps13
      go_wp2
      go_ret
      exact ⟨ret_bool HR.out.symm, ((Below.refl _ w).alloc (Nat.le_refl _) _).alloc (by simp) _⟩
  · have HR : Hid (sameT s1 s2 z1 z2 = false) := by simp [sameT, hs, Hid]
    have e1 : (s1 != s2) = true := by simp [hs]
    clear hs hl1 hl2
    go_enter Try.func13, Try.ntmps13
    go_wp2
    go_ret
    exact ⟨ret_bool HR.out.symm, ((Below.refl _ w).alloc (Nat.le_refl _) _).alloc (by simp) _⟩
end Go.Proofs.Ytboojpmahfjaoaa
