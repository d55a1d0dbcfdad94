/- Walks: Build. -/
import Derived.Test.YtboojpmahfjaoaaA15
import Derived.Deep.AppendLies
import Derived.Deep.RegionLaw
namespace Go.Proofs.Ytboojpmahfjaoaa
open Go.RowKit
attribute [local go_sem] Ext.cell Ext.frozen

theorem Sl.nil (w : World) : Sl w none 0 [] := ⟨0, 0, rfl, by omega, fun h => absurd rfl h, fun i hi => absurd hi (Nat.not_lt_zero _)⟩

theorem post_err {keys : List ByteArray} {r : Nat} (h : errB keys = r) (h0 : r ≠ 0) (w' : World) : BuildPost keys (.returned (.tuple #[.agg #[.int .i64 0, .slice none 0 0], .int .i64 (r : Nat)])) w' := by
  have h1 : sizeB keys = 0 := by simp [sizeB, h, h0]
  have h2 : seedsB keys = [] := by simp [seedsB, h, h0]
  unfold BuildPost
  rw [h1, h2, h]
  exact ⟨none, 0, rfl, Sl.nil _⟩

set_option maxHeartbeats 4000000 in
theorem build_any (ad : Option Addr) (n c : Nat) (keys : List ByteArray) (w : World) (hk : Sl w ad n (strs keys)) (hn : n ≤ 60)
    (hm : ∀ s ∈ keys, s.size ≤ 9223372036854775807) :
    Calls Try.prog 11 #[.slice ad n c] w fun e w' => BuildPost keys e w' ∧ Below w.heap.size w w' := by
  have hmk := make25 (((n : Int) + 3) / 4) ((n + 3) / 4) (by omega) (by omega)
  have hmk2 := make45 (((n : Int) + 3) / 4) ((n + 3) / 4) (by omega) (by omega)
  have hmm := @run_makeMap Try.prog
  have hl := hk.len
  rw [strs_length] at hl
  have HL := Lib.hid hl
  have hm1 : (n + 3) / 4 ≤ 15 := by omega
  have hm0 : n ≠ 0 → 0 < (n + 3) / 4 := by omega
  have HNB : Hid (nb keys.length = (n + 3) / 4) := by rw [hl]; rfl
  have hmn : n = 0 → (n + 3) / 4 = 0 := by omega
  generalize (n + 3) / 4 = m at *
  obtain ⟨b, off, hk⟩ := hk
  have HK := Lib.hid hk
  have HM := Lib.hid hm
  have hbl : n ≠ 0 → b < w.heap.size := fun h => hk.block h
  have hst := start_of w n m
  clear hk hm hl
  go_enter Try.func11, Try.ntmps11
  go_wp2_with (go_at_call 20; refine (buckets_any _ _ (by omega) (by omega)).mono ?_; rintro e w' ⟨rfl, rfl⟩)
  clear hmk hmk2 hmm
  generalize ((((((w.alloc (.cells #[.int .i64 0, .slice none 0 0] 27)).alloc (.cells (madeCells #[.int .i64 0] m) 3)).alloc (.cells #[.int .i64 n, .slice (some ⟨w.heap.size + 1, 0, none⟩) m m] 27)).alloc
    (.cells (madeCells #[.slice none 0 0] m) 22)).alloc (.cells #[.slice (some ⟨w.heap.size + 1 + 1 + 1, 0, none⟩) m m] 45)).alloc (.map #[] 0)) = W0 at *
  generalize w.heap.size + 1 + 1 + 1 + 1 + 1 = M at *
  generalize w.heap.size + 1 + 1 + 1 + 1 = PB at *
  generalize w.heap.size + 1 + 1 + 1 = P0 at *
  generalize w.heap.size + 1 + 1 = T5 at *
  generalize w.heap.size + 1 = S0 at *
  have HST := Lib.hid hst
  obtain ⟨hR, o1, o2, o3, o4, o5, o6⟩ := hst.ord
  have hbel := hst.bel
  clear hst
  generalize hRR : w.heap.size = R at *
  clear hR
  have HRR := Lib.hid hRR
  clear hRR
  go_loopw [35] (fun i wr => ∃ (k : Nat) (V : Nat → Value), k ≤ n ∧ i = .int .i64 k ∧ dupK keys k = false ∧ Parts wr (M + 1) P0 m V (bucket (keys.take k) m) ∧ SeenAt wr M k (keys.take k) ∧ Chg W0 wr [P0, M]) (fun i _ => n - (intOf i).toNat)
  case atStart => exact ⟨0, _, Nat.zero_le _, rfl, rfl, HST.out.parts, HST.out.seen, Chg.refl _ _⟩
  case round =>
    obtain ⟨k, V, hkn, rfl, hdup, hp, hseen, hch⟩ := hrel
    have HDUP := Lib.hid hdup
    have HP := Lib.hid hp
    have HSEEN := Lib.hid hseen
    have HCH := Lib.hid hch
    have hzr := hch.size
    have hbw : Below R w wr := hbel.trans (hch.toBelow (B := R) (by omega) (by intro x hx; simp at hx; omega))
    clear hdup hp hseen hch
    by_cases hlt : k < n
    · have hix := HK.out.ix (P := Try.prog) (c := c) 22 9 Try.underlying22 cells9 hlt
      have hcl := HK.out.cell k hlt
      have hks := HM.out _ (getD_mem keys k .empty (by rw [HL.out]; exact hlt))
      rw [strs_getD keys k (by rw [HL.out]; exact hlt)] at hcl
      have hclr := (hbw.cell (p := ⟨b, off + k, none⟩) (hbl (by omega))).trans hcl
      have HSN := Lib.hid (bucket_snoc keys m k (by rw [HL.out]; exact hlt))
      have HTK : Hid (keys.take (k + 1) = keys.take k ++ [keys.getD k .empty]) := by
        have h : k < keys.length := by rw [HL.out]; exact hlt
        unfold Hid
        rw [List.take_succ_eq_append_getElem h]
        simp [List.getD, List.getElem?_eq_getElem h]
      have HDK : Hid (dupK keys (k + 1) = (dupK keys k || memB (keys.getD k .empty) (keys.take k))) := rfl
      have hble := bucket_le keys m k (hval (keys.getD k .empty) 0 m)
      generalize keys.getD k .empty = key at *
      have hlook := HSEEN.out.look key (by unfold maxLen; exact hks)
      have hq := hval_lt key 0 m (hm0 (by omega))
      cases hmem : memB key (keys.take k) with
      | true =>
        rw [hmem] at hlook
        have HERR : Hid (errB keys = 9) := by
          have h1 : dupK keys (k + 1) = true := by rw [HDK.out, hmem]; simp
          have h2 := dupK_true h1 hlt
          rw [← HL.out] at h2
          simp [errB, h2, Hid]
        have hr := (HCH.out.block R (by omega) (by simp; omega)).trans HST.out.r0
        have hrc0 := cell_of_row _ _ 0 _ _ _ hr
        have hrc1 := cell_of_row _ _ 1 _ _ _ hr
        have hrf0 := frozen_of_row _ _ 0 _ _ hr
        have hrf1 := frozen_of_row _ _ 1 _ _ hr
        have HR0 := Lib.hid hr
        clear hmem hr
        go_wp2_with fail
        refine bodyPost_ret (v := .tuple #[.agg #[.int .i64 0, .slice none 0 0], .int .i64 9]) (by simp [results, Try.results11, go_sem, hrc0, hrc1]) rfl ⟨post_err HERR.out (by omega) _, ?_⟩
        have h1 := (hbw.setCell (p := ⟨R, 0, none⟩) (Nat.le_refl _) (.int .i64 0)).setCell (p := ⟨R, 1, none⟩) (Nat.le_refl _) (.slice none 0 0)
        rw [HRR.out]
        exact h1
      | false =>
        rw [hmem] at hlook
        have HDK2 : Hid (dupK keys (k + 1) = false) := by
          unfold Hid
          rw [HDK.out, HDUP.out, hmem]; rfl
        obtain ⟨wU, hput, hseenU, hgU⟩ := HSEEN.out.put key (by unfold maxLen; exact hks) (by unfold maxLen; omega)
        have HSEENU := Lib.hid hseenU
        have HCHU := Lib.hid (HCH.out.grown hgU (fun x hx => .inl (by injection hx with hx; simp [hx])))
        have hPU : Parts wU (M + 1) P0 m V (bucket (keys.take k) m) := by
          have hP := HP.out
          have hsz := hgU.size
          obtain ⟨cur, h1, h2, h3⟩ := hP.row
          refine ⟨⟨cur, (hgU.block P0 hP.lt (fun e => by injection e with e; omega)).trans h1, h2, h3⟩, fun b hb => World.ownsRow.kept (hP.own b hb) hgU ?_, hP.sep, hP.far⟩
          rcases hV : (V b).ownBlock with _ | x
          · exact .inl rfl
          · right
            intro e
            injection e with e
            have := (World.ownsRow.lt (hP.own b hb) x hV).1
            omega
        have HPU := Lib.hid hPU
        have hzU := hgU.size
        have hclU := (hgU.cell (a := ⟨b, off + k, none⟩) hclr (fun e => by injection e with e; have := hbl (by omega); simp at e; omega))
        have hPB : wU.cell? ⟨PB, 0, none⟩ = some (.slice (some ⟨P0, 0, none⟩) m m) := by
          rw [HCHU.out.cell (by omega) (by simp; omega), cell_of_row _ _ 0 _ _ _ HST.out.box]; rfl
        clear hmem hseenU hgU hPU
        go_wp2_with fail
        refine (value_any key 0 m _ hks (by omega) (by omega) (hm0 (by omega)) (by omega)).mono ?_
        rintro e w2 ⟨rfl, hb2⟩
        generalize hval key 0 m = q at *
        have hp2 := HPU.out.below hb2
        have HSEEN2 := Lib.hid (HSEENU.out.same (hb2.block M (by omega)))
        have HCH2 := Lib.hid (HCHU.out.below hb2)
        have hz2 := hb2.size
        have hzP : P0 < w2.heap.size := by omega
        have hzPB : PB < w2.heap.size := by omega
        have hPB2 := (hb2.cell (p := ⟨PB, 0, none⟩) (by show PB < _; omega)).trans hPB
        have hcq := hp2.cell hq
        have hfq := hp2.free q
        have hown := hp2.own q hq
        have HP2 := Lib.hid hp2
        clear hb2 hp2 hclU hclr hPB hput hlook
        go_wp2_with fail
        obtain ⟨i0, hi, hz0, hz1, hz2'⟩ := info_parts info9
        go_region_law (first
          | (refine step_append_lies _ rfl _ _ _ rfl (M + 1) 9 i0 _ 1 16 Try.underlying22 hi hz0 hz1 hz2' rfl (by omega) (V q) _ _ rfl (World.ownsRow.alloc hown _) ⟨w2.heap.size, 0, none⟩ 1 1 [.string key] rfl rfl (cell_one_new _ _ _)
              (by simp [Value.oneCell']) (by omega) (by unfold maxLen; omega) (by omega) (by simp; omega) _ rfl ?_
             intro g cap w3 hown3 hg3 hat3 hlt3
             have hcq3 := (hg3.cell_far ⟨P0, q, none⟩ (by simp; omega) (fun e => HP2.out.far q hq e.symm)).trans (show ((w2.alloc (.cells #[.string key] 9)).drew).cell? ⟨P0, q, none⟩ = some (V q) by go_simp)
             have hpb3 := (hg3.cell_far ⟨PB, 0, none⟩ (by simp; omega) (fun e => by have := (World.ownsRow.lt hown PB e.symm).1; omega)).trans (show ((w2.alloc (.cells #[.string key] 9)).drew).cell? ⟨PB, 0, none⟩ = some (.slice (some ⟨P0, 0, none⟩) m m) by go_simp)
             have hfq3 := (hg3.frozen_far ⟨P0, q, none⟩ (by simp; omega) (fun e => HP2.out.far q hq e.symm)).trans (show ((w2.alloc (.cells #[.string key] 9)).drew).frozen? ⟨P0, q, none⟩ = false by go_simp)))
        all_goals
          have hpx := HP2.out.below (((Below.refl _ w2).alloc (Nat.le_refl _) (.cells #[.string key] 9)).drew)
          have HST3 := Lib.hid (hpx.step hq hg3 hown3 (hat3.imp id (fun h => by rw [h]; exact Nat.le_refl _)))
          have HCH3 := Lib.hid ((((HCH2.out.alloc (.cells #[.string key] 9)).drewN 1).grown hg3 (fun x hx => .inr (by have := (World.ownsRow.lt hown x hx).1; omega))).setCell P0 q (.slice (some ⟨g, 0, none⟩) ((bucket (keys.take k) m q).length + 1) cap) (.inl (by simp)))
          have HSE3 : Hid (SeenAt (w3.setCell ⟨P0, q, none⟩ (.slice (some ⟨g, 0, none⟩) ((bucket (keys.take k) m q).length + 1) cap)) M (k + 1) (keys.take (k + 1))) := by
            rw [HTK.out]
            refine HSEEN2.out.same ?_
            rw [Below.heap_setCell _ _ _ _ (by show M ≠ P0; omega), hg3.block M (by simp; omega) (fun e => by have := (World.ownsRow.lt hown M e.symm).1; omega)]
            exact Below.heap_alloc _ _ _ (by omega)
          clear hpx hown hcq hfq hg3 hown3 hat3 hlt3 hcq3 hfq3 hpb3
          go_wp2
          go_roundw
          case rel => exact ⟨k + 1, _, by omega, by go_num, HDK2.out, by rw [HSN.out]; exact HST3.out, HSE3.out, HCH3.out⟩
          case measure => simp [intOf]; omega
    · obtain rfl : k = n := by omega
      have HPF : Hid (Parts wr (M + 1) P0 m V (bucket keys m)) := by
        have := HP.out
        rwa [List.take_of_length_le (by rw [HL.out]; omega)] at this
      have hPB : wr.cell? ⟨PB, 0, none⟩ = some (.slice (some ⟨P0, 0, none⟩) m m) := by
        rw [HCH.out.cell (by omega) (by simp; omega), cell_of_row _ _ 0 _ _ _ HST.out.box]; rfl
      have hzPB : PB < wr.heap.size := by omega
      clear HP HSEEN
      go_wp2_with fail
      obtain ⟨w1, rfl⟩ : ∃ w1 : World, w1 = wr := ⟨_, rfl⟩
      go_loopw [11, 62] (fun v i wr => ∃ (j : Nat) (ad5 : Option Addr) (c5 : Nat), j ≤ m ∧ i = .int .i64 j ∧ v = .slice ad5 j c5 ∧ (j = 0 → ad5 = none ∧ c5 = 0) ∧ wr.ownsRow w1.heap.size 3 1 (.slice ad5 j c5) j (ints ((List.range j).map (fun x : Nat => (x : Int)))) ∧ Below w1.heap.size w1 wr) (fun _ i _ => m - (intOf i).toNat)
      case atStart => exact ⟨0, none, 0, Nat.zero_le _, rfl, rfl, fun _ => ⟨rfl, rfl⟩, World.ownsRow_nil _ _ _ _, Below.refl _ _⟩
      case round =>
        obtain ⟨j, ad5, c5, hjm, rfl, rfl, hj0, hown, hb1⟩ := hrel
        have HOWN := Lib.hid hown
        have HB1 := Lib.hid hb1
        have hz1 := hb1.size
        have hPB1 := (hb1.cell (p := ⟨PB, 0, none⟩) hzPB).trans hPB
        clear hown hb1
        by_cases hltj : j < m
        · have HRG : Hid (ints ((List.range (j + 1)).map (fun x : Nat => (x : Int))) = ints ((List.range j).map (fun x : Nat => (x : Int))) ++ [.int .i64 j]) := by
            unfold Hid
            rw [List.range_succ]
            simp [ints]
          go_wp2_with (at_builtin; refine app25 rfl _ _ rfl w1.heap.size _ _ _ _ rfl HOWN.out _ _ rfl rfl (by unfold maxLen; omega) (by omega) hz1 ?_; intro ad6 c6 w3 hown3 hb3 hg3 hz3; have HOWN3 := Lib.hid hown3; have HB3 := Lib.hid hb3; clear hown3 hb3 hg3 hz3)
          go_roundw
          case rel => exact ⟨j + 1, _, _, by omega, by go_num, rfl, fun h => by omega, by rw [HRG.out]; exact HOWN3.out, HB1.out.trans HB3.out⟩
          case measure => simp [intOf]; omega
        · obtain rfl : j = m := by omega
          have hbkt : ∀ b, b < j → (bucket keys j b).length ≤ 1000 := fun b _ => by
            have := bucket_le keys j keys.length b
            rw [List.take_of_length_le (Nat.le_refl _)] at this
            have := HL.out
            omega
          have HBK := Lib.hid hbkt
          have HPX := Lib.hid ((HPF.out.below (HB1.out.mono (Nat.le_refl _))).pbox hPB1)
          clear hbkt
          go_wp2_with fail
          refine (sort_all ad5 c5 w1.heap.size PB P0 j _ _ HPX.out HBK.out (by omega) HOWN.out hj0 hzPB (by omega)).mono ?_
          rintro e w3 ⟨rfl, ⟨a, hsl, ho⟩, hb3⟩
          have HORD := Lib.hid hsl
          have HO := Lib.hid ho
          have HB3 := Lib.hid ((HB1.out.mono (Nat.le_refl _)).trans (hb3.mono (Nat.le_refl _)))
          have hz3 := hb3.size
          clear hsl ho hb3
          have HADR : Hid (j ≠ 0 → ∃ g, ad5 = some ⟨g, 0, none⟩ ∧ w1.heap.size ≤ g ∧ g < w3.heap.size) := fun h => by
            obtain ⟨g, cap, hv, h1, h2⟩ := HOWN.out.form (by omega)
            injection hv with hv
            exact ⟨g, hv, h1, by omega⟩
          have hR0 := (HCH.out.block R (by omega) (by simp; omega)).trans HST.out.r0
          have hT5 := (HCH.out.block T5 (by omega) (by simp; omega)).trans HST.out.t5
          have hS0 : SeedAt w1 S0 j (fun _ => 0) := fun q hq => ⟨(HCH.out.cell (by omega) (by simp; omega)).trans (HST.out.seeds q hq).1, (HCH.out.frozen (by omega) (by simp; omega)).trans (HST.out.seeds q hq).2⟩
          have hmid := mid_of 52 (set16 fun _ => 0) HPF.out HB3.out ⟨o1, o2, o3, o4, o5, by omega⟩ hR0 hT5 hPB
          have hT0 := heap_alloc_last w3 (.cells (set16 fun _ => 0) 52)
          have hSX : SeedAt (w3.alloc (.cells (set16 fun _ => 0) 52)) S0 j (fun _ => 0) := (hS0.chg (HB3.out.mono (by omega))).chg ((Below.refl _ _).alloc (by omega) _)
          have hordX := HORD.out.alloc (.cells (set16 fun _ => 0) 52)
          have hbX : Below R w (w3.alloc (.cells (set16 fun _ => 0) 52)) := (hbw.trans (HB3.out.mono (by omega))).alloc (by omega) _
          have hszX : (w3.alloc (.cells (set16 fun _ => 0) 52)).heap.size = w3.heap.size + 1 := by simp
          clear hR0 hT5 hS0
          go_wp2_with fail
          generalize hX0 : w3.alloc (.cells #[.int .u64 0, .int .u64 0, .int .u64 0, .int .u64 0, .int .u64 0, .int .u64 0, .int .u64 0, .int .u64 0, .int .u64 0, .int .u64 0, .int .u64 0, .int .u64 0, .int .u64 0, .int .u64 0, .int .u64 0, .int .u64 0] 52) = X0
          have hX0' : w3.alloc (.cells (set16 fun _ => 0) 52) = X0 := hX0
          rw [hX0'] at hmid hT0 hSX hordX hbX hszX
          clear hX0 hX0'
          generalize hTT : w3.heap.size = T0 at *
          have HMID := Lib.hid hmid
          have HT0 := Lib.hid hT0
          have HSX := Lib.hid hSX
          have HORDX := Lib.hid hordX
          have HBX := Lib.hid hbX
          have HSZX := Lib.hid hszX
          have hszX' : T0 < X0.heap.size := by omega
          have hPT : PB < T0 := by omega
          clear hmid hT0 hSX hordX hbX hszX HB3 HPX HPF HORD HB1 HOWN hPB1 hTT hz3 hPB HCH hbw
          go_loopw [75] (fun v wr => ∃ (i : Nat) (f : Nat → Bool) (sd : Nat → Nat) (cs : Array Value), i ≤ j ∧ v = .int .i64 i ∧ procL k (bucket keys j) (((List.range j).map a).take i) (fun _ => false) (fun _ => 0) = some (f, sd) ∧
              wr.heap[T0]? = some (.cells cs 52 (0, 0)) ∧ SetV cs f ∧ SeedAt wr S0 j sd ∧ (∀ p, i ≤ p → p < j → sd (a p) = 0) ∧ Chg X0 wr [T0, S0]) (fun v _ => j - (intOf v).toNat)
          case atStart => exact ⟨0, _, _, _, Nat.zero_le _, rfl, rfl, HT0.out, SetW.zero.setV, HSX.out, fun _ _ _ => rfl, Chg.refl _ _⟩
          case round =>
            obtain ⟨i, f, sd, cs, hij, rfl, hproc, hrow, hset, hseed, hfresh, hchg⟩ := hrel
            obtain ⟨w4, rfl⟩ : ∃ w4 : World, w4 = wr := ⟨_, rfl⟩
            have HPROC := Lib.hid hproc
            have HROW := Lib.hid hrow
            have HSET := Lib.hid hset
            have HSEED := Lib.hid hseed
            have HFRESH := Lib.hid hfresh
            have HCHG := Lib.hid hchg
            have HMID4 := Lib.hid (HMID.out.chg hchg)
            clear hproc hrow hset hseed hfresh hchg
            by_cases hlti : i < j
            · have hai : a i < j := HO.out.lt i hlti
              have hfr := HFRESH.out i (Nat.le_refl _) hlti
              have HFR : Hid (∀ p, i + 1 ≤ p → p < j → a p ≠ a i) := fun p hp1 hp2 e => by
                have := out_inj HO.out hp2 hlti e; omega
              have HTK2 := Lib.hid (take_map_succ a hlti)
              have hixo := HORDX.out
              obtain ⟨bo, oo, hixo⟩ := hixo
              have hixw := hixo.ix (P := Try.prog) (c := c5) 25 3 Try.underlying25 cells3 hlti
              have hoc := hixo.cell i hlti
              rw [ord_getD a hlti] at hoc
              have hbo : bo ≠ T0 ∧ bo ≠ S0 ∧ bo < T0 := by
                obtain ⟨g, hg1, hg2, hg3⟩ := HADR.out (by omega)
                have h2 := hixo.adr (by omega)
                rw [hg1] at h2
                injection h2 with h2
                injection h2 with h2
                omega
              have hoc4 := (HCHG.out.cell (g := bo) (i := oo + i) (by omega) (by simp; omega)).trans hoc
              clear hoc hixo
              generalize hab : a i = bb at *
              have HAB := Lib.hid hab
              clear hab
              go_wp2_with fail
              go_loopw [16] (fun v wr => ∃ s : Nat, 1 ≤ s ∧ s ≤ 100001 ∧ v = .int .i64 s ∧ Chg X0 wr [T0, S0] ∧
                  (((∀ t, 1 ≤ t → t < s → goodSeed f (bucket keys j bb) k t = false) ∧ wr.heap[T0]? = some (.cells cs 52 (0, 0)) ∧ SeedAt wr S0 j sd) ∨
                   (∃ s0 cs', seedOf f (bucket keys j bb) k = some s0 ∧ (bucket keys j bb).length ≠ 0 ∧ wr.heap[T0]? = some (.cells cs' 52 (0, 0)) ∧ SetV cs' (addAll f (slots (bucket keys j bb) (s0 : Int) k)) ∧ SeedAt wr S0 j (upd sd bb s0) ∧ 1 ≤ s0)))
                (fun v _ => 200000 - (intOf v).toNat)
              case atStart => exact ⟨1, Nat.le_refl _, by omega, rfl, HCHG.out, .inl ⟨fun t h1 h2 => by omega, HROW.out, HSEED.out⟩⟩
              case round =>
                obtain ⟨s, hs1, hs2, rfl, hcg, hcase⟩ := hrel
                have HCG := Lib.hid hcg
                have hmid5 := HMID.out.chg hcg
                have hbox := hmid5.box
                obtain ⟨adb, cb, bk, ofk, hpc, hsl, hbk1, hbk2⟩ := hmid5.part bb hai
                have ht5 := hmid5.t5
                have htc1 := cell_of_row _ _ 1 _ _ _ ht5
                have HMID5 := Lib.hid hmid5
                have hszr := hcg.size
                rcases hcase with ⟨hno, hrow, hsd⟩ | ⟨s0, cs', hso, hlen, hrow, hset', hsd, hs01⟩
                · have HNO := Lib.hid hno
                  have HROW5 := Lib.hid hrow
                  have HSD5 := Lib.hid hsd
                  have hsc := (hsd bb hai).1
                  have hsf := (hsd bb hai).2
                  rw [hfr] at hsc
                  clear hno hrow hsd hcg hmid5 ht5
                  by_cases hlen : (bucket keys j bb).length = 0
                  · have HPR : Hid (procL k (bucket keys j) (((List.range j).map a).take (i + 1)) (fun _ => false) (fun _ => 0) = some (f, sd)) := by
                      unfold Hid
                      rw [HTK2.out, procL_append, HPROC.out]
                      simp [procL, hlen]
                    rw [hlen] at hpc
                    clear hlen hsl
                    go_wp2_with fail
                    go_roundw
                    case rel => exact ⟨i + 1, f, sd, cs, by omega, by go_num, HPR.out, HROW5.out, HSET.out, HSD5.out, fun p h1 h2 => HFRESH.out p (by omega) h2, HCG.out⟩
                    case measure => simp [intOf]; omega
                  · have hlp : (0 : Int) < ((bucket keys j bb).length : Int) := by omega
                    by_cases hmax : s = 100001
                    · subst hmax
                      have HERR : Hid (errB keys = 6) := by
                        have h1 : seedOf f (bucket keys j bb) k = none := seedOf_none (fun t h1 h2 => HNO.out t h1 (by omega))
                        have h2 : procL k (bucket keys j) (((List.range j).map a).take (i + 1)) (fun _ => false) (fun _ => 0) = none := by
                          rw [HTK2.out, procL_append, HPROC.out]
                          simp [procL, hlen, h1]
                        have h3 := procL_none h2
                        rw [← HL.out] at h3
                        have h4 := built_of (by rw [HNB.out]) HO.out h3
                        have h5 := HDUP.out
                        rw [← HL.out] at h5
                        simp [errB, h5, h4, Hid]
                      have hR := HMID5.out.r0
                      have hrc0 := cell_of_row _ _ 0 _ _ _ hR
                      have hrc1 := cell_of_row _ _ 1 _ _ _ hR
                      have hrf0 := frozen_of_row _ _ 0 _ _ hR
                      have hrf1 := frozen_of_row _ _ 1 _ _ hR
                      have HBF := Lib.hid (((HBX.out.trans (HCG.out.toBelow (B := R) (by omega) (by intro x hx; simp at hx; omega))).setCell (p := ⟨R, 0, none⟩) (Nat.le_refl _) (.int .i64 0)).setCell (p := ⟨R, 1, none⟩) (Nat.le_refl _) (.slice none 0 0))
                      clear hR hsl hlen
                      go_wp2_with fail
                      refine bodyPost_ret (v := .tuple #[.agg #[.int .i64 0, .slice none 0 0], .int .i64 6]) (by simp [results, Try.results11, go_sem, hrc0, hrc1]) rfl ⟨post_err HERR.out (by omega) _, ?_⟩
                      rw [HRR.out]
                      exact HBF.out
                    · have hs3 : s ≤ 100000 := by omega
                      have hk0 : 0 < k := by
                        rcases Nat.eq_zero_or_pos k with e | e
                        · have := hmn e; omega
                        · exact e
                      have HSLB : Hid (∀ W, Below wr.heap.size wr W → Sl W adb (bucket keys j bb).length (strs (bucket keys j bb))) := fun W hW => ⟨bk, ofk, hsl.below hW⟩
                      have HKB : Hid (∀ x ∈ bucket keys j bb, x.size ≤ 9223372036854775807) := fun x hx => HM.out x (by unfold bucket at hx; exact (List.mem_filter.1 hx).1)
                      have HLEN := Lib.hid hlen
                      have hPT5 : PB < wr.heap.size := by omega
                      have hPT6 : P0 < wr.heap.size := by omega
                      have hPT7 : T0 < wr.heap.size := by omega
                      have hPT8 : T5 < wr.heap.size := by omega
                      have hPT9 : S0 < wr.heap.size := by omega
                      clear hlen hsl
                      have HGG : Hid (goodSeed f (bucket keys j bb) k s = fitK f (slots (bucket keys j bb) (s : Int) k) (bucket keys j bb).length) := rfl
                      obtain ⟨csr, hcsr⟩ : ∃ csr, if fitK f (slots (bucket keys j bb) (s : Int) k) (bucket keys j bb).length = true then SetV csr (addAll f (slots (bucket keys j bb) (s : Int) k)) else csr = cs := by
                        cases fitK f (slots (bucket keys j bb) (s : Int) k) (bucket keys j bb).length with
                        | true => exact (SetV.exist _).imp fun c hc => by simpa using hc
                        | false => exact ⟨cs, by simp⟩
                      have HCSR := Lib.hid hcsr
                      have hcsz := HSET.out.1
                      have hcsrz : csr.size = 16 := by
                        split at hcsr
                        · exact hcsr.1
                        · rw [hcsr]; exact hcsz
                      have hcsr1 : csr.all (·.oneCell') = true := by
                        split at hcsr
                        · exact all_of_list hcsr.one
                        · rw [hcsr]; exact all_of_list HSET.out.one
                      have HTRY : Hid (∀ W, Below wr.heap.size wr W → Calls Try.prog 24 #[.agg cs, .slice adb (bucket keys j bb).length cb, .int .i64 (s : Nat), .int .i64 (k : Nat)] W fun e w' =>
                          e = .returned (.tuple #[.agg csr, .bool (goodSeed f (bucket keys j bb) k s)]) ∧ Below W.heap.size W w') := fun W hW =>
                        try_set cs csr f adb _ cb (bucket keys j bb) s k W HSET.out (HSLB.out W hW) HKB.out (by omega) (by omega) hk0 (by omega) HCSR.out
                      clear hcsr
                      generalize hok : goodSeed f (bucket keys j bb) k s = ok at *
                      have HOK := Lib.hid hok
                      clear hok
                      generalize hbl2 : (bucket keys j bb).length = len at *
                      have HBL2 := Lib.hid hbl2
                      clear hbl2
                      go_wp2_with fail
                      refine wp_region_gen (fun A0 hA0 => ?_)
                      have a4 : A0.tmps.getD 4 undef = .int .i64 (k : Nat) := by rw [hA0]; rfl
                      have a6 : A0.tmps.getD 6 undef = .pointer (some ⟨PB, 0, none⟩) := by rw [hA0]; rfl
                      have a13 : A0.tmps.getD 13 undef = .pointer (some ⟨T0, 0, none⟩) := by rw [hA0]; rfl
                      have a15 : A0.tmps.getD 15 undef = .int .i64 (bb : Nat) := by rw [hA0]; rfl
                      have a16 : A0.tmps.getD 16 undef = .int .i64 (s : Nat) := by rw [hA0]; rfl
                      have aS : A0.tmps.size = 118 := by rw [hA0]; rfl
                      have HA0 := Lib.hid hA0
                      clear hA0
                      refine wp_region_inv (J32 A0 [(0, 99, .agg cs), (1, 100, .slice (some ⟨P0, 0, none⟩) j j), (2, 101, .int .i64 (bb : Nat)), (3, 102, .pointer (some ⟨P0, bb, none⟩)), (4, 103, .slice adb len cb), (5, 104, .int .i64 (s : Nat)), (6, 105, .int .i64 (k : Nat)),
                        (7, 106, .tuple #[.agg csr, .bool ok]), (8, 98, .tuple #[.agg csr, .bool ok]), (9, 107, .agg csr), (10, 108, .bool ok), (13, 18, .bool ok)] wr csr) (by kernel_rfl) (by kernel_rfl)
                        ⟨⟨rfl, rfl, fun _ _ => rfl⟩, fun x _ h => by simp [Array.getD, Array.getElem_replicate] at h, (Below.refl _ _).drew, fun h => by simp at h, fun h => by simp at h⟩ ?_ ?_
                      · refine ⟨?_, ?_, ?_, ?_, ?_, ?_, ?_, ?_, ?_, ?_, ?_, ?_, ?_, ?_, trivial⟩
                        all_goals (intro L a w hL hi hp hJ; refine if_plain rfl ?_)
                        · refine wp_load_row 52 _ rfl T0 (hJ.fr.ev (by decide) a13) 52 cs (0, 0) _ ((hJ.bel.block T0 (by omega)).trans HROW5.out) Try.underlying52 rfl (by rw [size52, hcsz]) ?_
                          exact hJ.det aS hL 0 99 _ (by omega) (by decide) (by omega) (by omega) (by omega) (by simp) (Below.refl _ _)
                        · have hc := cell_below hbox hJ.bel
                          refine wp_load_run 45 _ rfl (hJ.fr.ev (by decide) a6) (v := .slice (some ⟨P0, 0, none⟩) j j) (by go_simp) ?_
                          exact hJ.det aS hL 1 100 _ (by omega) (by decide) (by omega) (by omega) (by omega) (by simp) (Below.refl _ _)
                        · refine wp_move _ rfl (hJ.fr.ev (by decide) a15) ?_
                          exact hJ.det aS hL 2 101 _ (by omega) (by decide) (by omega) (by omega) (by omega) (by simp) (Below.refl _ _)
                        · have h1 := hJ.tab.ev (i := 1) (d := 100) (v := .slice (some ⟨P0, 0, none⟩) j j) (by simp) (hp ⟨1, .data⟩ (by simp) rfl)
                          have h2 := hJ.tab.ev (i := 2) (d := 101) (v := .int .i64 (bb : Nat)) (by simp) (hp ⟨2, .data⟩ (by simp) rfl)
                          refine wp_index_run 45 _ _ rfl h1 h2 (v := .pointer (some ⟨P0, bb, none⟩)) (by go_simp) ?_
                          exact hJ.det aS hL 3 102 _ (by omega) (by decide) (by omega) (by omega) (by omega) (by simp) (Below.refl _ _)
                        · have h1 := hJ.tab.ev (i := 3) (d := 102) (v := .pointer (some ⟨P0, bb, none⟩)) (by simp) (hp ⟨3, .data⟩ (by simp) rfl)
                          have hc := cell_below hpc hJ.bel
                          refine wp_load_run 22 _ rfl h1 (v := .slice adb len cb) (by go_simp) ?_
                          exact hJ.det aS hL 4 103 _ (by omega) (by decide) (by omega) (by omega) (by omega) (by simp) (Below.refl _ _)
                        · refine wp_move _ rfl (hJ.fr.ev (by decide) a16) ?_
                          exact hJ.det aS hL 5 104 _ (by omega) (by decide) (by omega) (by omega) (by omega) (by simp) (Below.refl _ _)
                        · refine wp_move _ rfl (hJ.fr.ev (by decide) a4) ?_
                          exact hJ.det aS hL 6 105 _ (by omega) (by decide) (by omega) (by omega) (by omega) (by simp) (Below.refl _ _)
                        · have h0 : a.tmps.getD 99 undef = .agg cs := hJ.tab.ev (i := 0) (d := 99) (by simp) (hp ⟨0, .data⟩ (by simp) rfl)
                          have h4 : a.tmps.getD 103 undef = .slice adb len cb := hJ.tab.ev (i := 4) (d := 103) (by simp) (hp ⟨4, .data⟩ (by simp) rfl)
                          have h5 : a.tmps.getD 104 undef = .int .i64 (s : Nat) := hJ.tab.ev (i := 5) (d := 104) (by simp) (hp ⟨5, .data⟩ (by simp) rfl)
                          have h6 : a.tmps.getD 105 undef = .int .i64 (k : Nat) := hJ.tab.ev (i := 6) (d := 105) (by simp) (hp ⟨6, .data⟩ (by simp) rfl)
                          have hcall := (HTRY.out w hJ.bel).mono (R' := fun e w' => e = .returned (.tuple #[.agg csr, .bool ok]) ∧ J32 A0 _ wr csr (L.setIfInBounds 7 true) (a.put (some 106) (.tuple #[.agg csr, .bool ok])) w')
                            (fun e w' ⟨he, hb⟩ => ⟨he, hJ.det aS hL 7 106 _ (by omega) (by decide) (by omega) (by omega) (by omega) (by simp) hb⟩)
                          simp only [Array.getD_eq_getD_getElem?] at h0 h4 h5 h6
                          clear hp
                          go_simp
                          refine hcall.mono ?_
                          rintro e w' ⟨rfl, hk⟩
                          exact hk
                        · have h1 := hJ.tab.ev (i := 7) (d := 106) (v := .tuple #[.agg csr, .bool ok]) (by simp) (hp ⟨7, .data⟩ (by simp) rfl)
                          refine wp_move _ rfl h1 ?_
                          exact hJ.det aS hL 8 98 _ (by omega) (by decide) (by omega) (by omega) (by omega) (by simp) (Below.refl _ _)
                        · have h1 := hJ.tab.ev (i := 8) (d := 98) (v := .tuple #[.agg csr, .bool ok]) (by simp) (hp ⟨8, .data⟩ (by simp) rfl)
                          refine wp_extract _ _ rfl h1 (v := .agg csr) rfl ?_
                          exact hJ.det aS hL 9 107 _ (by omega) (by decide) (by omega) (by omega) (by omega) (by simp) (Below.refl _ _)
                        · have h1 := hJ.tab.ev (i := 8) (d := 98) (v := .tuple #[.agg csr, .bool ok]) (by simp) (hp ⟨8, .data⟩ (by simp) rfl)
                          refine wp_extract _ _ rfl h1 (v := .bool ok) rfl ?_
                          exact hJ.det aS hL 10 108 _ (by omega) (by decide) (by omega) (by omega) (by omega) (by simp) (Below.refl _ _)
                        · refine wp_alloc_run 52 rfl (w' := w.alloc (.cells (set16 fun _ => 0) 52)) (v := .pointer (some ⟨w.heap.size, 0, none⟩)) (by go_simp; rfl) ?_
                          exact hJ.alloc aS hL _ rfl hi (by simp)
                        · obtain ⟨B, Z, h1, h2, h3, h4, _⟩ := hJ.box (hp ⟨11, .data⟩ (by simp) rfl)
                          have h5 := hJ.tab.ev (i := 9) (d := 107) (v := .agg csr) (by simp) (hp ⟨9, .data⟩ (by simp) rfl)
                          refine wp_store_row 52 _ _ rfl B csr h1 h5 52 Z h3 (by rw [size52, hcsrz]) (h4.trans hcsrz.symm) hcsr1 ?_
                          exact hJ.store hcsrz h1 h2 h3 (hp ⟨11, .data⟩ (by simp) rfl) (by simp)
                        · have h1 := hJ.tab.ev (i := 10) (d := 108) (v := .bool ok) (by simp) (hp ⟨10, .data⟩ (by simp) rfl)
                          refine wp_assign _ rfl h1 ?_
                          exact hJ.det aS hL 13 18 _ (by omega) (by decide) (by omega) (by omega) (by omega) (by simp) (Below.refl _ _)
                      · intro L a w6 hdone hJ
                        obtain ⟨B, Z, h17, hB0, hBrow, hZ, hZ2⟩ := hJ.box (hdone 11 (by simp))
                        have hZc := hZ2 (hdone 12 (by simp))
                        subst hZc
                        have hb6 := hJ.bel
                        have ha := hJ.fr.eq_puts [(99, .agg cs), (100, .slice (some ⟨P0, 0, none⟩) j j), (101, .int .i64 (bb : Nat)), (102, .pointer (some ⟨P0, bb, none⟩)), (103, .slice adb len cb), (104, .int .i64 (s : Nat)), (105, .int .i64 (k : Nat)),
                          (106, .tuple #[.agg Z, .bool ok]), (98, .tuple #[.agg Z, .bool ok]), (107, .agg Z), (108, .bool ok), (17, .pointer (some ⟨B, 0, none⟩)), (18, .bool ok)] rfl (by decide) (by rw [aS]; decide) (by
                            intro x hx
                            simp only [List.mem_cons, List.not_mem_nil, or_false] at hx
                            rcases hx with rfl | rfl | rfl | rfl | rfl | rfl | rfl | rfl | rfl | rfl | rfl | rfl | rfl
                            · exact hJ.tab.ev (i := 0) (d := 99) (by simp) (hdone 0 (by simp))
                            · exact hJ.tab.ev (i := 1) (d := 100) (by simp) (hdone 1 (by simp))
                            · exact hJ.tab.ev (i := 2) (d := 101) (by simp) (hdone 2 (by simp))
                            · exact hJ.tab.ev (i := 3) (d := 102) (by simp) (hdone 3 (by simp))
                            · exact hJ.tab.ev (i := 4) (d := 103) (by simp) (hdone 4 (by simp))
                            · exact hJ.tab.ev (i := 5) (d := 104) (by simp) (hdone 5 (by simp))
                            · exact hJ.tab.ev (i := 6) (d := 105) (by simp) (hdone 6 (by simp))
                            · exact hJ.tab.ev (i := 7) (d := 106) (by simp) (hdone 7 (by simp))
                            · exact hJ.tab.ev (i := 8) (d := 98) (by simp) (hdone 8 (by simp))
                            · exact hJ.tab.ev (i := 9) (d := 107) (by simp) (hdone 9 (by simp))
                            · exact hJ.tab.ev (i := 10) (d := 108) (by simp) (hdone 10 (by simp))
                            · exact h17
                            · exact hJ.tab.ev (i := 13) (d := 18) (by simp) (hdone 13 (by simp)))
                        have HB6 := Lib.hid hb6
                        have HBROW := Lib.hid hBrow
                        have hz6 := hb6.size
                        clear hJ hdone h17 hZ2 hZ hBrow hb6
                        rw [ha, HA0.out]
                        clear ha
                        simp only [puts, List.foldl_cons, List.foldl_nil, Act.put]
                        have HCG6 := Lib.hid (HCG.out.below HB6.out)
                        have HSD6 := Lib.hid (HSD5.out.chg (HB6.out.mono (by omega)))
                        have HROW6 := Lib.hid ((HB6.out.block T0 (by omega)).trans HROW5.out)
                        cases ok with
                        | false =>
                          go_wp2_with fail
                          go_roundw
                          case rel => exact ⟨s + 1, by omega, by omega, by go_num, HCG6.out, .inl ⟨fun t h1 h2 => by
                            rcases Nat.lt_or_ge t s with h3 | h3
                            · exact HNO.out t h1 h3
                            · obtain rfl : t = s := by omega
                              exact HOK.out, HROW6.out, HSD6.out⟩⟩
                          case measure => simp [intOf]; omega
                        | true =>
                          have HSET7 : Hid (SetV Z (addAll f (slots (bucket keys j bb) (s : Int) k))) := by
                            have := HCSR.out
                            rwa [if_pos HGG.out.symm] at this
                          have HSO : Hid (seedOf f (bucket keys j bb) k = some s) := seedOf_some hs1 hs3 HOK.out (fun t h1 h2 => HNO.out t h1 h2)
                          have hzsz := HSET7.out.1
                          have hz1 := all_of_list HSET7.out.one
                          have hcgsz := HCG.out.size
                          go_wp2_with fail
                          refine wp_region_gen (fun A1 hA1 => ?_)
                          have b5 : A1.tmps.getD 5 undef = .pointer (some ⟨T5, 0, none⟩) := by rw [hA1]; rfl
                          have b13 : A1.tmps.getD 13 undef = .pointer (some ⟨T0, 0, none⟩) := by rw [hA1]; rfl
                          have b15 : A1.tmps.getD 15 undef = .int .i64 (bb : Nat) := by rw [hA1]; rfl
                          have b16 : A1.tmps.getD 16 undef = .int .i64 (s : Nat) := by rw [hA1]; rfl
                          have b17 : A1.tmps.getD 17 undef = .pointer (some ⟨B, 0, none⟩) := by rw [hA1]; rfl
                          have bS : A1.tmps.size = 118 := by rw [hA1]; rfl
                          have HA1 := Lib.hid hA1
                          clear hA1
                          refine wp_region_inv (J34 A1 [(0, 110, .pointer (some ⟨T5, 1, none⟩)), (1, 111, .slice (some ⟨S0, 0, none⟩) j j), (2, 112, .int .i64 (bb : Nat)), (3, 113, .agg Z), (4, 114, .int .i64 (s : Nat)), (6, 115, .pointer (some ⟨S0, bb, none⟩))]
                            X0 T0 S0 B j Z cs sd (upd sd bb s)) (by kernel_rfl) (by kernel_rfl)
                            ⟨⟨rfl, rfl, fun _ _ => rfl⟩, fun x _ h => by simp [Array.getD, Array.getElem_replicate] at h, HCG6.out.drewN 1, HBROW.out, ⟨cs, HROW6.out, hcsz, fun h => by simp at h⟩, by rw [if_neg (by simp)]; exact HSD6.out.chg ((Below.refl _ _).drew)⟩ ?_ ?_
                          · refine ⟨?_, ?_, ?_, ?_, ?_, ?_, ?_, ?_, trivial⟩
                            all_goals (intro L a w hL hi hp hJ; refine if_plain rfl ?_)
                            · refine wp_field_run 27 _ 1 rfl (hJ.fr.ev (by decide) b5) (v := .pointer (some ⟨T5, 1, none⟩)) (by go_simp) ?_
                              exact hJ.det bS hL 0 110 _ (by omega) (by decide) (by omega) (by omega) (by simp)
                            · have h1 := hJ.tab.ev (i := 0) (d := 110) (v := .pointer (some ⟨T5, 1, none⟩)) (by simp) (hp ⟨0, .data⟩ (by simp) rfl)
                              have ht := cell_of_row _ _ 1 _ _ _ (HMID.out.chg hJ.chg).t5
                              refine wp_load_run 25 _ rfl h1 (v := .slice (some ⟨S0, 0, none⟩) j j) (by go_simp) ?_
                              exact hJ.det bS hL 1 111 _ (by omega) (by decide) (by omega) (by omega) (by simp)
                            · refine wp_move _ rfl (hJ.fr.ev (by decide) b15) ?_
                              exact hJ.det bS hL 2 112 _ (by omega) (by decide) (by omega) (by omega) (by simp)
                            · refine wp_load_row 52 _ rfl B (hJ.fr.ev (by decide) b17) 52 Z (0, 0) _ hJ.nxt Try.underlying52 rfl (by rw [size52, hzsz]) ?_
                              exact hJ.det bS hL 3 113 _ (by omega) (by decide) (by omega) (by omega) (by simp)
                            · refine wp_move _ rfl (hJ.fr.ev (by decide) b16) ?_
                              exact hJ.det bS hL 4 114 _ (by omega) (by decide) (by omega) (by omega) (by simp)
                            · have h1 := hJ.tab.ev (i := 3) (d := 113) (v := .agg Z) (by simp) (hp ⟨3, .data⟩ (by simp) rfl)
                              obtain ⟨Y, h2, h3, _⟩ := hJ.row
                              refine wp_store_row 52 _ _ rfl T0 Z (hJ.fr.ev (by decide) b13) h1 52 Y h2 (by rw [size52, hzsz]) (h3.trans hzsz.symm) hz1 ?_
                              exact hJ.take hzsz (by omega) (by omega) (by simp)
                            · have h1 := hJ.tab.ev (i := 1) (d := 111) (v := .slice (some ⟨S0, 0, none⟩) j j) (by simp) (hp ⟨1, .data⟩ (by simp) rfl)
                              have h2 := hJ.tab.ev (i := 2) (d := 112) (v := .int .i64 (bb : Nat)) (by simp) (hp ⟨2, .data⟩ (by simp) rfl)
                              refine wp_index_run 25 _ _ rfl h1 h2 (v := .pointer (some ⟨S0, bb, none⟩)) (by go_simp) ?_
                              exact hJ.det bS hL 6 115 _ (by omega) (by decide) (by omega) (by omega) (by simp)
                            · have h1 := hJ.tab.ev (i := 6) (d := 115) (v := .pointer (some ⟨S0, bb, none⟩)) (by simp) (hp ⟨6, .data⟩ (by simp) rfl)
                              have h2 := hJ.tab.ev (i := 4) (d := 114) (v := .int .i64 (s : Nat)) (by simp) (hp ⟨4, .data⟩ (by simp) rfl)
                              obtain ⟨h3, h4⟩ := hJ.seeds bb hai
                              refine wp_store_run 3 _ _ rfl h1 h2 (w' := w.setCell ⟨S0, bb, none⟩ (.int .i64 (s : Nat))) (by go_simp) ?_
                              have h7 : L.getD 7 false = false := by
                                have h8 : (7 : Nat) < L.size := by rw [hL]; decide
                                simp only [Array.getD, h8, dif_pos] at hi ⊢
                                exact hi
                              exact hJ.seed hL h7 hai (by omega) (by omega) (by simp)
                          · intro L a w7 hdone hJ
                            have ha := hJ.fr.eq_puts [(110, .pointer (some ⟨T5, 1, none⟩)), (111, .slice (some ⟨S0, 0, none⟩) j j), (112, .int .i64 (bb : Nat)), (113, .agg Z), (114, .int .i64 (s : Nat)), (115, .pointer (some ⟨S0, bb, none⟩))] rfl (by decide) (by rw [bS]; decide) (by
                                intro x hx
                                simp only [List.mem_cons, List.not_mem_nil, or_false] at hx
                                rcases hx with rfl | rfl | rfl | rfl | rfl | rfl
                                · exact hJ.tab.ev (i := 0) (d := 110) (by simp) (hdone 0 (by simp))
                                · exact hJ.tab.ev (i := 1) (d := 111) (by simp) (hdone 1 (by simp))
                                · exact hJ.tab.ev (i := 2) (d := 112) (by simp) (hdone 2 (by simp))
                                · exact hJ.tab.ev (i := 3) (d := 113) (by simp) (hdone 3 (by simp))
                                · exact hJ.tab.ev (i := 4) (d := 114) (by simp) (hdone 4 (by simp))
                                · exact hJ.tab.ev (i := 6) (d := 115) (by simp) (hdone 6 (by simp)))
                            have HCG7 := Lib.hid hJ.chg
                            obtain ⟨Y, hY1, hY2, hY3⟩ := hJ.row
                            have hY := hY3 (hdone 5 (by simp))
                            subst hY
                            have hsd7 := hJ.seeds
                            rw [if_pos (hdone 7 (by simp))] at hsd7
                            have HROW7 := Lib.hid hY1
                            have HSD7 := Lib.hid hsd7
                            clear hJ hdone hY1 hY2 hY3 hsd7
                            rw [ha, HA1.out]
                            clear ha
                            simp only [puts, List.foldl_cons, List.foldl_nil, Act.put]
                            go_wp2_with fail
                            go_roundw
                            case rel => exact ⟨s + 1, by omega, by omega, by go_num, HCG7.out, .inr ⟨s, Y, HSO.out, by omega, HROW7.out, HSET7.out, HSD7.out, hs1⟩⟩
                            case measure => simp [intOf]; omega
                · have HPR : Hid (procL k (bucket keys j) (((List.range j).map a).take (i + 1)) (fun _ => false) (fun _ => 0) = some (addAll f (slots (bucket keys j bb) (s0 : Int) k), upd sd bb s0)) := by
                    unfold Hid
                    rw [HTK2.out, procL_append, HPROC.out]
                    simp [procL, hlen, hso]
                  have HROW5 := Lib.hid hrow
                  have HSET5 := Lib.hid hset'
                  have HSD5 := Lib.hid hsd
                  have hsc := (hsd bb hai).1
                  have hu : upd sd bb s0 bb = s0 := by simp [upd]
                  rw [hu] at hsc
                  have hs0' : (((s0 : Nat) : Int) == 0) = false := by simp; omega
                  have hlp : (0 : Int) < ((bucket keys j bb).length : Int) := by omega
                  have HFRN : Hid (∀ p, i + 1 ≤ p → p < j → upd sd bb s0 (a p) = 0) := fun p h1 h2 => by
                    have h3 := HFR.out p h1 h2
                    simp only [upd, h3, if_false]
                    exact HFRESH.out p (by omega) h2
                  clear hrow hset' hsd hcg hmid5 ht5 hso hlen hu hsl
                  go_wp2_with fail
                  go_roundw
                  case rel => exact ⟨i + 1, _, _, cs', by omega, by go_num, HPR.out, HROW5.out, HSET5.out, HSD5.out, HFRN.out, HCG.out⟩
                  case measure => simp [intOf]; omega
            · obtain rfl : i = j := by omega
              have HBT : Hid (built keys = some (f, sd)) := by
                have := HPROC.out
                rw [List.take_of_length_le (by simp)] at this
                rw [← HL.out] at this
                exact built_of (by rw [HNB.out]) HO.out this
              have HDN : Hid (dupK keys keys.length = false) := by rw [HL.out]; exact HDUP.out
              have hR := HMID4.out.r0
              have hT := HMID4.out.t5
              have hrc0 := cell_of_row _ _ 0 _ _ _ hR
              have hrc1 := cell_of_row _ _ 1 _ _ _ hR
              have hrf0 := frozen_of_row _ _ 0 _ _ hR
              have hrf1 := frozen_of_row _ _ 1 _ _ hR
              have htc0 := cell_of_row _ _ 0 _ _ _ hT
              have htc1 := cell_of_row _ _ 1 _ _ _ hT
              have HSD : Hid (SeedAt ((w4.setCell ⟨R, 0, none⟩ (.int .i64 k)).setCell ⟨R, 1, none⟩ (.slice (some ⟨S0, 0, none⟩) i i)) S0 i sd) := by
                intro q hq
                obtain ⟨g1, g2⟩ := HSEED.out q hq
                refine ⟨?_, by simp [World.frozen?_setCell, g2]⟩
                rw [World.cell?_setCell_other _ _ _ _ (by simp <;> omega), World.cell?_setCell_other _ _ _ _ (by simp <;> omega)]
                exact g1
              have HBF := Lib.hid (((HBX.out.trans (HCHG.out.toBelow (B := R) (by omega) (by intro x hx; simp at hx; omega))).setCell (p := ⟨R, 0, none⟩) (Nat.le_refl _) (.int .i64 k)).setCell (p := ⟨R, 1, none⟩) (Nat.le_refl _) (.slice (some ⟨S0, 0, none⟩) i i))
              clear hR hT
              go_wp2_with fail
              refine bodyPost_ret (v := .tuple #[.agg #[.int .i64 k, .slice (some ⟨S0, 0, none⟩) i i], .int .i64 0]) (by simp [results, Try.results11, go_sem, hrc0, hrc1]) rfl ⟨?_, ?_⟩
              · have := post_ok (by rw [HNB.out]) HDN.out HBT.out HSD.out (by omega)
                rw [HL.out] at this
                exact this
              · rw [HRR.out]; exact HBF.out
end Go.Proofs.Ytboojpmahfjaoaa
