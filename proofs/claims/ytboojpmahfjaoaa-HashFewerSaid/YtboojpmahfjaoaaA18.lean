/- Walks: the reference's Build. -/
import Derived.Test.YtboojpmahfjaoaaA17
namespace Go.Proofs.Ytboojpmahfjaoaa
open Go.RowKit
attribute [local go_sem] Ext.cell Ext.frozen

theorem upd_self {α : Type} (f : Nat → α) (b : Nat) : upd f b (f b) = f := by
  funext j; unfold upd; split <;> simp_all

theorem upd_upd {α : Type} (f : Nat → α) (b : Nat) (x y : α) : upd (upd f b x) b y = upd f b y := by
  funext j; unfold upd; split <;> simp_all

theorem part_chg {X0 W : World} {P0 b TB S0 : Nat} {ad : Option Addr} {c bk off : Nat} {L : List ByteArray} (hc : Chg X0 W [TB, S0]) (hP : P0 < X0.heap.size) (h1 : P0 ≠ TB) (h2 : P0 ≠ S0)
    (hcell : X0.cell? ⟨P0, b, none⟩ = some (.slice ad L.length c)) (hs : SlAt X0 ad L.length (strs L) bk off) (h3 : bk ≠ TB) (h4 : bk ≠ S0) :
    Sl W ad L.length (strs L) ∧ W.cell? ⟨P0, b, none⟩ = some (.slice ad L.length c) := by
  refine ⟨⟨bk, off, hs.len, hs.max, hs.adr, fun i hi => ?_⟩, ?_⟩
  · rw [hc.cell (hs.block (by omega)) (by simp [h3, h4])]
    exact hs.cell i hi
  · rw [hc.cell hP (by simp [h1, h2])]
    exact hcell

/-- what fit returns, in one form -/
theorem fit_post {f : Nat → Bool} {L : List ByteArray} {q k base : Nat} {e : Ending} {w6 : World} (hk0 : 0 < k) (h : FitPost f L (q : Int) k L.length base e w6) :
    ∃ (sl : List Nat) (ad : Option Addr) (c bb oo : Nat) (ok : Bool), e = .returned (.tuple #[.slice ad sl.length c, .bool ok]) ∧ SlAt w6 ad sl.length (ints (sl.map (fun x : Nat => (x : Int)))) bb oo ∧ (sl.length ≠ 0 → base ≤ bb) ∧
      (∀ y ∈ sl, y < k) ∧ sl.length ≤ L.length ∧ ((ok = true ∧ goodSeed f L k q = true ∧ sl = slots L (q : Int) k) ∨ (ok = false ∧ goodSeed f L k q = false ∧ sl = [])) := by
  rcases h with ⟨hf, ad, c, rfl, hown⟩ | ⟨hf, rfl⟩
  · have hlen : (slots L (q : Int) k).length = L.length := by simp [slots]
    obtain ⟨bb, oo, hs⟩ := Own.sl hown
    refine ⟨slots L (q : Int) k, ad, c, bb, oo, true, by rw [hlen], by rw [hlen]; exact hs, fun h0 => ?_, fun y hy => ?_, by omega, .inl ⟨rfl, hf, rfl⟩⟩
    · have ha := hs.adr (by omega)
      subst ha
      exact ((Own.lt hown) bb rfl).1
    · simp only [slots, List.mem_map] at hy
      obtain ⟨s, _, rfl⟩ := hy
      exact hval_lt s _ _ hk0
  · exact ⟨[], none, 0, 0, 0, false, rfl, ⟨rfl, by simp, fun h => absurd rfl h, fun i hi => absurd hi (Nat.not_lt_zero _)⟩, fun h => absurd rfl h, fun y hy => by simp at hy, by simp, .inr ⟨rfl, hf, rfl⟩⟩

set_option maxHeartbeats 4000000 in
theorem rbuild_any (ad : Option Addr) (n c : Nat) (keys : List ByteArray) (w : World) (hk : Sl w ad n (strs keys)) (hn : n ≤ 60)
    (hm : ∀ s ∈ keys, s.size ≤ 9223372036854775807) :
    Calls Try.prog 12 #[.slice ad n c] w fun e w' => BuildPost keys e w' ∧ Below w.heap.size w w' := by
  have hsl0 := hk
  have hl := hk.len
  rw [strs_length] at hl
  have HL := Lib.hid hl
  have HSL0 := Lib.hid hsl0
  obtain ⟨b, off, hk⟩ := hk
  have HK := Lib.hid hk
  have HM := Lib.hid hm
  have hbl : n ≠ 0 → b < w.heap.size := fun h => hk.block h
  clear hk hm hl hsl0
  go_enter Try.func12, Try.ntmps12
  go_wp2_with fail
  go_loopw [4] (fun i wr => ∃ k : Nat, k ≤ n ∧ i = .int .i64 k ∧ dupK keys k = false ∧ ∃ q, wr = (w.alloc (.cells #[.int .i64 0, .slice none 0 0] 31)).drewN q) (fun i _ => n - (intOf i).toNat)
  case atStart => exact ⟨0, Nat.zero_le _, rfl, rfl, 0, rfl⟩
  case round =>
    obtain ⟨k, hkn, rfl, hdup, q0, rfl⟩ := hrel
    have HDUP := Lib.hid hdup
    clear hdup
    by_cases hlt : k < n
    · have hix := HK.out.ix (P := Try.prog) (c := c) 22 9 Try.underlying22 cells9 hlt
      have hcl := HK.out.cell k hlt
      rw [strs_getD keys k (by rw [HL.out]; exact hlt)] at hcl
      have hb1 : b < w.heap.size + 1 := by have := hbl (by omega); omega
      have hb0 := hbl (by omega)
      go_wp2_with fail
      go_loopw [5] (fun i wr => ∃ j : Nat, j ≤ k ∧ i = .int .i64 j ∧ (∀ p, p < j → keys.getD p .empty ≠ keys.getD k .empty) ∧ ∃ q, wr = (w.alloc (.cells #[.int .i64 0, .slice none 0 0] 31)).drewN q) (fun i _ => k - (intOf i).toNat)
      case atStart => exact ⟨0, Nat.zero_le _, rfl, fun p hp => by omega, q0, rfl⟩
      case round =>
        obtain ⟨j, hjk, rfl, hno, q1, rfl⟩ := hrel
        have HNO := Lib.hid hno
        clear hno
        by_cases hltj : j < k
        · have hixj := HK.out.ix (P := Try.prog) (c := c) 22 9 Try.underlying22 cells9 (show j < n by omega)
          have hclj := HK.out.cell j (by omega)
          rw [strs_getD keys j (by rw [HL.out]; omega)] at hclj
          have HEQ : Hid ((keys.getD j .empty).toList == (keys.getD k .empty).toList → False) ∨ True := .inr trivial
          clear HEQ
          cases heq : ((keys.getD j .empty).toList == (keys.getD k .empty).toList) with
          | true =>
            have hkk : keys.getD j .empty = keys.getD k .empty := by
              have h1 := eq_of_beq heq
              rw [ByteArray.toList_eq, ByteArray.toList_eq] at h1
              exact ba_ext h1
            have HERR : Hid (errB keys = 9) := by
              have h1 : dupK keys (k + 1) = true := by
                simp only [dupK, memB_at hltj (by rw [HL.out]; exact hkn) hkk, Bool.or_true]
              have h2 := dupK_true h1 hlt
              rw [← HL.out] at h2
              simp [errB, h2, Hid]
            generalize keys.getD j .empty = kj at *
            generalize keys.getD k .empty = kk at *
            clear hkk
            go_wp2_with fail
            go_quiet (fail)
            go_wp2_with fail
            refine bodyPost_ret (v := .tuple #[.agg #[.int .i64 0, .slice none 0 0], .int .i64 9]) (by simp [results, Try.results12, go_sem]) rfl ⟨post_err HERR.out (by omega) _, ?_⟩
            exact ((box_below w _ _).setCell (p := ⟨w.heap.size, 0, none⟩) (Nat.le_refl _) _).setCell (p := ⟨w.heap.size, 1, none⟩) (Nat.le_refl _) _
          | false =>
            have hkk : keys.getD j .empty ≠ keys.getD k .empty := by
              intro e
              rw [e] at heq
              simp at heq
            have HNO2 : Hid (∀ p, p < j + 1 → keys.getD p .empty ≠ keys.getD k .empty) := fun p hp => by
              rcases Nat.lt_or_eq_of_le (Nat.lt_succ_iff.1 hp) with h | h
              · exact HNO.out p h
              · rw [h]; exact hkk
            clear hkk
            have HGJ : ∃ kj, keys.getD j .empty = kj := ⟨_, rfl⟩
            obtain ⟨kj, hkj⟩ := HGJ
            obtain ⟨kk, hkk⟩ : ∃ kk, keys.getD k .empty = kk := ⟨_, rfl⟩
            rw [hkj] at hclj heq
            rw [hkk] at hcl heq
            clear hkj hkk
            go_wp2_with fail
            go_quiet (fail)
            go_wp2_with fail
            go_roundw
            case rel => exact ⟨j + 1, by omega, by go_num, HNO2.out, _, rfl⟩
            case measure => simp [intOf]; omega
        · obtain rfl : j = k := by omega
          have HD2 : Hid (dupK keys (j + 1) = false) := by
            have h1 : memB (keys.getD j .empty) (keys.take j) = false := by
              rw [← Bool.not_eq_true, memB_iff]
              intro hmem
              obtain ⟨p, hp, he⟩ := List.getElem_of_mem hmem
              rw [List.length_take] at hp
              rw [List.getElem_take] at he
              refine HNO.out p (by omega) ?_
              rw [← he]
              simp [List.getD, List.getElem?_eq_getElem (show p < keys.length by omega)]
            unfold Hid
            simp only [dupK, HDUP.out, h1, Bool.or_false]
          go_wp2_with fail
          go_roundw
          case rel => exact ⟨j + 1, by omega, by go_num, HD2.out, _, rfl⟩
          case measure => simp [intOf]; omega
    · obtain rfl : k = n := by omega
      have hm1 : (k + 3) / 4 ≤ 15 := by omega
      have hm0 : k ≠ 0 → 0 < (k + 3) / 4 := by omega
      have HNB : Hid (nb keys.length = (k + 3) / 4) := by rw [HL.out]; rfl
      have HBK := Lib.hid (fun W h => rbuckets_any ad k c keys W h (by omega) HM.out)
      generalize (k + 3) / 4 = m at *
      have hsl1 := HSL0.out.below (box_below w (.cells #[.int .i64 0, .slice none 0 0] 31) q0)
      have hb1 := box_below w (.cells #[.int .i64 0, .slice none 0 0] 31) q0
      have hr1 : ((w.alloc (.cells #[.int .i64 0, .slice none 0 0] 31)).drewN q0).heap[w.heap.size]? = some (.cells #[.int .i64 0, .slice none 0 0] 31 (0, 0)) := heap_alloc_new _ _
      have hz1 : ((w.alloc (.cells #[.int .i64 0, .slice none 0 0] 31)).drewN q0).heap.size = w.heap.size + 1 := by simp [World.drewN]
      generalize ((w.alloc (.cells #[.int .i64 0, .slice none 0 0] 31)).drewN q0) = W1 at *
      go_wp2_with fail
      refine (HBK.out _ hsl1).mono ?_
      rintro e w2 ⟨V, rfl, hp, hb2⟩
      have hst := rstart_of (n := k) hb1 hz1 hr1 hp hb2
      have hmk := make56 k (by omega)
      have hmk2 := make25 m m rfl (by omega)
      have HHB : Hid (∀ wf, Below w.heap.size w wf ↔ Below w.heap.size w wf) := fun _ => Iff.rfl
      clear hb1 hz1 hr1 hp hb2 hsl1
      go_wp2_with fail
      generalize (((w2.alloc (.cells (madeCells #[.int .i64 0] m) 3)).alloc (.cells #[.int .i64 k, .slice (some ⟨w2.heap.size, 0, none⟩) m m] 31)).alloc (.cells (madeCells #[.bool false] k) 4)) = X0 at *
      generalize w2.heap.size + 1 + 1 = TB at *
      generalize w2.heap.size + 1 = T7 at *
      generalize w2.heap.size = S0 at *
      generalize W1.heap.size = P0 at *
      generalize hRR : w.heap.size = R at *
      have HRR := Lib.hid hRR
      have HST := Lib.hid hst
      have hX1 : R < X0.heap.size := by have := hst.mid.ord; omega
      have hX2 : P0 < X0.heap.size := by have := hst.mid.ord; omega
      have hX3 : S0 < X0.heap.size := by have := hst.mid.ord; omega
      have hX4 : T7 < X0.heap.size := by have := hst.mid.ord; omega
      have hX5 : TB < X0.heap.size := by have := hst.mid.ord; omega
      have HORD := Lib.hid hst.mid.ord
      clear hst hmk hmk2 HHB hRR hbl
      go_loopw [9] (fun v wr => ∃ (s t : Nat) (f : Nat → Bool) (sd : Nat → Nat), s + t = k ∧ v = .int .i64 s ∧ procL k (bucket keys m) (ordP (fun b => (bucket keys m b).length) k m t 0) (fun _ => false) (fun _ => 0) = some (f, sd) ∧
          BoolAt wr TB k f ∧ SeedAt wr S0 m sd ∧ Chg X0 wr [TB, S0]) (fun v _ => (intOf v).toNat)
      case atStart => exact ⟨k, 0, _, _, rfl, rfl, by rw [ordP_start]; rfl, HST.out.tk, HST.out.seeds, Chg.refl _ _⟩
      case round =>
        obtain ⟨s, t, f, sd, hst, rfl, hproc, htk, hseed, hchg⟩ := hrel
        have HPROC := Lib.hid hproc
        have HTK := Lib.hid htk
        have HSEED := Lib.hid hseed
        have HCHG := Lib.hid hchg
        clear hproc htk hseed hchg
        by_cases hs0 : 0 < s
        · go_wp2_with fail
          obtain ⟨w4, rfl⟩ : ∃ w4 : World, w4 = wr := ⟨_, rfl⟩
          go_loopw [10] (fun v wr => ∃ (b : Nat) (f : Nat → Bool) (sd : Nat → Nat), b ≤ m ∧ v = .int .i64 b ∧ procL k (bucket keys m) (ordP (fun b => (bucket keys m b).length) k m t b) (fun _ => false) (fun _ => 0) = some (f, sd) ∧
            BoolAt wr TB k f ∧ SeedAt wr S0 m sd ∧ Chg X0 wr [TB, S0]) (fun v _ => m - (intOf v).toNat)
          case atStart => exact ⟨0, f, sd, Nat.zero_le _, rfl, HPROC.out, HTK.out, HSEED.out, HCHG.out⟩
          case round =>
            clear HPROC HTK HSEED HCHG
            obtain ⟨b, f, sd, hbm, rfl, hproc, htk, hseed, hchg⟩ := hrel
            have HPROC := Lib.hid hproc
            have HTK := Lib.hid htk
            have HSEED := Lib.hid hseed
            have HCHG := Lib.hid hchg
            have hz4 := hchg.size
            clear hproc htk hseed hchg
            by_cases hblt : b < m
            · obtain ⟨adb, cb, bk, ofk, hpc0, hsl0, hbk1, hbk2⟩ := HST.out.mid.part b hblt
              have HSLB : Hid (∀ W, Chg X0 W [TB, S0] → Sl W adb (bucket keys m b).length (strs (bucket keys m b)) ∧ W.cell? ⟨P0, b, none⟩ = some (.slice adb (bucket keys m b).length cb)) := fun W hW =>
                part_chg hW hX2 (by have := HORD.out; omega) (by have := HORD.out; omega) hpc0 hsl0 hbk1 hbk2
              have hpc := (HSLB.out wr HCHG.out).2
              clear hpc0 hsl0 hbk1 hbk2
              by_cases hln : (bucket keys m b).length = s
              · have HOT := Lib.hid (ordP_take (ln := fun b => (bucket keys m b).length) (n := k) (m := m) (t := t) (b := b) (by show (bucket keys m b).length = k - t; omega))
                have hne : (((bucket keys m b).length : Int) != (s : Int)) = false := by simp; omega
                have HKB : Hid (∀ x ∈ bucket keys m b, x.size ≤ 9223372036854775807) := fun x hx => HM.out x (by unfold bucket at hx; exact (List.mem_filter.1 hx).1)
                have hk0 : 0 < k := by omega
                obtain ⟨w5, rfl⟩ : ∃ w5 : World, w5 = wr := ⟨_, rfl⟩
                go_wp2_with fail
                go_loopw [11, 12] (fun u v wr => ∃ (x q : Nat) (fo : Bool), 1 ≤ q ∧ q ≤ 100001 ∧ u = .bool fo ∧ v = .int .i64 q ∧ Chg X0 wr [TB, S0] ∧ SeedAt wr S0 m (upd sd b x) ∧
                    ((fo = false ∧ (∀ t, 1 ≤ t → t < q → goodSeed f (bucket keys m b) k t = false) ∧ BoolAt wr TB k f) ∨
                     (fo = true ∧ seedOf f (bucket keys m b) k = some x ∧ BoolAt wr TB k (addAll f (slots (bucket keys m b) (x : Int) k)))))
                  (fun _ v _ => 200000 - (intOf v).toNat)
                case atStart => exact ⟨sd b, 1, false, Nat.le_refl _, by omega, rfl, rfl, HCHG.out, by rw [upd_self]; exact HSEED.out, .inl ⟨rfl, fun t h1 h2 => by omega, HTK.out⟩⟩
                case round =>
                  clear HTK HSEED HCHG
                  obtain ⟨x, q, fo, hq1, hq2, rfl, rfl, hcg, hsd, hcase⟩ := hrel
                  have HCG := Lib.hid hcg
                  have HSD := Lib.hid hsd
                  have hz5 := hcg.size
                  obtain ⟨hslb, hpcb⟩ := HSLB.out wr hcg
                  clear hcg hsd
                  rcases hcase with ⟨rfl, hno, htk⟩ | ⟨rfl, hso, htk⟩
                  · have HNO := Lib.hid hno
                    have HTK := Lib.hid htk
                    clear hno htk
                    by_cases hmax : q ≤ 100000
                    · have hln60 : (bucket keys m b).length ≤ 60 := by omega
                      have HT2 := Lib.hid (HTK.out.sl (by omega))
                      have HSLW := Lib.hid hslb
                      have HLN := Lib.hid hln
                      have HBT := HORD.out
                      clear hslb hln
                      go_wp2_with fail
                      refine (rfit_any f adb (some ⟨TB, 0, none⟩) _ cb k (bucket keys m b) (q : Int) k _ HSLW.out HT2.out HKB.out (by omega) (by omega) hk0 (by omega) (by omega)).mono ?_
                      rintro e w6 ⟨hpost, hb6⟩
                      obtain ⟨sl, ad7, c7, bb, oo, okb, rfl, hs7, hbb, hys, hsln, hcase⟩ := fit_post hk0 hpost
                      have HS7 := Lib.hid hs7
                      have HBB := Lib.hid hbb
                      have HYS := Lib.hid hys
                      have HCASE := Lib.hid hcase
                      have HB6 := Lib.hid hb6
                      have hz6 := hb6.size
                      have HCG6 := Lib.hid (HCG.out.below hb6)
                      have HSD6 := Lib.hid (HSD.out.chg (hb6.mono (by omega)))
                      have HTK6 := Lib.hid (HTK.out.below (hb6.mono (by omega)))
                      have hs1000 : sl.length ≤ 1000 := by omega
                      clear hpost hb6 hs7 hbb hys hcase HTK HSD
                      have HCG0 := HCG.out.size
                      go_wp2_with fail
                      go_loopw [15] (fun v wl => ∃ i : Nat, i ≤ sl.length ∧ v = .int .i64 i ∧ BoolAt wl TB k (addAll f (sl.take i)) ∧ SeedAt wl S0 m (upd sd b x) ∧ Chg X0 wl [TB, S0] ∧
                          SlAt wl ad7 sl.length (ints (sl.map (fun x : Nat => (x : Int)))) bb oo) (fun v _ => sl.length - (intOf v).toNat)
                      case atStart => exact ⟨0, Nat.zero_le _, rfl, HTK6.out.congr (fun i => by simp [addAll]), HSD6.out, HCG6.out, HS7.out⟩
                      case round =>
                        clear HTK6 HSD6 HCG6 HS7
                        obtain ⟨i, hisl, rfl, htk, hsd, hcg, hs⟩ := hrel
                        have HTK := Lib.hid htk
                        have HSD := Lib.hid hsd
                        have HCG2 := Lib.hid hcg
                        have HS := Lib.hid hs
                        have hzl := hcg.size
                        clear htk hsd hcg hs
                        by_cases hlti : i < sl.length
                        · have hixs := HS.out.ix (P := Try.prog) (c := c7) 25 3 Try.underlying25 cells3 hlti
                          have hcs := HS.out.cell i hlti
                          rw [ints_getD _ _ (by simpa using hlti)] at hcs
                          obtain ⟨y, hy⟩ : ∃ y, sl[i] = y := ⟨_, rfl⟩
                          have hyk : y < k := HYS.out y (by rw [← hy]; exact List.getElem_mem hlti)
                          have hcs1 : wr.cell? ⟨bb, oo + i, none⟩ = some (.int .i64 (y : Nat)) := by
                            rw [hcs]
                            simp [List.getD, List.getElem?_map, List.getElem?_eq_getElem hlti, hy]
                          obtain ⟨btb, otb, hst2⟩ := HTK.out.sl (by omega)
                          have hixt : ∀ W, (Instr.indexAt 56 (.slice (some ⟨TB, 0, none⟩) k k) (.int .i64 (y : Nat))).run Try.prog W = .ok (.pointer (some ⟨TB, y, none⟩)) W := by
                            intro W
                            have h1 := hst2.adr (by omega)
                            injection h1 with h2
                            injection h2 with h3 h4
                            have h5 := hst2.ix (P := Try.prog) (c := k) 56 4 Try.underlying56 cells4 hyk W
                            rwa [← h3, ← h4, Nat.zero_add] at h5
                          have hct := (HTK.out y hyk).1
                          have hft := (HTK.out y hyk).2
                          have HTS : Hid (∀ j, plus (addAll f (sl.take i)) y j = addAll f (sl.take (i + 1)) j) := fun j => by
                            rw [List.take_succ_eq_append_getElem hlti, hy, addAll_snoc]
                          have HSS : Hid (SlAt (wr.setCell ⟨TB, y, none⟩ (.bool true)) ad7 sl.length (ints (sl.map (fun x : Nat => (x : Int)))) bb oo) := by
                            have hne : bb ≠ TB := by have := HBB.out (by omega); omega
                            exact ⟨HS.out.len, HS.out.max, HS.out.adr, fun j hj => by rw [World.cell?_setCell_other _ _ _ _ (by simp)]; exact HS.out.cell j hj⟩
                          clear hcs hst2 hy
                          go_wp2_with fail
                          go_roundw
                          case rel => exact ⟨i + 1, by omega, by go_num, (HTK.out.set hyk).congr HTS.out, HSD.out.other (by omega), HCG2.out.setCell _ _ _ (.inl (by simp)), HSS.out⟩
                          case measure => simp [intOf]; omega
                        · obtain rfl : i = sl.length := by omega
                          have htk2 := HTK.out
                          rw [List.take_length] at htk2
                          have HTK2 := Lib.hid htk2
                          have hmidE := HST.out.mid.chg HCG2.out
                          have hT := hmidE.t7
                          have htc1 := cell_of_row _ _ 1 _ _ _ hT
                          have hixS : ∀ W, (Instr.indexAt 25 (.slice (some ⟨S0, 0, none⟩) m m) (.int .i64 (b : Nat))).run Try.prog W = .ok (.pointer (some ⟨S0, b, none⟩)) W := by
                            intro W
                            have h5 := (show SlAt wr (some ⟨S0, 0, none⟩) m (ints ((List.range m).map (fun j => ((upd sd b x) j : Int)))) S0 0 from
                              ⟨by simp [ints], by omega, fun _ => rfl, fun j hj => by rw [Nat.zero_add, (HSD.out j hj).1, ints_getD _ _ (by simpa using hj)]; simp [List.getD, List.getElem?_map, List.getElem?_range hj]⟩).ix (P := Try.prog) (c := m) 25 3 Try.underlying25 cells3 hblt W
                            rwa [Nat.zero_add] at h5
                          have hcS := (HSD.out b hblt).1
                          have hfS := (HSD.out b hblt).2
                          have HSD3 : Hid (SeedAt (wr.setCell ⟨S0, b, none⟩ (.int .i64 (q : Nat))) S0 m (upd sd b q)) := by
                            have := HSD.out.set hblt q
                            rwa [upd_upd] at this
                          have HCG3 : Hid (Chg X0 (wr.setCell ⟨S0, b, none⟩ (.int .i64 (q : Nat))) [TB, S0]) := HCG2.out.setCell _ _ _ (.inl (by simp))
                          have HTK3 : Hid (BoolAt (wr.setCell ⟨S0, b, none⟩ (.int .i64 (q : Nat))) TB k (addAll f sl)) := HTK2.out.other (by omega)
                          clear htk2 hmidE hT HS HTK HSD HCG2
                          go_wp2_with fail
                          go_roundw
                          case rel =>
                            refine ⟨q, q + 1, okb, by omega, by omega, rfl, by go_num, HCG3.out, HSD3.out, ?_⟩
                            have h := HTK3.out
                            rcases HCASE.out with ⟨rfl, hg, rfl⟩ | ⟨rfl, hg, rfl⟩
                            · exact .inr ⟨rfl, seedOf_some hq1 hmax hg HNO.out, h⟩
                            · refine .inl ⟨rfl, fun t h1 h2 => ?_, h.congr (fun i => by simp [addAll])⟩
                              rcases Nat.lt_or_eq_of_le (Nat.lt_succ_iff.1 h2) with h3 | h3
                              · exact HNO.out t h1 h3
                              · rw [h3]; exact hg
                          case measure => simp [intOf]; omega
                    · have HERR : Hid (errB keys = 6) := by
                        have hso := seedOf_none (f := f) (ks := bucket keys m b) (N := k) (fun t h1 h2 => HNO.out t h1 (by omega))
                        have hp1 : procL k (bucket keys m) (ordP (fun b => (bucket keys m b).length) k m t (b + 1)) (fun _ => false) (fun _ => 0) = none := by
                          rw [HOT.out, procL_append, HPROC.out]
                          have : ¬ (bucket keys m b).length = 0 := by omega
                          simp [procL, this, hso]
                        obtain ⟨r, hr⟩ := ordP_prefix (ln := fun b => (bucket keys m b).length) (n := k) (m := m) (t := t) (b := b + 1) (by omega) (by omega)
                        have hb : built keys = none := by
                          unfold built
                          rw [HNB.out, HL.out, hr]
                          exact procL_pre hp1
                        have hd : dupK keys keys.length = false := by rw [HL.out]; exact HDUP.out
                        simp [errB, hd, hb, Hid]
                      have hmidE := HST.out.mid.chg HCG.out
                      have hR := hmidE.r0
                      have hrc0 := cell_of_row _ _ 0 _ _ _ hR
                      have hrc1 := cell_of_row _ _ 1 _ _ _ hR
                      have hrf0 := frozen_of_row _ _ 0 _ _ hR
                      have hrf1 := frozen_of_row _ _ 1 _ _ hR
                      have HO := HORD.out
                      have HBF := Lib.hid (((HST.out.bel.trans (HCG.out.toBelow (B := R) (by omega) (by intro x hx; simp at hx; omega))).setCell (p := ⟨R, 0, none⟩) (Nat.le_refl _) (.int .i64 0)).setCell (p := ⟨R, 1, none⟩) (Nat.le_refl _) (.slice none 0 0))
                      clear hR hmidE hslb
                      go_wp2_with fail
                      refine bodyPost_ret (v := .tuple #[.agg #[.int .i64 0, .slice none 0 0], .int .i64 6]) (by simp [results, Try.results12, go_sem, hrc0, hrc1]) rfl ⟨post_err HERR.out (by omega) _, ?_⟩
                      rw [HRR.out]; exact HBF.out
                  · have HTK := Lib.hid htk
                    have HPR : Hid (procL k (bucket keys m) (ordP (fun b => (bucket keys m b).length) k m t (b + 1)) (fun _ => false) (fun _ => 0) = some (addAll f (slots (bucket keys m b) (x : Int) k), upd sd b x)) := by
                      unfold Hid
                      rw [HOT.out, procL_append, HPROC.out]
                      have : ¬ (bucket keys m b).length = 0 := by omega
                      simp [procL, this, hso]
                    clear htk hso hslb
                    by_cases hmax : q ≤ 100000
                    · have HLN := Lib.hid hln
                      have HST2 := Lib.hid hst
                      clear hln hst
                      (set_option maxRecDepth 20000 in go_wp2_with fail)
                      go_roundw
                      case rel => exact ⟨b + 1, _, _, by omega, by go_num, HPR.out, HTK.out, HSD.out, HCG.out⟩
                      case measure => simp [intOf]; omega
                    · have HLN := Lib.hid hln
                      have HST2 := Lib.hid hst
                      clear hln hst
                      (set_option maxRecDepth 20000 in go_wp2_with fail)
                      go_roundw
                      case rel => exact ⟨b + 1, _, _, by omega, by go_num, HPR.out, HTK.out, HSD.out, HCG.out⟩
                      case measure => simp [intOf]; omega
              · have HOS := Lib.hid (ordP_skip (ln := fun b => (bucket keys m b).length) (n := k) (m := m) (t := t) (b := b) (by show (bucket keys m b).length ≠ k - t; omega))
                have hne : (((bucket keys m b).length : Int) != (s : Int)) = true := by simp; omega
                go_wp2_with fail
                go_roundw
                case rel => exact ⟨b + 1, f, sd, by omega, by go_num, by rw [HOS.out]; exact HPROC.out, HTK.out, HSEED.out, HCHG.out⟩
                case measure => simp [intOf]; omega
            · obtain rfl : b = m := by omega
              have HSK := Lib.hid hst
              have hs60 : s ≤ 60 := by omega
              clear hbm hblt hst hlt hkn
              obtain ⟨s1, rfl⟩ : ∃ s1, s = s1 + 1 := ⟨s - 1, by omega⟩
              have hs1w : IntKind.i64.wrap (((s1 + 1 : Nat) : Int) - 1) = (s1 : Nat) := by rw [IntKind.wrap_i64]; omega
              clear hs0
              go_upto_region 16 with (fail)
              (set_option maxRecDepth 20000 in go_wp2_with fail)
              go_roundw
              case rel => exact ⟨s1, t + 1, f, sd, by have := HSK.out; omega, by go_num, by rw [← ordP_next]; exact HPROC.out, HTK.out, HSEED.out, HCHG.out⟩
              case measure => simp [intOf]
        · obtain rfl : s = 0 := by omega
          obtain rfl : t = k := by omega
          have HDN : Hid (dupK keys keys.length = false) := by rw [HL.out]; exact HDUP.out
          have HBT : Hid (built keys = some (f, sd)) := by
            have := HPROC.out
            rw [ordP_end] at this
            unfold Hid built
            rw [HNB.out, HL.out]
            exact this
          have hmidE := HST.out.mid.chg HCHG.out
          have hR := hmidE.r0
          have hT := hmidE.t7
          have hrc0 := cell_of_row _ _ 0 _ _ _ hR
          have hrc1 := cell_of_row _ _ 1 _ _ _ hR
          have hrf0 := frozen_of_row _ _ 0 _ _ hR
          have hrf1 := frozen_of_row _ _ 1 _ _ hR
          have htc0 := cell_of_row _ _ 0 _ _ _ hT
          have htc1 := cell_of_row _ _ 1 _ _ _ hT
          have HO := HORD.out
          have HSD : Hid (SeedAt ((wr.setCell ⟨R, 0, none⟩ (.int .i64 t)).setCell ⟨R, 1, none⟩ (.slice (some ⟨S0, 0, none⟩) m m)) S0 m sd) := (HSEED.out.other (by omega)).other (by omega)
          have HBF := Lib.hid (((HST.out.bel.trans (HCHG.out.toBelow (B := R) (by omega) (by intro x hx; simp at hx; omega))).setCell (p := ⟨R, 0, none⟩) (Nat.le_refl _) (.int .i64 t)).setCell (p := ⟨R, 1, none⟩) (Nat.le_refl _) (.slice (some ⟨S0, 0, none⟩) m m))
          have hz5 := HCHG.out.size
          clear hR hT hmidE
          go_wp2_with fail
          refine bodyPost_ret (v := .tuple #[.agg #[.int .i64 t, .slice (some ⟨S0, 0, none⟩) m m], .int .i64 0]) (by simp [results, Try.results12, go_sem, hrc0, hrc1]) rfl ⟨?_, ?_⟩
          · have := post_ok (by rw [HNB.out]) HDN.out HBT.out HSD.out (by omega)
            rw [HL.out] at this
            exact this
          · rw [HRR.out]; exact HBF.out
end Go.Proofs.Ytboojpmahfjaoaa
