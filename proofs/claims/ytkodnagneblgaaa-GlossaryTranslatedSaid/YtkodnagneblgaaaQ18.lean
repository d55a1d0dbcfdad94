/- Walks: Check by the reference: the second part. -/
import Derived.Test.YtkodnagneblgaaaQ17
import Derived.Test.YtkodnagneblgaaaQ16
namespace Go.Proofs.Ytkodnagneblgaaa
open Go.RowKit Go.Maps Go.Sort
attribute [local go_sem] Ext.cell Ext.frozen
attribute [local go_sem ↓] Go.wp_at_zero Go.wp_at_succ
/-- none of the first terms has this source -/
def frB (ts : List Tm) (sk : ByteArray) (j : Nat) : Bool := (List.range j).all fun q => !alikeB (ts.getD q tm0).s sk
theorem frB_succ (ts : List Tm) (sk : ByteArray) (j : Nat) : frB ts sk (j + 1) = (frB ts sk j && !alikeB (ts.getD j tm0).s sk) := by
  unfold frB
  rw [List.range_succ, List.all_append]
  simp
/-- the reference's test -/
def rmB (ts : List Tm) (ps pt : List (Nat × Nat)) (k : Nat) : Bool := frB ts (ts.getD k tm0).s k && rmissV ts ps pt k
set_option maxRecDepth 100000 in
set_option maxHeartbeats 8000000 in
theorem rc_second (ts : List Tm) (ps pt : List (Nat × Nat)) (source target : ByteArray) (ad : Option Addr) (n c : Nat) (w0 w : World) (v1 v2 : Value) (a2 a3 : Option Addr) (N2 c2 N3 c3 : Nat) (u3 u4 u5 u6 u7 u12 u13 u14 u15 u16 u17 u18 u19 u20 u21 u22 u23 u24 u25 u26 u27 u28 u29 u30 u31 u32 u33 u34 u35 u36 u37 u38 u39 u40 u41 u42 u43 u44 u45 u46 u47 u48 u49 u50 u51 u52 u53 u54 u55 u56 u57 u58 u59 u60 u61 u62 u63 u64 u65 u66 u67 u68 u69 u70 u71 u72 u73 u74 u75 u76 u77 u78 u79 u80 u81 u82 u83 u84 u85 u86 u87 : Value) (RR : Ending → World → Prop) (ht : TmAt w ad n ts) (hn : n ≤ 40) (hz : ∀ x ∈ ts, x.s.size ≤ 100000 ∧ x.t.size ≤ 100000)
    (hps : PrAt w a2 N2 ps) (hN2 : N2 ≤ 1000001) (hm2 : ∀ p ∈ ps, p.1 < n) (hpt : PrAt w a3 N3 pt) (hN3 : N3 ≤ 1000001) (hm3 : ∀ p ∈ pt, p.1 < n) (hb0 : Below w0.heap.size w0 w)
    (hend : ∀ ad' c' w', FnR 63 w' w0.heap.size (.slice ad' (chkF (rmB ts ps pt) (wrongV ts (cntV ((ts.map (·.s)).map keyB) ps) (cntV ((ts.map (·.t)).map keyB) pt)) n).length c') (chkF (rmB ts ps pt) (wrongV ts (cntV ((ts.map (·.s)).map keyB) ps) (cntV ((ts.map (·.t)).map keyB) pt)) n) → Below w0.heap.size w0 w' → RR (.returned (.tuple #[.slice ad' (chkF (rmB ts ps pt) (wrongV ts (cntV ((ts.map (·.s)).map keyB) ps) (cntV ((ts.map (·.t)).map keyB) pt)) n).length c', .int .i64 0])) w') :
    (rcC 7).wp Try.prog (bodyPost Try.prog Try.f12 RR) ⟨#[.slice ad n c, .string source, .string target, u3, u4, u5, u6, u7, v1, v2, .slice a2 N2 c2, .slice a3 N3 c3, u12, u13, u14, u15, u16, u17, u18, u19, u20, u21, u22, u23, u24, u25, u26, u27, u28, u29, u30, u31, u32, u33, u34, u35, u36, u37, u38, u39, u40, u41, u42, u43, u44, u45, u46, u47, u48, u49, u50, u51, u52, u53, u54, u55, u56, u57, u58, u59, u60, u61, u62, u63, u64, u65, u66, u67, u68, u69, u70, u71, u72, u73, u74, u75, u76, u77, u78, u79, u80, u81, u82, u83, u84, u85, u86, u87], []⟩ w := by
  have HL := Lib.hid ht.1
  have HT := Lib.hid ht
  have HZ := Lib.hid hz
  have HP := Lib.hid hps
  have HQ := Lib.hid hpt
  have HB0 := Lib.hid hb0
  have HEND := Lib.hid hend
  have HA := Lib.hid ralike_any
  have HM := Lib.hid (fun i W hi (h1 : TmAt W ad n ts) (h2 : PrAt W a2 N2 ps) (h3 : PrAt W a3 N3 pt) => rmissing_any ts ps pt ad n c i a2 N2 c2 a3 N3 c3 W h1 hi (by omega) hz h2 hN2 hm2 h3 hN3 hm3)
  have HW := Lib.hid (fun i W hi (h1 : TmAt W ad n ts) (h2 : PrAt W a2 N2 ps) (h3 : PrAt W a3 N3 pt) => rwrong_any ts ps pt ad n c i a2 N2 c2 a3 N3 c3 W h1 hi (by omega) hz h2 hN2 hm2 h3 hN3 hm3)
  have HMV : Hid (∀ i, rmB ts ps pt i = (frB ts (ts.getD i tm0).s i && rmissV ts ps pt i)) := fun i => rfl
  clear ht hz hps hpt hb0 hend hm2 hm3
  generalize wrongV ts (cntV ((ts.map (·.s)).map keyB) ps) (cntV ((ts.map (·.t)).map keyB) pt) = wv at *
  generalize rmB ts ps pt = mv at *
  unfold rcC
  dsimp only
  conv => arg 2; whnf
  go_wp2_with fail
  go_loopw [12, 13] (fun r u wr => ∃ (i : Nat) (ad' : Option Addr) (c' : Nat), u = .int .i64 (i : Int) ∧ r = .slice ad' (chkF mv wv i).length c' ∧ i ≤ n ∧ FnR 63 wr w.heap.size (.slice ad' (chkF mv wv i).length c') (chkF mv wv i) ∧ Below w.heap.size w wr) (fun _ u _ => n - (intOf u).toNat)
  case atStart => exact ⟨0, _, _, rfl, rfl, Nat.zero_le _, ⟨rfl, .inl ⟨rfl, rfl⟩⟩, Below.refl _ _⟩
  case round =>
    obtain ⟨i, ad', c', rfl, rfl, hin, hfn, hbl⟩ := hrel
    have HFN := Lib.hid hfn
    have HB := Lib.hid hbl
    clear hfn hbl
    have hcl := chkF_len mv wv i
    have HSU := Lib.hid (chkF_succ mv wv i)
    by_cases hlt : i < n
    · have hlz : (i : Int) < (n : Int) := by omega
      obtain ⟨_, tb, tq, hrk⟩ := HT.out.below HB.out
      have hixk := fun W => hrk.ix 22 48 Try.underlying22 cellsRTm (by omega) hlt c W
      have k0 := hrk.cell i 0 hlt (by omega)
      rw [Nat.add_zero] at k0
      simp only [tmC] at k0
      have HI0 := Lib.hid k0
      have HZK := Lib.hid (HZ.out (ts.getD i tm0) (getD_mem _ _ _ (by rw [HL.out]; exact hlt))).1
      have HMI := Lib.hid (HMV.out i)
      clear hrk k0
      generalize (ts.getD i tm0).s = sk at *
      generalize chkF mv wv i = fs at *
      obtain ⟨N, hN⟩ : ∃ N, fs.length = N := ⟨_, rfl⟩
      rw [hN] at HFN hcl ⊢
      have HNE := Lib.hid hN
      clear hN
      obtain ⟨wo, rfl⟩ : ∃ wo : World, wo = wr := ⟨_, rfl⟩
      go_wp2_with fail
      go_loopw [14, 15] (fun v u wr => ∃ (j : Nat) (gd : Bool), u = .int .i64 (j : Int) ∧ v = .bool gd ∧ j ≤ i ∧ frB ts sk j = gd ∧ Below wo.heap.size wo wr) (fun _ u _ => i - (intOf u).toNat)
      case atStart => exact ⟨0, true, rfl, rfl, Nat.zero_le _, rfl, Below.refl _ _⟩
      case round =>
        obtain ⟨j, gd, rfl, rfl, hji, hgd, hbl⟩ := hrel
        have HG := Lib.hid hgd
        have HBJ := Lib.hid hbl
        have HBB := Lib.hid (HB.out.trans (hbl.mono HB.out.size))
        clear hgd hbl
        by_cases hjl : j < i
        · have hjn : j < n := by omega
          obtain ⟨_, sb, sq, hrj⟩ := HT.out.below HBB.out
          have hixj := fun W => hrj.ix 22 48 Try.underlying22 cellsRTm (by omega) hjn c W
          have j0 := hrj.cell j 0 hjn (by omega)
          rw [Nat.add_zero] at j0
          simp only [tmC] at j0
          have i0 := cell_later HBJ.out HI0.out
          have hsb : sb < wr.heap.size := World.block_lt_of_cell? _ _ j0
          have htb : tb < wr.heap.size := World.block_lt_of_cell? _ _ i0
          have HAT := Lib.hid (frB_succ ts sk j)
          rw [HG.out] at HAT
          have z1 := (HZ.out (ts.getD j tm0) (getD_mem _ _ _ (by rw [HL.out]; exact hjn))).1
          have hjz : (j : Int) < (i : Int) := by omega
          have HA1 : Hid (∀ W, Calls Try.prog 23 #[.string (ts.getD j tm0).s, .string sk] W fun e w' => e = .returned (.bool (alikeB (ts.getD j tm0).s sk)) ∧ Below W.heap.size W w') := fun W => HA.out _ _ W (by omega) (Nat.le_trans HZK.out (by omega))
          clear hrj z1
          generalize alikeB (ts.getD j tm0).s sk = b1 at *
          generalize (ts.getD j tm0).s = ys at *
          cases gd with
          | false =>
            have HG2 : Hid (frB ts sk (j + 1) = false) := by rw [Hid, HAT.out]; rfl
            clear HAT
            go_wp2_with fail
            refine wp_region_ext (by kernel_rfl) (by kernel_rfl) ?_
            repeat (go_big_quiet_step (fail))
            refine wpQuiet_nil ?_
            intro _ hw'
            obtain ⟨X9, hw''⟩ := hw'
            subst hw''
            go_wp2_with fail
            go_roundw
            case rel => exact ⟨j + 1, false, by go_num, rfl, by omega, HG2.out, HBJ.out.trans (X9.2.mono HBJ.out.size)⟩
            case measure => simp [intOf]; omega
          | true =>
            cases b1 with
            | false =>
              have HG2 : Hid (frB ts sk (j + 1) = true) := by rw [Hid, HAT.out]; rfl
              clear HAT
              go_wp2_with fail
              refine wp_region_ext (by kernel_rfl) (by kernel_rfl) ?_
              repeat (go_big_quiet_step ((first | (go_at_call 23; exact Calls.ext (HA1.out _)))))
              refine wpQuiet_nil ?_
              intro _ hw'
              obtain ⟨X9, hw''⟩ := hw'
              subst hw''
              go_wp2_with fail
              go_roundw
              case rel => exact ⟨j + 1, true, by go_num, rfl, by omega, HG2.out, HBJ.out.trans (X9.2.mono HBJ.out.size)⟩
              case measure => simp [intOf]; omega
            | true =>
              have HG2 : Hid (frB ts sk (j + 1) = false) := by rw [Hid, HAT.out]; rfl
              clear HAT
              go_wp2_with fail
              refine wp_region_ext (by kernel_rfl) (by kernel_rfl) ?_
              repeat (go_big_quiet_step ((first | (go_at_call 23; exact Calls.ext (HA1.out _)))))
              refine wpQuiet_nil ?_
              intro _ hw'
              obtain ⟨X9, hw''⟩ := hw'
              subst hw''
              go_wp2_with fail
              go_roundw
              case rel => exact ⟨j + 1, false, by go_num, rfl, by omega, HG2.out, HBJ.out.trans (X9.2.mono HBJ.out.size)⟩
              case measure => simp [intOf]; omega
        · obtain rfl : j = i := by omega
          rw [HG.out] at HMI
          have HFN := Lib.hid (HFN.out.below HBJ.out)
          have hz5 := HBB.out.size
          clear HG
          cases gd with
          | false =>
            have HMB : Hid (mv j = false) := HMI.out
            clear HMI
            go_wp2_with fail
            refine (HW.out j _ hlt (HT.out.below HBB.out) (HP.out.below HBB.out) (HQ.out.below HBB.out)).mono ?_
            rintro e w8 ⟨rfl, hb⟩
            have HB8 := Lib.hid (HBB.out.trans (hb.mono HBB.out.size))
            have HFN8 := Lib.hid (HFN.out.below hb)
            clear hb
            generalize wv j = bw at *
            cases bw with
            | false =>
              have HSE : Hid (chkF mv wv (j + 1) = fs) := by unfold Hid; rw [HSU.out, HMB.out]; simp [oneF]
              have HLE : Hid ((fs).length = N) := by unfold Hid; simp [HNE.out]
              go_wp2_with fail
              go_roundw
              case rel => exact ⟨j + 1, _, _, by go_num, by rw [HSE.out, HLE.out], by omega, by rw [HSE.out, HLE.out]; exact HFN8.out, HB8.out⟩
              case measure => simp [intOf]; omega
            | true =>
              have HLE : Hid ((fs).length = N) := by unfold Hid; simp [HNE.out]
              have HSE : Hid (chkF mv wv (j + 1) = (fs) ++ [(2, j)]) := by unfold Hid; rw [HSU.out, HMB.out]; simp [oneF]
              have HLE2 : Hid (((fs) ++ [(2, j)]).length = N + 1) := by rw [Hid, List.length_append, HLE.out]; rfl
              go_wp2_with (at_builtin; refine appFindR rfl _ _ rfl w.heap.size _ _ _ (fs) HLE.out rfl HFN8.out 2 j _ rfl (by omega) HB8.out.size ?_; intro ad9 c9 w9 hf9 hb9; have HFN9 := Lib.hid hf9; have HB9 : Hid (Below w.heap.size w w9) := HB8.out.trans hb9; clear hf9 hb9)
              go_roundw
              case rel => exact ⟨j + 1, _, _, by go_num, by rw [HSE.out, HLE2.out], by omega, by rw [HSE.out, HLE2.out]; exact HFN9.out, HB9.out⟩
              case measure => simp [intOf]; omega
          | true =>
            go_wp2_with fail
            refine (HM.out j _ hlt (HT.out.below HBB.out) (HP.out.below HBB.out) (HQ.out.below HBB.out)).mono ?_
            rintro e w5 ⟨rfl, hb⟩
            have HB5 := Lib.hid (HBB.out.trans (hb.mono HBB.out.size))
            have HFN5 := Lib.hid (HFN.out.below hb)
            clear hb
            generalize rmissV ts ps pt j = bm at *
            cases bm with
            | false =>
              have HMB : Hid (mv j = false) := HMI.out
              clear HMI
              go_wp2_with fail
              refine (HW.out j _ hlt (HT.out.below HB5.out) (HP.out.below HB5.out) (HQ.out.below HB5.out)).mono ?_
              rintro e w8 ⟨rfl, hb⟩
              have HB8 := Lib.hid (HB5.out.trans (hb.mono HB5.out.size))
              have HFN8 := Lib.hid (HFN5.out.below hb)
              clear hb
              generalize wv j = bw at *
              cases bw with
              | false =>
                have HSE : Hid (chkF mv wv (j + 1) = fs) := by unfold Hid; rw [HSU.out, HMB.out]; simp [oneF]
                have HLE : Hid ((fs).length = N) := by unfold Hid; simp [HNE.out]
                go_wp2_with fail
                go_roundw
                case rel => exact ⟨j + 1, _, _, by go_num, by rw [HSE.out, HLE.out], by omega, by rw [HSE.out, HLE.out]; exact HFN8.out, HB8.out⟩
                case measure => simp [intOf]; omega
              | true =>
                have HLE : Hid ((fs).length = N) := by unfold Hid; simp [HNE.out]
                have HSE : Hid (chkF mv wv (j + 1) = (fs) ++ [(2, j)]) := by unfold Hid; rw [HSU.out, HMB.out]; simp [oneF]
                have HLE2 : Hid (((fs) ++ [(2, j)]).length = N + 1) := by rw [Hid, List.length_append, HLE.out]; rfl
                go_wp2_with (at_builtin; refine appFindR rfl _ _ rfl w.heap.size _ _ _ (fs) HLE.out rfl HFN8.out 2 j _ rfl (by omega) HB8.out.size ?_; intro ad9 c9 w9 hf9 hb9; have HFN9 := Lib.hid hf9; have HB9 : Hid (Below w.heap.size w w9) := HB8.out.trans hb9; clear hf9 hb9)
                go_roundw
                case rel => exact ⟨j + 1, _, _, by go_num, by rw [HSE.out, HLE2.out], by omega, by rw [HSE.out, HLE2.out]; exact HFN9.out, HB9.out⟩
                case measure => simp [intOf]; omega
            | true =>
              have HMB : Hid (mv j = true) := HMI.out
              clear HMI
              go_upto_region 18 with (at_builtin; refine appFindR rfl _ _ rfl w.heap.size _ _ _ (fs) HNE.out rfl HFN5.out 1 j _ rfl (by omega) HB5.out.size ?_; intro ad7 c7 w7 hf7 hb7; have HFN7 := Lib.hid hf7; have HB7 : Hid (Below w.heap.size w w7) := HB5.out.trans hb7; clear hf7 hb7)
              go_wp2_with fail
              refine (HW.out j _ hlt (HT.out.below HB7.out) (HP.out.below HB7.out) (HQ.out.below HB7.out)).mono ?_
              rintro e w8 ⟨rfl, hb⟩
              have HB8 := Lib.hid (HB7.out.trans (hb.mono HB7.out.size))
              have HFN8 := Lib.hid (HFN7.out.below hb)
              clear hb
              generalize wv j = bw at *
              cases bw with
              | false =>
                have HSE : Hid (chkF mv wv (j + 1) = fs ++ [(1, j)]) := by unfold Hid; rw [HSU.out, HMB.out]; simp [oneF]
                have HLE : Hid ((fs ++ [(1, j)]).length = (N + 1)) := by unfold Hid; simp [HNE.out]
                go_wp2_with fail
                go_roundw
                case rel => exact ⟨j + 1, _, _, by go_num, by rw [HSE.out, HLE.out], by omega, by rw [HSE.out, HLE.out]; exact HFN8.out, HB8.out⟩
                case measure => simp [intOf]; omega
              | true =>
                have HLE : Hid ((fs ++ [(1, j)]).length = (N + 1)) := by unfold Hid; simp [HNE.out]
                have HSE : Hid (chkF mv wv (j + 1) = (fs ++ [(1, j)]) ++ [(2, j)]) := by unfold Hid; rw [HSU.out, HMB.out]; simp [oneF]
                have HLE2 : Hid (((fs ++ [(1, j)]) ++ [(2, j)]).length = (N + 1) + 1) := by rw [Hid, List.length_append, HLE.out]; rfl
                go_wp2_with (at_builtin; refine appFindR rfl _ _ rfl w.heap.size _ _ _ (fs ++ [(1, j)]) HLE.out rfl HFN8.out 2 j _ rfl (by omega) HB8.out.size ?_; intro ad9 c9 w9 hf9 hb9; have HFN9 := Lib.hid hf9; have HB9 : Hid (Below w.heap.size w w9) := HB8.out.trans hb9; clear hf9 hb9)
                go_roundw
                case rel => exact ⟨j + 1, _, _, by go_num, by rw [HSE.out, HLE2.out], by omega, by rw [HSE.out, HLE2.out]; exact HFN9.out, HB9.out⟩
                case measure => simp [intOf]; omega
    · obtain rfl : i = n := by omega
      go_wp2_with fail
      exact HEND.out _ _ _ (FnR.rebase HFN.out HB0.out.size) (HB0.out.trans (HB.out.mono HB0.out.size))
end Go.Proofs.Ytkodnagneblgaaa
/- Plain: the program's missing terms are the reference's. -/
namespace Go.Proofs.Ytkodnagneblgaaa
open Go.RowKit Go.Maps Go.Sort
theorem knownT_spec (ts : List Tm) (src : ByteArray) : ∀ i, i ≤ ts.length → (knownT ts src i).Nodup ∧ ∀ t, t ∈ knownT ts src i ↔ ∃ j, j < i ∧ keyB (ts.getD j tm0).s = src ∧ (ts.getD j tm0).f = false ∧ keyB (ts.getD j tm0).t = t
  | 0, _ => ⟨List.nodup_nil, fun t => ⟨fun h => (by cases h), fun ⟨j, hj, _⟩ => absurd hj (Nat.not_lt_zero _)⟩⟩
  | i + 1, h => by
    obtain ⟨h1, h2⟩ := knownT_spec ts src i (by omega)
    rw [knownT_succ ts src i (by omega)]
    unfold stepK
    by_cases hc : keyB (ts.getD i tm0).s = src ∧ (ts.getD i tm0).f = false ∧ memS (keyB (ts.getD i tm0).t) (knownT ts src i) = false
    · rw [if_pos hc]
      have hn : keyB (ts.getD i tm0).t ∉ knownT ts src i := fun e => by
        rw [memS_iff.2 e] at hc
        cases hc.2.2
      refine ⟨List.nodup_append.2 ⟨h1, by simp, fun a ha b hb => ?_⟩, fun t => ?_⟩
      · rw [List.mem_singleton.1 hb]
        intro e
        exact hn (e ▸ ha)
      · rw [List.mem_append, List.mem_singleton, h2]
        constructor
        · rintro (⟨j, hj, e⟩ | e)
          · exact ⟨j, by omega, e⟩
          · exact ⟨i, by omega, hc.1, hc.2.1, e.symm⟩
        · rintro ⟨j, hj, e⟩
          by_cases hji : j = i
          · subst hji
            exact .inr e.2.2.symm
          · exact .inl ⟨j, by omega, e⟩
    · rw [if_neg hc]
      refine ⟨h1, fun t => ?_⟩
      rw [h2]
      constructor
      · rintro ⟨j, hj, e⟩
        exact ⟨j, by omega, e⟩
      · rintro ⟨j, hj, e⟩
        by_cases hji : j = i
        · subst hji
          have hm : memS (keyB (ts.getD j tm0).t) (knownT ts src j) = true := by
            cases hq : memS (keyB (ts.getD j tm0).t) (knownT ts src j) with
            | true => rfl
            | false => exact absurd ⟨e.1, e.2.1, hq⟩ hc
          have := memS_iff.1 hm
          rw [e.2.2] at this
          exact (h2 t).1 this
        · exact ⟨j, by omega, e⟩
theorem filter_or {α : Type} (P Q : α → Bool) (h : ∀ x, ¬ (P x = true ∧ Q x = true)) : ∀ l : List α, (l.filter fun x => P x || Q x).length = (l.filter P).length + (l.filter Q).length
  | [] => rfl
  | x :: l => by
    have ih := filter_or P Q h l
    have hx := h x
    simp only [List.filter_cons]
    cases hp : P x <;> cases hq : Q x <;> rw [hp, hq] at hx <;> simp <;> first | omega | simp at hx
theorem sum_cnt (keys : List ByteArray) (ps : List (Nat × Nat)) : ∀ ks : List ByteArray, ks.Nodup → sumL (cntV keys ps) ks = (ps.filter fun p => memS (keys.getD p.1 .empty) ks).length
  | [], _ => by
    have : (ps.filter fun p => memS (keys.getD p.1 .empty) []) = [] := by
      rw [List.filter_eq_nil_iff]
      intro p _
      simp [memS]
    rw [this]
    rfl
  | k :: ks, h => by
    obtain ⟨h1, h2⟩ := List.nodup_cons.1 h
    have ih := sum_cnt keys ps ks h2
    have e : sumL (cntV keys ps) (k :: ks) = cntV keys ps k + sumL (cntV keys ps) ks := by simp [sumL]
    rw [e, ih]
    unfold cntV
    rw [← filter_or _ _ (fun p ⟨e1, e2⟩ => h1 (by
      have e1 := of_decide_eq_true e1
      have e2 := memS_iff.1 e2
      rw [e1] at e2
      exact e2))]
    congr 1
    apply List.filter_congr
    intro p _
    rw [Bool.eq_iff_iff, Bool.or_eq_true, decide_eq_true_eq, memS_iff, memS_iff, List.mem_cons]
theorem any_get (f : Tm → Bool) (ts : List Tm) : ts.any f = true ↔ ∃ j, j < ts.length ∧ f (ts.getD j tm0) = true := by
  rw [List.any_eq_true]
  constructor
  · rintro ⟨x, hx, h⟩
    obtain ⟨j, hj, rfl⟩ := List.getElem_of_mem hx
    exact ⟨j, hj, by rw [List.getD_eq_getElem?_getD, List.getElem?_eq_getElem hj]; exact h⟩
  · rintro ⟨j, hj, h⟩
    exact ⟨_, getD_mem ts j tm0 hj, h⟩
theorem good_sum (ts : List Tm) (s : ByteArray) (pt : List (Nat × Nat)) (hm : ∀ p ∈ pt, p.1 < ts.length) : sumL (cntV ((ts.map (·.t)).map keyB) pt) (knownT ts (keyB s) ts.length) = goodN ts s pt := by
  obtain ⟨h1, h2⟩ := knownT_spec ts (keyB s) ts.length (Nat.le_refl _)
  rw [sum_cnt _ _ _ h1]
  unfold goodN
  congr 1
  apply List.filter_congr
  intro p hp
  have hlt := hm p hp
  have hk : ((ts.map (·.t)).map keyB).getD p.1 .empty = keyB (ts.getD p.1 tm0).t := by
    rw [List.getD_eq_getElem?_getD, List.getElem?_map, List.getElem?_map, List.getD_eq_getElem?_getD, List.getElem?_eq_getElem hlt]
    rfl
  rw [hk, Bool.eq_iff_iff, memS_iff, h2, any_get]
  constructor
  · rintro ⟨j, hj, e1, e2, e3⟩
    exact ⟨j, hj, by unfold goodT; rw [e2, alike_key, alike_key, e1, e3]; simp⟩
  · rintro ⟨j, hj, e⟩
    unfold goodT at e
    rw [Bool.and_eq_true, Bool.and_eq_true, alike_key, alike_key, decide_eq_true_eq, decide_eq_true_eq] at e
    exact ⟨j, hj, e.2.1, by simpa using e.1, e.2.2⟩
theorem known_any (ts : List Tm) (s : ByteArray) : (!(knownT ts (keyB s) ts.length).isEmpty) = ts.any (allowT s) := by
  obtain ⟨_, h2⟩ := knownT_spec ts (keyB s) ts.length (Nat.le_refl _)
  rw [Bool.eq_iff_iff, any_get]
  constructor
  · intro h
    cases hq : knownT ts (keyB s) ts.length with
    | nil => rw [hq] at h; cases h
    | cons t r =>
      obtain ⟨j, hj, e1, e2, e3⟩ := (h2 t).1 (by rw [hq]; exact List.mem_cons_self)
      exact ⟨j, hj, by unfold allowT; rw [e2, alike_key, e1]; simp⟩
  · rintro ⟨j, hj, e⟩
    unfold allowT at e
    rw [Bool.and_eq_true, alike_key, decide_eq_true_eq] at e
    have := (h2 (keyB (ts.getD j tm0).t)).2 ⟨j, hj, e.2, by simpa using e.1, rfl⟩
    cases hq : knownT ts (keyB s) ts.length with
    | nil => rw [hq] at this; cases this
    | cons t r => rfl
theorem miss_same (ts : List Tm) (cs : ByteArray → Nat) (ps pt : List (Nat × Nat)) (hcs : cs = cntV ((ts.map (·.s)).map keyB) ps) (hm : ∀ p ∈ pt, p.1 < ts.length) (i : Nat) : missV ts cs (cntV ((ts.map (·.t)).map keyB) pt) i = rmB ts ps pt i := by
  unfold missV rmB rmissV frB
  rw [good_sum ts _ pt hm, known_any, ← hcs, Bool.and_assoc]
  congr 1
  congr 1
  funext q
  rw [alike_key]
  simp
theorem find_lt (ts : List Tm) (f : Tm → ByteArray) (s : ByteArray) : ∀ p ∈ findL ((ts.map f).map wordsB) (wordsB s), p.1 < ts.length := fun p hp => by
  have := (findV_mem _ _ p hp).1
  simpa using this
theorem find_small (lists : List (List ByteArray)) (s : ByteArray) (hs : s.size ≤ 1000000) : (findL lists (wordsB s)).length ≤ 1000001 := Nat.le_trans (findV_len _ _) (Nat.le_trans (wordsB_le s) (by omega))
theorem pf_same (ts : List Tm) (s t : ByteArray) : pfindings ts s t = chkF (rmB ts (plS ts s) (plT ts t)) (wrongV ts (cntV ((ts.map (·.s)).map keyB) (plS ts s)) (cntV ((ts.map (·.t)).map keyB) (plT ts t))) ts.length := by
  unfold pfindings
  rw [show missV ts (cntS ts s) (cntT ts t) = rmB ts (plS ts s) (plT ts t) from funext fun i => miss_same ts _ (plS ts s) (plT ts t) rfl (find_lt ts (·.t) t) i]
  rfl
theorem rcheck_any (ts : List Tm) (source target : ByteArray) (ad : Option Addr) (n c : Nat) (w : World) (ht : TmAt w ad n ts) (hn : n ≤ 40) (hz : ∀ x ∈ ts, x.s.size ≤ 100000 ∧ x.t.size ≤ 100000) :
    Calls Try.prog 12 #[.slice ad n c, .string source, .string target] w (ChkPost 63 (errV ts source target) (resV ts source target (pfindings ts source target)) w) := by
  refine rc_first ts source target ad n c w _ ht hn hz ?_ ?_ ?_
  · intro w' hv hb
    have e1 : errV ts source target = 1 := by unfold errV; rw [if_neg (by rw [hv]; decide)]
    have e2 : resV ts source target (pfindings ts source target) = [] := by unfold resV; rw [if_neg (by rw [hv]; decide)]
    rw [e1, e2]
    exact ⟨none, 0, rfl, ⟨rfl, .inl ⟨rfl, rfl⟩⟩, hb⟩
  · intro w' hv hl hb
    have e1 : errV ts source target = 6 := by unfold errV; rw [if_pos hv, if_pos hl]
    have e2 : resV ts source target (pfindings ts source target) = [] := by unfold resV; rw [if_pos hv, if_pos hl]
    rw [e1, e2]
    exact ⟨none, 0, rfl, ⟨rfl, .inl ⟨rfl, rfl⟩⟩, hb⟩
  · intro wr v1 v2 a2 a3 N2 c2 N3 c3
    intros
    rename_i hv h1 h2 hp hq hb
    have e1 : errV ts source target = 0 := by unfold errV; rw [if_pos hv, if_neg (by omega)]
    have e2 : resV ts source target (pfindings ts source target) = pfindings ts source target := by unfold resV; rw [if_pos hv, if_neg (by omega)]
    have hl := ht.1
    rw [e1, e2, pf_same, hl]
    exact rc_second ts (plS ts source) (plT ts target) source target ad n c w wr v1 v2 a2 a3 N2 c2 N3 c3 _ _ _ _ _ _ _ _ _ _ _ _ _ _ _ _ _ _ _ _ _ _ _ _ _ _ _ _ _ _ _ _ _ _ _ _ _ _ _ _ _ _ _ _ _ _ _ _ _ _ _ _ _ _ _ _ _ _ _ _ _ _ _ _ _ _ _ _ _ _ _ _ _ _ _ _ _ _ _ _ _ _ (ht.below hb) hn hz hp (by rw [← hp.1]; exact find_small _ _ (by omega)) (by rw [← hl]; exact find_lt ts (·.s) source) hq (by rw [← hq.1]; exact find_small _ _ (by omega)) (by rw [← hl]; exact find_lt ts (·.t) target) hb (fun ad' c' w' g1 g2 => ⟨ad', c', rfl, g1, g2⟩)
end Go.Proofs.Ytkodnagneblgaaa
/- Findings read as cells. -/
namespace Go.Proofs.Ytkodnagneblgaaa
open Go.RowKit Go.Maps Go.Sort
/-- findings as cells -/
theorem FnR.at {E : TypeId} {w : World} {base : Nat} {ad : Option Addr} {n c : Nat} {fs : List (Nat × Nat)} (h : FnR E w base (.slice ad n c) fs) : PrAt w ad n fs := by
  have hn : fs.length = n := by
    rcases h.2 with ⟨e, h0⟩ | ⟨g, cap, cur, e, _⟩
    · injection e with _ e2 _; omega
    · injection e with _ e2 _; exact e2.symm
  unfold FnR at h
  rw [prV_flat, hn] at h
  obtain ⟨b, hr, _⟩ := own_rw h
  exact ⟨hn, b, 0, hr⟩
theorem none_of (ts : List Tm) (source target : ByteArray) (h : findL ((ts.map (·.s)).map wordsB) (wordsB source) = []) : pfindings ts source target = [] := by
  have hc : cntS ts source = fun _ => 0 := by
    unfold cntS
    rw [h]
    rfl
  unfold pfindings
  rw [hc]
  generalize ts.length = n
  induction n with
  | zero => rfl
  | succ n ih =>
    rw [chkF_succ, ih]
    have e1 : missV ts (fun _ => 0) (cntT ts target) n = false := by unfold missV; simp
    have e2 : wrongV ts (fun _ => 0) (cntT ts target) n = false := by unfold wrongV; simp
    rw [e1, e2]
    rfl
theorem mem_chkF {m w : Nat → Bool} {n : Nat} {p : Nat × Nat} (h : p ∈ chkF m w n) : p.2 < n ∧ ((p.1 = 1 ∧ m p.2 = true) ∨ (p.1 = 2 ∧ w p.2 = true)) := by
  unfold chkF at h
  obtain ⟨i, hi, hp⟩ := List.mem_flatMap.1 h
  have hi := List.mem_range.1 hi
  unfold oneF at hp
  rcases List.mem_append.1 hp with h1 | h1
  · split at h1
    · rename_i hm
      rw [List.mem_singleton.1 h1]
      exact ⟨hi, .inl ⟨rfl, hm⟩⟩
    · cases h1
  · split at h1
    · rename_i hm
      rw [List.mem_singleton.1 h1]
      exact ⟨hi, .inr ⟨rfl, hm⟩⟩
    · cases h1
theorem forb_of (ts : List Tm) (source target : ByteArray) (p : Nat × Nat) (hp : p ∈ pfindings ts source target) (h : p.1 = 2) : ts.any (·.f) = true := by
  obtain ⟨h1, ⟨h2, _⟩ | ⟨_, h2⟩⟩ := mem_chkF hp
  · omega
  · unfold wrongV at h2
    rw [Bool.and_eq_true, Bool.and_eq_true, Bool.and_eq_true] at h2
    exact List.any_eq_true.2 ⟨_, getD_mem ts p.2 tm0 h1, h2.1.1.1⟩
end Go.Proofs.Ytkodnagneblgaaa
/- Plain: a text built of translations, and what is found in it. -/
namespace Go.Proofs.Ytkodnagneblgaaa
open Go.RowKit Go.Maps Go.Sort
/-- the word in between -/
def zB : ByteArray := ⟨#[122, 113, 120, 106]⟩
theorem zB_list : zB.toList = [122, 113, 120, 106] := by rw [ByteArray.toList_eq]; rfl
def btw : ByteArray := ⟨#[32, 122, 113, 120, 106, 32]⟩
theorem wordsG_blank : ∀ (s cur r : List UInt8), wordsG (s ++ 32 :: r) cur = wordsG s cur ++ wordsG r []
  | [], cur, r => by
    show wordsG (32 :: r) cur = endW cur ++ _
    rw [wordsG, if_neg (by decide)]
  | c :: s, cur, r => by
    show wordsG (c :: (s ++ 32 :: r)) cur = _
    cases hp : partC c with
    | true =>
      rw [wordsG, if_pos hp, wordsG_blank s _ r]
      conv => rhs; rw [wordsG, if_pos hp]
    | false =>
      rw [wordsG, if_neg (by rw [hp]; decide), wordsG_blank s _ r]
      conv => rhs; rw [wordsG, if_neg (by rw [hp]; decide), List.append_assoc]
theorem wordsB_btw (a b : ByteArray) : wordsB (a ++ btw ++ b) = wordsB a ++ zB :: wordsB b := by
  unfold wordsB wordsV
  have e : (a ++ btw ++ b).data.toList = a.data.toList ++ 32 :: ([122, 113, 120, 106] ++ 32 :: b.data.toList) := by simp [btw]
  have e2 : wordsG [122, 113, 120, 106] [] = [[122, 113, 120, 106]] := by decide
  rw [e, wordsG_blank, wordsG_blank, e2]
  simp
  rfl
/-- words that are blocks and words in between -/
inductive Seg (lists : List (List ByteArray)) (z : ByteArray) : List ByteArray → List (List ByteArray) → Prop
  | nil : Seg lists z [] []
  | sep {S : List ByteArray} {bl : List (List ByteArray)} : Seg lists z S bl → Seg lists z (z :: S) bl
  | blk {b S : List ByteArray} {bl : List (List ByteArray)} : b ≠ [] → (∃ i, i < lists.length ∧ lists.getD i [] = b) → (∀ x, S.head? = some x → x = z) → Seg lists z S bl → Seg lists z (b ++ S) (b :: bl)
theorem Seg.front {lists : List (List ByteArray)} {z : ByteArray} {S b : List ByteArray} {bl : List (List ByteArray)} (h : Seg lists z S bl) (hb : b ≠ []) (hi : ∃ i, i < lists.length ∧ lists.getD i [] = b) : Seg lists z (b ++ z :: S) (b :: bl) :=
  .blk hb hi (fun x hx => by simpa using hx.symm) (.sep h)
theorem Seg.back {lists : List (List ByteArray)} {z : ByteArray} {b : List ByteArray} (hb : b ≠ []) (hi : ∃ i, i < lists.length ∧ lists.getD i [] = b) {S : List ByteArray} {bl : List (List ByteArray)} (h : Seg lists z S bl) : Seg lists z (S ++ z :: b) (bl ++ [b]) := by
  induction h with
  | nil =>
    have := Seg.sep (Seg.blk (lists := lists) (z := z) hb hi (S := []) (bl := []) (fun x hx => by cases hx) .nil)
    simpa using this
  | sep h ih => exact .sep ih
  | @blk b' S bl hb' hi' hx h ih =>
    rw [List.append_assoc]
    refine .blk hb' hi' (fun x h2 => ?_) ih
    cases S with
    | nil => simpa using h2.symm
    | cons y S => exact hx x h2
theorem best_sep {lists : List (List ByteArray)} {z : ByteArray} (hz : ∀ l ∈ lists, z ∉ l) (S : List ByteArray) : bestV lists (z :: S) = none := by
  rcases bestTo_spec lists (z :: S) lists.length with ⟨e, _⟩ | ⟨b, _, hb⟩
  · exact e
  · obtain ⟨h1, h2⟩ := mtB_iff.1 hb.2.1
    have hm := getD_mem lists b [] hb.1
    have := mt_head hb.2.1
    exact absurd (List.mem_of_mem_head? this) (hz _ hm)
theorem best_blk {lists : List (List ByteArray)} {z : ByteArray} (hz : ∀ l ∈ lists, z ∉ l) {b S : List ByteArray} (hb : b ≠ []) (hi : ∃ i, i < lists.length ∧ lists.getD i [] = b) (hS : ∀ x, S.head? = some x → x = z) : ∃ i, bestV lists (b ++ S) = some i ∧ lists.getD i [] = b := by
  obtain ⟨i, hi1, hi2⟩ := hi
  have hmi : mtB lists (b ++ S) i = true := mtB_iff.2 ⟨by rw [hi2]; exact hb, by unfold lnW; rw [hi2]; simp⟩
  rcases bestTo_spec lists (b ++ S) lists.length with ⟨_, h⟩ | ⟨k, e, hk⟩
  · rw [h i hi1] at hmi; cases hmi
  · refine ⟨k, e, ?_⟩
    obtain ⟨h1, h2⟩ := mtB_iff.1 hk.2.1
    have hm := getD_mem lists k [] hk.1
    have hlen : lnW lists i = b.length := by unfold lnW; rw [hi2]
    have hge : b.length ≤ lnW lists k := by
      by_cases hik : i = k
      · rw [← hik, hlen]; exact Nat.le_refl _
      · have := hk.2.2 i hi1 hmi hik
        unfold RW at this
        omega
    rcases Nat.eq_or_lt_of_le hge with hq | hq
    · rw [h2, ← hq]; simp
    · exfalso
      have hle : lnW lists k ≤ (b ++ S).length := by
        rcases Nat.lt_or_ge (b ++ S).length (lnW lists k) with h' | h'
        · have := hk.2.1
          rw [mt_long h'] at this
          cases this
        · exact h'
      cases S with
      | nil => simp at hle; omega
      | cons y S =>
        have hy : y = z := hS y rfl
        subst hy
        refine hz _ hm ?_
        rw [h2, List.mem_iff_getElem?]
        refine ⟨b.length, ?_⟩
        rw [List.getElem?_take, if_pos hq]
        simp
theorem find_seg {lists : List (List ByteArray)} {z : ByteArray} (hz : ∀ l ∈ lists, z ∉ l) {S : List ByteArray} {bl : List (List ByteArray)} (h : Seg lists z S bl) : ∀ (f : Nat) (pre : List ByteArray), S.length ≤ f → (findV lists (pre ++ S) f pre.length).map (fun p => lists.getD p.1 []) = bl := by
  induction h with
  | nil =>
    intro f pre _
    rw [findV_end (by simp)]
    rfl
  | @sep S bl h ih =>
    intro f pre hf
    cases f with
    | zero => simp at hf
    | succ f =>
      rw [findV_none (by simp) (by rw [List.drop_left]; exact best_sep hz S)]
      have := ih f (pre ++ [z]) (by simpa using hf)
      simpa using this
  | @blk b S bl hb hi hx h ih =>
    intro f pre hf
    obtain ⟨i, e1, e2⟩ := best_blk hz hb hi hx
    have hbl : 0 < b.length := List.length_pos_iff.2 hb
    cases f with
    | zero => rw [List.length_append] at hf; omega
    | succ f =>
      rw [findV_some (by simp; omega) (by rw [List.drop_left]; exact e1), List.map_cons, e2]
      have hl : lnW lists i = b.length := by unfold lnW; rw [e2]
      rw [hl]
      have := ih f (pre ++ b) (by rw [List.length_append] at hf; omega)
      rw [List.append_assoc, List.length_append] at this
      rw [this]
/-- the translation that is taken for a source -/
def pickT (ts : List Tm) (s : ByteArray) : Option Tm := ts.find? (allowT s)
def stepT (back : Bool) (acc : ByteArray) : Option Tm → ByteArray
  | none => acc
  | some x => if back then x.t ++ btw ++ acc else acc ++ (btw ++ x.t)
def builtT (ts : List Tm) (back : Bool) (ps : List (Nat × Nat)) : ByteArray := ps.foldl (fun acc p => stepT back acc (pickT ts (ts.getD p.1 tm0).s)) .empty
def chosenT (ts : List Tm) (ps : List (Nat × Nat)) : List (List ByteArray) := ps.filterMap fun p => (pickT ts (ts.getD p.1 tm0).s).map fun x => wordsB x.t
theorem builtT_succ (ts : List Tm) (back : Bool) (ps : List (Nat × Nat)) (i : Nat) (hi : i < ps.length) : builtT ts back (ps.take (i + 1)) = stepT back (builtT ts back (ps.take i)) (pickT ts (ts.getD (ps.getD i (0, 0)).1 tm0).s) := by
  have hg : ps.getD i (0, 0) = ps[i] := by rw [List.getD_eq_getElem?_getD, List.getElem?_eq_getElem hi]; rfl
  unfold builtT
  rw [List.take_add_one, List.getElem?_eq_getElem hi, hg, Option.toList_some, List.foldl_append]
  rfl
theorem pick_mem {ts : List Tm} {s : ByteArray} {x : Tm} (h : pickT ts s = some x) : x ∈ ts ∧ allowT s x = true := ⟨List.mem_of_find?_eq_some h, List.find?_some h⟩
theorem step_size {ts : List Tm} (hz : ∀ x ∈ ts, x.t.size ≤ 250) (back : Bool) (acc : ByteArray) (s : ByteArray) : (stepT back acc (pickT ts s)).size ≤ acc.size + 256 := by
  cases hp : pickT ts s with
  | none => show acc.size ≤ _; omega
  | some x =>
    have := hz x (pick_mem hp).1
    have hb : btw.size = 6 := rfl
    cases back
    · show (acc ++ (btw ++ x.t)).size ≤ _
      rw [ByteArray.size_append, ByteArray.size_append]
      omega
    · show (x.t ++ btw ++ acc).size ≤ _
      rw [ByteArray.size_append, ByteArray.size_append]
      omega
theorem built_seg {ts : List Tm} (hv : ∀ x ∈ ts, wordsB x.t ≠ []) (back : Bool) : ∀ (ps : List (Nat × Nat)) (acc : ByteArray) (bl : List (List ByteArray)), Seg ((ts.map (·.t)).map wordsB) zB (wordsB acc) bl →
    ∃ bl', Seg ((ts.map (·.t)).map wordsB) zB (wordsB (ps.foldl (fun acc p => stepT back acc (pickT ts (ts.getD p.1 tm0).s)) acc)) bl' ∧ ∀ G : List ByteArray → Bool, (bl'.filter G).length = (bl.filter G).length + ((chosenT ts ps).filter G).length
  | [], acc, bl, h => ⟨bl, h, fun G => by simp [chosenT]⟩
  | p :: ps, acc, bl, h => by
    rw [List.foldl_cons]
    cases hp : pickT ts (ts.getD p.1 tm0).s with
    | none =>
      obtain ⟨bl', h1, h2⟩ := built_seg hv back ps acc bl h
      refine ⟨bl', h1, fun G => ?_⟩
      rw [h2]
      congr 1
      unfold chosenT
      rw [List.filterMap_cons, hp]
      rfl
    | some x =>
      obtain ⟨hx, _⟩ := pick_mem hp
      have hi : ∃ i, i < ((ts.map (·.t)).map wordsB).length ∧ ((ts.map (·.t)).map wordsB).getD i [] = wordsB x.t := by
        obtain ⟨i, hi, rfl⟩ := List.getElem_of_mem hx
        refine ⟨i, by simpa using hi, ?_⟩
        rw [List.getD_eq_getElem?_getD, List.getElem?_map, List.getElem?_map, List.getElem?_eq_getElem hi]
        rfl
      cases back with
      | true =>
        have hs : Seg ((ts.map (·.t)).map wordsB) zB (wordsB (stepT true acc (some x))) (wordsB x.t :: bl) := by
          show Seg _ _ (wordsB (x.t ++ btw ++ acc)) _
          rw [wordsB_btw]
          exact h.front (hv x hx) hi
        obtain ⟨bl', h1, h2⟩ := built_seg hv true ps _ _ hs
        refine ⟨bl', h1, fun G => ?_⟩
        rw [h2]
        simp only [chosenT, List.filterMap_cons, hp, Option.map_some, List.filter_cons]
        split <;> simp <;> omega
      | false =>
        have hs : Seg ((ts.map (·.t)).map wordsB) zB (wordsB (stepT false acc (some x))) (bl ++ [wordsB x.t]) := by
          show Seg _ _ (wordsB (acc ++ (btw ++ x.t))) _
          rw [← ByteArray.append_assoc, wordsB_btw]
          exact Seg.back (hv x hx) hi h
        obtain ⟨bl', h1, h2⟩ := built_seg hv false ps _ _ hs
        refine ⟨bl', h1, fun G => ?_⟩
        rw [h2]
        simp only [chosenT, List.filterMap_cons, hp, Option.map_some, List.filter_cons, List.filter_append, List.length_append, List.filter_nil]
        split <;> simp <;> omega
theorem valid_words {ts : List Tm} (h : validT ts = true) : ∀ x ∈ ts, wordsB x.t ≠ [] := by
  intro x hx
  unfold validT at h
  rw [Bool.and_eq_true, List.all_eq_true] at h
  obtain ⟨i, hi, rfl⟩ := List.getElem_of_mem hx
  have h1 := h.1 i (List.mem_range.2 hi)
  unfold okT at h1
  rw [Bool.and_eq_true, Bool.and_eq_true] at h1
  have h2 := h1.1.2
  have hg : ts.getD i tm0 = ts[i] := by rw [List.getD_eq_getElem?_getD, List.getElem?_eq_getElem hi]; rfl
  rw [hg] at h2
  unfold properB at h2
  rw [Bool.and_eq_true, Bool.and_eq_true, decide_eq_true_eq] at h2
  intro e
  rw [e] at h2
  simp at h2
/-- what is good for a source, by the words of the translation -/
def goodW (ts : List Tm) (sk : ByteArray) (l : List ByteArray) : Bool := ts.any fun x => !x.f && (alikeB x.s sk && sameB (wordsB x.t) l)
theorem cnt_chosen {ts : List Tm} {sk : ByteArray} (ha : ts.any (allowT sk) = true) : ∀ ps : List (Nat × Nat), (∀ p ∈ ps, p.1 < ts.length) → cntV ((ts.map (·.s)).map keyB) ps (keyB sk) ≤ ((chosenT ts ps).filter (goodW ts sk)).length
  | [], _ => Nat.zero_le _
  | p :: ps, hm => by
    have ih := cnt_chosen ha ps (fun q hq => hm q (List.mem_cons_of_mem _ hq))
    have hlt := hm p List.mem_cons_self
    have hk : ((ts.map (·.s)).map keyB).getD p.1 .empty = keyB (ts.getD p.1 tm0).s := by
      rw [List.getD_eq_getElem?_getD, List.getElem?_map, List.getElem?_map, List.getD_eq_getElem?_getD, List.getElem?_eq_getElem hlt]
      rfl
    have hstep : ((chosenT ts ps).filter (goodW ts sk)).length ≤ ((chosenT ts (p :: ps)).filter (goodW ts sk)).length := by
      unfold chosenT
      rw [List.filterMap_cons]
      cases (pickT ts (ts.getD p.1 tm0).s).map fun x => wordsB x.t with
      | none => exact Nat.le_refl _
      | some y =>
        simp only [List.filter_cons]
        split <;> simp
    unfold cntV at ih ⊢
    rw [List.filter_cons]
    by_cases he : keyB (ts.getD p.1 tm0).s = keyB sk
    · rw [if_pos (by rw [hk]; exact decide_eq_true he), List.length_cons]
      have hal : allowT (ts.getD p.1 tm0).s = allowT sk := by
        funext x
        unfold allowT
        rw [alike_key, alike_key, he]
      cases hp : pickT ts (ts.getD p.1 tm0).s with
      | none =>
        exfalso
        unfold pickT at hp
        rw [hal, List.find?_eq_none] at hp
        obtain ⟨x, hx, h⟩ := List.any_eq_true.1 ha
        exact hp x hx h
      | some x =>
        obtain ⟨hx, hax⟩ := pick_mem hp
        rw [hal] at hax
        have hg : goodW ts sk (wordsB x.t) = true := by
          unfold goodW
          rw [List.any_eq_true]
          refine ⟨x, hx, ?_⟩
          unfold allowT at hax
          rw [Bool.and_eq_true] at hax
          rw [hax.1, hax.2]
          show decide _ = true
          exact decide_eq_true rfl
        unfold chosenT at ih ⊢
        rw [List.filterMap_cons, hp]
        simp only [Option.map_some, List.filter_cons]
        rw [if_pos hg, List.length_cons]
        omega
    · rw [if_neg (by rw [hk]; simpa using he)]
      omega
theorem built_found {ts : List Tm} (hv : validT ts = true) (hz : ∀ x ∈ ts, zB ∉ wordsB x.t) (back : Bool) (ps : List (Nat × Nat)) (sk : ByteArray) :
    goodN ts sk (findL ((ts.map (·.t)).map wordsB) (wordsB (builtT ts back ps))) = ((chosenT ts ps).filter (goodW ts sk)).length := by
  obtain ⟨bl, h1, h2⟩ := built_seg (valid_words hv) back ps .empty [] .nil
  have hzl : ∀ l ∈ (ts.map (·.t)).map wordsB, zB ∉ l := by
    intro l hl
    rw [List.map_map] at hl
    obtain ⟨x, hx, rfl⟩ := List.mem_map.1 hl
    exact hz x hx
  have h3 := find_seg hzl h1 _ [] (Nat.le_refl _)
  rw [List.nil_append] at h3
  have h4 := h2 (goodW ts sk)
  rw [← h3] at h4
  have h5 : ((chosenT ts ps).filter (goodW ts sk)).length = ((findL ((ts.map (·.t)).map wordsB) (wordsB (builtT ts back ps))).filter fun p => goodW ts sk (((ts.map (·.t)).map wordsB).getD p.1 [])).length := by
    rw [List.filter_map, List.length_map] at h4
    simp only [List.filter_nil, List.length_nil, Nat.zero_add] at h4
    rw [← h4]
    rfl
  rw [h5]
  unfold goodN
  congr 1
  apply List.filter_congr
  intro p hp
  have hlt := find_lt ts (·.t) _ p hp
  have hk : ((ts.map (·.t)).map wordsB).getD p.1 [] = wordsB (ts.getD p.1 tm0).t := by
    rw [List.getD_eq_getElem?_getD, List.getElem?_map, List.getElem?_map, List.getD_eq_getElem?_getD, List.getElem?_eq_getElem hlt]
    rfl
  rw [hk]
  rfl
theorem no_missing {ts : List Tm} (hv : validT ts = true) (hz : ∀ x ∈ ts, zB ∉ wordsB x.t) (back : Bool) (source : ByteArray) (p : Nat × Nat)
    (hp : p ∈ pfindings ts source (builtT ts back (findL ((ts.map (·.s)).map wordsB) (wordsB source)))) : p.1 ≠ 1 := by
  intro h1
  obtain ⟨_, ⟨_, hm⟩ | ⟨h2, _⟩⟩ := mem_chkF hp
  · have hlt := find_lt ts (·.s) source
    unfold missV at hm
    rw [Bool.and_eq_true, Bool.and_eq_true, known_any, decide_eq_true_eq] at hm
    obtain ⟨⟨_, ha⟩, hlt2⟩ := hm
    unfold cntT at hlt2
    rw [good_sum ts _ _ (find_lt ts (·.t) _), built_found hv hz] at hlt2
    have := cnt_chosen ha _ hlt
    unfold cntS at hlt2
    omega
  · omega
end Go.Proofs.Ytkodnagneblgaaa
