/- Walks: missing translations, by the reference: the first part. -/
import Derived.Test.YtkodnagneblgaaaI1
namespace Go.Proofs.Ytkodnagneblgaaa
open Go.RowKit Go.Maps Go.Sort
attribute [local go_sem] Ext.cell Ext.frozen
attribute [local go_sem ↓] Go.wp_at_zero Go.wp_at_succ
theorem any_take_g (f : Tm → Bool) (ts : List Tm) (i : Nat) (hi : i < ts.length) : (ts.take (i + 1)).any f = ((ts.take i).any f || f (ts.getD i tm0)) := by
  have hg : ts.getD i tm0 = ts[i] := by rw [List.getD_eq_getElem?_getD, List.getElem?_eq_getElem hi]; rfl
  rw [List.take_add_one, List.getElem?_eq_getElem hi, hg, Option.toList_some, List.any_append]
  simp
/-- an allowed term with this source and this target -/
def goodT (sk tp : ByteArray) (x : Tm) : Bool := !x.f && (alikeB x.s sk && alikeB x.t tp)
/-- the number of places of an allowed translation -/
def goodN (ts : List Tm) (sk : ByteArray) (ps : List (Nat × Nat)) : Nat := (ps.filter fun p => ts.any (goodT sk (ts.getD p.1 tm0).t)).length
theorem goodN_step (ts : List Tm) (sk : ByteArray) (ps : List (Nat × Nat)) (i : Nat) (hi : i < ps.length) : goodN ts sk (ps.take (i + 1)) = goodN ts sk (ps.take i) + (if ts.any (goodT sk (ts.getD (ps.getD i (0, 0)).1 tm0).t) = true then 1 else 0) := by
  have hg : ps.getD i (0, 0) = ps[i] := by rw [List.getD_eq_getElem?_getD, List.getElem?_eq_getElem hi]; rfl
  unfold goodN
  rw [List.take_add_one, List.getElem?_eq_getElem hi, hg, Option.toList_some, List.filter_append, List.length_append]
  cases hq : ts.any (goodT sk (ts.getD ps[i].1 tm0).t) with
  | true => simp [-List.getD_eq_getElem?_getD, hq]
  | false => simp [-List.getD_eq_getElem?_getD, hq]
noncomputable def rmC (n : Nat) : Code := fromReg n ((Try.f29.body).getD .skip)
set_option maxRecDepth 100000 in
set_option maxHeartbeats 8000000 in
theorem rm_first (ts : List Tm) (_ps pt : List (Nat × Nat)) (ad : Option Addr) (n c k : Nat) (a2 : Option Addr) (N2 c2 : Nat) (a3 : Option Addr) (N3 c3 : Nat) (w : World) (RR : Ending → World → Prop) (ht : TmAt w ad n ts) (hk : k < n) (hn : n ≤ 1000) (hz : ∀ x ∈ ts, x.s.size ≤ 100000 ∧ x.t.size ≤ 100000) (hpt : PrAt w a3 N3 pt) (hN3 : N3 ≤ 1000001) (hm : ∀ p ∈ pt, p.1 < n)
    (hnext : ∀ (wr : World) (v1 v2 : Value) (u4 u5 u6 u7 u8 u13 u14 u15 u16 u17 u18 u19 u20 u21 u22 u23 u24 u25 u26 u27 u28 u29 u30 u31 u32 u33 u34 u35 u36 u37 u38 u39 u40 u41 u42 u43 u44 u45 u46 u47 u48 u49 u50 u51 u52 u53 u54 u55 u56 u57 u58 u59 u60 u61 u62 u63 u64 u65 u66 u67 u68 u69 u70 u71 u72 u73 u74 u75 u76 u77 u78 u79 u80 u81 u82 u83 u84 u85 u86 u87 u88 u89 u90 u91 u92 u93 u94 u95 u96 u97 u98 u99 u100 u101 u102 u103 u104 u105 u106 u107 u108 u109 u110 u111 u112 u113 u114 u115 : Value), StrR wr w.heap.size v1 (ts.map (·.s)) → Below w.heap.size w wr →
      (rmC 13).wp Try.prog (bodyPost Try.prog Try.f29 RR) ⟨#[.slice ad n c, .int .i64 (k : Int), .slice a2 N2 c2, .slice a3 N3 c3, u4, u5, u6, u7, u8, v1, v2, .bool false, .int .i64 (goodN ts (ts.getD k tm0).s pt : Int), u13, u14, u15, u16, u17, u18, u19, u20, u21, u22, u23, u24, u25, u26, u27, u28, u29, u30, u31, u32, u33, u34, u35, u36, u37, u38, u39, u40, u41, u42, u43, u44, u45, u46, u47, u48, u49, u50, u51, u52, u53, u54, u55, u56, u57, u58, u59, u60, u61, u62, u63, u64, u65, u66, u67, u68, u69, u70, u71, u72, u73, u74, u75, u76, u77, u78, u79, u80, u81, u82, u83, u84, u85, u86, u87, u88, u89, u90, u91, u92, u93, u94, u95, u96, u97, u98, u99, u100, u101, u102, u103, u104, u105, u106, u107, u108, u109, u110, u111, u112, u113, u114, u115], []⟩ wr) :
    Calls Try.prog 29 #[.slice ad n c, .int .i64 (k : Int), .slice a2 N2 c2, .slice a3 N3 c3] w RR := by
  have HL := Lib.hid ht.1
  have HT := Lib.hid ht
  have HZ := Lib.hid hz
  have HP := Lib.hid hpt
  have HPL := Lib.hid hpt.1
  have HM := Lib.hid hm
  have HN := Lib.hid hnext
  have HA := Lib.hid ralike_any
  have HST := Lib.hid (rstrings_any ts ad n c w ht hn)
  have HZK := Lib.hid (hz (ts.getD k tm0) (getD_mem _ _ _ (by rw [HL.out]; exact hk)))
  clear ht hz hpt hm hnext
  go_enter Try.func29, Try.ntmps29
  go_wp2_with fail
  refine HST.out.mono ?_
  rintro e w1 ⟨v1, v2, rfl, htw, hb⟩
  have HB1 := Lib.hid hb
  have HR1 := Lib.hid htw.r1
  obtain ⟨a10, c10, rfl⟩ := htw.r2.form
  have hr2 := htw.r2
  have hml : (ts.map (·.t)).length = n := by rw [List.length_map]; exact HL.out
  unfold StrR at hr2
  rw [hml] at hr2 ⊢
  have HS2 := Lib.hid (Own.sl hr2)
  clear htw hb hr2 hml HST
  go_wp2_with fail
  rename_i K9 hK9
  have HK9 := Lib.hid hK9
  clear hK9
  obtain ⟨sk, hsk⟩ : ∃ sk, (ts.getD k tm0).s = sk := ⟨_, rfl⟩
  rw [hsk] at HN HZK
  have HSK := Lib.hid hsk
  clear hsk
  go_loopw [12, 13] (fun v u wr => ∃ (i m : Nat), u = .int .i64 (i : Int) ∧ v = .int .i64 (m : Int) ∧ i ≤ N3 ∧ m ≤ i ∧ goodN ts sk (pt.take i) = m ∧ Below w1.heap.size w1 wr) (fun _ u _ => N3 - (intOf u).toNat)
  case atStart => exact ⟨0, 0, rfl, rfl, Nat.zero_le _, Nat.le_refl _, rfl, Below.refl _ _⟩
  case round =>
    obtain ⟨i, m, rfl, rfl, hin, hmi, hgn, hbl⟩ := hrel
    have HGN := Lib.hid hgn
    have HB := Lib.hid hbl
    have HBB := Lib.hid (HB1.out.trans (hbl.mono HB1.out.size))
    clear hgn hbl
    by_cases hlt : i < N3
    · obtain ⟨_, pb, po, hrp⟩ := HP.out.below HBB.out
      have p0 := hrp.cell i 0 hlt (by omega)
      rw [Nat.add_zero] at p0
      simp only [prC] at p0
      have hix := fun W => hrp.ix 42 45 Try.underlying42 cellsPair (by omega) hlt c3 W
      have hmem := HM.out (pt.getD i (0, 0)) (getD_mem _ _ _ (by rw [HPL.out]; exact hlt))
      have HGS := Lib.hid (goodN_step ts sk pt i (by rw [HPL.out]; exact hlt))
      rw [HGN.out] at HGS
      have hlz : (i : Int) < (N3 : Int) := by omega
      clear hrp HGN
      generalize pt.getD i (0, 0) = x at *
      obtain ⟨a, b⟩ := x
      simp only at p0 hmem HGS
      obtain ⟨gb, go, hst⟩ := HS2.out.below HB.out
      have hixt := fun W => hst.ix (c := c10) 39 9 Try.underlying39 cellsStr hmem W
      have g0 := hst.cell a hmem
      rw [strs_getD _ _ (by rw [List.length_map, HL.out]; exact hmem), show (ts.map (·.t)).getD a .empty = (ts.getD a tm0).t by
        rw [List.getD_eq_getElem?_getD, List.getElem?_map, List.getD_eq_getElem?_getD, List.getElem?_eq_getElem (by rw [HL.out]; exact hmem)]; rfl] at g0
      have hzt := (HZ.out (ts.getD a tm0) (getD_mem _ _ _ (by rw [HL.out]; exact hmem))).2
      obtain ⟨_, tb, tq, hrk⟩ := HT.out.below HBB.out
      have hixk := fun W => hrk.ix 22 48 Try.underlying22 cellsRTm (by omega) hk c W
      have k0 := hrk.cell k 0 hk (by omega)
      rw [Nat.add_zero] at k0
      simp only [tmC] at k0
      rw [HSK.out] at k0
      clear hst hrk
      generalize (ts.getD a tm0).t = tp at *
      have HI0 := Lib.hid k0
      have HI1 := Lib.hid g0
      have HI2 := Lib.hid p0
      clear k0 g0 p0
      obtain ⟨PP, hPP⟩ : ∃ PP, goodT sk tp = PP := ⟨_, rfl⟩
      rw [hPP] at HGS
      obtain ⟨wo, rfl⟩ : ∃ wo : World, wo = wr := ⟨_, rfl⟩
      go_wp2_with fail
      go_loopw [14, 15] (fun v u wx => ∃ (j : Nat) (gd : Bool), u = .int .i64 (j : Int) ∧ v = .bool gd ∧ j ≤ n ∧ (ts.take j).any PP = gd ∧ Below wo.heap.size wo wx) (fun _ u _ => n - (intOf u).toNat)
      case atStart => exact ⟨0, false, rfl, rfl, Nat.zero_le _, rfl, Below.refl _ _⟩
      case round =>
        obtain ⟨j, gd, rfl, rfl, hjn, hgd, hbl⟩ := hrel
        have HG := Lib.hid hgd
        have HBJ := Lib.hid hbl
        clear hgd hbl
        by_cases hjl : j < n
        · obtain ⟨_, sb, sq, hrj⟩ := HT.out.below (HBB.out.trans (HBJ.out.mono HBB.out.size))
          have hixj := fun W => hrj.ix 22 48 Try.underlying22 cellsRTm (by omega) hjl c W
          have j0 := hrj.cell j 0 hjl (by omega)
          have j1 := hrj.cell j 1 hjl (by omega)
          have j2 := hrj.cell j 2 hjl (by omega)
          rw [Nat.add_zero] at j0
          simp only [tmC] at j0 j1 j2
          have i0 := cell_later HBJ.out HI0.out
          have hsb : sb < wr.heap.size := World.block_lt_of_cell? _ _ j0
          have htb : tb < wr.heap.size := World.block_lt_of_cell? _ _ i0
          have HAT := Lib.hid (any_take_g PP ts j (by rw [HL.out]; exact hjl))
          rw [HG.out] at HAT
          obtain ⟨z1, z2⟩ := HZ.out (ts.getD j tm0) (getD_mem _ _ _ (by rw [HL.out]; exact hjl))
          have hjz : (j : Int) < (n : Int) := by omega
          have i1 := cell_later HBJ.out HI1.out
          have i2 := cell_later HBJ.out HI2.out
          have hgb : gb < wr.heap.size := World.block_lt_of_cell? _ _ i1
          have hpb : pb < wr.heap.size := World.block_lt_of_cell? _ _ i2
          have HA1 : Hid (∀ W, Calls Try.prog 23 #[.string (ts.getD j tm0).s, .string sk] W fun e w' => e = .returned (.bool (alikeB (ts.getD j tm0).s sk)) ∧ Below W.heap.size W w') := fun W => HA.out _ _ W (by omega) (Nat.le_trans HZK.out.1 (by omega))
          have HA2 : Hid (∀ W, Calls Try.prog 23 #[.string (ts.getD j tm0).t, .string tp] W fun e w' => e = .returned (.bool (alikeB (ts.getD j tm0).t tp)) ∧ Below W.heap.size W w') := fun W => HA.out _ _ W (by omega) (by omega)
          rw [show PP (ts.getD j tm0) = (!(ts.getD j tm0).f && (alikeB (ts.getD j tm0).s sk && alikeB (ts.getD j tm0).t tp)) by rw [← hPP]; rfl] at HAT
          clear hrj z1 z2
          generalize alikeB (ts.getD j tm0).s sk = b1 at *
          generalize alikeB (ts.getD j tm0).t tp = b2 at *
          generalize ts.getD j tm0 = y at *
          obtain ⟨ys, yt, f⟩ := y
          simp only at j0 j1 j2 HAT HA1 HA2
          cases gd with
          | true =>
            have HG2 : Hid ((ts.take (j + 1)).any PP = true) := by rw [Hid, HAT.out]; rfl
            clear HAT
            go_wp2_with fail
            refine wp_region_ext (by kernel_rfl) (by kernel_rfl) ?_
            repeat (go_big_quiet_step (fail))
            refine wpQuiet_nil ?_
            intro _ hw'
            obtain ⟨X9, hw''⟩ := hw'
            subst hw''
            go_wp2_with fail
            go_roundw
            case rel => exact ⟨j + 1, true, by go_num, rfl, by omega, HG2.out, HBJ.out.trans (X9.2.mono HBJ.out.size)⟩
            case measure => simp [intOf]; omega
          | false =>
            cases f with
            | true =>
              have HG2 : Hid ((ts.take (j + 1)).any PP = false) := by rw [Hid, HAT.out]; rfl
              clear HAT
              go_wp2_with fail
              refine wp_region_ext (by kernel_rfl) (by kernel_rfl) ?_
              repeat (go_big_quiet_step (fail))
              refine wpQuiet_nil ?_
              intro _ hw'
              obtain ⟨X9, hw''⟩ := hw'
              subst hw''
              go_wp2_with fail
              go_roundw
              case rel => exact ⟨j + 1, false, by go_num, rfl, by omega, HG2.out, HBJ.out.trans (X9.2.mono HBJ.out.size)⟩
              case measure => simp [intOf]; omega
            | false =>
              cases b1 with
              | false =>
                have HG2 : Hid ((ts.take (j + 1)).any PP = false) := by rw [Hid, HAT.out]; rfl
                clear HAT
                go_wp2_with fail
                refine wp_region_ext (by kernel_rfl) (by kernel_rfl) ?_
                repeat (go_big_quiet_step ((first | (go_at_call 23; first | exact Calls.ext (HA1.out _) | exact Calls.ext (HA2.out _)))))
                refine wpQuiet_nil ?_
                intro _ hw'
                obtain ⟨X9, hw''⟩ := hw'
                subst hw''
                go_wp2_with fail
                go_roundw
                case rel => exact ⟨j + 1, false, by go_num, rfl, by omega, HG2.out, HBJ.out.trans (X9.2.mono HBJ.out.size)⟩
                case measure => simp [intOf]; omega
              | true =>
                cases b2 with
                | false =>
                  have HG2 : Hid ((ts.take (j + 1)).any PP = false) := by rw [Hid, HAT.out]; rfl
                  clear HAT
                  go_wp2_with fail
                  refine wp_region_ext (by kernel_rfl) (by kernel_rfl) ?_
                  repeat (go_big_quiet_step ((first | (go_at_call 23; first | exact Calls.ext (HA1.out _) | exact Calls.ext (HA2.out _)))))
                  refine wpQuiet_nil ?_
                  intro _ hw'
                  obtain ⟨X9, hw''⟩ := hw'
                  subst hw''
                  go_wp2_with fail
                  go_roundw
                  case rel => exact ⟨j + 1, false, by go_num, rfl, by omega, HG2.out, HBJ.out.trans (X9.2.mono HBJ.out.size)⟩
                  case measure => simp [intOf]; omega
                | true =>
                  have HG2 : Hid ((ts.take (j + 1)).any PP = true) := by rw [Hid, HAT.out]; rfl
                  clear HAT
                  go_wp2_with fail
                  refine wp_region_ext (by kernel_rfl) (by kernel_rfl) ?_
                  repeat (go_big_quiet_step ((first | (go_at_call 23; first | exact Calls.ext (HA1.out _) | exact Calls.ext (HA2.out _)))))
                  refine wpQuiet_nil ?_
                  intro _ hw'
                  obtain ⟨X9, hw''⟩ := hw'
                  subst hw''
                  go_wp2_with fail
                  go_roundw
                  case rel => exact ⟨j + 1, true, by go_num, rfl, by omega, HG2.out, HBJ.out.trans (X9.2.mono HBJ.out.size)⟩
                  case measure => simp [intOf]; omega
        · obtain rfl : j = n := by omega
          have hgd := HG.out
          rw [List.take_of_length_le (by rw [HL.out]; exact Nat.le_refl _)] at hgd
          rw [hgd] at HGS
          have HB7 := Lib.hid (HB.out.trans (HBJ.out.mono HB.out.size))
          clear hgd HG
          cases gd with
          | true =>
            go_wp2_with fail
            go_roundw
            case rel => exact ⟨i + 1, m + 1, by go_num, by go_num, by omega, by omega, HGS.out, HB7.out⟩
            case measure => simp [intOf]; omega
          | false =>
            go_wp2_with fail
            go_roundw
            case rel => exact ⟨i + 1, m, by go_num, rfl, by omega, by omega, HGS.out, HB7.out⟩
            case measure => simp [intOf]; omega
    · obtain rfl : i = N3 := by omega
      have hgn := HGN.out
      rw [List.take_of_length_le (by rw [HPL.out]; exact Nat.le_refl _)] at hgn
      rw [hgn] at HN
      have HR3 := Lib.hid (own_below HR1.out HB.out)
      clear hgn HGN HR1
      go_wp2_with fail
      refine HK9.out _ _ ?_
      exact HN.out wr _ _ _ _ _ _ _ _ _ _ _ _ _ _ _ _ _ _ _ _ _ _ _ _ _ _ _ _ _ _ _ _ _ _ _ _ _ _ _ _ _ _ _ _ _ _ _ _ _ _ _ _ _ _ _ _ _ _ _ _ _ _ _ _ _ _ _ _ _ _ _ _ _ _ _ _ _ _ _ _ _ _ _ _ _ _ _ _ _ _ _ _ _ _ _ _ _ _ _ _ _ _ _ _ _ _ _ _ _ _ HR3.out HBB.out
end Go.Proofs.Ytkodnagneblgaaa
