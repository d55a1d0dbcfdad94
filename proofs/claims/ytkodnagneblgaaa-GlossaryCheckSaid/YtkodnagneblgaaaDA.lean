/- Walks: the places of terms in a text, by the reference. -/
import Derived.Test.YtkodnagneblgaaaD9
namespace Go.Proofs.Ytkodnagneblgaaa
open Go.RowKit Go.Maps Go.Sort
attribute [local go_sem] Ext.cell Ext.frozen
attribute [local go_sem ↓] Go.wp_at_zero Go.wp_at_succ
theorem WordsAt.push {w w1 : World} {base : Nat} {v v' sv : Value} {svs : List Value} {lists : List (List ByteArray)} {i : Nat} (h : WordsAt w base v svs (lists.take i)) (hi : i < lists.length) (hsv : StrR w base sv (lists.getD i [])) (hg : w.grownBy w1 v.ownBlock)
    (hown : w1.ownsRow base 39 1 v' (svs.length + 1) (svs ++ [sv])) : WordsAt w1 base v' (svs ++ [sv]) (lists.take (i + 1)) := by
  have hl := h.len
  rw [List.length_take, Nat.min_eq_left (by omega)] at hl
  have htl : (lists.take (i + 1)).length = i + 1 := by rw [List.length_take, Nat.min_eq_left (by omega)]
  refine ⟨by rw [List.length_append]; exact hown, by rw [htl, List.length_append, hl]; rfl, fun j hj => ?_⟩
  rw [htl] at hj
  rw [getD_take _ _ _ _ hj]
  by_cases hji : j < i
  · rw [getD_snoc_lt _ _ _ _ (by omega)]
    have := h.each j (by rw [List.length_take, Nat.min_eq_left (by omega)]; exact hji)
    rw [getD_take _ _ _ _ hji] at this
    exact own_other this h.row (by decide) hg
  · obtain rfl : j = i := by omega
    rw [getD_snoc_eq _ _ _ _ (by omega)]
    exact own_other hsv h.row (by decide) hg
theorem bestTo_no {lists : List (List ByteArray)} {ws : List ByteArray} {k : Nat} (h : mtB lists ws k = false) : bestTo lists ws (k + 1) = bestTo lists ws k := by
  rw [bestTo]
  cases bestTo lists ws k with
  | none => simp [h]
  | some b => simp [h]
theorem bestTo_first {lists : List (List ByteArray)} {ws : List ByteArray} {k : Nat} (h : mtB lists ws k = true) (hb : bestTo lists ws k = none) : bestTo lists ws (k + 1) = some k := by
  rw [bestTo, hb]; simp [h]
theorem bestTo_more {lists : List (List ByteArray)} {ws : List ByteArray} {k b : Nat} (h : mtB lists ws k = true) (hb : bestTo lists ws k = some b) (hl : lnW lists b < lnW lists k) : bestTo lists ws (k + 1) = some k := by
  rw [bestTo, hb]; simp [h, hl]
theorem bestTo_less {lists : List (List ByteArray)} {ws : List ByteArray} {k b : Nat} (hb : bestTo lists ws k = some b) (hl : ¬ lnW lists b < lnW lists k) : bestTo lists ws (k + 1) = some b := by
  rw [bestTo, hb]; simp [hl]
theorem bestTo_lt {lists : List (List ByteArray)} {ws : List ByteArray} {k b : Nat} (hb : bestTo lists ws k = some b) : b < k ∧ b < lists.length := by
  rcases bestTo_spec lists ws k with ⟨e, _⟩ | ⟨b', e, h⟩
  · rw [e] at hb; cases hb
  · rw [e] at hb
    injection hb with hb
    subst hb
    exact ⟨h.1, mtB_lt h.2.1⟩
theorem mt_zero {lists : List (List ByteArray)} {ws : List ByteArray} {i : Nat} (h : lnW lists i = 0) : mtB lists ws i = false := by
  unfold mtB
  refine decide_eq_false (fun e => e.1 ?_)
  exact List.eq_nil_of_length_eq_zero h
theorem same_mt {lists : List (List ByteArray)} {ws : List ByteArray} {i : Nat} (h : 0 < lnW lists i) : sameB (ws.take (lnW lists i)) (lists.getD i []) = mtB lists ws i := by
  unfold sameB mtB
  have hne : lists.getD i [] ≠ [] := List.length_pos_iff.1 h
  by_cases e : lists.getD i [] = ws.take (lnW lists i)
  · rw [decide_eq_true e.symm, decide_eq_true ⟨hne, e⟩]
  · rw [decide_eq_false (fun h' => e h'.symm), decide_eq_false (fun h' => e h'.2)]
theorem sub_sl {w : World} {g n k m : Nat} {ws : List ByteArray} (hc : ∀ j, j < n → w.cell? ⟨g, j, none⟩ = some (.string (ws.getD j .empty))) (hn : ws.length = n) (hk : k + m ≤ n) (h9 : n ≤ 9223372036854775807) : Sl w (some ⟨g, k, none⟩) m (strs ((ws.drop k).take m)) :=
  ⟨g, k, by rw [strs_length, List.length_take, List.length_drop]; omega, by omega, fun _ => rfl, fun j hj => by
    have e : ((ws.drop k).take m).getD j .empty = ws.getD (k + j) .empty := by simp [List.getD_eq_getElem?_getD, List.getElem?_take_of_lt hj, List.getElem?_drop]
    rw [hc (k + j) (by omega), strs_getD _ _ (by rw [List.length_take, List.length_drop]; omega), e]⟩
noncomputable def rfindC (n : Nat) : Code := fromReg n ((Try.f28.body).getD .skip)
set_option maxRecDepth 100000 in
set_option maxHeartbeats 8000000 in
/-- the second loop -/
theorem rfind_loop (lists : List (List ByteArray)) (hlen : lists.length ≤ 1000) (ad0 : Option Addr) (n0 c0 : Nat) (s : ByteArray) (w W2 : World) (base : Nat) (av : Option Addr) (cv : Nat) (svs : List Value) (g N cw : Nat) (ws : List ByteArray) (u7 u8 u9 u10 u11 u12 u13 u14 u15 u16 u17 u18 u19 u20 u21 u22 u23 u24 u25 u26 u27 u28 u29 u30 u31 u32 u33 u34 u35 u36 u37 u38 u39 u40 u41 u42 u43 u44 u45 u46 u47 u48 u49 u50 u51 u52 u53 u54 u55 u56 u57 u58 u59 u60 u61 u62 u63 u64 u65 u66 u67 u68 u69 u70 u71 u72 u73 u74 u75 u76 u77 u78 u79 u80 u81 u82 u83 u84 u85 u86 u87 u88 u89 u90 u91 u92 u93 u94 u95 u96 u97 u98 : Value) (hB : Below w.heap.size w W2)
    (hW : WordsAt W2 base (.slice av svs.length cv) svs lists) (hL : ∀ i, lnW lists i ≤ 1000000000) (hws : ws.length = N) (hN : N ≤ 1000001) (hcw : N ≤ cw) (hcm : cw ≤ 9223372036854775807) (hg : g < W2.heap.size) (hcell : ∀ j, j < N → W2.cell? ⟨g, j, none⟩ = some (.string (ws.getD j .empty))) :
    (rfindC 7).wp Try.prog (bodyPost Try.prog Try.f28 fun e w' => ∃ ad' c', e = .returned (.slice ad' (findL lists ws).length c') ∧ PrR w' w.heap.size (.slice ad' (findL lists ws).length c') (findL lists ws) ∧ Below w.heap.size w w')
      ⟨#[.slice ad0 n0 c0, .string s, undef, undef, .slice none 0 0, .slice (some ⟨g, 0, none⟩) N cw, .slice av svs.length cv, u7, u8, u9, u10, u11, u12, u13, u14, u15, u16, u17, u18, u19, u20, u21, u22, u23, u24, u25, u26, u27, u28, u29, u30, u31, u32, u33, u34, u35, u36, u37, u38, u39, u40, u41, u42, u43, u44, u45, u46, u47, u48, u49, u50, u51, u52, u53, u54, u55, u56, u57, u58, u59, u60, u61, u62, u63, u64, u65, u66, u67, u68, u69, u70, u71, u72, u73, u74, u75, u76, u77, u78, u79, u80, u81, u82, u83, u84, u85, u86, u87, u88, u89, u90, u91, u92, u93, u94, u95, u96, u97, u98], []⟩ W2 := by
  dsimp only
  conv => arg 2; whnf
  obtain ⟨fl, hfl⟩ : ∃ fl, findL lists ws = fl := ⟨_, rfl⟩
  rw [hfl]
  have HFU : Hid (findV lists ws N 0 = fl) := by rw [Hid, ← hfl]; unfold findL; rw [hws]
  have HB0 := Lib.hid hB
  have HW := Lib.hid hW
  have HLN := Lib.hid hL
  have HN := Lib.hid hws
  have HCW := Lib.hid hcell
  have HSV := Lib.hid hW.len
  have HLE := Lib.hid hlen
  have HSM0 : Hid (∀ ad n c ps ad' n' c' qs w, Sl w ad n (strs ps) → Sl w ad' n' (strs qs) → _) := rsame_any
  clear hfl hB hW hL hws hcell hlen
  go_wp2_with fail
  go_loopw [8, 9] (fun o u wr => ∃ (k f : Nat) (done : List (Nat × Nat)) (ad' : Option Addr) (c' : Nat), u = .int .i64 (k : Int) ∧ o = .slice ad' done.length c' ∧ k ≤ N ∧ done.length ≤ k ∧ N - k ≤ f ∧ done ++ findV lists ws f k = fl ∧ PrR wr W2.heap.size (.slice ad' done.length c') done ∧ Below W2.heap.size W2 wr) (fun _ u _ => N - (intOf u).toNat)
  case atStart => exact ⟨0, N, [], none, 0, rfl, rfl, Nat.zero_le _, Nat.le_refl _, by omega, HFU.out, World.ownsRow_nil _ _ _ _, Below.refl _ _⟩
  case round =>
    obtain ⟨k, f, done, ad', c', rfl, rfl, hkN, hdk, hf, hfl, hpr, hbl⟩ := hrel
    have HFV := Lib.hid hfl
    have HPR0 := Lib.hid hpr
    have HB1 := Lib.hid hbl
    clear hfl hpr hbl HFU
    by_cases hlt : k < N
    · obtain ⟨f, rfl⟩ : ∃ q, f = q + 1 := ⟨f - 1, by omega⟩
      have hlz : (k : Int) < (N : Int) := by omega
      have hNk : (k : Int) ≤ (N : Int) := by omega
      go_wp2_with fail
      obtain ⟨wo, rfl⟩ : ∃ wo : World, wo = wr := ⟨_, rfl⟩
      go_loopw [10, 11] (fun bo u wr => ∃ (i : Nat) (b : Option Nat), u = .int .i64 (i : Int) ∧ bo = .int .i64 (atI b) ∧ i ≤ svs.length ∧ bestTo lists (ws.drop k) i = b ∧ PrR wr W2.heap.size (.slice ad' done.length c') done ∧ Below W2.heap.size W2 wr) (fun _ u _ => svs.length - (intOf u).toNat)
      case atStart => exact ⟨0, none, rfl, rfl, Nat.zero_le _, rfl, HPR0.out, HB1.out⟩
      case round =>
        obtain ⟨i, b, rfl, rfl, hi, hbt, hpr, hbl⟩ := hrel
        have HBT := Lib.hid hbt
        have HPR := Lib.hid hpr
        have HB := Lib.hid hbl
        have hzr := hbl.size
        clear hbt hpr hbl HPR0 HB1
        have hsm : svs.length ≤ 1000 := by rw [HSV.out]; exact HLE.out
        by_cases hil : i < svs.length
        · have hil2 : i < lists.length := by rw [← HSV.out]; exact hil
          have HWr := HW.out.below HB.out
          obtain ⟨b4, o4, hsa4⟩ := Own.sl HWr.row
          have hix4 := fun W => hsa4.ix (c := cv) 74 39 Try.underlying74 cellsStrs hil W
          have hc4 := hsa4.cell i hil
          obtain ⟨a6, c6, e6⟩ := (HWr.each i hil2).form
          have hrow6 := HWr.each i hil2
          rw [e6] at hc4 hrow6
          have hlne : (lists.getD i []).length = lnW lists i := rfl
          unfold StrR at hrow6
          rw [hlne] at hc4 hrow6
          have hblk4 := hsa4.block (by omega)
          have hgr : g < wr.heap.size := by omega
          have HSL6 : Hid (Sl wr a6 (lnW lists i) (strs (lists.getD i []))) := Own.sl hrow6
          have HC9 : Hid (∀ j, j < N → wr.cell? ⟨g, j, none⟩ = some (.string (ws.getD j .empty))) := fun j hj => (HB.out.cell (p := ⟨g, j, none⟩) hg).trans (HCW.out j hj)
          have HMT : Hid (k + lnW lists i ≤ N → 0 < lnW lists i → ∀ x : Ext wr, Calls Try.prog 19 #[.slice (some ⟨g, k, none⟩) (lnW lists i) (cw - k), .slice a6 (lnW lists i) c6] x.1 fun e w' => e = .returned (.bool (mtB lists (ws.drop k) i)) ∧ Below x.1.heap.size x.1 w') := fun h1 h2 x => by
            have := HSM0.out (some ⟨g, k, none⟩) (lnW lists i) (cw - k) ((ws.drop k).take (lnW lists i)) a6 (lnW lists i) c6 (lists.getD i []) x.1 ((sub_sl HC9.out HN.out h1 (by omega)).below x.2) (HSL6.out.below x.2)
            rw [same_mt h2] at this
            exact this
          have HM0 : Hid (lnW lists i = 0 → mtB lists (ws.drop k) i = false) := mt_zero
          have HML : Hid (N < k + lnW lists i → mtB lists (ws.drop k) i = false) := fun h => mt_long (by rw [List.length_drop, HN.out]; omega)
          have HB_no : Hid (mtB lists (ws.drop k) i = false → bestTo lists (ws.drop k) (i + 1) = b) := fun h => (bestTo_no h).trans HBT.out
          have HB_first : Hid (mtB lists (ws.drop k) i = true → b = none → bestTo lists (ws.drop k) (i + 1) = some i) := fun h h2 => bestTo_first h (HBT.out.trans h2)
          have HB_more : Hid (mtB lists (ws.drop k) i = true → ∀ c, b = some c → lnW lists c < lnW lists i → bestTo lists (ws.drop k) (i + 1) = some i) := fun h c h2 h3 => bestTo_more h (HBT.out.trans h2) h3
          have HB_less : Hid (∀ c, b = some c → ¬ lnW lists c < lnW lists i → bestTo lists (ws.drop k) (i + 1) = b) := fun c h2 h3 => by rw [h2]; exact bestTo_less (HBT.out.trans h2) h3
          have HBS : Hid (∀ c, b = some c → c < svs.length ∧ ∃ a7 c7, wr.cell? ⟨b4, o4 + c, none⟩ = some (.slice a7 (lnW lists c) c7) ∧ ∀ W, (Instr.indexAt 74 (.slice av svs.length cv) (.int .i64 (c : Int))).run Try.prog W = .ok (.pointer (some ⟨b4, o4 + c, none⟩)) W) := fun c hc => by
            have h1 := bestTo_lt (HBT.out.trans hc)
            have h2 : c < svs.length := by omega
            obtain ⟨a7, c7, e7⟩ := (HWr.each c h1.2).form
            have h3 := hsa4.cell c h2
            rw [e7] at h3
            exact ⟨h2, a7, c7, h3, fun W => hsa4.ix (c := cv) 74 39 Try.underlying74 cellsStrs h2 W⟩
          have hlb := HLN.out i
          have hiz : (i : Int) < (svs.length : Int) := by omega
          clear hsa4 e6 hlne hrow6 HWr HSL6 HC9 HBT
          generalize mtB lists (ws.drop k) i = mt at *
          generalize hln : lnW lists i = ln at *
          have HLI := Lib.hid hln
          clear hln
          by_cases h0 : ln = 0
          · subst h0
            have HNX := Lib.hid (HB_no.out (HM0.out rfl))
            clear HMT HM0 HML HB_no HB_first HB_more HB_less HBS
            have HSM : Hid True := trivial
            go_wp2_with fail
            refine wp_region_ext (by kernel_rfl) (by kernel_rfl) ?_
            repeat (go_big_quiet_step (fail))
            refine wpQuiet_nil ?_
            intro _ hw'
            obtain ⟨X9, hw''⟩ := hw'
            subst hw''
            have HBX : Hid (Below W2.heap.size W2 X9.1) := HB.out.trans (X9.2.mono hzr)
            have HPX : Hid (PrR X9.1 W2.heap.size (.slice ad' done.length c') done) := HPR.out.below X9.2
            go_wp2_with fail
            go_roundw
            case rel => exact ⟨i + 1, b, by go_num, by first | rfl | go_num, by omega, HNX.out, HPX.out, HBX.out⟩
            case measure => simp [intOf]; omega
          have h1 : 0 < ln := by omega
          have h1z : (0 : Int) < (ln : Int) := by omega
          have d1 : decide ((0 : Int) < (ln : Int)) = true := decide_eq_true h1z
          by_cases h2 : k + ln ≤ N
          · have h2z : (k : Int) + (ln : Int) ≤ (N : Int) := by omega
            have d2 : decide ((k : Int) + (ln : Int) ≤ (N : Int)) = true := decide_eq_true h2z
            have HSM := Lib.hid (HMT.out h2 h1)
            have ekl : k + ln - k = ln := by omega
            clear HMT HM0 HML
            cases mt with
            | false =>
              have HNX := Lib.hid (HB_no.out rfl)
              clear HB_no HB_first HB_more HB_less HBS
              go_wp2_with fail
              refine wp_region_ext (by kernel_rfl) (by kernel_rfl) ?_
              repeat (go_big_quiet_step (first | (go_at_call 19; exact Calls.ext (HSM.out _))))
              refine wpQuiet_nil ?_
              intro _ hw'
              obtain ⟨X9, hw''⟩ := hw'
              subst hw''
              have HBX : Hid (Below W2.heap.size W2 X9.1) := HB.out.trans (X9.2.mono hzr)
              have HPX : Hid (PrR X9.1 W2.heap.size (.slice ad' done.length c') done) := HPR.out.below X9.2
              go_wp2_with fail
              go_roundw
              case rel => exact ⟨i + 1, b, by go_num, by first | rfl | go_num, by omega, HNX.out, HPX.out, HBX.out⟩
              case measure => simp [intOf]; omega
            | true =>
              cases b with
              | none =>
                have HNX := Lib.hid (HB_first.out rfl rfl)
                have d3 : decide (atI none < 0) = true := rfl
                have e3 : atI none = (-1 : Int) := rfl
                clear HB_no HB_first HB_more HB_less HBS
                rw [e3]
                go_wp2_with fail
                refine wp_region_ext (by kernel_rfl) (by kernel_rfl) ?_
                repeat (go_big_quiet_step (first | (go_at_call 19; exact Calls.ext (HSM.out _))))
                refine wpQuiet_nil ?_
                intro _ hw'
                obtain ⟨X9, hw''⟩ := hw'
                subst hw''
                have HBX : Hid (Below W2.heap.size W2 X9.1) := HB.out.trans (X9.2.mono hzr)
                have HPX : Hid (PrR X9.1 W2.heap.size (.slice ad' done.length c') done) := HPR.out.below X9.2
                go_wp2_with fail
                go_roundw
                case rel => exact ⟨i + 1, some i, by go_num, by first | rfl | go_num, by omega, HNX.out, HPX.out, HBX.out⟩
                case measure => simp [intOf]; omega
              | some c =>
                obtain ⟨hcs, a7, c7, hc7, hix7⟩ := HBS.out c rfl
                have hlc := HLN.out c
                have e3 : atI (some c) = (c : Int) := rfl
                have d3 : decide ((c : Int) < 0) = false := decide_eq_false (by omega)
                rw [e3]
                by_cases h4 : lnW lists c < ln
                · have HNX := Lib.hid (HB_more.out rfl c rfl h4)
                  clear HB_no HB_first HB_more HB_less HBS
                  generalize lnW lists c = lc at *
                  have d4 : decide ((lc : Int) < (ln : Int)) = true := decide_eq_true (by omega)
                  have h4z : (lc : Int) < (ln : Int) := by omega
                  go_wp2_with fail
                  refine wp_region_ext (by kernel_rfl) (by kernel_rfl) ?_
                  repeat (go_big_quiet_step (first | (go_at_call 19; exact Calls.ext (HSM.out _))))
                  refine wpQuiet_nil ?_
                  intro _ hw'
                  obtain ⟨X9, hw''⟩ := hw'
                  subst hw''
                  have HBX : Hid (Below W2.heap.size W2 X9.1) := HB.out.trans (X9.2.mono hzr)
                  have HPX : Hid (PrR X9.1 W2.heap.size (.slice ad' done.length c') done) := HPR.out.below X9.2
                  go_wp2_with fail
                  go_roundw
                  case rel => exact ⟨i + 1, some i, by go_num, by first | rfl | go_num, by omega, HNX.out, HPX.out, HBX.out⟩
                  case measure => simp [intOf]; omega
                · have HNX := Lib.hid (HB_less.out c rfl h4)
                  clear HB_no HB_first HB_more HB_less HBS
                  generalize lnW lists c = lc at *
                  have d4 : decide ((lc : Int) < (ln : Int)) = false := decide_eq_false (by omega)
                  have h4z : ¬ (lc : Int) < (ln : Int) := by omega
                  go_wp2_with fail
                  refine wp_region_ext (by kernel_rfl) (by kernel_rfl) ?_
                  repeat (go_big_quiet_step (first | (go_at_call 19; exact Calls.ext (HSM.out _))))
                  refine wpQuiet_nil ?_
                  intro _ hw'
                  obtain ⟨X9, hw''⟩ := hw'
                  subst hw''
                  have HBX : Hid (Below W2.heap.size W2 X9.1) := HB.out.trans (X9.2.mono hzr)
                  have HPX : Hid (PrR X9.1 W2.heap.size (.slice ad' done.length c') done) := HPR.out.below X9.2
                  go_wp2_with fail
                  go_roundw
                  case rel => exact ⟨i + 1, some c, by go_num, by first | rfl | go_num, by omega, HNX.out, HPX.out, HBX.out⟩
                  case measure => simp [intOf]; omega
          · have h2z : ¬ (k : Int) + (ln : Int) ≤ (N : Int) := by omega
            have d2 : decide ((k : Int) + (ln : Int) ≤ (N : Int)) = false := decide_eq_false h2z
            have HNX := Lib.hid (HB_no.out (HML.out (by omega)))
            clear HMT HM0 HML HB_no HB_first HB_more HB_less HBS
            have HSM : Hid True := trivial
            go_wp2_with fail
            refine wp_region_ext (by kernel_rfl) (by kernel_rfl) ?_
            repeat (go_big_quiet_step (fail))
            refine wpQuiet_nil ?_
            intro _ hw'
            obtain ⟨X9, hw''⟩ := hw'
            subst hw''
            have HBX : Hid (Below W2.heap.size W2 X9.1) := HB.out.trans (X9.2.mono hzr)
            have HPX : Hid (PrR X9.1 W2.heap.size (.slice ad' done.length c') done) := HPR.out.below X9.2
            go_wp2_with fail
            go_roundw
            case rel => exact ⟨i + 1, b, by go_num, by first | rfl | go_num, by omega, HNX.out, HPX.out, HBX.out⟩
            case measure => simp [intOf]; omega
        · obtain rfl : i = svs.length := by omega
          have HBV : Hid (bestV lists (ws.drop k) = b) := by
            rw [Hid, ← HBT.out]; unfold bestV; rw [HSV.out]
          have HWr := HW.out.below HB.out
          have hz9 : W2.heap.size ≤ wr.heap.size := hzr
          cases b with
          | none =>
            have HFN : Hid (done ++ findV lists ws f (k + 1) = fl) := by rw [Hid, ← findV_none (by rw [HN.out]; exact hlt) HBV.out]; exact HFV.out
            rw [show atI none = (-1 : Int) from rfl]
            clear HWr
            go_wp2_with fail
            go_roundw
            case rel => exact ⟨k + 1, f, done, ad', c', by go_num, rfl, by omega, by omega, by omega, HFN.out, HPR.out, HB.out⟩
            case measure => simp [intOf]; omega
          | some i =>
            obtain ⟨hil, hlp, hlb, _⟩ := bestV_some HBV.out
            rw [List.length_drop, HN.out] at hlb
            have HFN : Hid ((done ++ [(i, k)]) ++ findV lists ws f (k + lnW lists i) = fl) := by
              rw [Hid, List.append_assoc, List.singleton_append, ← findV_some (by rw [HN.out]; exact hlt) HBV.out]
              exact HFV.out
            rw [show atI (some i) = (i : Int) from rfl]
            have hi0 : ¬ (i : Int) < 0 := by omega
            have hsl := HSV.out
            obtain ⟨b4, o4, hsa4⟩ := Own.sl HWr.row
            have hix4 := fun W => hsa4.ix (c := cv) 74 39 Try.underlying74 cellsStrs (show i < svs.length by omega) W
            have hc4 := hsa4.cell i (by omega)
            obtain ⟨a6, c6, e6⟩ := (HWr.each i hil).form
            rw [e6] at hc4
            have hlne : (lists.getD i []).length = lnW lists i := rfl
            rw [hlne] at hc4
            have HNB4 : Hid (some b4 ≠ Value.ownBlock (.slice ad' done.length c')) := by
              have h1 := own_apart HWr.row HPR.out (by decide)
              rw [hsa4.adr (by omega)] at h1
              rcases h1 with h | h
              · cases h
              · exact h
            clear hsa4 e6 hlne HBV hsl HWr
            generalize lnW lists i = ln at *
            go_upto_region 20 with (at_builtin; refine appPair rfl _ _ rfl W2.heap.size _ _ _ done rfl rfl HPR.out i k _ rfl (by unfold maxLen; omega) (by omega) hz9 ?_; intro ad7 c7 w7 hpr7 hb7 hg7; have HPR7 := Lib.hid hpr7; have HB7 := Lib.hid hb7; have z7 : w7.cell? ⟨b4, o4 + i, none⟩ = some (.slice a6 ln c6) := hg7.cell hc4 HNB4.out; clear hpr7 hb7 hg7)
            go_wp2_with fail
            go_roundw
            case rel => exact ⟨k + ln, f, done ++ [(i, k)], ad7, c7, by go_num, by rw [List.length_append]; rfl, by omega, by rw [List.length_append]; simp; omega, by omega, HFN.out, by rw [List.length_append]; exact HPR7.out, HB.out.trans HB7.out⟩
            case measure => simp [intOf]; omega
    · obtain rfl : k = N := by omega
      have HF0 : Hid (fl = done) := by rw [Hid, ← HFV.out, findV_end (by rw [HN.out]; exact Nat.le_refl _), List.append_nil]
      go_wp2_with fail
      go_ret
      rw [HF0.out]
      exact ⟨ad', c', rfl, own_rebase HPR0.out HB0.out.size, HB0.out.trans (HB1.out.mono HB0.out.size)⟩
end Go.Proofs.Ytkodnagneblgaaa
