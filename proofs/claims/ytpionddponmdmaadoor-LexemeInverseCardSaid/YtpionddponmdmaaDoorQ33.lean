/- LexemePlaces: the offsets increase strictly, and at each there is the first character of the token. -/
import Derived.Test.YtpionddponmdmaaDoorQ32
import Derived.Deep.QuietTactic
import Derived.Deep.DeepCutAuto
import Derived.BigQuiet
import Derived.Test.YtpionddponmdmaaDoorRows
import Derived.Lib.LaidU8T
import Derived.Shelf.Vars
namespace Go.Proofs.YtpionddponmdmaaDoor
open Go.RowKit
attribute [local go_sem] Ext.cell Ext.frozen
attribute [local go_sem ↓] Go.wp_at_zero Go.wp_at_succ
theorem upto_get (f : Nat → Nx) {M k : Nat} (h : k < M) (d : Nx) : (upto f M).getD k d = f k := by
  unfold upto
  simp [List.getD, h]
set_option pp.deepTerms true in
set_option pp.maxSteps 200000 in
set_option maxRecDepth 20000 in
set_option maxHeartbeats 8000000 in
theorem lexemePlaces_walk (s : ByteArray) (w : World) (hsm : s.size ≤ 9223372036854775807) (hM : MaxLen w) (hU : TabU w) : Calls Tryd.prog 4 #[.string s] w fun e w' => e = .returned (.bool true) ∧ Below w.heap.size w w' := by
  have HA := Lib.hid (fun w' (h : Below w.heap.size w w') => awake_any w' (hM.below h) (hU.below h))
  by_cases hs : s.size ≤ 2000
  rotate_left
  · have hsi : 2000 < (s.size : Int) := by omega
    clear hM hU
    go_enter Tryd.func4, Tryd.ntmps4
    go_wp2_with fail
    refine (HA.out _ (Below.refl _ _)).mono ?_
    rintro e w1 ⟨rfl, hb1⟩
    have HB1 := Lib.hid hb1
    clear hb1
    go_wp2_with fail
    refine (HA.out _ HB1.out).mono ?_
    rintro e w2 ⟨rfl, hb2⟩
    have HB2 : Hid (Below w.heap.size w w2) := HB1.out.trans (hb2.mono HB1.out.size)
    clear hb2
    go_wp2_with fail
    go_ret
    exact ⟨rfl, HB2.out⟩
  have hsi : ¬ 2000 < (s.size : Int) := by omega
  obtain ⟨l, hl⟩ : ∃ l, s.data.toList = l := ⟨_, rfl⟩
  obtain rfl : s = bs l := by rw [← hl]; rfl
  clear hl
  have hsz : (bs l).size = l.length := bs_size l
  have HSZ := Lib.hid hsz
  have HAT : Hid (∀ (i : Nat) (g : i < (bs l).size), (bs l)[i]'g = l.getD i 0) := fun i g => ba_at l g
  have hl2 : l.length ≤ 2000 := by omega
  have HTK := Lib.hid (fun w' (h : Below w.heap.size w w') => tokens_any l (by omega) w' (hM.below h) (hU.below h))
  have hsb : (bs l).size ≤ 2000 := hs
  clear hM hU hsz
  generalize bs l = S at *
  go_enter Tryd.func4, Tryd.ntmps4
  go_wp2_with fail
  refine (HA.out _ (Below.refl _ _)).mono ?_
  rintro e w1 ⟨rfl, hb1⟩
  have HB1 := Lib.hid hb1
  clear hb1
  go_wp2_with fail
  refine (HTK.out _ HB1.out).mono ?_
  rintro e w2 ⟨hb2, M, hrun, hMl, hor⟩
  have HB2 : Hid (Below w.heap.size w w2) := HB1.out.trans (hb2.mono HB1.out.size)
  clear hb2
  rcases hor with ⟨hok, ad, c, rfl, hown⟩ | ⟨h0, h6, rfl⟩
  rotate_left
  · have hlt := hrun.1 (M - 1) (by omega)
    have hfa := (next_from l (posV l (M - 1)) hlt).2 h6
    replace hfa : (itemV l (M - 1)).2.2.1 < l.length := hfa
    generalize (itemV l (M - 1)).2.2.1 = fa at *
    generalize (itemV l (M - 1)).2.2.2 = fe at *
    have h6i : ((fe : Int) == 0) = false := by simp only [beq_eq_false_iff_ne]; omega
    have hfi : (fa : Int) < (S.size : Int) := by have := HSZ.out; omega
    clear hrun hMl h0 h6 hlt
    go_wp2_with fail
    go_ret
    exact ⟨rfl, HB2.out⟩
  obtain ⟨b, off, htk⟩ : ∃ b off, TkAt w2 ad M (upto (itemV l) M) b off := by obtain ⟨b, h⟩ := own_tk hown (by omega); exact ⟨b, 0, h⟩
  have HTKA := Lib.hid htk
  have HRUN := Lib.hid hrun
  have HOK := Lib.hid hok
  have hMb : M ≤ 2001 := by omega
  clear hown htk hrun hok hMl
  go_wp2_with fail
  go_loopw [39] (fun i wr => ∃ k : Nat, k ≤ M ∧ i = .int .i64 (k : Int) ∧ Below w2.heap.size w2 wr) (fun i _ => M - (intOf i).toNat)
  case atStart => exact ⟨0, Nat.zero_le _, rfl, Below.refl _ _⟩
  case round =>
    obtain ⟨k, hk, rfl, hbl⟩ := hrel
    have HBL := Lib.hid hbl
    have HTR := Lib.hid (HTKA.out.below hbl)
    have hzr := hbl.size
    clear hbl
    by_cases hlt : k < M
    · have a0 := HTR.out.c0 k hlt
      have a1 := HTR.out.c1 k hlt
      have a2 := HTR.out.c2 k hlt
      rw [upto_get _ hlt] at a0 a1 a2
      have hix := fun W => HTR.out.ixT 23 34 Tryd.underlying23 cellsTk hlt c W
      have hpl := HRUN.out.1 k hlt
      obtain ⟨hpo, hfr⟩ := (next_from l (posV l k) hpl).1 (HOK.out k hlt)
      replace hpo : PlaceOk l (itemV l k) := hpo
      replace hfr : (itemV l k).1.2.2 = posV l k := hfr
      rw [hfr] at a2
      obtain ⟨hp1, hp2⟩ := hpo
      rw [hfr] at hp1 hp2
      have hps : posV l k < S.size := by rw [HSZ.out]; exact hpl
      have hat : ∀ g : posV l k < S.size, S[posV l k]'g = l.getD (posV l k) 0 := fun g => HAT.out _ g
      have hp0 : (0 : Int) ≤ (posV l k : Int) := by omega
      have hpn : ¬ (posV l k : Int) < 0 := by omega
      have hpi : (posV l k : Int) < (S.size : Int) := by omega
      have hpg : ¬ (S.size : Int) ≤ (posV l k : Int) := by omega
      have dpn : decide ((posV l k : Int) < 0) = false := decide_eq_false hpn
      have dpg : decide ((S.size : Int) ≤ (posV l k : Int)) = false := decide_eq_false hpg
      have HPV : Hid (∀ q, k = q + 1 → wr.cell? ⟨b, off + q * 3 + 2, none⟩ = some (.int .i64 (posV l q : Int)) ∧ posV l q < posV l k ∧ ∀ W, (Instr.indexAt 23 (.slice ad M c) (.int .i64 (q : Int))).run Tryd.prog W = .ok (.pointer (some ⟨b, off + q * 3, none⟩)) W) := fun q hq => by
        have hqM : q < M := by omega
        have := HTR.out.c2 q hqM
        have h2 := ((next_from l (posV l q) (HRUN.out.1 q hqM)).1 (HOK.out q hqM)).2
        replace h2 : (itemV l q).1.2.2 = posV l q := h2
        rw [upto_get _ hqM, h2] at this
        refine ⟨this, ?_, fun W => HTR.out.ixT 23 34 Tryd.underlying23 cellsTk hqM c W⟩
        rw [hq]
        exact pos_mono l q (HOK.out q hqM)
      have hblk := World.block_lt_of_cell? wr _ a0
      generalize posV l k = p at *
      generalize (itemV l k).1.1 = kd at *
      generalize hX : (itemV l k).1.2.1 = X at *
      clear hX hfr hpl hp1
      rcases hp2 with ⟨rfl, h34⟩ | ⟨hk2, hk4, r, hXr⟩
      · rw [h34] at hat
        by_cases hk0 : k = 0
        · have hki : ¬ 0 < (k : Int) := by omega
          have dki : decide (0 < (k : Int)) = false := decide_eq_false hki
          have hkN : ¬ 0 < k := by omega
          have dkN : decide (0 < k) = false := decide_eq_false hkN
          clear HPV hk0
          go_upto_region 9 with (fail)
          have HBA : Hid (Below w2.heap.size w2 (wr.alloc (.cells #[.int .i64 ((2 : Nat) : Int), .string (bs X), .int .i64 (p : Int)] 34))) := HBL.out.alloc hzr _
          have y0 : (wr.alloc (.cells #[.int .i64 ((2 : Nat) : Int), .string (bs X), .int .i64 (p : Int)] 34)).cell? ⟨wr.heap.size, 0, none⟩ = some (.int .i64 ((2 : Nat) : Int)) := row_cells (row_new _ _ _) 0
          have y1 : (wr.alloc (.cells #[.int .i64 ((2 : Nat) : Int), .string (bs X), .int .i64 (p : Int)] 34)).cell? ⟨wr.heap.size, 1, none⟩ = some (.string (bs X)) := row_cells (row_new _ _ _) 1
          have y2 : (wr.alloc (.cells #[.int .i64 ((2 : Nat) : Int), .string (bs X), .int .i64 (p : Int)] 34)).cell? ⟨wr.heap.size, 2, none⟩ = some (.int .i64 (p : Int)) := row_cells (row_new _ _ _) 2
          go_quiet (fail)
          all_goals
            go_upto_region 11 with (fail)
            go_quiet (fail)
            all_goals
              go_wp2_with fail
              go_roundw
              case rel => exact ⟨k + 1, hlt, by go_num, (show Bel w2 _ from Bel.drewN HBA.out _)⟩
              case measure => simp [intOf]; omega
        · obtain ⟨q, hq⟩ : ∃ q, k = q + 1 := ⟨k - 1, by omega⟩
          obtain ⟨v1, v2, hixq⟩ := HPV.out q hq
          have hki : 0 < (k : Int) := by omega
          have dki : decide (0 < (k : Int)) = true := decide_eq_true hki
          have hkN : 0 < k := by omega
          have dkN : decide (0 < k) = true := decide_eq_true hkN
          have hks : IntKind.i64.wrap ((k : Int) - 1) = (q : Int) := by rw [IntKind.wrap_i64] <;> omega
          have hkq : (k : Int) - 1 = (q : Int) := by omega
          generalize posV l q = pq at *
          have hpq : ¬ (p : Int) ≤ (pq : Int) := by omega
          have dpq : decide ((p : Int) ≤ (pq : Int)) = false := decide_eq_false hpq
          clear HPV hk0 hq
          go_upto_region 9 with (fail)
          have HBA : Hid (Below w2.heap.size w2 (wr.alloc (.cells #[.int .i64 ((2 : Nat) : Int), .string (bs X), .int .i64 (p : Int)] 34))) := HBL.out.alloc hzr _
          have y0 : (wr.alloc (.cells #[.int .i64 ((2 : Nat) : Int), .string (bs X), .int .i64 (p : Int)] 34)).cell? ⟨wr.heap.size, 0, none⟩ = some (.int .i64 ((2 : Nat) : Int)) := row_cells (row_new _ _ _) 0
          have y1 : (wr.alloc (.cells #[.int .i64 ((2 : Nat) : Int), .string (bs X), .int .i64 (p : Int)] 34)).cell? ⟨wr.heap.size, 1, none⟩ = some (.string (bs X)) := row_cells (row_new _ _ _) 1
          have y2 : (wr.alloc (.cells #[.int .i64 ((2 : Nat) : Int), .string (bs X), .int .i64 (p : Int)] 34)).cell? ⟨wr.heap.size, 2, none⟩ = some (.int .i64 (p : Int)) := row_cells (row_new _ _ _) 2
          have y3 : (wr.alloc (.cells #[.int .i64 ((2 : Nat) : Int), .string (bs X), .int .i64 (p : Int)] 34)).cell? ⟨b, off + q * 3 + 2, none⟩ = some (.int .i64 (pq : Int)) := (World.cell?_of_block (a := (⟨b, off + q * 3 + 2, none⟩ : Addr)) (Below.heap_alloc _ _ _ (show b < wr.heap.size from hblk))).trans v1
          go_quiet (fail)
          all_goals
            go_upto_region 11 with (fail)
            go_quiet (fail)
            all_goals
              go_wp2_with fail
              go_roundw
              case rel => exact ⟨k + 1, hlt, by go_num, (show Bel w2 _ from Bel.drewN HBA.out _)⟩
              case measure => simp [intOf]; omega
      · have hkd : ((kd : Int) == 2) = false := by simp only [beq_eq_false_iff_ne]; omega
        have hkdb : ((kd : Int) != 2) = true := by simp only [bne_iff_ne, ne_eq]; omega
        have hkdn : ¬ (kd : Int) = 2 := by omega
        have hkdm : (kd == 2) = false := by simp only [beq_eq_false_iff_ne]; omega
        have hkdk : ¬ kd = 2 := by omega
        subst hXr
        generalize l.getD p 0 = ch at *
        have hX0 : 0 < (bs (ch :: r)).size := by rw [bs_size]; simp
        have hX1 : (((bs (ch :: r)).size : Int) == 0) = false := by simp only [beq_eq_false_iff_ne]; omega
        have hXat : ∀ g : 0 < (bs (ch :: r)).size, (bs (ch :: r))[0]'g = ch := fun _ => rfl
        generalize bs (ch :: r) = X at *
        by_cases hk0 : k = 0
        · have hki : ¬ 0 < (k : Int) := by omega
          have dki : decide (0 < (k : Int)) = false := decide_eq_false hki
          have hkN : ¬ 0 < k := by omega
          have dkN : decide (0 < k) = false := decide_eq_false hkN
          clear HPV hk0
          go_upto_region 9 with (fail)
          have HBA : Hid (Below w2.heap.size w2 (wr.alloc (.cells #[.int .i64 (kd : Int), .string X, .int .i64 (p : Int)] 34))) := HBL.out.alloc hzr _
          have y0 : (wr.alloc (.cells #[.int .i64 (kd : Int), .string X, .int .i64 (p : Int)] 34)).cell? ⟨wr.heap.size, 0, none⟩ = some (.int .i64 (kd : Int)) := row_cells (row_new _ _ _) 0
          have y1 : (wr.alloc (.cells #[.int .i64 (kd : Int), .string X, .int .i64 (p : Int)] 34)).cell? ⟨wr.heap.size, 1, none⟩ = some (.string X) := row_cells (row_new _ _ _) 1
          have y2 : (wr.alloc (.cells #[.int .i64 (kd : Int), .string X, .int .i64 (p : Int)] 34)).cell? ⟨wr.heap.size, 2, none⟩ = some (.int .i64 (p : Int)) := row_cells (row_new _ _ _) 2
          go_quiet (fail)
          all_goals
            go_upto_region 11 with (fail)
            go_quiet (fail)
            all_goals
              go_wp2_with fail
              go_roundw
              case rel => exact ⟨k + 1, hlt, by go_num, (show Bel w2 _ from Bel.drewN HBA.out _)⟩
              case measure => simp [intOf]; omega
        · obtain ⟨q, hq⟩ : ∃ q, k = q + 1 := ⟨k - 1, by omega⟩
          obtain ⟨v1, v2, hixq⟩ := HPV.out q hq
          have hki : 0 < (k : Int) := by omega
          have dki : decide (0 < (k : Int)) = true := decide_eq_true hki
          have hkN : 0 < k := by omega
          have dkN : decide (0 < k) = true := decide_eq_true hkN
          have hks : IntKind.i64.wrap ((k : Int) - 1) = (q : Int) := by rw [IntKind.wrap_i64] <;> omega
          have hkq : (k : Int) - 1 = (q : Int) := by omega
          generalize posV l q = pq at *
          have hpq : ¬ (p : Int) ≤ (pq : Int) := by omega
          have dpq : decide ((p : Int) ≤ (pq : Int)) = false := decide_eq_false hpq
          clear HPV hk0 hq
          go_upto_region 9 with (fail)
          have HBA : Hid (Below w2.heap.size w2 (wr.alloc (.cells #[.int .i64 (kd : Int), .string X, .int .i64 (p : Int)] 34))) := HBL.out.alloc hzr _
          have y0 : (wr.alloc (.cells #[.int .i64 (kd : Int), .string X, .int .i64 (p : Int)] 34)).cell? ⟨wr.heap.size, 0, none⟩ = some (.int .i64 (kd : Int)) := row_cells (row_new _ _ _) 0
          have y1 : (wr.alloc (.cells #[.int .i64 (kd : Int), .string X, .int .i64 (p : Int)] 34)).cell? ⟨wr.heap.size, 1, none⟩ = some (.string X) := row_cells (row_new _ _ _) 1
          have y2 : (wr.alloc (.cells #[.int .i64 (kd : Int), .string X, .int .i64 (p : Int)] 34)).cell? ⟨wr.heap.size, 2, none⟩ = some (.int .i64 (p : Int)) := row_cells (row_new _ _ _) 2
          have y3 : (wr.alloc (.cells #[.int .i64 (kd : Int), .string X, .int .i64 (p : Int)] 34)).cell? ⟨b, off + q * 3 + 2, none⟩ = some (.int .i64 (pq : Int)) := (World.cell?_of_block (a := (⟨b, off + q * 3 + 2, none⟩ : Addr)) (Below.heap_alloc _ _ _ (show b < wr.heap.size from hblk))).trans v1
          go_quiet (fail)
          all_goals
            go_upto_region 11 with (fail)
            go_quiet (fail)
            all_goals
              go_wp2_with fail
              go_roundw
              case rel => exact ⟨k + 1, hlt, by go_num, (show Bel w2 _ from Bel.drewN HBA.out _)⟩
              case measure => simp [intOf]; omega
    · obtain rfl : k = M := by omega
      go_wp2_with fail
      go_ret
      exact ⟨rfl, HB2.out.trans (HBL.out.mono HB2.out.size)⟩
end Go.Proofs.YtpionddponmdmaaDoor
/- Plain: the laid variables of a row of layer 11: utf8's tables; bytealg.MaxLen holds a number. -/
namespace Go.Proofs.YtpionddponmdmaaDoor
open Go.RowKit Go.Lib
theorem first_data : (Rows.laid_unicode_utf8_first : DataW Unit) = firstData := by kernel_rfl
theorem accept_data : (Rows.laid_unicode_utf8_acceptRanges : DataW Unit) = acceptData := by kernel_rfl
theorem u8extra : U8Extra Tryd.prog Tryd.lays196_ren := ⟨by kernel_rfl, by kernel_rfl, by kernel_rfl, by kernel_rfl, by kernel_rfl, by kernel_rfl, by kernel_rfl⟩
theorem tabU_of {W : World} {rest : List (String × DataW Unit)} (hall : ((("unicode/utf8.acceptRanges", Rows.laid_unicode_utf8_acceptRanges) :: ("unicode/utf8.first", Rows.laid_unicode_utf8_first) :: rest).all fun x => x.2.handleName?.isNone) = true)
    (h : laidMetH Tryd.prog (("unicode/utf8.acceptRanges", Rows.laid_unicode_utf8_acceptRanges) :: ("unicode/utf8.first", Rows.laid_unicode_utf8_first) :: rest) W) : TabU W := by
  rw [MakeChecks.laidMetH_plain _ _ _ hall] at h
  have h2 := Lib.laidMet.reads h (List.mem_cons_self ..)
  have h1 := Lib.laidMet.reads h (List.mem_cons_of_mem _ (List.mem_cons_self ..))
  rw [first_data] at h1
  rw [accept_data] at h2
  exact utf8Tabs_of_readsT (U8Types.of196 Tryd.lays196) u8extra h1 h2
theorem maxLen_of11 {W : World} (h : W.ShapedOpen Tryd.prog) : MaxLen W :=
  cell_of_shapedOpen_int (g := 2) (t := 3) (k := .i64) (zero := #[.int .i64 0]) h (by decide +kernel) (by kernel_rfl) rfl (by kernel_rfl) (by kernel_rfl) Tryd.underlying3
end Go.Proofs.YtpionddponmdmaaDoor
