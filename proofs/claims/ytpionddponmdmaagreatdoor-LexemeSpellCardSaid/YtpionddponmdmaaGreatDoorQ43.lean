/- Walks: the reference's IsWord, IsText and Spell. -/
import Derived.Test.YtpionddponmdmaaGreatDoorQ38
import Derived.Test.YtpionddponmdmaaGreatDoorQ41
import Derived.Test.YtpionddponmdmaaGreatDoorQ42
import Derived.Test.YtpionddponmdmaaGreatDoorQ33
import Derived.Deep.DeepCutAuto
namespace Go.Proofs.YtpionddponmdmaaGreatDoor
open Go.RowKit
attribute [local go_sem] Ext.cell Ext.frozen
attribute [local go_sem ↓] Go.wp_at_zero Go.wp_at_succ
def lineX (xs : List Tz) : List UInt8 := Lib.join (xs.map wordZ) [32]
theorem join_snoc : ∀ (xs : List (List UInt8)) (x : List UInt8), Lib.join (xs ++ [x]) [32] = if xs = [] then x else Lib.join xs [32] ++ 32 :: x
  | [], x => by simp [Lib.join]
  | [a], x => by simp [Lib.join, List.intercalate]
  | a :: b :: r, x => by
    have ih := join_snoc (b :: r) x
    rw [if_neg (by simp)] at ih
    rw [if_neg (by simp)]
    have e1 : Lib.join (a :: b :: r ++ [x]) [32] = a ++ 32 :: Lib.join (b :: r ++ [x]) [32] := by simp [Lib.join, List.intercalate]
    have e2 : Lib.join (a :: b :: r) [32] = a ++ 32 :: Lib.join (b :: r) [32] := by simp [Lib.join, List.intercalate]
    rw [e1, ih, e2]
    simp
theorem wordZ_else {k : Int} (h : ¬ k = 2) {l : List UInt8} {p : Int} : bs (wordZ (k, l, p)) = bs l := by unfold wordZ; rw [if_neg h]
theorem wordZ_two {l : List UInt8} {p : Int} : bs (wordZ (2, l, p)) = ⟨#[34]⟩ ++ bs (escS l) ++ ⟨#[34]⟩ := by
  unfold wordZ
  rw [if_pos rfl, show (⟨#[34]⟩ : ByteArray) = bs [34] from rfl, bs_append, bs_append]
  rfl
theorem lineX_len (xs : List Tz) (h : ∀ x ∈ xs, x.2.1.length ≤ 500) : (lineX xs).length ≤ xs.length * 2003 := by
  have := join_len (xs.map wordZ) 2002 (fun x hx => by
    obtain ⟨p, hp, rfl⟩ := List.mem_map.1 hx
    exact wordZ_len (h p hp))
  rwa [List.length_map] at this
set_option maxRecDepth 20000 in
theorem ristext_any (l : List UInt8) (hl : l.length ≤ 100000) (w : World) : Calls Tryz.prog 14 #[.string (bs l)] w fun e w' => e = .returned (.bool (isTextV l)) ∧ Below w.heap.size w w' := by
  have HV := Lib.hid (rvalidu_any l hl w)
  have hsz : (bs l).size = l.length := bs_size l
  by_cases h4 : l.length ≤ 400
  · have g4 : ((bs l).size : Int) ≤ 400 := by omega
    have HR : Hid (isTextV l = Lib.validD l) := by unfold Hid isTextV; rw [decide_eq_true h4]; rfl
    clear hsz
    generalize bs l = S at *
    generalize Lib.validD l = V at *
    go_enter Tryz.func14, Tryz.ntmps14
    go_wp2_with fail
    refine HV.out.mono ?_
    rintro e w2 ⟨rfl, hb⟩
    have HB := Lib.hid hb
    clear hb
    go_wp2_with fail
    go_ret
    exact ⟨by rw [HR.out]; rfl, HB.out⟩
  · have g4 : ¬ ((bs l).size : Int) ≤ 400 := by omega
    have HR : Hid (isTextV l = false) := by unfold Hid isTextV; rw [decide_eq_false h4]; rfl
    clear hsz
    generalize bs l = S at *
    go_enter Tryz.func14, Tryz.ntmps14
    go_wp2_with fail
    go_ret
    exact ⟨by rw [HR.out]; rfl, Below.refl _ _⟩
set_option maxRecDepth 20000 in
theorem risword_any (l : List UInt8) (hl : l.length ≤ 100000) (w : World) : Calls Tryz.prog 12 #[.string (bs l)] w fun e w' => e = .returned (.bool (isWordV l)) ∧ Below w.heap.size w w' := by
  have HRN := Lib.hid (fun w => rword_any l hl w)
  have hsz : (bs l).size = l.length := bs_size l
  by_cases h0 : l = []
  · have HR : Hid (isWordV l = false) := by unfold Hid isWordV; rw [decide_eq_false (fun h => h h0)]; rfl
    have hz : bs l = ⟨#[]⟩ := by rw [h0]; rfl
    rw [hz]
    clear hsz HRN
    go_enter Tryz.func12, Tryz.ntmps12
    go_wp2_with fail
    go_ret
    exact ⟨by rw [HR.out]; rfl, Below.refl _ _⟩
  · have m1 : ¬ (bs l).toList = [] := by rw [bs_toList]; exact h0
    have m0 : (bs l).toList.isEmpty = false := by rw [bs_toList]; cases l with
      | nil => exact absurd rfl h0
      | cons a r => rfl
    by_cases h5 : wordLen l = l.length
    · have m5 : (((wordLen l : Nat) : Int) == ((bs l).size : Int)) = true := by rw [hsz, h5]; simp
      by_cases h4 : l.length ≤ 40
      · have g4 : ((bs l).size : Int) ≤ 40 := by omega
        have HR : Hid (isWordV l = true) := by unfold Hid isWordV; rw [decide_eq_true h0, decide_eq_true h4, decide_eq_true h5]; rfl
        generalize wordLen l = W at *
        generalize bs l = S at *
        clear hsz h0 h4 h5
        go_enter Tryz.func12, Tryz.ntmps12
        go_wp2_with fail
        refine (HRN.out _).mono ?_
        rintro e _ ⟨rfl, rfl⟩
        go_wp2_with fail
        go_ret
        exact ⟨by rw [HR.out]; rfl, Below.refl _ _⟩
      · have g4 : ¬ ((bs l).size : Int) ≤ 40 := by omega
        have dg4 : decide (((bs l).size : Int) ≤ 40) = false := decide_eq_false g4
        have HR : Hid (isWordV l = false) := by unfold Hid isWordV; rw [decide_eq_false h4, Bool.and_false]; rfl
        generalize wordLen l = W at *
        generalize bs l = S at *
        clear hsz h0 h4 h5
        go_enter Tryz.func12, Tryz.ntmps12
        go_wp2_with fail
        refine (HRN.out _).mono ?_
        rintro e _ ⟨rfl, rfl⟩
        go_wp2_with fail
        go_ret
        exact ⟨by rw [HR.out]; rfl, Below.refl _ _⟩
    · have HR : Hid (isWordV l = false) := by unfold Hid isWordV; rw [decide_eq_false h5, Bool.and_false]
      have m5 : (((wordLen l : Nat) : Int) == ((bs l).size : Int)) = false := by rw [hsz, beq_eq_false_iff_ne]; omega
      generalize wordLen l = W at *
      generalize bs l = S at *
      clear hsz h0 h5
      go_enter Tryz.func12, Tryz.ntmps12
      go_wp2_with fail
      refine (HRN.out _).mono ?_
      rintro e _ ⟨rfl, rfl⟩
      go_wp2_with fail
      go_ret
      exact ⟨by rw [HR.out]; rfl, Below.refl _ _⟩
set_option maxRecDepth 20000 in
set_option maxHeartbeats 16000000 in
theorem rspell_any (ad : Option Addr) (n c : Nat) (ps : List Tz) (b off : Nat) (w : World) (hp : TzAt w ad n ps b off) (hn : n ≤ 1000) (hs : ∀ p ∈ ps, p.2.1.length ≤ 500) :
    Calls Tryz.prog 8 #[.slice ad n c] w (SpP ps w) := by
  have HP := Lib.hid hp
  have HLN := Lib.hid hp.len
  have HSZ := Lib.hid hs
  clear hp hs
  go_enter Tryz.func8, Tryz.ntmps8
  go_wp2_with fail
  go_loopw [4, 5] (fun v i wr => ∃ (k : Nat), i = .int .i64 (k : Int) ∧ k ≤ n ∧ v = .string (bs (lineX (ps.take k))) ∧ (∀ x ∈ ps.take k, okZ x = true) ∧ Below w.heap.size w wr) (fun _ i _ => n - (intOf i).toNat)
  case atStart => exact ⟨0, rfl, Nat.zero_le _, rfl, fun x hx => (by cases hx), Below.refl _ _⟩
  case round =>
    obtain ⟨k, rfl, hkn, rfl, hoks, hbl⟩ := hrel
    have HBL := Lib.hid hbl
    have HOKS := Lib.hid hoks
    have hzr := hbl.size
    clear hbl hoks
    by_cases hlt : k < n
    · have HPR := Lib.hid (HP.out.below HBL.out)
      have hix := fun W => HPR.out.ixT 22 39 Tryz.underlying22 cellsRt hlt c W
      have h0 := HPR.out.c0 k hlt
      have h1 := HPR.out.c1 k hlt
      have h2 := HPR.out.c2 k hlt
      have hkl : k < ps.length := by rw [HLN.out]; exact hlt
      have hmem : ps.getD k tz0 ∈ ps := getD_memZ hkl
      have hts : ps.take (k + 1) = ps.take k ++ [ps.getD k tz0] := by
        rw [List.take_succ_eq_append_getElem hkl]
        simp [List.getD, List.getElem?_eq_getElem hkl]
      have hstep : lineX (ps.take (k + 1)) = if k = 0 then wordZ (ps.getD k tz0) else lineX (ps.take k) ++ 32 :: wordZ (ps.getD k tz0) := by
        unfold lineX
        rw [hts, List.map_append, List.map_singleton, join_snoc]
        by_cases hk : k = 0
        · subst hk; simp
        · rw [if_neg hk, if_neg]
          intro e
          have h3 : (ps.take k).length = k := by rw [List.length_take]; omega
          have h4 := congrArg List.length e
          rw [List.length_map, h3] at h4
          exact hk h4
      have HNX0 : Hid (okZ (ps.getD k tz0) = true → ∀ x ∈ ps.take (k + 1), okZ x = true) := fun h x hx => by
        rw [hts] at hx
        rcases List.mem_append.1 hx with hx | hx
        · exact HOKS.out x hx
        · rw [List.mem_singleton.1 hx]; exact h
      have hsz := HSZ.out _ hmem
      have HBD := Lib.hid (spellV_bad hmem)
      have hsl : (bs (lineX (ps.take k))).size ≤ 2003000 := by
        rw [bs_size]
        have := lineX_len (ps.take k) (fun x hx => HSZ.out x (List.mem_of_mem_take hx))
        rw [List.length_take] at this
        have h5 : min k ps.length ≤ 1000 := by omega
        have := Nat.mul_le_mul_right 2003 h5
        omega
      clear hkl hmem hts
      generalize ps.getD k tz0 = p at *
      obtain ⟨p0, p1, p2⟩ := p
      simp only at h0 h1 h2 hsz
      have HWD := Lib.hid (fun w' => risword_any p1 (by omega) w')
      have HTX1 := Lib.hid (fun w' => ristext_any p1 (by omega) w')
      have HIN := Lib.hid (fun w' => rmark_any (p1.getD 0 0) w')
      have hbz : (bs p1).size = p1.length := bs_size p1
      have hbz5 : (bs p1).size ≤ 500 := by omega
      have HESC : Hid (∀ w', Calls Tryz.prog 20 #[.int .i64 2, .string (bs p1)] w' fun e w'' => e = .returned (.string (bs (escS p1))) ∧ Below w'.heap.size w' w'') := fun w' => by
        have := resc_any (bs p1) w' (by omega)
        rwa [bs_data] at this
      by_cases hk0 : k = 0
      · have hki : ¬ 0 < (k : Int) := by omega
        have HSTEP : Hid (bs (lineX (ps.take k)) ++ bs (wordZ (p0, p1, p2)) = bs (lineX (ps.take (k + 1)))) := by
          unfold Hid
          rw [hstep, if_pos hk0, show lineX (ps.take k) = [] by rw [hk0]; rfl, bs_append]
          rfl
        clear hstep hk0
        generalize bs (lineX (ps.take k)) = S at *
        by_cases e1 : p0 = 1
        · subst e1
          rw [okZ_1] at HNX0 HBD
          rw [wordZ_else (show ¬ (1 : Int) = 2 by decide)] at HSTEP
          generalize isWordV p1 = B at *
          generalize bs p1 = X at *
          clear HTX1 HIN hbz HESC
          cases B
          · have HSB := Lib.hid (HBD.out rfl)
            clear HBD HNX0 HSTEP
            go_upto_region 9 with (fail)
            refine wp_at_worldH ?_
            intro V hV
            have KX : Hid (V.heap[wr.heap.size]? = some (.cells #[.int .i64 1, .string X, .int .i64 p2] 39 (0, 0))) := by rw [hV]; exact row_new _ _ _
            have HBV : Hid (Below w.heap.size w V) := by rw [hV]; exact HBL.out.alloc hzr _
            have hVz : wr.heap.size < V.heap.size := (Array.getElem?_eq_some_iff.1 KX.out).1
            have hzV := HBV.out.size
            have t0 := row_cells KX.out 0
            have t1 := row_cells KX.out 1
            have t2 := row_cells KX.out 2
            clear hV h0 h1 h2 hix
            go_wp2_with fail
            refine (HWD.out _).mono ?_
            rintro e w2 ⟨rfl, hb2⟩
            replace KX : Hid (w2.heap[wr.heap.size]? = some (.cells #[.int .i64 1, .string X, .int .i64 p2] 39 (0, 0))) := (hb2.block wr.heap.size hVz).trans KX.out
            replace HBV : Hid (Below w.heap.size w w2) := HBV.out.trans (hb2.mono hzV)
            replace hVz : wr.heap.size < w2.heap.size := (Array.getElem?_eq_some_iff.1 KX.out).1
            replace hzV := HBV.out.size
            clear hb2 t0 t1 t2
            have t0 := row_cells KX.out 0
            have t1 := row_cells KX.out 1
            have t2 := row_cells KX.out 2
            go_wp2_with fail
            exact bodyPost_ret (v := .tuple #[.string ⟨#[]⟩, .int .i64 1]) (by simp [results, Tryz.f8, go_sem]) rfl ⟨by rw [HSB.out]; rfl, HBV.out⟩
          · have HNX := Lib.hid (HNX0.out rfl)
            clear HBD HNX0
            go_upto_region 9 with (fail)
            refine wp_at_worldH ?_
            intro V hV
            have KX : Hid (V.heap[wr.heap.size]? = some (.cells #[.int .i64 1, .string X, .int .i64 p2] 39 (0, 0))) := by rw [hV]; exact row_new _ _ _
            have HBV : Hid (Below w.heap.size w V) := by rw [hV]; exact HBL.out.alloc hzr _
            have hVz : wr.heap.size < V.heap.size := (Array.getElem?_eq_some_iff.1 KX.out).1
            have hzV := HBV.out.size
            have t0 := row_cells KX.out 0
            have t1 := row_cells KX.out 1
            have t2 := row_cells KX.out 2
            clear hV h0 h1 h2 hix
            go_wp2_with fail
            refine (HWD.out _).mono ?_
            rintro e w2 ⟨rfl, hb2⟩
            replace KX : Hid (w2.heap[wr.heap.size]? = some (.cells #[.int .i64 1, .string X, .int .i64 p2] 39 (0, 0))) := (hb2.block wr.heap.size hVz).trans KX.out
            replace HBV : Hid (Below w.heap.size w w2) := HBV.out.trans (hb2.mono hzV)
            replace hVz : wr.heap.size < w2.heap.size := (Array.getElem?_eq_some_iff.1 KX.out).1
            replace hzV := HBV.out.size
            clear hb2 t0 t1 t2
            have t0 := row_cells KX.out 0
            have t1 := row_cells KX.out 1
            have t2 := row_cells KX.out 2
            go_wp2_with fail
            go_roundw
            case rel => exact ⟨k + 1, by go_num, by omega, by rw [HSTEP.out], HNX.out, HBV.out⟩
            case measure => simp [intOf]; omega
        by_cases e3 : p0 = 3
        · subst e3
          rw [okZ_3] at HNX0 HBD
          rw [wordZ_else (show ¬ (3 : Int) = 2 by decide)] at HSTEP
          by_cases hl1 : p1.length = 1
          · have hat : ∀ g : 0 < (bs p1).size, (bs p1)[0]'g = p1.getD 0 0 := fun g => ba_at p1 g
            have hps : 0 < (bs p1).size := by omega
            have g1 : (((bs p1).size : Int) == 1) = true := by rw [hbz, hl1]; rfl
            have g2 : ((bs p1).size : Int) = 1 := by omega
            have g3 : (bs p1).size = 1 := by omega
            by_cases hm : p1.getD 0 0 ∈ marksL
            · have HNX := Lib.hid (HNX0.out (by unfold isMarkV; rw [decide_eq_true hl1, decide_eq_true hm]; rfl))
              rw [decide_eq_true hm] at HIN
              generalize p1.getD 0 0 = ch at *
              generalize bs p1 = X at *
              clear HTX1 HWD hbz HESC HBD HNX0 hm hl1
              go_upto_region 9 with (fail)
              refine wp_at_worldH ?_
              intro V hV
              have KX : Hid (V.heap[wr.heap.size]? = some (.cells #[.int .i64 3, .string X, .int .i64 p2] 39 (0, 0))) := by rw [hV]; exact row_new _ _ _
              have HBV : Hid (Below w.heap.size w V) := by rw [hV]; exact HBL.out.alloc hzr _
              have hVz : wr.heap.size < V.heap.size := (Array.getElem?_eq_some_iff.1 KX.out).1
              have hzV := HBV.out.size
              have t0 := row_cells KX.out 0
              have t1 := row_cells KX.out 1
              have t2 := row_cells KX.out 2
              clear hV h0 h1 h2 hix
              go_wp2_with fail
              refine (HIN.out _).mono ?_
              rintro e _ ⟨rfl, rfl⟩
              go_wp2_with fail
              go_roundw
              case rel => exact ⟨k + 1, by go_num, by omega, by rw [HSTEP.out], HNX.out, HBV.out⟩
              case measure => simp [intOf]; omega
            · have HSB := Lib.hid (HBD.out (by unfold isMarkV; rw [decide_eq_false hm, Bool.and_false]))
              rw [decide_eq_false hm] at HIN
              generalize p1.getD 0 0 = ch at *
              generalize bs p1 = X at *
              clear HTX1 HWD hbz HESC HBD HNX0 hm hl1 HSTEP
              go_upto_region 9 with (fail)
              refine wp_at_worldH ?_
              intro V hV
              have KX : Hid (V.heap[wr.heap.size]? = some (.cells #[.int .i64 3, .string X, .int .i64 p2] 39 (0, 0))) := by rw [hV]; exact row_new _ _ _
              have HBV : Hid (Below w.heap.size w V) := by rw [hV]; exact HBL.out.alloc hzr _
              have hVz : wr.heap.size < V.heap.size := (Array.getElem?_eq_some_iff.1 KX.out).1
              have hzV := HBV.out.size
              have t0 := row_cells KX.out 0
              have t1 := row_cells KX.out 1
              have t2 := row_cells KX.out 2
              clear hV h0 h1 h2 hix
              go_wp2_with fail
              refine (HIN.out _).mono ?_
              rintro e _ ⟨rfl, rfl⟩
              go_wp2_with fail
              exact bodyPost_ret (v := .tuple #[.string ⟨#[]⟩, .int .i64 1]) (by simp [results, Tryz.f8, go_sem]) rfl ⟨by rw [HSB.out]; rfl, HBV.out⟩
          · have HSB := Lib.hid (HBD.out (by unfold isMarkV; rw [decide_eq_false hl1]; rfl))
            have g1 : (((bs p1).size : Int) == 1) = false := by rw [hbz, beq_eq_false_iff_ne]; omega
            have g2 : ¬ ((bs p1).size : Int) = 1 := by omega
            have g3 : ¬ (bs p1).size = 1 := by omega
            generalize bs p1 = X at *
            clear HTX1 HWD hbz HESC HBD HNX0 hl1 HIN HSTEP
            go_upto_region 9 with (fail)
            refine wp_at_worldH ?_
            intro V hV
            have KX : Hid (V.heap[wr.heap.size]? = some (.cells #[.int .i64 3, .string X, .int .i64 p2] 39 (0, 0))) := by rw [hV]; exact row_new _ _ _
            have HBV : Hid (Below w.heap.size w V) := by rw [hV]; exact HBL.out.alloc hzr _
            have hVz : wr.heap.size < V.heap.size := (Array.getElem?_eq_some_iff.1 KX.out).1
            have hzV := HBV.out.size
            have t0 := row_cells KX.out 0
            have t1 := row_cells KX.out 1
            have t2 := row_cells KX.out 2
            clear hV h0 h1 h2 hix
            go_wp2_with fail
            exact bodyPost_ret (v := .tuple #[.string ⟨#[]⟩, .int .i64 1]) (by simp [results, Tryz.f8, go_sem]) rfl ⟨by rw [HSB.out]; rfl, HBV.out⟩
        by_cases e2 : p0 = 2
        · subst e2
          rw [okZ_2] at HNX0 HBD
          rw [wordZ_two] at HSTEP
          have hez : (bs (escS p1)).size ≤ 2000 := by rw [bs_size]; have := escS_len p1; omega
          generalize isTextV p1 = B at *
          generalize bs (escS p1) = T1 at *
          generalize bs p1 = X at *
          clear HWD HIN hbz
          cases B
          · have HSB := Lib.hid (HBD.out rfl)
            clear HBD HNX0 HESC HSTEP
            go_upto_region 9 with (fail)
            refine wp_at_worldH ?_
            intro V hV
            have KX : Hid (V.heap[wr.heap.size]? = some (.cells #[.int .i64 2, .string X, .int .i64 p2] 39 (0, 0))) := by rw [hV]; exact row_new _ _ _
            have HBV : Hid (Below w.heap.size w V) := by rw [hV]; exact HBL.out.alloc hzr _
            have hVz : wr.heap.size < V.heap.size := (Array.getElem?_eq_some_iff.1 KX.out).1
            have hzV := HBV.out.size
            have t0 := row_cells KX.out 0
            have t1 := row_cells KX.out 1
            have t2 := row_cells KX.out 2
            clear hV h0 h1 h2 hix
            go_wp2_with fail
            refine (HTX1.out _).mono ?_
            rintro e w2 ⟨rfl, hb2⟩
            replace KX : Hid (w2.heap[wr.heap.size]? = some (.cells #[.int .i64 2, .string X, .int .i64 p2] 39 (0, 0))) := (hb2.block wr.heap.size hVz).trans KX.out
            replace HBV : Hid (Below w.heap.size w w2) := HBV.out.trans (hb2.mono hzV)
            replace hVz : wr.heap.size < w2.heap.size := (Array.getElem?_eq_some_iff.1 KX.out).1
            replace hzV := HBV.out.size
            clear hb2 t0 t1 t2
            have t0 := row_cells KX.out 0
            have t1 := row_cells KX.out 1
            have t2 := row_cells KX.out 2
            go_wp2_with fail
            exact bodyPost_ret (v := .tuple #[.string ⟨#[]⟩, .int .i64 1]) (by simp [results, Tryz.f8, go_sem]) rfl ⟨by rw [HSB.out]; rfl, HBV.out⟩
          · have HNX := Lib.hid (HNX0.out rfl)
            have z1 : (⟨#[34]⟩ : ByteArray).size = 1 := rfl
            have z2 : (⟨#[32]⟩ : ByteArray).size = 1 := rfl
            have a1 := fun w => run_string_add_sum (P := Tryz.prog) (w := w) ⟨#[34]⟩ T1 (by omega)
            have a2 := fun w => run_string_add_sum (P := Tryz.prog) (w := w) (⟨#[34]⟩ ++ T1) ⟨#[34]⟩ (by rw [ByteArray.size_append]; omega)
            have a3 := fun w => run_string_add_sum (P := Tryz.prog) (w := w) (S) (⟨#[34]⟩ ++ T1 ++ ⟨#[34]⟩) (by (repeat rw [ByteArray.size_append]); omega)
            clear HBD HNX0 z1 z2
            go_upto_region 9 with (fail)
            refine wp_at_worldH ?_
            intro V hV
            have KX : Hid (V.heap[wr.heap.size]? = some (.cells #[.int .i64 2, .string X, .int .i64 p2] 39 (0, 0))) := by rw [hV]; exact row_new _ _ _
            have HBV : Hid (Below w.heap.size w V) := by rw [hV]; exact HBL.out.alloc hzr _
            have hVz : wr.heap.size < V.heap.size := (Array.getElem?_eq_some_iff.1 KX.out).1
            have hzV := HBV.out.size
            have t0 := row_cells KX.out 0
            have t1 := row_cells KX.out 1
            have t2 := row_cells KX.out 2
            clear hV h0 h1 h2 hix
            go_wp2_with fail
            refine (HTX1.out _).mono ?_
            rintro e w2 ⟨rfl, hb2⟩
            replace KX : Hid (w2.heap[wr.heap.size]? = some (.cells #[.int .i64 2, .string X, .int .i64 p2] 39 (0, 0))) := (hb2.block wr.heap.size hVz).trans KX.out
            replace HBV : Hid (Below w.heap.size w w2) := HBV.out.trans (hb2.mono hzV)
            replace hVz : wr.heap.size < w2.heap.size := (Array.getElem?_eq_some_iff.1 KX.out).1
            replace hzV := HBV.out.size
            clear hb2 t0 t1 t2
            have t0 := row_cells KX.out 0
            have t1 := row_cells KX.out 1
            have t2 := row_cells KX.out 2
            go_wp2_with fail
            refine (HESC.out _).mono ?_
            rintro e w4 ⟨rfl, hb2⟩
            replace KX : Hid (w4.heap[wr.heap.size]? = some (.cells #[.int .i64 2, .string X, .int .i64 p2] 39 (0, 0))) := (hb2.block wr.heap.size hVz).trans KX.out
            replace HBV : Hid (Below w.heap.size w w4) := HBV.out.trans (hb2.mono hzV)
            replace hVz : wr.heap.size < w4.heap.size := (Array.getElem?_eq_some_iff.1 KX.out).1
            replace hzV := HBV.out.size
            clear hb2 t0 t1 t2
            have t0 := row_cells KX.out 0
            have t1 := row_cells KX.out 1
            have t2 := row_cells KX.out 2
            go_wp2_with fail
            go_roundw
            case rel => exact ⟨k + 1, by go_num, by omega, by rw [HSTEP.out], HNX.out, HBV.out⟩
            case measure => simp [intOf]; omega
        have HSB := Lib.hid (HBD.out (okZ_else e1 e2 e3 p1 p2))
        have g1 : (p0 == 1) = false := by simp only [beq_eq_false_iff_ne]; exact e1
        have g2 : (p0 == 2) = false := by simp only [beq_eq_false_iff_ne]; exact e2
        have g3 : (p0 == 3) = false := by simp only [beq_eq_false_iff_ne]; exact e3
        generalize bs p1 = X at *
        clear HTX1 HWD hbz HESC HBD HNX0 HIN HSTEP
        go_upto_region 9 with (fail)
        refine wp_at_worldH ?_
        intro V hV
        have KX : Hid (V.heap[wr.heap.size]? = some (.cells #[.int .i64 p0, .string X, .int .i64 p2] 39 (0, 0))) := by rw [hV]; exact row_new _ _ _
        have HBV : Hid (Below w.heap.size w V) := by rw [hV]; exact HBL.out.alloc hzr _
        have hVz : wr.heap.size < V.heap.size := (Array.getElem?_eq_some_iff.1 KX.out).1
        have hzV := HBV.out.size
        have t0 := row_cells KX.out 0
        have t1 := row_cells KX.out 1
        have t2 := row_cells KX.out 2
        clear hV h0 h1 h2 hix
        go_wp2_with fail
        exact bodyPost_ret (v := .tuple #[.string ⟨#[]⟩, .int .i64 1]) (by simp [results, Tryz.f8, go_sem]) rfl ⟨by rw [HSB.out]; rfl, HBV.out⟩
      · have hki : 0 < (k : Int) := by omega
        have HSTEP : Hid (bs (lineX (ps.take k)) ++ ⟨#[32]⟩ ++ bs (wordZ (p0, p1, p2)) = bs (lineX (ps.take (k + 1)))) := by unfold Hid; rw [hstep, if_neg hk0, show (⟨#[32]⟩ : ByteArray) = bs [32] from rfl, bs_append, bs_append]; simp
        clear hstep hk0
        generalize bs (lineX (ps.take k)) = S at *
        have y1 : (⟨#[32]⟩ : ByteArray).size = 1 := rfl
        have y2 := fun w => run_string_add_sum (P := Tryz.prog) (w := w) S ⟨#[32]⟩ (by omega)
        have y3 := fun (X : ByteArray) (hx : X.size ≤ 500) w => run_string_add_sum (P := Tryz.prog) (w := w) (S ++ ⟨#[32]⟩) X (by rw [ByteArray.size_append]; omega)
        replace y3 := y3 _ hbz5
        clear y1
        by_cases e1 : p0 = 1
        · subst e1
          rw [okZ_1] at HNX0 HBD
          rw [wordZ_else (show ¬ (1 : Int) = 2 by decide)] at HSTEP
          generalize isWordV p1 = B at *
          generalize bs p1 = X at *
          clear HTX1 HIN hbz HESC
          cases B
          · have HSB := Lib.hid (HBD.out rfl)
            clear HBD HNX0 HSTEP
            go_upto_region 9 with (fail)
            refine wp_at_worldH ?_
            intro V hV
            have KX : Hid (V.heap[wr.heap.size]? = some (.cells #[.int .i64 1, .string X, .int .i64 p2] 39 (0, 0))) := by rw [hV]; exact row_new _ _ _
            have HBV : Hid (Below w.heap.size w V) := by rw [hV]; exact HBL.out.alloc hzr _
            have hVz : wr.heap.size < V.heap.size := (Array.getElem?_eq_some_iff.1 KX.out).1
            have hzV := HBV.out.size
            have t0 := row_cells KX.out 0
            have t1 := row_cells KX.out 1
            have t2 := row_cells KX.out 2
            clear hV h0 h1 h2 hix
            go_wp2_with fail
            refine (HWD.out _).mono ?_
            rintro e w2 ⟨rfl, hb2⟩
            replace KX : Hid (w2.heap[wr.heap.size]? = some (.cells #[.int .i64 1, .string X, .int .i64 p2] 39 (0, 0))) := (hb2.block wr.heap.size hVz).trans KX.out
            replace HBV : Hid (Below w.heap.size w w2) := HBV.out.trans (hb2.mono hzV)
            replace hVz : wr.heap.size < w2.heap.size := (Array.getElem?_eq_some_iff.1 KX.out).1
            replace hzV := HBV.out.size
            clear hb2 t0 t1 t2
            have t0 := row_cells KX.out 0
            have t1 := row_cells KX.out 1
            have t2 := row_cells KX.out 2
            go_wp2_with fail
            exact bodyPost_ret (v := .tuple #[.string ⟨#[]⟩, .int .i64 1]) (by simp [results, Tryz.f8, go_sem]) rfl ⟨by rw [HSB.out]; rfl, HBV.out⟩
          · have HNX := Lib.hid (HNX0.out rfl)
            clear HBD HNX0
            go_upto_region 9 with (fail)
            refine wp_at_worldH ?_
            intro V hV
            have KX : Hid (V.heap[wr.heap.size]? = some (.cells #[.int .i64 1, .string X, .int .i64 p2] 39 (0, 0))) := by rw [hV]; exact row_new _ _ _
            have HBV : Hid (Below w.heap.size w V) := by rw [hV]; exact HBL.out.alloc hzr _
            have hVz : wr.heap.size < V.heap.size := (Array.getElem?_eq_some_iff.1 KX.out).1
            have hzV := HBV.out.size
            have t0 := row_cells KX.out 0
            have t1 := row_cells KX.out 1
            have t2 := row_cells KX.out 2
            clear hV h0 h1 h2 hix
            go_wp2_with fail
            refine (HWD.out _).mono ?_
            rintro e w2 ⟨rfl, hb2⟩
            replace KX : Hid (w2.heap[wr.heap.size]? = some (.cells #[.int .i64 1, .string X, .int .i64 p2] 39 (0, 0))) := (hb2.block wr.heap.size hVz).trans KX.out
            replace HBV : Hid (Below w.heap.size w w2) := HBV.out.trans (hb2.mono hzV)
            replace hVz : wr.heap.size < w2.heap.size := (Array.getElem?_eq_some_iff.1 KX.out).1
            replace hzV := HBV.out.size
            clear hb2 t0 t1 t2
            have t0 := row_cells KX.out 0
            have t1 := row_cells KX.out 1
            have t2 := row_cells KX.out 2
            go_wp2_with fail
            go_roundw
            case rel => exact ⟨k + 1, by go_num, by omega, by rw [HSTEP.out], HNX.out, HBV.out⟩
            case measure => simp [intOf]; omega
        by_cases e3 : p0 = 3
        · subst e3
          rw [okZ_3] at HNX0 HBD
          rw [wordZ_else (show ¬ (3 : Int) = 2 by decide)] at HSTEP
          by_cases hl1 : p1.length = 1
          · have hat : ∀ g : 0 < (bs p1).size, (bs p1)[0]'g = p1.getD 0 0 := fun g => ba_at p1 g
            have hps : 0 < (bs p1).size := by omega
            have g1 : (((bs p1).size : Int) == 1) = true := by rw [hbz, hl1]; rfl
            have g2 : ((bs p1).size : Int) = 1 := by omega
            have g3 : (bs p1).size = 1 := by omega
            by_cases hm : p1.getD 0 0 ∈ marksL
            · have HNX := Lib.hid (HNX0.out (by unfold isMarkV; rw [decide_eq_true hl1, decide_eq_true hm]; rfl))
              rw [decide_eq_true hm] at HIN
              generalize p1.getD 0 0 = ch at *
              generalize bs p1 = X at *
              clear HTX1 HWD hbz HESC HBD HNX0 hm hl1
              go_upto_region 9 with (fail)
              refine wp_at_worldH ?_
              intro V hV
              have KX : Hid (V.heap[wr.heap.size]? = some (.cells #[.int .i64 3, .string X, .int .i64 p2] 39 (0, 0))) := by rw [hV]; exact row_new _ _ _
              have HBV : Hid (Below w.heap.size w V) := by rw [hV]; exact HBL.out.alloc hzr _
              have hVz : wr.heap.size < V.heap.size := (Array.getElem?_eq_some_iff.1 KX.out).1
              have hzV := HBV.out.size
              have t0 := row_cells KX.out 0
              have t1 := row_cells KX.out 1
              have t2 := row_cells KX.out 2
              clear hV h0 h1 h2 hix
              go_wp2_with fail
              refine (HIN.out _).mono ?_
              rintro e _ ⟨rfl, rfl⟩
              go_wp2_with fail
              go_roundw
              case rel => exact ⟨k + 1, by go_num, by omega, by rw [HSTEP.out], HNX.out, HBV.out⟩
              case measure => simp [intOf]; omega
            · have HSB := Lib.hid (HBD.out (by unfold isMarkV; rw [decide_eq_false hm, Bool.and_false]))
              rw [decide_eq_false hm] at HIN
              generalize p1.getD 0 0 = ch at *
              generalize bs p1 = X at *
              clear HTX1 HWD hbz HESC HBD HNX0 hm hl1 HSTEP
              go_upto_region 9 with (fail)
              refine wp_at_worldH ?_
              intro V hV
              have KX : Hid (V.heap[wr.heap.size]? = some (.cells #[.int .i64 3, .string X, .int .i64 p2] 39 (0, 0))) := by rw [hV]; exact row_new _ _ _
              have HBV : Hid (Below w.heap.size w V) := by rw [hV]; exact HBL.out.alloc hzr _
              have hVz : wr.heap.size < V.heap.size := (Array.getElem?_eq_some_iff.1 KX.out).1
              have hzV := HBV.out.size
              have t0 := row_cells KX.out 0
              have t1 := row_cells KX.out 1
              have t2 := row_cells KX.out 2
              clear hV h0 h1 h2 hix
              go_wp2_with fail
              refine (HIN.out _).mono ?_
              rintro e _ ⟨rfl, rfl⟩
              go_wp2_with fail
              exact bodyPost_ret (v := .tuple #[.string ⟨#[]⟩, .int .i64 1]) (by simp [results, Tryz.f8, go_sem]) rfl ⟨by rw [HSB.out]; rfl, HBV.out⟩
          · have HSB := Lib.hid (HBD.out (by unfold isMarkV; rw [decide_eq_false hl1]; rfl))
            have g1 : (((bs p1).size : Int) == 1) = false := by rw [hbz, beq_eq_false_iff_ne]; omega
            have g2 : ¬ ((bs p1).size : Int) = 1 := by omega
            have g3 : ¬ (bs p1).size = 1 := by omega
            generalize bs p1 = X at *
            clear HTX1 HWD hbz HESC HBD HNX0 hl1 HIN HSTEP
            go_upto_region 9 with (fail)
            refine wp_at_worldH ?_
            intro V hV
            have KX : Hid (V.heap[wr.heap.size]? = some (.cells #[.int .i64 3, .string X, .int .i64 p2] 39 (0, 0))) := by rw [hV]; exact row_new _ _ _
            have HBV : Hid (Below w.heap.size w V) := by rw [hV]; exact HBL.out.alloc hzr _
            have hVz : wr.heap.size < V.heap.size := (Array.getElem?_eq_some_iff.1 KX.out).1
            have hzV := HBV.out.size
            have t0 := row_cells KX.out 0
            have t1 := row_cells KX.out 1
            have t2 := row_cells KX.out 2
            clear hV h0 h1 h2 hix
            go_wp2_with fail
            exact bodyPost_ret (v := .tuple #[.string ⟨#[]⟩, .int .i64 1]) (by simp [results, Tryz.f8, go_sem]) rfl ⟨by rw [HSB.out]; rfl, HBV.out⟩
        by_cases e2 : p0 = 2
        · subst e2
          rw [okZ_2] at HNX0 HBD
          rw [wordZ_two] at HSTEP
          have hez : (bs (escS p1)).size ≤ 2000 := by rw [bs_size]; have := escS_len p1; omega
          generalize isTextV p1 = B at *
          generalize bs (escS p1) = T1 at *
          generalize bs p1 = X at *
          clear HWD HIN hbz
          cases B
          · have HSB := Lib.hid (HBD.out rfl)
            clear HBD HNX0 HESC HSTEP
            go_upto_region 9 with (fail)
            refine wp_at_worldH ?_
            intro V hV
            have KX : Hid (V.heap[wr.heap.size]? = some (.cells #[.int .i64 2, .string X, .int .i64 p2] 39 (0, 0))) := by rw [hV]; exact row_new _ _ _
            have HBV : Hid (Below w.heap.size w V) := by rw [hV]; exact HBL.out.alloc hzr _
            have hVz : wr.heap.size < V.heap.size := (Array.getElem?_eq_some_iff.1 KX.out).1
            have hzV := HBV.out.size
            have t0 := row_cells KX.out 0
            have t1 := row_cells KX.out 1
            have t2 := row_cells KX.out 2
            clear hV h0 h1 h2 hix
            go_wp2_with fail
            refine (HTX1.out _).mono ?_
            rintro e w2 ⟨rfl, hb2⟩
            replace KX : Hid (w2.heap[wr.heap.size]? = some (.cells #[.int .i64 2, .string X, .int .i64 p2] 39 (0, 0))) := (hb2.block wr.heap.size hVz).trans KX.out
            replace HBV : Hid (Below w.heap.size w w2) := HBV.out.trans (hb2.mono hzV)
            replace hVz : wr.heap.size < w2.heap.size := (Array.getElem?_eq_some_iff.1 KX.out).1
            replace hzV := HBV.out.size
            clear hb2 t0 t1 t2
            have t0 := row_cells KX.out 0
            have t1 := row_cells KX.out 1
            have t2 := row_cells KX.out 2
            go_wp2_with fail
            exact bodyPost_ret (v := .tuple #[.string ⟨#[]⟩, .int .i64 1]) (by simp [results, Tryz.f8, go_sem]) rfl ⟨by rw [HSB.out]; rfl, HBV.out⟩
          · have HNX := Lib.hid (HNX0.out rfl)
            have z1 : (⟨#[34]⟩ : ByteArray).size = 1 := rfl
            have z2 : (⟨#[32]⟩ : ByteArray).size = 1 := rfl
            have a1 := fun w => run_string_add_sum (P := Tryz.prog) (w := w) ⟨#[34]⟩ T1 (by omega)
            have a2 := fun w => run_string_add_sum (P := Tryz.prog) (w := w) (⟨#[34]⟩ ++ T1) ⟨#[34]⟩ (by rw [ByteArray.size_append]; omega)
            have a3 := fun w => run_string_add_sum (P := Tryz.prog) (w := w) (S ++ ⟨#[32]⟩) (⟨#[34]⟩ ++ T1 ++ ⟨#[34]⟩) (by (repeat rw [ByteArray.size_append]); omega)
            clear HBD HNX0 z1 z2
            go_upto_region 9 with (fail)
            refine wp_at_worldH ?_
            intro V hV
            have KX : Hid (V.heap[wr.heap.size]? = some (.cells #[.int .i64 2, .string X, .int .i64 p2] 39 (0, 0))) := by rw [hV]; exact row_new _ _ _
            have HBV : Hid (Below w.heap.size w V) := by rw [hV]; exact HBL.out.alloc hzr _
            have hVz : wr.heap.size < V.heap.size := (Array.getElem?_eq_some_iff.1 KX.out).1
            have hzV := HBV.out.size
            have t0 := row_cells KX.out 0
            have t1 := row_cells KX.out 1
            have t2 := row_cells KX.out 2
            clear hV h0 h1 h2 hix
            go_wp2_with fail
            refine (HTX1.out _).mono ?_
            rintro e w2 ⟨rfl, hb2⟩
            replace KX : Hid (w2.heap[wr.heap.size]? = some (.cells #[.int .i64 2, .string X, .int .i64 p2] 39 (0, 0))) := (hb2.block wr.heap.size hVz).trans KX.out
            replace HBV : Hid (Below w.heap.size w w2) := HBV.out.trans (hb2.mono hzV)
            replace hVz : wr.heap.size < w2.heap.size := (Array.getElem?_eq_some_iff.1 KX.out).1
            replace hzV := HBV.out.size
            clear hb2 t0 t1 t2
            have t0 := row_cells KX.out 0
            have t1 := row_cells KX.out 1
            have t2 := row_cells KX.out 2
            go_wp2_with fail
            refine (HESC.out _).mono ?_
            rintro e w4 ⟨rfl, hb2⟩
            replace KX : Hid (w4.heap[wr.heap.size]? = some (.cells #[.int .i64 2, .string X, .int .i64 p2] 39 (0, 0))) := (hb2.block wr.heap.size hVz).trans KX.out
            replace HBV : Hid (Below w.heap.size w w4) := HBV.out.trans (hb2.mono hzV)
            replace hVz : wr.heap.size < w4.heap.size := (Array.getElem?_eq_some_iff.1 KX.out).1
            replace hzV := HBV.out.size
            clear hb2 t0 t1 t2
            have t0 := row_cells KX.out 0
            have t1 := row_cells KX.out 1
            have t2 := row_cells KX.out 2
            go_wp2_with fail
            go_roundw
            case rel => exact ⟨k + 1, by go_num, by omega, by rw [HSTEP.out], HNX.out, HBV.out⟩
            case measure => simp [intOf]; omega
        have HSB := Lib.hid (HBD.out (okZ_else e1 e2 e3 p1 p2))
        have g1 : (p0 == 1) = false := by simp only [beq_eq_false_iff_ne]; exact e1
        have g2 : (p0 == 2) = false := by simp only [beq_eq_false_iff_ne]; exact e2
        have g3 : (p0 == 3) = false := by simp only [beq_eq_false_iff_ne]; exact e3
        generalize bs p1 = X at *
        clear HTX1 HWD hbz HESC HBD HNX0 HIN HSTEP
        go_upto_region 9 with (fail)
        refine wp_at_worldH ?_
        intro V hV
        have KX : Hid (V.heap[wr.heap.size]? = some (.cells #[.int .i64 p0, .string X, .int .i64 p2] 39 (0, 0))) := by rw [hV]; exact row_new _ _ _
        have HBV : Hid (Below w.heap.size w V) := by rw [hV]; exact HBL.out.alloc hzr _
        have hVz : wr.heap.size < V.heap.size := (Array.getElem?_eq_some_iff.1 KX.out).1
        have hzV := HBV.out.size
        have t0 := row_cells KX.out 0
        have t1 := row_cells KX.out 1
        have t2 := row_cells KX.out 2
        clear hV h0 h1 h2 hix
        go_wp2_with fail
        exact bodyPost_ret (v := .tuple #[.string ⟨#[]⟩, .int .i64 1]) (by simp [results, Tryz.f8, go_sem]) rfl ⟨by rw [HSB.out]; rfl, HBV.out⟩
    · obtain rfl : k = n := by omega
      have HSP : Hid (spellV ps = (lineX ps, 0)) := by
        unfold Hid spellV lineX
        rw [if_pos (List.all_eq_true.2 (fun x hx => HOKS.out x (by rw [List.take_of_length_le (by rw [HLN.out]; exact Nat.le_refl _)]; exact hx)))]
      rw [List.take_of_length_le (l := ps) (by rw [HLN.out]; exact Nat.le_refl _)]
      go_wp2_with fail
      exact bodyPost_ret (v := .tuple #[.string (bs (lineX ps)), .int .i64 0]) (by simp [results, Tryz.f8, go_sem]) rfl ⟨by rw [HSP.out]; rfl, HBL.out⟩
end Go.Proofs.YtpionddponmdmaaGreatDoor
