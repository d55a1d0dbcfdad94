/- Walk: lexeme's Spell, of any tokens. -/
import Derived.Test.YtpionddponmdmaaGreatDoorQ35
import Derived.Test.YtpionddponmdmaaGreatDoorQ37
import Derived.Test.YtpionddponmdmaaGreatDoorQ15
import Derived.Deep.DeepCutAuto
import Derived.Test.YtpionddponmdmaaGreatDoorQ23
import Derived.Test.YtpionddponmdmaaGreatDoorQ22
import Derived.Lib.ValidLaws
namespace Go.Proofs.YtpionddponmdmaaGreatDoor
open Go.RowKit
attribute [local go_sem] Ext.cell Ext.frozen
attribute [local go_sem ↓] Go.wp_at_zero Go.wp_at_succ
def isMarkV (l : List UInt8) : Bool := decide (l.length = 1) && decide (l.getD 0 0 ∈ marksL)
/-- a token that can be spelled -/
def okZ (t : Tz) : Bool := (decide (t.1 = 1) && isWordV t.2.1) || (decide (t.1 = 3) && isMarkV t.2.1) || (decide (t.1 = 2) && isTextV t.2.1)
def wordZ (t : Tz) : List UInt8 := if t.1 = 2 then 34 :: (escS t.2.1 ++ [34]) else t.2.1
def spellV (xs : List Tz) : List UInt8 × Nat := if xs.all okZ then (Lib.join (xs.map wordZ) [32], 0) else ([], 1)
theorem okZ_1 (l : List UInt8) (p : Int) : okZ (1, l, p) = isWordV l := by simp [okZ]
theorem okZ_2 (l : List UInt8) (p : Int) : okZ (2, l, p) = isTextV l := by simp [okZ]
theorem okZ_3 (l : List UInt8) (p : Int) : okZ (3, l, p) = isMarkV l := by simp [okZ]
theorem okZ_else {k : Int} (h1 : k ≠ 1) (h2 : k ≠ 2) (h3 : k ≠ 3) (l : List UInt8) (p : Int) : okZ (k, l, p) = false := by simp [okZ, h1, h2, h3]
theorem spellV_bad {xs : List Tz} {x : Tz} (h : x ∈ xs) (hx : okZ x = false) : spellV xs = ([], 1) := by
  unfold spellV
  rw [if_neg]
  intro h2
  rw [List.all_eq_true.1 h2 x h] at hx
  cases hx
theorem wordZ_len {t : Tz} (h : t.2.1.length ≤ 500) : (wordZ t).length ≤ 2002 := by
  have := escS_len t.2.1
  unfold wordZ
  split
  · simp; omega
  · omega
/-- what Spell answers -/
def SpP (xs : List Tz) (w : World) (e : Ending) (w' : World) : Prop := e = .returned (.tuple #[.string (bs (spellV xs).1), .int .i64 ((spellV xs).2 : Int)]) ∧ Below w.heap.size w w'
set_option maxRecDepth 20000 in
set_option maxHeartbeats 16000000 in
theorem spell_any (ad : Option Addr) (n c : Nat) (ps : List Tz) (b off : Nat) (w : World) (hp : TzAt w ad n ps b off) (hn : n ≤ 100000) (hs : ∀ p ∈ ps, p.2.1.length ≤ 500) (hU : TabU w) (hD : TabDeB w) :
    Calls Tryz.prog 6 #[.slice ad n c] w (SpP ps w) := by
  have HP := Lib.hid hp
  have HLN := Lib.hid hp.len
  have HSZ := Lib.hid hs
  obtain ⟨i0, hi0, hz0, hz1, hz2⟩ := info_parts infoS
  have HI := Lib.hid hi0
  have HZ0 := Lib.hid hz0
  have HZ1 := Lib.hid hz1
  have HZ2 := Lib.hid hz2
  have HIT := Lib.hid (fun (l : List UInt8) (hl : l.length ≤ 100000) w' (h : Below w.heap.size w w') => istext_any l hl w' (hU.below h))
  have HES := Lib.hid (fun (s : ByteArray) (hl : s.size ≤ 1000000) w' (h : Below w.heap.size w w') => esc_any s w' hl (fun c _ => (bsl_ok c hD).below h))
  clear hp hs hi0 hz0 hz1 hz2 hU hD
  go_enter Tryz.func6, Tryz.ntmps6
  go_wp2_with fail
  go_loopw [4, 9] (fun v i wr => ∃ (k : Nat) (ad' : Option Addr) (c' : Nat), i = .int .i64 (k : Int) ∧ k ≤ n ∧ v = .slice ad' k c' ∧ (∀ x ∈ ps.take k, okZ x = true) ∧ wr.ownsRow w.heap.size 9 1 (.slice ad' k c') k (strs ((ps.take k).map (fun t => bs (wordZ t)))) ∧ Below w.heap.size w wr) (fun _ i _ => n - (intOf i).toNat)
  case atStart => exact ⟨0, none, 0, rfl, Nat.zero_le _, rfl, fun x hx => (by cases hx), World.ownsRow_nil _ _ _ _, Below.refl _ _⟩
  case round =>
    obtain ⟨k, ad', c', rfl, hkn, rfl, hoks, hown, hbl⟩ := hrel
    have HOWN := Lib.hid hown
    have HBL := Lib.hid hbl
    have HOKS := Lib.hid hoks
    have hzr := hbl.size
    clear hown hbl hoks
    by_cases hlt : k < n
    · have HPR := Lib.hid (HP.out.below HBL.out)
      have hix := fun W => HPR.out.ixT 28 38 Tryz.underlying28 cellsTk hlt c W
      have h0 := HPR.out.c0 k hlt
      have h1 := HPR.out.c1 k hlt
      have h2 := HPR.out.c2 k hlt
      have hkl : k < ps.length := by rw [HLN.out]; exact hlt
      have hmem : ps.getD k tz0 ∈ ps := getD_memZ hkl
      have hts : ps.take (k + 1) = ps.take k ++ [ps.getD k tz0] := by
        rw [List.take_succ_eq_append_getElem hkl]
        simp [List.getD, List.getElem?_eq_getElem hkl]
      have HTS : Hid ((ps.take (k + 1)).map (fun t => bs (wordZ t)) = (ps.take k).map (fun t => bs (wordZ t)) ++ [bs (wordZ (ps.getD k tz0))]) := by
        unfold Hid
        rw [hts, List.map_append]
        rfl
      have HNX0 : Hid (okZ (ps.getD k tz0) = true → ∀ x ∈ ps.take (k + 1), okZ x = true) := fun h x hx => by
        rw [hts] at hx
        rcases List.mem_append.1 hx with hx | hx
        · exact HOKS.out x hx
        · rw [List.mem_singleton.1 hx]; exact h
      have hsz := HSZ.out _ hmem
      have HBD := Lib.hid (spellV_bad hmem)
      clear hkl hmem hts
      generalize ps.getD k tz0 = p at *
      obtain ⟨p0, p1, p2⟩ := p
      simp only at h0 h1 h2 hsz
      have HWD := Lib.hid (fun w' => isword_any p1 (by omega) w')
      have HTX1 := Lib.hid (HIT.out p1 (by omega))
      have HIN := Lib.hid (fun w' => in_any (p1.getD 0 0) marksL w')
      have hbz : (bs p1).size = p1.length := bs_size p1
      have HESC : Hid (∀ w', Below w.heap.size w w' → Calls Tryz.prog 17 #[.int .i64 2, .string (bs p1)] w' fun e w'' => e = .returned (.string (bs (escS p1))) ∧ Below w'.heap.size w' w'') := fun w' h => by
        have := HES.out (bs p1) (by omega) w' h
        rwa [bs_data] at this
      by_cases e1 : p0 = 1
      · subst e1
        rw [okZ_1] at HNX0 HBD
        have HTX : Hid (bs (wordZ (1, p1, p2)) = bs p1) := by unfold Hid wordZ; rw [if_neg (show ¬ (1 : Int) = 2 by decide)]
        generalize isWordV p1 = B at *
        generalize bs p1 = X at *
        clear HTX1 HIN hbz HESC HES HIT
        cases B
        · have HSB := Lib.hid (HBD.out rfl)
          clear HBD HNX0
          go_upto_region 6 with (fail)
          refine wp_at_worldH ?_
          intro V hV
          have KX : Hid (V.heap[wr.heap.size]? = some (.cells #[.int .i64 1, .string X, .int .i64 p2] 38 (0, 0))) := by rw [hV]; exact row_new _ _ _
          have HBV : Hid (Below w.heap.size w V) := by rw [hV]; exact HBL.out.alloc hzr _
          have HOV : Hid (V.ownsRow w.heap.size 9 1 (.slice ad' k c') k (strs ((ps.take k).map (fun t => bs (wordZ t))))) := by rw [hV]; exact World.ownsRow.alloc HOWN.out _
          have hVz : wr.heap.size < V.heap.size := (Array.getElem?_eq_some_iff.1 KX.out).1
          have hzV := HBV.out.size
          have t0 := row_cells KX.out 0
          have t1 := row_cells KX.out 1
          have t2 := row_cells KX.out 2
          clear hV h0 h1 h2 hix HOWN
          go_wp2_with fail
          refine (HWD.out _).mono ?_
          rintro e w2 ⟨rfl, hb2⟩
          replace KX : Hid (w2.heap[wr.heap.size]? = some (.cells #[.int .i64 1, .string X, .int .i64 p2] 38 (0, 0))) := (hb2.block wr.heap.size hVz).trans KX.out
          replace HBV : Hid (Below w.heap.size w w2) := HBV.out.trans (hb2.mono hzV)
          replace HOV := Lib.hid (own_below2 HOV.out hb2)
          replace hVz : wr.heap.size < w2.heap.size := (Array.getElem?_eq_some_iff.1 KX.out).1
          replace hzV := HBV.out.size
          clear hb2 t0 t1 t2
          have t0 := row_cells KX.out 0
          have t1 := row_cells KX.out 1
          have t2 := row_cells KX.out 2
          go_wp2_with fail
          exact bodyPost_ret (v := .tuple #[.string ⟨#[]⟩, .int .i64 1]) (by simp [results, Tryz.f6, go_sem]) rfl ⟨by rw [HSB.out]; rfl, HBV.out⟩
        · have HNX := Lib.hid (HNX0.out rfl)
          clear HBD HNX0
          go_upto_region 6 with (fail)
          refine wp_at_worldH ?_
          intro V hV
          have KX : Hid (V.heap[wr.heap.size]? = some (.cells #[.int .i64 1, .string X, .int .i64 p2] 38 (0, 0))) := by rw [hV]; exact row_new _ _ _
          have HBV : Hid (Below w.heap.size w V) := by rw [hV]; exact HBL.out.alloc hzr _
          have HOV : Hid (V.ownsRow w.heap.size 9 1 (.slice ad' k c') k (strs ((ps.take k).map (fun t => bs (wordZ t))))) := by rw [hV]; exact World.ownsRow.alloc HOWN.out _
          have hVz : wr.heap.size < V.heap.size := (Array.getElem?_eq_some_iff.1 KX.out).1
          have hzV := HBV.out.size
          have t0 := row_cells KX.out 0
          have t1 := row_cells KX.out 1
          have t2 := row_cells KX.out 2
          clear hV h0 h1 h2 hix HOWN
          go_wp2_with fail
          refine (HWD.out _).mono ?_
          rintro e w2 ⟨rfl, hb2⟩
          replace KX : Hid (w2.heap[wr.heap.size]? = some (.cells #[.int .i64 1, .string X, .int .i64 p2] 38 (0, 0))) := (hb2.block wr.heap.size hVz).trans KX.out
          replace HBV : Hid (Below w.heap.size w w2) := HBV.out.trans (hb2.mono hzV)
          replace HOV := Lib.hid (own_below2 HOV.out hb2)
          replace hVz : wr.heap.size < w2.heap.size := (Array.getElem?_eq_some_iff.1 KX.out).1
          replace hzV := HBV.out.size
          clear hb2 t0 t1 t2
          have t0 := row_cells KX.out 0
          have t1 := row_cells KX.out 1
          have t2 := row_cells KX.out 2
          go_wp2_with (at_builtin; refine wpList_app 40 9 16 Tryz.underlying40 i0 _ HI.out HZ0.out HZ1.out HZ2.out rfl rfl _ _ rfl w.heap.size ad' k c' _ rfl HOV.out _ _ rfl rfl (by unfold maxLen; omega) (by omega) hzV ?_; intro ad6 c6 w3 hown3 hb3 hg3 hz3; have HOWN3 := Lib.hid hown3; have HB3 := Lib.hid hb3; clear hown3 hb3 hg3 hz3)
          go_roundw
          case rel => exact ⟨k + 1, ad6, c6, by go_num, by omega, rfl, HNX.out, by rw [HTS.out, strs_app, HTX.out]; exact HOWN3.out, HBV.out.trans HB3.out⟩
          case measure => simp [intOf]; omega
      by_cases e3 : p0 = 3
      · subst e3
        rw [okZ_3] at HNX0 HBD
        have HTX : Hid (bs (wordZ (3, p1, p2)) = bs p1) := by unfold Hid wordZ; rw [if_neg (show ¬ (3 : Int) = 2 by decide)]
        by_cases hl1 : p1.length = 1
        · have hat : ∀ g : 0 < (bs p1).size, (bs p1)[0]'g = p1.getD 0 0 := fun g => ba_at p1 g
          have hps : 0 < (bs p1).size := by omega
          have g1 : (((bs p1).size : Int) == 1) = true := by rw [hbz, hl1]; rfl
          have g2 : ((bs p1).size : Int) = 1 := by omega
          have g3 : (bs p1).size = 1 := by omega
          by_cases hm : p1.getD 0 0 ∈ marksL
          · have HNX := Lib.hid (HNX0.out (by unfold isMarkV; rw [decide_eq_true hl1, decide_eq_true hm]; rfl))
            rw [decide_eq_true hm] at HIN
            generalize p1.getD 0 0 = ch at *
            generalize bs p1 = X at *
            clear HTX1 HWD hbz HESC HES HIT HBD HNX0 hm hl1
            go_upto_region 6 with (fail)
            refine wp_at_worldH ?_
            intro V hV
            have KX : Hid (V.heap[wr.heap.size]? = some (.cells #[.int .i64 3, .string X, .int .i64 p2] 38 (0, 0))) := by rw [hV]; exact row_new _ _ _
            have HBV : Hid (Below w.heap.size w V) := by rw [hV]; exact HBL.out.alloc hzr _
            have HOV : Hid (V.ownsRow w.heap.size 9 1 (.slice ad' k c') k (strs ((ps.take k).map (fun t => bs (wordZ t))))) := by rw [hV]; exact World.ownsRow.alloc HOWN.out _
            have hVz : wr.heap.size < V.heap.size := (Array.getElem?_eq_some_iff.1 KX.out).1
            have hzV := HBV.out.size
            have t0 := row_cells KX.out 0
            have t1 := row_cells KX.out 1
            have t2 := row_cells KX.out 2
            clear hV h0 h1 h2 hix HOWN
            go_wp2_with fail
            refine (HIN.out _).mono ?_
            rintro e _ ⟨rfl, rfl⟩
            go_wp2_with (at_builtin; refine wpList_app 40 9 16 Tryz.underlying40 i0 _ HI.out HZ0.out HZ1.out HZ2.out rfl rfl _ _ rfl w.heap.size ad' k c' _ rfl HOV.out _ _ rfl rfl (by unfold maxLen; omega) (by omega) hzV ?_; intro ad6 c6 w3 hown3 hb3 hg3 hz3; have HOWN3 := Lib.hid hown3; have HB3 := Lib.hid hb3; clear hown3 hb3 hg3 hz3)
            go_roundw
            case rel => exact ⟨k + 1, ad6, c6, by go_num, by omega, rfl, HNX.out, by rw [HTS.out, strs_app, HTX.out]; exact HOWN3.out, HBV.out.trans HB3.out⟩
            case measure => simp [intOf]; omega
          · have HSB := Lib.hid (HBD.out (by unfold isMarkV; rw [decide_eq_false hm, Bool.and_false]))
            rw [decide_eq_false hm] at HIN
            generalize p1.getD 0 0 = ch at *
            generalize bs p1 = X at *
            clear HTX1 HWD hbz HESC HES HIT HBD HNX0 hm hl1
            go_upto_region 6 with (fail)
            refine wp_at_worldH ?_
            intro V hV
            have KX : Hid (V.heap[wr.heap.size]? = some (.cells #[.int .i64 3, .string X, .int .i64 p2] 38 (0, 0))) := by rw [hV]; exact row_new _ _ _
            have HBV : Hid (Below w.heap.size w V) := by rw [hV]; exact HBL.out.alloc hzr _
            have HOV : Hid (V.ownsRow w.heap.size 9 1 (.slice ad' k c') k (strs ((ps.take k).map (fun t => bs (wordZ t))))) := by rw [hV]; exact World.ownsRow.alloc HOWN.out _
            have hVz : wr.heap.size < V.heap.size := (Array.getElem?_eq_some_iff.1 KX.out).1
            have hzV := HBV.out.size
            have t0 := row_cells KX.out 0
            have t1 := row_cells KX.out 1
            have t2 := row_cells KX.out 2
            clear hV h0 h1 h2 hix HOWN
            go_wp2_with fail
            refine (HIN.out _).mono ?_
            rintro e _ ⟨rfl, rfl⟩
            go_wp2_with fail
            exact bodyPost_ret (v := .tuple #[.string ⟨#[]⟩, .int .i64 1]) (by simp [results, Tryz.f6, go_sem]) rfl ⟨by rw [HSB.out]; rfl, HBV.out⟩
        · have HSB := Lib.hid (HBD.out (by unfold isMarkV; rw [decide_eq_false hl1]; rfl))
          have g1 : (((bs p1).size : Int) == 1) = false := by rw [hbz, beq_eq_false_iff_ne]; omega
          have g2 : ¬ ((bs p1).size : Int) = 1 := by omega
          have g3 : ¬ (bs p1).size = 1 := by omega
          generalize bs p1 = X at *
          clear HTX1 HWD hbz HESC HES HIT HBD HNX0 hl1 HIN
          go_upto_region 6 with (fail)
          refine wp_at_worldH ?_
          intro V hV
          have KX : Hid (V.heap[wr.heap.size]? = some (.cells #[.int .i64 3, .string X, .int .i64 p2] 38 (0, 0))) := by rw [hV]; exact row_new _ _ _
          have HBV : Hid (Below w.heap.size w V) := by rw [hV]; exact HBL.out.alloc hzr _
          have HOV : Hid (V.ownsRow w.heap.size 9 1 (.slice ad' k c') k (strs ((ps.take k).map (fun t => bs (wordZ t))))) := by rw [hV]; exact World.ownsRow.alloc HOWN.out _
          have hVz : wr.heap.size < V.heap.size := (Array.getElem?_eq_some_iff.1 KX.out).1
          have hzV := HBV.out.size
          have t0 := row_cells KX.out 0
          have t1 := row_cells KX.out 1
          have t2 := row_cells KX.out 2
          clear hV h0 h1 h2 hix HOWN
          go_wp2_with fail
          exact bodyPost_ret (v := .tuple #[.string ⟨#[]⟩, .int .i64 1]) (by simp [results, Tryz.f6, go_sem]) rfl ⟨by rw [HSB.out]; rfl, HBV.out⟩
      by_cases e2 : p0 = 2
      · subst e2
        rw [okZ_2] at HNX0 HBD
        have hez : (bs (escS p1)).size ≤ 2000 := by rw [bs_size]; have := escS_len p1; omega
        have HTX : Hid (bs (wordZ (2, p1, p2)) = ⟨#[34]⟩ ++ bs (escS p1) ++ ⟨#[34]⟩) := by
          unfold Hid wordZ
          rw [if_pos rfl, show (⟨#[34]⟩ : ByteArray) = bs [34] from rfl, bs_append, bs_append]
          rfl
        generalize isTextV p1 = B at *
        generalize bs (escS p1) = T1 at *
        generalize bs p1 = X at *
        clear HWD HIN hbz HES HIT
        cases B
        · have HSB := Lib.hid (HBD.out rfl)
          clear HBD HNX0 HESC
          go_upto_region 6 with (fail)
          refine wp_at_worldH ?_
          intro V hV
          have KX : Hid (V.heap[wr.heap.size]? = some (.cells #[.int .i64 2, .string X, .int .i64 p2] 38 (0, 0))) := by rw [hV]; exact row_new _ _ _
          have HBV : Hid (Below w.heap.size w V) := by rw [hV]; exact HBL.out.alloc hzr _
          have HOV : Hid (V.ownsRow w.heap.size 9 1 (.slice ad' k c') k (strs ((ps.take k).map (fun t => bs (wordZ t))))) := by rw [hV]; exact World.ownsRow.alloc HOWN.out _
          have hVz : wr.heap.size < V.heap.size := (Array.getElem?_eq_some_iff.1 KX.out).1
          have hzV := HBV.out.size
          have t0 := row_cells KX.out 0
          have t1 := row_cells KX.out 1
          have t2 := row_cells KX.out 2
          clear hV h0 h1 h2 hix HOWN
          go_wp2_with fail
          refine (HTX1.out _ HBV.out).mono ?_
          rintro e w2 ⟨rfl, hb2⟩
          replace KX : Hid (w2.heap[wr.heap.size]? = some (.cells #[.int .i64 2, .string X, .int .i64 p2] 38 (0, 0))) := (hb2.block wr.heap.size hVz).trans KX.out
          replace HBV : Hid (Below w.heap.size w w2) := HBV.out.trans (hb2.mono hzV)
          replace HOV := Lib.hid (own_below2 HOV.out hb2)
          replace hVz : wr.heap.size < w2.heap.size := (Array.getElem?_eq_some_iff.1 KX.out).1
          replace hzV := HBV.out.size
          clear hb2 t0 t1 t2
          have t0 := row_cells KX.out 0
          have t1 := row_cells KX.out 1
          have t2 := row_cells KX.out 2
          go_wp2_with fail
          exact bodyPost_ret (v := .tuple #[.string ⟨#[]⟩, .int .i64 1]) (by simp [results, Tryz.f6, go_sem]) rfl ⟨by rw [HSB.out]; rfl, HBV.out⟩
        · have HNX := Lib.hid (HNX0.out rfl)
          have z1 : (⟨#[34]⟩ : ByteArray).size = 1 := rfl
          have a1 := fun w => run_string_add_sum (P := Tryz.prog) (w := w) ⟨#[34]⟩ T1 (by omega)
          have a2 := fun w => run_string_add_sum (P := Tryz.prog) (w := w) (⟨#[34]⟩ ++ T1) ⟨#[34]⟩ (by rw [ByteArray.size_append]; omega)
          clear HBD HNX0 z1
          go_upto_region 6 with (fail)
          refine wp_at_worldH ?_
          intro V hV
          have KX : Hid (V.heap[wr.heap.size]? = some (.cells #[.int .i64 2, .string X, .int .i64 p2] 38 (0, 0))) := by rw [hV]; exact row_new _ _ _
          have HBV : Hid (Below w.heap.size w V) := by rw [hV]; exact HBL.out.alloc hzr _
          have HOV : Hid (V.ownsRow w.heap.size 9 1 (.slice ad' k c') k (strs ((ps.take k).map (fun t => bs (wordZ t))))) := by rw [hV]; exact World.ownsRow.alloc HOWN.out _
          have hVz : wr.heap.size < V.heap.size := (Array.getElem?_eq_some_iff.1 KX.out).1
          have hzV := HBV.out.size
          have t0 := row_cells KX.out 0
          have t1 := row_cells KX.out 1
          have t2 := row_cells KX.out 2
          clear hV h0 h1 h2 hix HOWN
          go_wp2_with fail
          refine (HTX1.out _ HBV.out).mono ?_
          rintro e w2 ⟨rfl, hb2⟩
          replace KX : Hid (w2.heap[wr.heap.size]? = some (.cells #[.int .i64 2, .string X, .int .i64 p2] 38 (0, 0))) := (hb2.block wr.heap.size hVz).trans KX.out
          replace HBV : Hid (Below w.heap.size w w2) := HBV.out.trans (hb2.mono hzV)
          replace HOV := Lib.hid (own_below2 HOV.out hb2)
          replace hVz : wr.heap.size < w2.heap.size := (Array.getElem?_eq_some_iff.1 KX.out).1
          replace hzV := HBV.out.size
          clear hb2 t0 t1 t2
          have t0 := row_cells KX.out 0
          have t1 := row_cells KX.out 1
          have t2 := row_cells KX.out 2
          go_wp2_with fail
          refine (HESC.out _ HBV.out).mono ?_
          rintro e w4 ⟨rfl, hb2⟩
          replace KX : Hid (w4.heap[wr.heap.size]? = some (.cells #[.int .i64 2, .string X, .int .i64 p2] 38 (0, 0))) := (hb2.block wr.heap.size hVz).trans KX.out
          replace HBV : Hid (Below w.heap.size w w4) := HBV.out.trans (hb2.mono hzV)
          replace HOV := Lib.hid (own_below2 HOV.out hb2)
          replace hVz : wr.heap.size < w4.heap.size := (Array.getElem?_eq_some_iff.1 KX.out).1
          replace hzV := HBV.out.size
          clear hb2 t0 t1 t2
          have t0 := row_cells KX.out 0
          have t1 := row_cells KX.out 1
          have t2 := row_cells KX.out 2
          go_wp2_with (at_builtin; refine wpList_app 40 9 16 Tryz.underlying40 i0 _ HI.out HZ0.out HZ1.out HZ2.out rfl rfl _ _ rfl w.heap.size ad' k c' _ rfl HOV.out _ _ rfl rfl (by unfold maxLen; omega) (by omega) hzV ?_; intro ad6 c6 w3 hown3 hb3 hg3 hz3; have HOWN3 := Lib.hid hown3; have HB3 := Lib.hid hb3; clear hown3 hb3 hg3 hz3)
          go_roundw
          case rel => exact ⟨k + 1, ad6, c6, by go_num, by omega, rfl, HNX.out, by rw [HTS.out, strs_app, HTX.out]; exact HOWN3.out, HBV.out.trans HB3.out⟩
          case measure => simp [intOf]; omega
      · have HSB := Lib.hid (HBD.out (okZ_else e1 e2 e3 p1 p2))
        have g1 : (p0 == 1) = false := by simp only [beq_eq_false_iff_ne]; exact e1
        have g2 : (p0 == 2) = false := by simp only [beq_eq_false_iff_ne]; exact e2
        have g3 : (p0 == 3) = false := by simp only [beq_eq_false_iff_ne]; exact e3
        generalize bs p1 = X at *
        clear HTX1 HWD hbz HESC HES HIT HBD HNX0 HIN
        go_upto_region 6 with (fail)
        refine wp_at_worldH ?_
        intro V hV
        have KX : Hid (V.heap[wr.heap.size]? = some (.cells #[.int .i64 p0, .string X, .int .i64 p2] 38 (0, 0))) := by rw [hV]; exact row_new _ _ _
        have HBV : Hid (Below w.heap.size w V) := by rw [hV]; exact HBL.out.alloc hzr _
        have HOV : Hid (V.ownsRow w.heap.size 9 1 (.slice ad' k c') k (strs ((ps.take k).map (fun t => bs (wordZ t))))) := by rw [hV]; exact World.ownsRow.alloc HOWN.out _
        have hVz : wr.heap.size < V.heap.size := (Array.getElem?_eq_some_iff.1 KX.out).1
        have hzV := HBV.out.size
        have t0 := row_cells KX.out 0
        have t1 := row_cells KX.out 1
        have t2 := row_cells KX.out 2
        clear hV h0 h1 h2 hix HOWN
        go_wp2_with fail
        exact bodyPost_ret (v := .tuple #[.string ⟨#[]⟩, .int .i64 1]) (by simp [results, Tryz.f6, go_sem]) rfl ⟨by rw [HSB.out]; rfl, HBV.out⟩
    · obtain rfl : k = n := by omega
      have HOE : Hid (wr.ownsRow w.heap.size 9 1 (.slice ad' k c') k (strs (ps.map (fun t => bs (wordZ t))))) := by
        have := HOWN.out
        rwa [List.take_of_length_le (by rw [HLN.out]; exact Nat.le_refl _)] at this
      have HSP : Hid (spellV ps = (Lib.join (ps.map wordZ) [32], 0)) := by
        unfold Hid spellV
        rw [if_pos (List.all_eq_true.2 (fun x hx => HOKS.out x (by rw [List.take_of_length_le (by rw [HLN.out]; exact Nat.le_refl _)]; exact hx)))]
      by_cases hk0 : k = 0
      · subst hk0
        have hps : ps = [] := List.eq_nil_of_length_eq_zero HLN.out
        go_wp2_with fail
        refine (Tryz.strings_Join_none ad' c' ⟨#[32]⟩ wr).mono ?_
        rintro e w3 ⟨rfl, rfl⟩
        go_wp2_with fail
        exact bodyPost_ret (v := .tuple #[.string ⟨#[]⟩, .int .i64 0]) (by simp [results, Tryz.f6, go_sem]) rfl ⟨by rw [HSP.out, hps]; rfl, HBL.out⟩
      · obtain ⟨g, rfl, hg1, hg2, hg3, hg4, hsl, _⟩ := own_parts HOE.out (by omega)
        have hlen : (ps.map (fun t => bs (wordZ t))).length = k := by rw [List.length_map]; exact HLN.out
        have e1 : (ps.map (fun t => bs (wordZ t))).map (·.data.toList) = ps.map wordZ := by rw [List.map_map]; rfl
        have hJ := Tryz.strings_Join g 0 c' (ps.map (fun t => bs (wordZ t))) ⟨#[32]⟩ wr (fun j x hx => by
            have hj : j < k := by have := (List.getElem?_eq_some_iff.1 hx).1; omega
            rw [hsl.cell j hj, strs_getD _ _ (by omega), List.getD, hx]; rfl) hg2 (by omega) (by omega) (by
            rw [e1]
            have := join_len (ps.map wordZ) 2002 (fun x hx => by
              obtain ⟨p, hp, rfl⟩ := List.mem_map.1 hx
              exact wordZ_len (HSZ.out p hp))
            rw [List.length_map, HLN.out] at this
            have h5 := Nat.mul_le_mul_right 2003 hn
            show (Lib.join (ps.map wordZ) [32]).length ≤ _
            omega)
        rw [hlen, e1] at hJ
        have HJ := Lib.hid hJ
        clear hJ e1 hsl hlen
        go_wp2_with fail
        (with_reducible refine HJ.out.mono ?_)
        rintro e w3 ⟨rfl, hb3⟩
        have HB3 : Hid (Below w.heap.size w w3) := HBL.out.trans (hb3.mono hzr)
        clear hb3
        go_wp2_with fail
        exact bodyPost_ret (v := .tuple #[.string (bs (Lib.join (ps.map wordZ) [32])), .int .i64 0]) (by simp [results, Tryz.f6, go_sem]; rfl) rfl ⟨by rw [HSP.out]; rfl, HB3.out⟩
end Go.Proofs.YtpionddponmdmaaGreatDoor
/- Walks: the reference's Point and One, of any number that four bytes hold. -/
namespace Go.Proofs.YtpionddponmdmaaGreatDoor
open Go.RowKit
attribute [local go_sem] Ext.cell Ext.frozen
attribute [local go_sem ↓] Go.wp_at_zero Go.wp_at_succ
theorem conv4H (x y z t : Int) (a b c d : UInt8) (hx : x = (a.toNat : Int)) (hy : y = (b.toNat : Int)) (hz : z = (c.toNat : Int)) (ht : t = (d.toNat : Int)) (W : World) :
    (convert 59 9 (.slice (some ⟨W.heap.size, 0, none⟩) 4 4)).run Tryz.prog (W.alloc (.cells #[.int .u8 x, .int .u8 y, .int .u8 z, .int .u8 t] 5)) = .ok (.string (bs [a, b, c, d])) (W.alloc (.cells #[.int .u8 x, .int .u8 y, .int .u8 z, .int .u8 t] 5)) := by
  refine run_convert_bytes_back _ 59 9 5 ⟨W.heap.size, 0, none⟩ 4 [a, b, c, d] Tryz.underlying59 Tryz.underlying5 Tryz.underlying9 ?_
  intro j hj
  subst hx hy hz ht
  match j, hj with
  | 0, _ => simp [go_sem, Addr.add]
  | 1, _ => simp [go_sem, Addr.add]
  | 2, _ => simp [go_sem, Addr.add]
  | 3, _ => simp [go_sem, Addr.add]
  | j + 4, hj => exact absurd (show j + 4 < 4 from hj) (by omega)
def oneW (n : Nat) : List UInt8 := if n ≤ 65535 then oneV n else [UInt8.ofNat (240 + n / 262144), UInt8.ofNat (128 + n / 4096 % 64), UInt8.ofNat (128 + n / 64 % 64), UInt8.ofNat (128 + n % 64)]
theorem oneW_len (n : Nat) : (oneW n).length ≤ 4 := by
  unfold oneW
  split
  · have := oneV_len n; omega
  · simp
def pointW (n : Nat) : Bool := decide (n < 55296) || (decide (57343 < n) && decide (n ≤ 1114111))
set_option maxRecDepth 20000 in
set_option maxHeartbeats 4000000 in
theorem ronew_any (n : Nat) (hn : n ≤ 1114111) (w : World) : Calls Tryz.prog 66 #[.int .i64 (n : Int)] w fun e w' => e = .returned (.string (bs (oneW n))) ∧ Below w.heap.size w w' := by
  by_cases h : n ≤ 65535
  · rw [show oneW n = oneV n from by unfold oneW; rw [if_pos h]]
    exact rone_any n h w
  · have g1 : ¬ (n : Int) < 128 := by omega
    have g2 : ¬ (n : Int) < 2048 := by omega
    have g3 : ¬ (n : Int) < 65536 := by omega
    have HE : Hid (oneW n = [UInt8.ofNat (240 + n / 262144), UInt8.ofNat (128 + n / 4096 % 64), UInt8.ofNat (128 + n / 64 % 64), UInt8.ofNat (128 + n % 64)]) := by unfold Hid oneW; rw [if_neg h]
    obtain ⟨A, ha, ha2⟩ := u8_ex (240 + n / 262144) (by omega)
    obtain ⟨B, hb, hb2⟩ := u8_ex (128 + n / 4096 % 64) (by omega)
    obtain ⟨C, hc, hc2⟩ := u8_ex (128 + n / 64 % 64) (by omega)
    obtain ⟨D, hd, hd2⟩ := u8_ex (128 + n % 64) (by omega)
    rw [ha, hb, hc, hd] at HE
    have hcv := conv4H (240 + (n : Int) / 262144) (128 + (n : Int) / 4096 % 64) (128 + (n : Int) / 64 % 64) (128 + (n : Int) % 64) A B C D (by omega) (by omega) (by omega) (by omega)
    clear ha ha2 hb hb2 hc hc2 hd hd2
    go_enter Tryz.func66, Tryz.ntmps66
    go_wp2_with fail
    go_ret
    exact ⟨by rw [HE.out]; rfl, (Below.refl _ _).alloc (Nat.le_refl _) _⟩
set_option maxRecDepth 20000 in
theorem rpointw_any (n : Nat) (hn : n ≤ 100000000) (w : World) : Calls Tryz.prog 65 #[.int .i64 (n : Int)] w fun e w' => e = .returned (.bool (pointW n)) ∧ w = w' := by
  have g0 : (0 : Int) ≤ (n : Int) := by omega
  by_cases h3 : n ≤ 1114111
  · have g00 : (n : Int) ≤ 1114111 := by omega
    rcases (by omega : n < 55296 ∨ (¬ n < 55296 ∧ 57343 < n) ∨ (¬ n < 55296 ∧ ¬ 57343 < n)) with h1 | ⟨h1, h2⟩ | ⟨h1, h2⟩
    · have g1 : (n : Int) < 55296 := by omega
      have HE : Hid (pointW n = true) := by unfold Hid pointW; rw [decide_eq_true h1]; rfl
      go_enter Tryz.func65, Tryz.ntmps65
      go_wp2_with fail
      go_ret
      exact ⟨by rw [HE.out]; rfl, rfl⟩
    · have g1 : ¬ (n : Int) < 55296 := by omega
      have g2 : 57343 < (n : Int) := by omega
      have HE : Hid (pointW n = true) := by unfold Hid pointW; rw [decide_eq_true h2, decide_eq_true h3, Bool.and_self, Bool.or_true]
      go_enter Tryz.func65, Tryz.ntmps65
      go_wp2_with fail
      go_ret
      exact ⟨by rw [HE.out]; rfl, rfl⟩
    · have g1 : ¬ (n : Int) < 55296 := by omega
      have g2 : ¬ 57343 < (n : Int) := by omega
      have HE : Hid (pointW n = false) := by unfold Hid pointW; rw [decide_eq_false h1, decide_eq_false h2]; rfl
      go_enter Tryz.func65, Tryz.ntmps65
      go_wp2_with fail
      go_ret
      exact ⟨by rw [HE.out]; rfl, rfl⟩
  · have g00 : ¬ (n : Int) ≤ 1114111 := by omega
    have HE : Hid (pointW n = false) := by unfold Hid pointW; rw [decide_eq_false (by omega), decide_eq_false h3, Bool.and_false]; rfl
    go_enter Tryz.func65, Tryz.ntmps65
    go_wp2_with fail
    go_ret
    exact ⟨by rw [HE.out]; rfl, rfl⟩
theorem encodeRune_oneW {n : Nat} (h : pointW n = true) : Lib.encodeRune (n : Int) = oneW n := by
  simp only [pointW, Bool.or_eq_true, Bool.and_eq_true, decide_eq_true_eq] at h
  unfold Lib.encodeRune oneW oneV
  by_cases h1 : n ≤ 127
  · rw [Lib.encodeRuneZ_one (by omega) (by omega), if_pos (by omega), if_pos h1]
    rfl
  · by_cases h2 : n ≤ 2047
    · rw [Lib.encodeRuneZ_two (by omega) (by omega), if_pos (by omega), if_neg h1, if_pos h2]
      rfl
    · by_cases h3 : n ≤ 65535
      · rw [Lib.encodeRuneZ_three (by omega), if_pos h3, if_neg h1, if_neg h2]
        rfl
      · rw [Lib.encodeRuneZ_four (by omega) (by omega), if_neg h3]
        rfl
end Go.Proofs.YtpionddponmdmaaGreatDoor
