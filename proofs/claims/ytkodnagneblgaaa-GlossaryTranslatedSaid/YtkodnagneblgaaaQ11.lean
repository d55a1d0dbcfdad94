/- Walks: the places of terms in a text, by the reference, whole. -/
import Derived.Test.YtkodnagneblgaaaQ10
import Derived.DeepKeys4
import Derived.WideKeyPair
namespace Go.Proofs.Ytkodnagneblgaaa
open Go.RowKit Go.Maps Go.Sort
attribute [local go_sem] Ext.cell Ext.frozen
attribute [local go_sem ↓] Go.wp_at_zero Go.wp_at_succ
set_option maxRecDepth 100000 in
set_option maxHeartbeats 8000000 in
theorem rfind_none (lists : List (List ByteArray)) (ws : List ByteArray) (hw : ws = []) (ad0 : Option Addr) (n0 c0 : Nat) (s : ByteArray) (w W2 : World) (lv : Value) (u7 u8 u9 u10 u11 u12 u13 u14 u15 u16 u17 u18 u19 u20 u21 u22 u23 u24 u25 u26 u27 u28 u29 u30 u31 u32 u33 u34 u35 u36 u37 u38 u39 u40 u41 u42 u43 u44 u45 u46 u47 u48 u49 u50 u51 u52 u53 u54 u55 u56 u57 u58 u59 u60 u61 u62 u63 u64 u65 u66 u67 u68 u69 u70 u71 u72 u73 u74 u75 u76 u77 u78 u79 u80 u81 u82 u83 u84 u85 u86 u87 u88 u89 u90 u91 u92 u93 u94 u95 u96 u97 u98 : Value) (hB : Below w.heap.size w W2) :
    (rfindC 7).wp Try.prog (bodyPost Try.prog Try.f28 fun e w' => ∃ ad' c', e = .returned (.slice ad' (findL lists ws).length c') ∧ PrR w' w.heap.size (.slice ad' (findL lists ws).length c') (findL lists ws) ∧ Below w.heap.size w w')
      ⟨#[.slice ad0 n0 c0, .string s, undef, undef, .slice none 0 0, .slice none ws.length 0, lv, u7, u8, u9, u10, u11, u12, u13, u14, u15, u16, u17, u18, u19, u20, u21, u22, u23, u24, u25, u26, u27, u28, u29, u30, u31, u32, u33, u34, u35, u36, u37, u38, u39, u40, u41, u42, u43, u44, u45, u46, u47, u48, u49, u50, u51, u52, u53, u54, u55, u56, u57, u58, u59, u60, u61, u62, u63, u64, u65, u66, u67, u68, u69, u70, u71, u72, u73, u74, u75, u76, u77, u78, u79, u80, u81, u82, u83, u84, u85, u86, u87, u88, u89, u90, u91, u92, u93, u94, u95, u96, u97, u98], []⟩ W2 := by
  dsimp only
  conv => arg 2; whnf
  have HB := Lib.hid hB
  have HF : Hid (findL lists ws = []) := by rw [hw]; rfl
  have hw0 : ws.length = 0 := by rw [hw]; rfl
  rw [hw0]
  clear hB hw hw0
  go_wp2_with fail
  refine wp_loop_rounds 1 ?_
  rw [rounds_succ]
  go_wp2_with fail
  go_ret
  rw [HF.out]
  exact ⟨none, 0, rfl, World.ownsRow_nil _ _ _ _, HB.out⟩
set_option maxRecDepth 100000 in
set_option maxHeartbeats 8000000 in
theorem rfind_any (terms : List ByteArray) (ad : Option Addr) (n c : Nat) (s : ByteArray) (w : World) (ht : Sl w ad n (strs terms)) (hn : n ≤ 40) (hz : ∀ s ∈ terms, s.size ≤ 1000000) (hs : s.size ≤ 1000000) :
    Calls Try.prog 28 #[.slice ad n c, .string s] w fun e w' => ∃ ad' c', e = .returned (.slice ad' (findL (terms.map wordsB) (wordsB s)).length c') ∧ PrR w' w.heap.size (.slice ad' (findL (terms.map wordsB) (wordsB s)).length c') (findL (terms.map wordsB) (wordsB s)) ∧ Below w.heap.size w w' := by
  have hl := ht.len
  rw [strs_length] at hl
  have HWD := Lib.hid rwords_any
  have HHS := Lib.hid hs
  have HS := Lib.hid ht
  have HZ := Lib.hid hz
  have HL := Lib.hid hl
  have HLL : Hid ((terms.map wordsB).length = n) := by rw [Hid, List.length_map]; exact hl
  have HLN := Lib.hid (lnW_map terms hz)
  clear ht hz hl
  go_enter Try.func28, Try.ntmps28
  go_wp2_with fail
  refine (HWD.out s _ HHS.out).mono ?_
  rintro e W1 ⟨aw, cw, rfl, hown1, hb1⟩
  have HB1 := Lib.hid hb1
  have HO1 := Lib.hid hown1
  clear hown1 hb1
  go_wp2_with fail
  rename_i K9 hK9
  have HK9 := Lib.hid hK9
  clear hK9
  go_loopw [6, 7] (fun v u wr => ∃ (i : Nat) (svs : List Value) (av : Option Addr) (cv : Nat), u = .int .i64 (i : Int) ∧ v = .slice av svs.length cv ∧ i ≤ n ∧ WordsAt wr W1.heap.size (.slice av svs.length cv) svs ((terms.map wordsB).take i) ∧ Below W1.heap.size W1 wr) (fun _ u _ => n - (intOf u).toNat)
  case atStart => exact ⟨0, [], none, 0, rfl, rfl, Nat.zero_le _, ⟨World.ownsRow_nil _ _ _ _, by simp, fun j hj => by simp at hj⟩, Below.refl _ _⟩
  case round =>
    obtain ⟨i, svs, av, cv, rfl, rfl, hin, hwa, hbl⟩ := hrel
    have HW := Lib.hid hwa
    have HB := Lib.hid hbl
    clear hwa hbl
    have hsl : svs.length = i := by
      have := HW.out.len
      rw [List.length_take, HLL.out, Nat.min_eq_left hin] at this
      exact this
    by_cases hlt : i < n
    · obtain ⟨b0, o0, hsa⟩ := (HS.out.below HB1.out).below HB.out
      have hix0 := fun W => hsa.ix (c := c) 39 9 Try.underlying39 cellsStr hlt W
      have hc0 := hsa.cell i hlt
      rw [strs_getD _ _ (by rw [HL.out]; exact hlt)] at hc0
      have HSZ := Lib.hid (HZ.out (terms.getD i .empty) (getD_mem _ _ _ (by rw [HL.out]; exact hlt)))
      have HLI : Hid ((terms.map wordsB).getD i [] = wordsB (terms.getD i .empty)) := by
        rw [Hid, List.getD_eq_getElem?_getD, List.getElem?_map, List.getD_eq_getElem?_getD, List.getElem?_eq_getElem (by rw [HL.out]; exact hlt)]
        rfl
      have hlz : (i : Int) < (n : Int) := by omega
      have HSL := Lib.hid hsl
      clear hsa hsl
      generalize terms.getD i .empty = st at *
      go_wp2_with fail
      refine (HWD.out st _ HSZ.out).mono ?_
      rintro e W3 ⟨a3, c3, rfl, hown3, hb3⟩
      have HW3 := Lib.hid (HW.out.below hb3)
      have HB3 := Lib.hid (HB.out.trans (hb3.mono HB.out.size))
      have HO3 : Hid (StrR W3 W1.heap.size (.slice a3 (wordsB st).length c3) (wordsB st)) := Own.rebase hown3 HB.out.size
      have hz3 : W1.heap.size ≤ W3.heap.size := HB3.out.size
      clear hown3 hb3 HW HB hix0 hc0
      obtain ⟨lw, hlw⟩ : ∃ lw, (wordsB st).length = lw := ⟨_, rfl⟩
      rw [hlw] at HO3 ⊢
      clear hlw
      go_wp2_with (at_builtin; refine appStrs rfl _ _ rfl W1.heap.size _ _ _ _ rfl HW3.out.row _ _ rfl rfl (by have := HSL.out; unfold maxLen; omega) (by have := HSL.out; omega) hz3 ?_; intro ad6 c6 w6 hown6 hb6 hg6 hz6; have HO6 := Lib.hid hown6; have HB6 := Lib.hid hb6; have HG6 := Lib.hid hg6; clear hown6 hb6 hg6 hz6)
      have HW6 := Lib.hid (HW3.out.push (by rw [HLL.out]; exact hlt) (by rw [HLI.out]; exact HO3.out) HG6.out HO6.out)
      go_roundw
      case rel => exact ⟨i + 1, svs ++ [.slice a3 lw c3], ad6, c6, by go_num, by rw [List.length_append]; rfl, by omega, by rw [List.length_append]; exact HW6.out, HB3.out.trans HB6.out⟩
      case measure => simp [intOf]; omega
    · obtain rfl : i = n := by omega
      have hwf : WordsAt wr W1.heap.size (.slice av svs.length cv) svs (terms.map wordsB) := by
        have := HW.out
        rwa [List.take_of_length_le (by rw [HLL.out]; exact Nat.le_refl _)] at this
      have HWF := Lib.hid hwf
      clear hwf hsl
      have hwle := wordsB_le s
      go_wp2_with fail
      refine HK9.out _ _ ?_
      have HBF : Below w.heap.size w wr := HB1.out.trans (HB.out.mono HB1.out.size)
      rcases HO1.out.2 with ⟨e0, h0⟩ | ⟨g, cap, cur, e0, _, hcur, hnc, hcm, _, _⟩
      · have hwn : wordsB s = [] := List.eq_nil_of_length_eq_zero h0
        injection e0 with e1 e2 e3
        subst e1 e3
        exact rfind_none (terms.map wordsB) (wordsB s) hwn ad i c s w wr _ _ _ _ _ _ _ _ _ _ _ _ _ _ _ _ _ _ _ _ _ _ _ _ _ _ _ _ _ _ _ _ _ _ _ _ _ _ _ _ _ _ _ _ _ _ _ _ _ _ _ _ _ _ _ _ _ _ _ _ _ _ _ _ _ _ _ _ _ _ _ _ _ _ _ _ _ _ _ _ _ _ _ _ _ _ _ _ _ _ _ _ _ HBF
      · injection e0 with e1 e2 e3
        subst e1 e3
        have hg1 : g < W1.heap.size := (Array.getElem?_eq_some_iff.1 hcur).1
        obtain ⟨b5, o5, hsa⟩ := Own.sl HO1.out
        refine rfind_loop (terms.map wordsB) (by rw [HLL.out]; omega) ad i c s w wr W1.heap.size av cv svs g (wordsB s).length cw (wordsB s) _ _ _ _ _ _ _ _ _ _ _ _ _ _ _ _ _ _ _ _ _ _ _ _ _ _ _ _ _ _ _ _ _ _ _ _ _ _ _ _ _ _ _ _ _ _ _ _ _ _ _ _ _ _ _ _ _ _ _ _ _ _ _ _ _ _ _ _ _ _ _ _ _ _ _ _ _ _ _ _ _ _ _ _ _ _ _ _ _ _ _ _ HBF HWF.out HLN.out rfl (by omega) hnc (by unfold maxLen at hcm; omega) (by have := HB.out.size; omega) (fun j hj => ?_)
        have h1 := hsa.cell j hj
        have h2 := hsa.adr (by omega)
        injection h2 with h2
        injection h2 with h2 h3
        subst h2 h3
        rw [strs_getD _ _ hj, Nat.zero_add] at h1
        exact (HB.out.cell (p := ⟨g, j, none⟩) hg1).trans h1
end Go.Proofs.Ytkodnagneblgaaa
/- Walks: Find, by the program and by the reference, at few short terms. -/
namespace Go.Proofs.Ytkodnagneblgaaa
open Go.RowKit Go.Maps Go.Sort
attribute [local go_sem] Ext.cell Ext.frozen
attribute [local go_sem ↓] Go.wp_at_zero Go.wp_at_succ
theorem long_any (s : ByteArray) (w : World) (hs : s.size ≤ 20000) : Calls Try.prog 37 #[.string s] w fun e w' => e = .returned (.bool false) ∧ w = w' := by
  have h1 : ¬ (20000 : Int) < (s.size : Int) := by omega
  go_enter Try.func37, Try.ntmps37
  go_wp2_with fail
  go_ret
  exact ⟨by simp, rfl⟩
theorem indexLong_any (terms : List ByteArray) (ad : Option Addr) (n c : Nat) (w : World) (hs : Sl w ad n (strs terms)) (hz : ∀ s ∈ terms, s.size ≤ 20000) :
    Calls Try.prog 43 #[.slice ad n c, .func (.func 37) #[] #[]] w fun e w' => e = .returned (.int .i64 (-1)) ∧ w = w' := by
  have hl := hs.len
  rw [strs_length] at hl
  have hmx := hs.max
  have HS := Lib.hid hs
  have HZ := Lib.hid hz
  have HL := Lib.hid hl
  have HLO := Lib.hid long_any
  clear hs hz hl
  go_enter Try.func43, Try.ntmps43
  go_wp2_with fail
  go_loopw [8] (fun u wr => ∃ i : Nat, u = .int .i64 (i : Int) ∧ i ≤ n ∧ wr = w) (fun u _ => n - (intOf u).toNat)
  case atStart => exact ⟨0, rfl, Nat.zero_le _, rfl⟩
  case round =>
    obtain ⟨i, rfl, hin, rfl⟩ := hrel
    by_cases hlt : i < n
    · obtain ⟨b0, o0, hsa⟩ := HS.out
      have hix0 := fun W => hsa.ix (c := c) 39 9 Try.underlying39 cellsStr hlt W
      have hc0 := hsa.cell i hlt
      rw [strs_getD _ _ (by rw [HL.out]; exact hlt)] at hc0
      have HSZ := Lib.hid (HZ.out (terms.getD i .empty) (getD_mem _ _ _ (by rw [HL.out]; exact hlt)))
      have hlz : (i : Int) < (n : Int) := by omega
      clear hsa
      generalize terms.getD i .empty = st at *
      go_wp2_with fail
      refine (HLO.out st _ HSZ.out).mono ?_
      rintro e _ ⟨rfl, rfl⟩
      go_wp2_with fail
      go_roundw
      case rel => exact ⟨i + 1, by go_num, by omega, trivial⟩
      case measure => simp [intOf]; omega
    · obtain rfl : i = n := by omega
      go_wp2_with fail
      go_ret
      exact ⟨rfl, rfl⟩
theorem containsLong_any (terms : List ByteArray) (ad : Option Addr) (n c : Nat) (w : World) (hs : Sl w ad n (strs terms)) (hz : ∀ s ∈ terms, s.size ≤ 20000) :
    Calls Try.prog 36 #[.slice ad n c, .func (.func 37) #[] #[]] w fun e w' => e = .returned (.bool false) ∧ w = w' := by
  have HI := Lib.hid (indexLong_any terms ad n c w hs hz)
  clear hs hz
  go_enter Try.func36, Try.ntmps36
  go_wp2_with fail
  refine HI.out.mono ?_
  rintro e _ ⟨rfl, rfl⟩
  go_wp2_with fail
  go_ret
  exact ⟨rfl, rfl⟩
/-- what Find answers -/
def FindPost (lists : List (List ByteArray)) (ws : List ByteArray) (w : World) (e : Ending) (w' : World) : Prop :=
  ∃ ad' c', e = .returned (.tuple #[.slice ad' (findL lists ws).length c', .int .i64 0]) ∧ PrR w' w.heap.size (.slice ad' (findL lists ws).length c') (findL lists ws) ∧ Below w.heap.size w w'
set_option maxHeartbeats 1000000 in
theorem pfind_any (terms : List ByteArray) (ad : Option Addr) (n c : Nat) (s : ByteArray) (w : World) (ht : Sl w ad n (strs terms)) (hn : n ≤ 40) (hz : ∀ s ∈ terms, s.size ≤ 20000) (hs : s.size ≤ 20000) :
    Calls Try.prog 21 #[.slice ad n c, .string s] w (FindPost (terms.map wordsB) (wordsB s) w) := by
  have HC := Lib.hid (containsLong_any terms ad n c w ht hz)
  have HF := Lib.hid (find_any terms ad n c s w ht hn (fun s h => Nat.le_trans (hz s h) (by omega)) (by omega))
  have h1 : ¬ (200 : Int) < (n : Int) := by omega
  have d1 : decide ((200 : Int) < (n : Int)) = false := decide_eq_false h1
  have h2 : ¬ (20000 : Int) < (s.size : Int) := by omega
  have d2 : decide ((20000 : Int) < (s.size : Int)) = false := decide_eq_false h2
  clear ht hz
  unfold FindPost
  generalize findL (terms.map wordsB) (wordsB s) = fl at *
  go_enter Try.func21, Try.ntmps21
  go_wp2_with fail
  refine HC.out.mono ?_
  rintro e _ ⟨rfl, rfl⟩
  go_wp2_with fail
  refine HF.out.mono ?_
  rintro e w1 ⟨ad', c', rfl, hpr, hbl⟩
  have HPR := Lib.hid hpr
  have HBL := Lib.hid hbl
  clear hpr hbl
  go_wp2_with fail
  go_ret2
  exact ⟨ad', c', rfl, HPR.out, HBL.out⟩
set_option maxHeartbeats 1000000 in
theorem prfind_any (terms : List ByteArray) (ad : Option Addr) (n c : Nat) (s : ByteArray) (w : World) (ht : Sl w ad n (strs terms)) (hn : n ≤ 40) (hz : ∀ s ∈ terms, s.size ≤ 20000) (hs : s.size ≤ 20000) :
    Calls Try.prog 22 #[.slice ad n c, .string s] w (FindPost (terms.map wordsB) (wordsB s) w) := by
  have hl := ht.len
  rw [strs_length] at hl
  have HS := Lib.hid ht
  have HZ := Lib.hid hz
  have HL := Lib.hid hl
  have HF := Lib.hid (fun W (h : Below w.heap.size w W) => rfind_any terms ad n c s W (ht.below h) hn (fun s h => Nat.le_trans (hz s h) (by omega)) (by omega))
  have h1 : ¬ (200 : Int) < (n : Int) := by omega
  have d1 : decide ((200 : Int) < (n : Int)) = false := decide_eq_false h1
  have h2 : ¬ (20000 : Int) < (s.size : Int) := by omega
  have d2 : decide ((20000 : Int) < (s.size : Int)) = false := decide_eq_false h2
  clear ht hz hl
  unfold FindPost
  generalize findL (terms.map wordsB) (wordsB s) = fl at *
  go_enter Try.func22, Try.ntmps22
  go_wp2_with fail
  go_loopw [6] (fun u wr => ∃ i : Nat, u = .int .i64 (i : Int) ∧ i ≤ n ∧ wr = w) (fun u _ => n - (intOf u).toNat)
  case atStart => exact ⟨0, rfl, Nat.zero_le _, rfl⟩
  case round =>
    obtain ⟨i, rfl, hin, rfl⟩ := hrel
    by_cases hlt : i < n
    · obtain ⟨b0, o0, hsa⟩ := HS.out
      have hix0 := fun W => hsa.ix (c := c) 39 9 Try.underlying39 cellsStr hlt W
      have hc0 := hsa.cell i hlt
      rw [strs_getD _ _ (by rw [HL.out]; exact hlt)] at hc0
      have hsz := HZ.out (terms.getD i .empty) (getD_mem _ _ _ (by rw [HL.out]; exact hlt))
      have h3 : ¬ (20000 : Int) < ((terms.getD i .empty).size : Int) := by omega
      have hlz : (i : Int) < (n : Int) := by omega
      clear hsa hsz
      generalize terms.getD i .empty = st at *
      go_wp2_with fail
      go_roundw
      case rel => exact ⟨i + 1, by go_num, by omega, trivial⟩
      case measure => simp [intOf]; omega
    · obtain rfl : i = n := by omega
      go_wp2_with fail
      refine (HF.out _ (Below.refl _ _)).mono ?_
      rintro e w1 ⟨ad', c', rfl, hpr, hbl⟩
      have HPR := Lib.hid hpr
      have HBL := Lib.hid hbl
      clear hpr hbl
      go_wp2_with fail
      go_ret2
      exact ⟨ad', c', rfl, HPR.out, HBL.out⟩
end Go.Proofs.Ytkodnagneblgaaa
/- Terms in memory; a set of pairs of strings; counts of strings. -/
namespace Go.Proofs.Ytkodnagneblgaaa
open Go.RowKit Go.Maps Go.Sort
/-- a term -/
structure Tm where
  s : ByteArray
  t : ByteArray
  f : Bool
deriving Inhabited
def tm0 : Tm := ⟨.empty, .empty, false⟩
/-- the cells of terms -/
def tmC (ts : List Tm) (i j : Nat) : Value := match j with
  | 0 => .string (ts.getD i tm0).s
  | 1 => .string (ts.getD i tm0).t
  | _ => .bool (ts.getD i tm0).f
/-- a slice of terms -/
def TmAt (w : World) (ad : Option Addr) (n : Nat) (ts : List Tm) : Prop := ts.length = n ∧ ∃ b off, Rw w ad n 3 (tmC ts) b off
theorem TmAt.below {w w' : World} {ad : Option Addr} {n : Nat} {ts : List Tm} (h : TmAt w ad n ts) (hb : Below w.heap.size w w') : TmAt w' ad n ts := by
  obtain ⟨h1, b, off, h2⟩ := h
  exact ⟨h1, b, off, h2.below hb⟩
theorem tmC_snoc (ts : List Tm) (x : Tm) (i j : Nat) (h : i < ts.length) : tmC (ts ++ [x]) i j = tmC ts i j := by
  unfold tmC
  rw [getD_snoc_lt _ _ _ _ h]
theorem infoTm : (Try.prog.info? 53).map (fun i => (i.zero, i.size, i.bytes)) = some (some (.agg #[.string .empty, .string .empty, .bool false]), 3, 40) := by kernel_rfl
theorem cellsTm : Try.prog.cellsOf 53 = 3 := by kernel_rfl
theorem cellsRTm : Try.prog.cellsOf 48 = 3 := by kernel_rfl
/-- pairs of strings as keys -/
theorem cellsPairS : Try.prog.cellsOf 65 = 2 := by kernel_rfl
theorem arrPair : WideMaps.ArrKey Try.prog 65 9 2 := ⟨Try.underlying65, by kernel_rfl, by kernel_rfl, cellsPairS⟩
theorem laidOutG : laidOutB Try.prog = true := by kernel_rfl
theorem lawPair : Keyed Try.prog 65 := Keyed.of_law (deep_law_laid laidOutG (m := 2) (by omega) (of_decide_eq_true (by kernel_rfl)) (by kernel_rfl) (by rw [Try.underlying65]))
theorem typesSize : ∃ m, Try.prog.types.size = m + 1 := ⟨117, by kernel_rfl⟩
theorem keyPair {a b : ByteArray} (ha : a.size ≤ maxLen) (hb : b.size ≤ maxLen) : keyOf Try.prog 65 (.agg #[.string a, .string b]) = some (.string (keyBytes [.string a.data.toList, .string b.data.toList])) := by
  have hkt := arrPair.keyType typesSize
  obtain ⟨m, hm⟩ := typesSize
  unfold keyOf
  simp only [arrPair.hu]
  rw [if_pos (by simp [hkt, Value.formed, arrPair.hu, arrPair.size]), hm]
  unfold Program.keyLits
  simp only [arrPair.hu, Value.cells]
  rw [if_pos (by rw [arrPair.size]; rfl), show List.range 2 = [0, 1] from rfl, List.mapM_cons, List.mapM_cons, List.mapM_nil]
  simp [arrPair.one, Program.keyLits, Try.underlying9, ha, hb]
end Go.Proofs.Ytkodnagneblgaaa
/- Sets of strings and of pairs of strings, and counts of strings, in maps of the call's own. -/
namespace Go.Proofs.Ytkodnagneblgaaa
open Go.RowKit Go.Maps Go.Sort
theorem boolInv {P : Program} {e : TypeId} (he : P.underlying e = some .bool) {v : Value} {x : Bool} {ps : List MemPlace} (h : plainElem (H := Unit) P e v = some (.lit (.bool x), ps)) : v = .bool x := by
  unfold plainElem at h
  rw [he] at h
  cases v <;> simp at h
  rw [h.1]
theorem intInv {P : Program} {e : TypeId} {q : IntKind} (he : P.underlying e = some (.int q)) {v : Value} {x : Int} {ps : List MemPlace} (h : plainElem (H := Unit) P e v = some (.lit (.int q x), ps)) : v = .int q x := by
  obtain ⟨a, rfl, h2, _⟩ := plainElem_int_inv he h
  simp only [Prod.mk.injEq, DataW.lit.injEq, Lit.int.injEq, true_and] at h2
  rw [h2.1]
/-- is a pair in a list -/
def memP (a b : ByteArray) (ks : List (ByteArray × ByteArray)) : Bool := ks.any fun x => decide (x.1 = a ∧ x.2 = b)
def memS (s : ByteArray) (ks : List ByteArray) : Bool := ks.any fun x => decide (x = s)
theorem memP_snoc (a b c d : ByteArray) (ks : List (ByteArray × ByteArray)) : memP a b (ks ++ [(c, d)]) = (memP a b ks || decide (c = a ∧ d = b)) := by simp [memP]
theorem memS_snoc (s c : ByteArray) (ks : List ByteArray) : memS s (ks ++ [c]) = (memS s ks || decide (c = s)) := by simp [memS]
theorem memS_iff {s : ByteArray} {ks : List ByteArray} : memS s ks = true ↔ s ∈ ks := by simp [memS]
/-- a set of pairs -/
def SeenP (w : World) (M n : Nat) (ks : List (ByteArray × ByteArray)) : Prop :=
  ∃ D : DataW Unit, w.ownsMap Try.prog 65 (plainElem Try.prog 4) M n D ∧ IsMap D ∧ ∀ (a b : ByteArray), a.size ≤ maxLen → b.size ≤ maxLen → ∀ kl, keyOf Try.prog 65 (.agg #[.string a, .string b]) = some kl → D.atKey kl (.lit (.bool false)) = .lit (.bool (memP a b ks))
theorem SeenP.made (w : World) : SeenP (w.alloc (.map #[] 0)) w.heap.size 0 [] :=
  ⟨.map [], World.ownsMap_made _ _ _ _, isMap_empty, fun a b _ _ kl _ => by simp [DataW.atKey, memP]⟩
theorem SeenP.lt {w : World} {M n : Nat} {ks : List (ByteArray × ByteArray)} (h : SeenP w M n ks) : M < w.heap.size := by obtain ⟨D, h, _⟩ := h; exact h.lt
theorem SeenP.same {w w' : World} {M n : Nat} {ks : List (ByteArray × ByteArray)} (h : SeenP w M n ks) (hb : w'.heap[M]? = w.heap[M]?) : SeenP w' M n ks := by
  obtain ⟨D, ⟨es, clock, h1, h2⟩, h3⟩ := h
  exact ⟨D, ⟨es, clock, hb.trans h1, h2⟩, h3⟩
theorem SeenP.below {w w' : World} {M n : Nat} {ks : List (ByteArray × ByteArray)} (h : SeenP w M n ks) (hb : Below w.heap.size w w') : SeenP w' M n ks := h.same (hb.block _ h.lt)
theorem SeenP.look {w : World} {M n : Nat} {ks : List (ByteArray × ByteArray)} (h : SeenP w M n ks) (a b : ByteArray) (ha : a.size ≤ maxLen) (hb : b.size ≤ maxLen) :
    (Instr.lookup 64 (.map (some M)) (.agg #[.string a, .string b]) false).run Try.prog w = .ok (.bool (memP a b ks)) w := by
  obtain ⟨D, h1, h2, h3⟩ := h
  obtain ⟨v, ps, hrun, hv⟩ := h1.lookup lawPair Try.underlying64 (Try.zeroValue4 w) (plainElem_bool Try.underlying4 false) (keyPair ha hb)
  rw [h3 a b ha hb _ (keyPair ha hb)] at hv
  rw [hrun, boolInv Try.underlying4 hv]
theorem SeenP.put {w : World} {M n : Nat} {ks : List (ByteArray × ByteArray)} (h : SeenP w M n ks) (a b : ByteArray) (ha : a.size ≤ maxLen) (hb : b.size ≤ maxLen) (hn : n < maxLen) :
    ∃ w', (Instr.mapUpdate 64 (.map (some M)) (.agg #[.string a, .string b]) (.bool true)).run Try.prog w = .ok () w' ∧ SeenP w' M (n + 1) (ks ++ [(a, b)]) ∧ w.grownBy w' (some M) := by
  obtain ⟨D, h1, h2, h3⟩ := h
  obtain ⟨w', hrun, hown, hg⟩ := h1.update lawPair Try.underlying64 hn (keyPair ha hb) (plainElem_bool Try.underlying4 true)
  refine ⟨w', hrun, ⟨_, hown, h2.put _ _, fun a' b' ha' hb' kl hk => ?_⟩, hg⟩
  by_cases e : (a', b') = (a, b)
  · obtain ⟨rfl, rfl⟩ := Prod.mk.inj e
    have hkl := Option.some.inj (hk.symm.trans (keyPair ha hb))
    subst hkl
    rw [atKey_put_same h2 (lawPair.key (keyPair ha hb)), memP_snoc, decide_eq_true ⟨rfl, rfl⟩, Bool.or_true]
  · rw [atKey_put_other (fun e' => by
      rw [e'] at hk
      have := lawPair.inj hk (keyPair ha hb)
      simp only [Value.agg.injEq, Array.mk.injEq, List.cons.injEq, Value.string.injEq, and_true] at this
      exact e (Prod.ext this.1 this.2)), h3 a' b' ha' hb' kl hk, memP_snoc, decide_eq_false (fun h => e (Prod.ext h.1.symm h.2.symm)), Bool.or_false]
/-- a set of strings -/
def SeenS (w : World) (M n : Nat) (ks : List ByteArray) : Prop :=
  ∃ D : DataW Unit, w.ownsMap Try.prog 9 (plainElem Try.prog 4) M n D ∧ (∀ s : ByteArray, s.size ≤ maxLen → D.atKey (.string s.data.toList) (.lit (.bool false)) = .lit (.bool (memS s ks))) ∧ (0 < Maps.size D ↔ ks ≠ [])
theorem SeenS.made (w : World) : SeenS (w.alloc (.map #[] 0)) w.heap.size 0 [] :=
  ⟨.map [], World.ownsMap_made _ _ _ _, fun s _ => by simp [DataW.atKey, memS], by simp [Maps.size]⟩
theorem SeenS.lt {w : World} {M n : Nat} {ks : List ByteArray} (h : SeenS w M n ks) : M < w.heap.size := by obtain ⟨D, h, _⟩ := h; exact h.lt
theorem SeenS.same {w w' : World} {M n : Nat} {ks : List ByteArray} (h : SeenS w M n ks) (hb : w'.heap[M]? = w.heap[M]?) : SeenS w' M n ks := by
  obtain ⟨D, ⟨es, clock, h1, h2⟩, h3⟩ := h
  exact ⟨D, ⟨es, clock, hb.trans h1, h2⟩, h3⟩
theorem SeenS.below {w w' : World} {M n : Nat} {ks : List ByteArray} (h : SeenS w M n ks) (hb : Below w.heap.size w w') : SeenS w' M n ks := h.same (hb.block _ h.lt)
theorem SeenS.look {w : World} {M n : Nat} {ks : List ByteArray} (h : SeenS w M n ks) (s : ByteArray) (hs : s.size ≤ maxLen) :
    (Instr.lookup 71 (.map (some M)) (.string s) false).run Try.prog w = .ok (.bool (memS s ks)) w := by
  obtain ⟨D, h1, h3, _⟩ := h
  obtain ⟨v, ps, hrun, hv⟩ := h1.lookup lawStr Try.underlying71 (Try.zeroValue4 w) (plainElem_bool Try.underlying4 false) (keyStr hs)
  rw [h3 s hs] at hv
  rw [hrun, boolInv Try.underlying4 hv]
theorem SeenS.len {w : World} {M n : Nat} {ks : List ByteArray} (h : SeenS w M n ks) : ∃ m : Nat, (0 < m ↔ ks ≠ []) ∧ ∀ ty, (Builtin.len_ #[71] ty #[.map (some M)]).run Try.prog w = .ok (.int .i64 (m : Int)) w := by
  obtain ⟨D, h1, _, h4⟩ := h
  exact ⟨Maps.size D, h4, fun ty => h1.len Try.underlying71 ty⟩
theorem SeenS.put {w : World} {M n : Nat} {ks : List ByteArray} (h : SeenS w M n ks) (s : ByteArray) (hs : s.size ≤ maxLen) (hn : n < maxLen) :
    ∃ w', (Instr.mapUpdate 71 (.map (some M)) (.string s) (.bool true)).run Try.prog w = .ok () w' ∧ SeenS w' M (n + 1) (ks ++ [s]) ∧ w.grownBy w' (some M) := by
  obtain ⟨D, h1, h3, h4⟩ := h
  have ht := h1.tidy lawStr
  obtain ⟨w', hrun, hown, hg⟩ := h1.update lawStr Try.underlying71 hn (keyStr hs) (plainElem_bool Try.underlying4 true)
  refine ⟨w', hrun, ⟨_, hown, fun s' hs' => ?_, ?_⟩, hg⟩
  · by_cases e : s' = s
    · subst e
      rw [atKey_put_same ht.isMap (lawStr.key (keyStr hs)), memS_snoc, decide_eq_true rfl, Bool.or_true]
    · rw [atKey_put_other (by intro e'; injection e' with e'; exact e (ByteArray.ext (Array.ext' e'))), h3 s' hs', memS_snoc, decide_eq_false (fun h => e h.symm), Bool.or_false]
  · refine ⟨fun _ => by simp, fun _ => ?_⟩
    rw [size_put ht]
    cases hh : has D (.string s.data.toList) with
    | false => simp
    | true =>
      simp only [if_true]
      obtain ⟨es, rfl, _⟩ := ht
      cases es with
      | nil => simp [has] at hh
      | cons a b => simp [Maps.size]
/-- counts of strings -/
def CntAt (w : World) (M n : Nat) (cnt : ByteArray → Nat) : Prop :=
  ∃ D : DataW Unit, w.ownsMap Try.prog 9 (plainElem Try.prog 3) M n D ∧ IsMap D ∧ ∀ s : ByteArray, s.size ≤ maxLen → D.atKey (.string s.data.toList) (.lit (.int .i64 0)) = .lit (.int .i64 (cnt s : Int))
theorem CntAt.made (w : World) : CntAt (w.alloc (.map #[] 0)) w.heap.size 0 (fun _ => 0) :=
  ⟨.map [], World.ownsMap_made _ _ _ _, isMap_empty, fun s _ => by simp [DataW.atKey]⟩
theorem CntAt.lt {w : World} {M n : Nat} {cnt : ByteArray → Nat} (h : CntAt w M n cnt) : M < w.heap.size := by obtain ⟨D, h, _⟩ := h; exact h.lt
theorem CntAt.same {w w' : World} {M n : Nat} {cnt : ByteArray → Nat} (h : CntAt w M n cnt) (hb : w'.heap[M]? = w.heap[M]?) : CntAt w' M n cnt := by
  obtain ⟨D, ⟨es, clock, h1, h2⟩, h3⟩ := h
  exact ⟨D, ⟨es, clock, hb.trans h1, h2⟩, h3⟩
theorem CntAt.below {w w' : World} {M n : Nat} {cnt : ByteArray → Nat} (h : CntAt w M n cnt) (hb : Below w.heap.size w w') : CntAt w' M n cnt := h.same (hb.block _ h.lt)
theorem CntAt.look {w : World} {M n : Nat} {cnt : ByteArray → Nat} (h : CntAt w M n cnt) (s : ByteArray) (hs : s.size ≤ maxLen) :
    (Instr.lookup 54 (.map (some M)) (.string s) false).run Try.prog w = .ok (.int .i64 (cnt s : Int)) w := by
  obtain ⟨D, h1, h2, h3⟩ := h
  obtain ⟨v, ps, hrun, hv⟩ := h1.lookup lawStr Try.underlying54 (Try.zeroValue3 w) (plainElem_int Try.underlying3 (by decide)) (keyStr hs)
  rw [h3 s hs] at hv
  rw [hrun, intInv Try.underlying3 hv]
/-- another count at one string -/
def updN (cnt : ByteArray → Nat) (s : ByteArray) (c : Nat) : ByteArray → Nat := fun t => if t = s then c else cnt t
theorem CntAt.put {w : World} {M n : Nat} {cnt : ByteArray → Nat} (h : CntAt w M n cnt) (s : ByteArray) (hs : s.size ≤ maxLen) (hn : n < maxLen) (c : Nat) (hc : c ≤ 9223372036854775807) :
    ∃ w', (Instr.mapUpdate 54 (.map (some M)) (.string s) (.int .i64 (c : Int))).run Try.prog w = .ok () w' ∧ CntAt w' M (n + 1) (updN cnt s c) ∧ w.grownBy w' (some M) := by
  obtain ⟨D, h1, h2, h3⟩ := h
  obtain ⟨w', hrun, hown, hg⟩ := h1.update lawStr Try.underlying54 hn (keyStr hs) (plainElem_int (a := (c : Int)) Try.underlying3 (WalkArith.wf_i64 (by omega)))
  refine ⟨w', hrun, ⟨_, hown, h2.put _ _, fun s' hs' => ?_⟩, hg⟩
  show _ = DataW.lit (Lit.int IntKind.i64 ((if s' = s then c else cnt s' : Nat) : Int))
  by_cases e : s' = s
  · subst e
    rw [atKey_put_same h2 (lawStr.key (keyStr hs)), if_pos rfl]
  · rw [atKey_put_other (by intro e'; injection e' with e'; exact e (ByteArray.ext (Array.ext' e'))), h3 s' hs', if_neg e]
end Go.Proofs.Ytkodnagneblgaaa
/- Walks: terms turned into terms; few terms. -/
namespace Go.Proofs.Ytkodnagneblgaaa
open Go.RowKit Go.Maps Go.Sort
attribute [local go_sem] Ext.cell Ext.frozen
attribute [local go_sem ↓] Go.wp_at_zero Go.wp_at_succ
/-- terms, all cells in a row -/
def tmF (ts : List Tm) : List Value := ts.flatMap fun x => [.string x.s, .string x.t, .bool x.f]
theorem tmF_snoc (ts : List Tm) (x : Tm) : tmF (ts ++ [x]) = tmF ts ++ [.string x.s, .string x.t, .bool x.f] := by simp [tmF]
theorem list_range {α : Type} (l : List α) (d : α) : l = (List.range l.length).map (fun i => l.getD i d) := by
  apply List.ext_getElem
  · simp
  · intro i h1 h2
    simp [List.getElem?_eq_getElem h1]
theorem tmF_flat (ts : List Tm) : tmF ts = flat 3 (tmC ts) ts.length := by
  have h : tmF ts = tmF ((List.range ts.length).map (fun i => ts.getD i tm0)) := by rw [← list_range]
  rw [h]
  unfold tmF flat
  rw [List.flatMap_map]
  rfl
theorem rw_three (w : World) (x y z : Value) (T : TypeId) : Rw (w.alloc (.cells #[x, y, z] T)) (some ⟨w.heap.size, 0, none⟩) 1 3 (fun _ j => (#[x, y, z] : Array Value).getD j undef) w.heap.size 0 :=
  ⟨by omega, fun _ => rfl, fun i j hi hj => by
    obtain rfl : i = 0 := by omega
    rcases (by omega : j = 0 ∨ j = 1 ∨ j = 2) with e | e | e <;> subst e <;> (rw [Lib.cell_of_heap (heap_alloc_new w _)]; rfl)⟩
/-- a row of terms of the call's own -/
def TmR (w : World) (base : Nat) (v : Value) (ts : List Tm) : Prop := w.ownsRow base 53 3 v ts.length (tmF ts)
theorem TmR.at {w : World} {base : Nat} {ad : Option Addr} {n c : Nat} {ts : List Tm} (h : TmR w base (.slice ad n c) ts) : TmAt w ad n ts := by
  have hn : ts.length = n := by
    rcases h.2 with ⟨e, h0⟩ | ⟨g, cap, cur, e, _⟩
    · injection e with _ e2 _; omega
    · injection e with _ e2 _; exact e2.symm
  unfold TmR at h
  rw [tmF_flat, hn] at h
  obtain ⟨b, hr, _⟩ := own_rw h
  exact ⟨hn, b, 0, hr⟩
theorem appTm {ops : Array Oper} {rest : List Oper} {o : Oper} {a : Act} {Q : Exit → Act → World → Prop} {w : World} (hgd : o.guard = none) (s x : Operand) (ho : o.op = .call { callee := .builtin .append, args := #[s, x], argTypes := #[29, 29] })
    (base : Nat) (ad : Option Addr) (k c : Nat) (ts : List Tm) (hk : ts.length = k) (hs : a.eval s = .slice ad k c) (hown : TmR w base (.slice ad k c) ts) (y : Tm) (T : TypeId) (hxe : a.eval x = .slice (some ⟨w.heap.size, 0, none⟩) 1 1)
    (h63 : k + 1 ≤ maxLen) (hr : (k + 1) * 40 ≤ 140737488355328) (hb : base ≤ w.heap.size)
    (h : ∀ ad' c' w', TmR w' base (.slice ad' (k + 1) c') (ts ++ [y]) → Below base w w' → w.grownBy w' (Value.ownBlock (.slice ad k c)) → wpList Try.prog ops Q rest (a.put o.dst (.slice ad' (k + 1) c')) w') :
    wpList Try.prog ops Q (o :: rest) a (w.alloc (.cells #[.string y.s, .string y.t, .bool y.f] T)) := by
  subst hk
  refine wpList_app_rows hgd s x ho Try.underlying29 infoTm rfl (by omega) base ad ts.length c (tmF ts) hs (World.ownsRow.alloc hown _) (some ⟨w.heap.size, 0, none⟩) 1 1 _ _ _ hxe (rw_three w _ _ _ T) (fun e => by cases e)
    (fun i j _ hj => by rcases (by omega : j = 0 ∨ j = 1 ∨ j = 2) with e | e | e <;> subst e <;> rfl) h63 hr (by simp; omega) ?_
  intro ad' c' w' h1 h2
  refine h ad' c' w' ?_ ?_ ?_
  · unfold TmR
    rw [tmF_snoc, List.length_append]
    exact h1
  · exact ((Below.refl base w).alloc hb _).grown h2 (by simp; omega) (fun k hk => (hown.lt k hk).1)
  · exact ⟨h2.os, h2.tape, h2.output, by have := h2.size; simp at this; omega, fun k hk hne => (h2.block k (by simp; omega) hne).trans (Below.heap_alloc _ _ _ hk)⟩
set_option maxHeartbeats 2000000 in
theorem to_any (ts : List Tm) (ad : Option Addr) (n c : Nat) (w : World) (ht : TmAt w ad n ts) (hn : n ≤ 1000) :
    Calls Try.prog 11 #[.slice ad n c] w fun e w' => ∃ ad' c', e = .returned (.slice ad' n c') ∧ TmR w' w.heap.size (.slice ad' n c') ts ∧ Below w.heap.size w w' := by
  obtain ⟨hl, b, off, hrw⟩ := ht
  have HR := Lib.hid hrw
  have HL := Lib.hid hl
  clear hrw hl
  go_enter Try.func11, Try.ntmps11
  go_wp2_with fail
  go_loopw [3, 8] (fun v u wr => ∃ (i : Nat) (ad' : Option Addr) (c' : Nat), u = .int .i64 (i : Int) ∧ v = .slice ad' i c' ∧ i ≤ n ∧ TmR wr w.heap.size (.slice ad' i c') (ts.take i) ∧ Below w.heap.size w wr) (fun _ u _ => n - (intOf u).toNat)
  case atStart => exact ⟨0, none, 0, rfl, rfl, Nat.zero_le _, World.ownsRow_nil _ _ _ _, Below.refl _ _⟩
  case round =>
    obtain ⟨i, ad', c', rfl, rfl, hin, htr, hbl⟩ := hrel
    have HT := Lib.hid htr
    have HB := Lib.hid hbl
    have hzr := hbl.size
    clear htr hbl
    by_cases hlt : i < n
    · have hr := HR.out.below HB.out
      have hix := fun W => hr.ix 22 48 Try.underlying22 cellsRTm (by omega) hlt c W
      have h0 := hr.cell i 0 hlt (by omega)
      have h1 := hr.cell i 1 hlt (by omega)
      have h2 := hr.cell i 2 hlt (by omega)
      rw [Nat.add_zero] at h0
      simp only [tmC] at h0 h1 h2
      have HTK : Hid (ts.take (i + 1) = ts.take i ++ [ts.getD i tm0]) := take_snoc ts i tm0 (by rw [HL.out]; exact hlt)
      have HTL : Hid ((ts.take i).length = i) := by rw [Hid, List.length_take, HL.out]; omega
      have hlz : (i : Int) < (n : Int) := by omega
      clear hr
      generalize ts.getD i tm0 = x at *
      go_upto_region 5 with (fail)
      have HT2 := Lib.hid (World.ownsRow.alloc HT.out (.cells #[.string x.s, .string x.t, .bool x.f] 48))
      have HB2 : Hid (Below w.heap.size w (wr.alloc (.cells #[.string x.s, .string x.t, .bool x.f] 48))) := HB.out.alloc hzr _
      have x0 : (wr.alloc (.cells #[.string x.s, .string x.t, .bool x.f] 48)).cell? ⟨wr.heap.size, 0, none⟩ = some (.string x.s) := by rw [Lib.cell_of_heap (heap_alloc_new wr _)]; rfl
      have x1 : (wr.alloc (.cells #[.string x.s, .string x.t, .bool x.f] 48)).cell? ⟨wr.heap.size, 1, none⟩ = some (.string x.t) := by rw [Lib.cell_of_heap (heap_alloc_new wr _)]; rfl
      have x2 : (wr.alloc (.cells #[.string x.s, .string x.t, .bool x.f] 48)).cell? ⟨wr.heap.size, 2, none⟩ = some (.bool x.f) := by rw [Lib.cell_of_heap (heap_alloc_new wr _)]; rfl
      have hz2 : w.heap.size ≤ (wr.alloc (.cells #[.string x.s, .string x.t, .bool x.f] 48)).heap.size := by simp; omega
      generalize wr.alloc (.cells #[.string x.s, .string x.t, .bool x.f] 48) = w2 at *
      go_wp2_with (at_builtin; refine appTm rfl _ _ rfl w.heap.size _ _ _ (ts.take i) HTL.out rfl HT2.out x _ rfl (by unfold maxLen; omega) (by omega) hz2 ?_; intro ad7 c7 w7 htr7 hb7 hg7; have HT7 := Lib.hid htr7; have HB7 := Lib.hid hb7; clear htr7 hb7 hg7)
      go_roundw
      case rel => exact ⟨i + 1, ad7, c7, by go_num, rfl, by omega, by rw [HTK.out]; exact HT7.out, HB2.out.trans HB7.out⟩
      case measure => simp [intOf]; omega
    · obtain rfl : i = n := by omega
      go_wp2_with fail
      go_ret
      have := HT.out
      rw [List.take_of_length_le (by rw [HL.out]; exact Nat.le_refl _)] at this
      exact ⟨ad', c', rfl, this, HB.out⟩
/-- few terms -/
def fewT (ts : List Tm) : Bool := ts.all (fun x => decide (x.s.size ≤ 250) && decide (x.t.size ≤ 250)) && decide (ts.length ≤ 30)
set_option maxHeartbeats 2000000 in
theorem few_any (ts : List Tm) (ad : Option Addr) (n c : Nat) (w : World) (ht : TmAt w ad n ts) (hn : n ≤ 9223372036854775807) :
    Calls Try.prog 9 #[.slice ad n c] w fun e w' => e = .returned (.bool (fewT ts)) ∧ w = w' := by
  obtain ⟨hl, b, off, hrw⟩ := ht
  have HR := Lib.hid hrw
  have HL := Lib.hid hl
  clear hrw hl
  go_enter Try.func9, Try.ntmps9
  go_wp2_with fail
  go_loopw [3] (fun u wr => ∃ (i : Nat), u = .int .i64 (i : Int) ∧ i ≤ n ∧ (∀ j, j < i → (ts.getD j tm0).s.size ≤ 250 ∧ (ts.getD j tm0).t.size ≤ 250) ∧ wr = w) (fun u _ => n - (intOf u).toNat)
  case atStart => exact ⟨0, rfl, Nat.zero_le _, fun j hj => absurd hj (Nat.not_lt_zero _), rfl⟩
  case round =>
    obtain ⟨i, rfl, hin, hal, rfl⟩ := hrel
    have HAL := Lib.hid hal
    clear hal
    by_cases hlt : i < n
    · have hr := HR.out
      have hix := fun W => hr.ix 22 48 Try.underlying22 cellsRTm (by omega) hlt c W
      have h0 := hr.cell i 0 hlt (by omega)
      have h1 := hr.cell i 1 hlt (by omega)
      rw [Nat.add_zero] at h0
      simp only [tmC] at h0 h1
      have HNX : Hid ((ts.getD i tm0).s.size ≤ 250 → (ts.getD i tm0).t.size ≤ 250 → ∀ j, j < i + 1 → (ts.getD j tm0).s.size ≤ 250 ∧ (ts.getD j tm0).t.size ≤ 250) := fun e1 e2 j hj => by
        by_cases e : j = i
        · rw [e]; exact ⟨e1, e2⟩
        · exact HAL.out j (by omega)
      have HNO : Hid (¬ ((ts.getD i tm0).s.size ≤ 250 ∧ (ts.getD i tm0).t.size ≤ 250) → fewT ts = false) := fun h => by
        unfold fewT
        rw [all_of_getD _ ts i (by rw [HL.out]; exact hlt) tm0 (by
          rw [Bool.eq_false_iff]
          intro e
          rw [Bool.and_eq_true, decide_eq_true_eq, decide_eq_true_eq] at e
          exact h e), Bool.false_and]
      have hlz : (i : Int) < (n : Int) := by omega
      clear hr
      generalize ts.getD i tm0 = x at *
      by_cases e1 : x.s.size ≤ 250
      · have k1 : ¬ (250 : Int) < (x.s.size : Int) := by omega
        have d1 : decide ((250 : Int) < (x.s.size : Int)) = false := decide_eq_false k1
        by_cases e2 : x.t.size ≤ 250
        · have k2 : ¬ (250 : Int) < (x.t.size : Int) := by omega
          have d2 : decide ((250 : Int) < (x.t.size : Int)) = false := decide_eq_false k2
          have HN := Lib.hid (HNX.out e1 e2)
          clear HNX HNO
          go_wp2_with fail
          go_roundw
          case rel => exact ⟨i + 1, by go_num, by omega, HN.out, trivial⟩
          case measure => simp [intOf]; omega
        · have k2 : (250 : Int) < (x.t.size : Int) := by omega
          have d2 : decide ((250 : Int) < (x.t.size : Int)) = true := decide_eq_true k2
          have HF := Lib.hid (HNO.out (fun h => e2 h.2))
          clear HNX HNO
          go_wp2_with fail
          go_ret
          exact ⟨by rw [HF.out]; rfl, rfl⟩
      · have k1 : (250 : Int) < (x.s.size : Int) := by omega
        have d1 : decide ((250 : Int) < (x.s.size : Int)) = true := decide_eq_true k1
        have HF := Lib.hid (HNO.out (fun h => e1 h.1))
        clear HNX HNO
        go_wp2_with fail
        go_ret
        exact ⟨by rw [HF.out]; rfl, rfl⟩
    · obtain rfl : i = n := by omega
      have HF : Hid (fewT ts = decide ((i : Int) ≤ 30)) := by
        have h1 : ts.all (fun x => decide (x.s.size ≤ 250) && decide (x.t.size ≤ 250)) = true := by
          rw [List.all_eq_true]
          intro x hx
          obtain ⟨j, hj, rfl⟩ := List.getElem_of_mem hx
          have := HAL.out j (by rw [← HL.out]; exact hj)
          rw [List.getD_eq_getElem?_getD, List.getElem?_eq_getElem hj] at this
          simpa using this
        unfold Hid fewT
        rw [h1, Bool.true_and, HL.out, Bool.eq_iff_iff, decide_eq_true_eq, decide_eq_true_eq]
        omega
      go_wp2_with fail
      go_ret
      exact ⟨by rw [HF.out]; rfl, rfl⟩
theorem fewT_iff {ts : List Tm} (h : fewT ts = true) : ts.length ≤ 30 ∧ ∀ x ∈ ts, x.s.size ≤ 250 ∧ x.t.size ≤ 250 := by
  unfold fewT at h
  rw [Bool.and_eq_true, List.all_eq_true, decide_eq_true_eq] at h
  exact ⟨h.2, fun x hx => by simpa using h.1 x hx⟩
end Go.Proofs.Ytkodnagneblgaaa
