/- Walks: the places of terms in a text, by the reference, whole. -/
import Derived.Test.YtkodnagneblgaaaDA
namespace Go.Proofs.Ytkodnagneblgaaa
open Go.RowKit Go.Maps Go.Sort
attribute [local go_sem] Ext.cell Ext.frozen
attribute [local go_sem ↓] Go.wp_at_zero Go.wp_at_succ
set_option maxRecDepth 100000 in
set_option maxHeartbeats 8000000 in
theorem rfind_none (lists : List (List ByteArray)) (ws : List ByteArray) (hw : ws = []) (ad0 : Option Addr) (n0 c0 : Nat) (s : ByteArray) (w W2 : World) (lv : Value) (u7 u8 u9 u10 u11 u12 u13 u14 u15 u16 u17 u18 u19 u20 u21 u22 u23 u24 u25 u26 u27 u28 u29 u30 u31 u32 u33 u34 u35 u36 u37 u38 u39 u40 u41 u42 u43 u44 u45 u46 u47 u48 u49 u50 u51 u52 u53 u54 u55 u56 u57 u58 u59 u60 u61 u62 u63 u64 u65 u66 u67 u68 u69 u70 u71 u72 u73 u74 u75 u76 u77 u78 u79 u80 u81 u82 u83 u84 u85 u86 u87 u88 u89 u90 u91 u92 u93 u94 u95 u96 u97 u98 : Value) (hB : Below w.heap.size w W2) :
    (rfindC 7).wp Try.prog (bodyPost Try.prog Try.f28 fun e w' => ∃ ad' c', e = .returned (.slice ad' (findL lists ws).length c') ∧ PrR w' w.heap.size (.slice ad' (findL lists ws).length c') (findL lists ws) ∧ Below w.heap.size w w')
      ⟨#[.slice ad0 n0 c0, .string s, undef, undef, .slice none 0 0, .slice none ws.length 0, lv, u7, u8, u9, u10, u11, u12, u13, u14, u15, u16, u17, u18, u19, u20, u21, u22, u23, u24, u25, u26, u27, u28, u29, u30, u31, u32, u33, u34, u35, u36, u37, u38, u39, u40, u41, u42, u43, u44, u45, u46, u47, u48, u49, u50, u51, u52, u53, u54, u55, u56, u57, u58, u59, u60, u61, u62, u63, u64, u65, u66, u67, u68, u69, u70, u71, u72, u73, u74, u75, u76, u77, u78, u79, u80, u81, u82, u83, u84, u85, u86, u87, u88, u89, u90, u91, u92, u93, u94, u95, u96, u97, u98], []⟩ W2 := by
  dsimp only
  conv => arg 2; whnf
  have HB := Lib.hid hB
  have HF : Hid (findL lists ws = []) := by rw [hw]; rfl
  have hw0 : ws.length = 0 := by rw [hw]; rfl
  rw [hw0]
  clear hB hw hw0
  go_wp2_with fail
  refine wp_loop_rounds 1 ?_
  rw [rounds_succ]
  go_wp2_with fail
  go_ret
  rw [HF.out]
  exact ⟨none, 0, rfl, World.ownsRow_nil _ _ _ _, HB.out⟩
set_option maxRecDepth 100000 in
set_option maxHeartbeats 8000000 in
theorem rfind_any (terms : List ByteArray) (ad : Option Addr) (n c : Nat) (s : ByteArray) (w : World) (ht : Sl w ad n (strs terms)) (hn : n ≤ 40) (hz : ∀ s ∈ terms, s.size ≤ 1000000) (hs : s.size ≤ 1000000) :
    Calls Try.prog 28 #[.slice ad n c, .string s] w fun e w' => ∃ ad' c', e = .returned (.slice ad' (findL (terms.map wordsB) (wordsB s)).length c') ∧ PrR w' w.heap.size (.slice ad' (findL (terms.map wordsB) (wordsB s)).length c') (findL (terms.map wordsB) (wordsB s)) ∧ Below w.heap.size w w' := by
  have hl := ht.len
  rw [strs_length] at hl
  have HWD := Lib.hid rwords_any
  have HHS := Lib.hid hs
  have HS := Lib.hid ht
  have HZ := Lib.hid hz
  have HL := Lib.hid hl
  have HLL : Hid ((terms.map wordsB).length = n) := by rw [Hid, List.length_map]; exact hl
  have HLN := Lib.hid (lnW_map terms hz)
  clear ht hz hl
  go_enter Try.func28, Try.ntmps28
  go_wp2_with fail
  refine (HWD.out s _ HHS.out).mono ?_
  rintro e W1 ⟨aw, cw, rfl, hown1, hb1⟩
  have HB1 := Lib.hid hb1
  have HO1 := Lib.hid hown1
  clear hown1 hb1
  go_wp2_with fail
  rename_i K9 hK9
  have HK9 := Lib.hid hK9
  clear hK9
  go_loopw [6, 7] (fun v u wr => ∃ (i : Nat) (svs : List Value) (av : Option Addr) (cv : Nat), u = .int .i64 (i : Int) ∧ v = .slice av svs.length cv ∧ i ≤ n ∧ WordsAt wr W1.heap.size (.slice av svs.length cv) svs ((terms.map wordsB).take i) ∧ Below W1.heap.size W1 wr) (fun _ u _ => n - (intOf u).toNat)
  case atStart => exact ⟨0, [], none, 0, rfl, rfl, Nat.zero_le _, ⟨World.ownsRow_nil _ _ _ _, by simp, fun j hj => by simp at hj⟩, Below.refl _ _⟩
  case round =>
    obtain ⟨i, svs, av, cv, rfl, rfl, hin, hwa, hbl⟩ := hrel
    have HW := Lib.hid hwa
    have HB := Lib.hid hbl
    clear hwa hbl
    have hsl : svs.length = i := by
      have := HW.out.len
      rw [List.length_take, HLL.out, Nat.min_eq_left hin] at this
      exact this
    by_cases hlt : i < n
    · obtain ⟨b0, o0, hsa⟩ := (HS.out.below HB1.out).below HB.out
      have hix0 := fun W => hsa.ix (c := c) 39 9 Try.underlying39 cellsStr hlt W
      have hc0 := hsa.cell i hlt
      rw [strs_getD _ _ (by rw [HL.out]; exact hlt)] at hc0
      have HSZ := Lib.hid (HZ.out (terms.getD i .empty) (getD_mem _ _ _ (by rw [HL.out]; exact hlt)))
      have HLI : Hid ((terms.map wordsB).getD i [] = wordsB (terms.getD i .empty)) := by
        rw [Hid, List.getD_eq_getElem?_getD, List.getElem?_map, List.getD_eq_getElem?_getD, List.getElem?_eq_getElem (by rw [HL.out]; exact hlt)]
        rfl
      have hlz : (i : Int) < (n : Int) := by omega
      have HSL := Lib.hid hsl
      clear hsa hsl
      generalize terms.getD i .empty = st at *
      go_wp2_with fail
      refine (HWD.out st _ HSZ.out).mono ?_
      rintro e W3 ⟨a3, c3, rfl, hown3, hb3⟩
      have HW3 := Lib.hid (HW.out.below hb3)
      have HB3 := Lib.hid (HB.out.trans (hb3.mono HB.out.size))
      have HO3 : Hid (StrR W3 W1.heap.size (.slice a3 (wordsB st).length c3) (wordsB st)) := Own.rebase hown3 HB.out.size
      have hz3 : W1.heap.size ≤ W3.heap.size := HB3.out.size
      clear hown3 hb3 HW HB hix0 hc0
      obtain ⟨lw, hlw⟩ : ∃ lw, (wordsB st).length = lw := ⟨_, rfl⟩
      rw [hlw] at HO3 ⊢
      clear hlw
      go_wp2_with (at_builtin; refine appStrs rfl _ _ rfl W1.heap.size _ _ _ _ rfl HW3.out.row _ _ rfl rfl (by have := HSL.out; unfold maxLen; omega) (by have := HSL.out; omega) hz3 ?_; intro ad6 c6 w6 hown6 hb6 hg6 hz6; have HO6 := Lib.hid hown6; have HB6 := Lib.hid hb6; have HG6 := Lib.hid hg6; clear hown6 hb6 hg6 hz6)
      have HW6 := Lib.hid (HW3.out.push (by rw [HLL.out]; exact hlt) (by rw [HLI.out]; exact HO3.out) HG6.out HO6.out)
      go_roundw
      case rel => exact ⟨i + 1, svs ++ [.slice a3 lw c3], ad6, c6, by go_num, by rw [List.length_append]; rfl, by omega, by rw [List.length_append]; exact HW6.out, HB3.out.trans HB6.out⟩
      case measure => simp [intOf]; omega
    · obtain rfl : i = n := by omega
      have hwf : WordsAt wr W1.heap.size (.slice av svs.length cv) svs (terms.map wordsB) := by
        have := HW.out
        rwa [List.take_of_length_le (by rw [HLL.out]; exact Nat.le_refl _)] at this
      have HWF := Lib.hid hwf
      clear hwf hsl
      have hwle := wordsB_le s
      go_wp2_with fail
      refine HK9.out _ _ ?_
      have HBF : Below w.heap.size w wr := HB1.out.trans (HB.out.mono HB1.out.size)
      rcases HO1.out.2 with ⟨e0, h0⟩ | ⟨g, cap, cur, e0, _, hcur, hnc, hcm, _, _⟩
      · have hwn : wordsB s = [] := List.eq_nil_of_length_eq_zero h0
        injection e0 with e1 e2 e3
        subst e1 e3
        exact rfind_none (terms.map wordsB) (wordsB s) hwn ad i c s w wr _ _ _ _ _ _ _ _ _ _ _ _ _ _ _ _ _ _ _ _ _ _ _ _ _ _ _ _ _ _ _ _ _ _ _ _ _ _ _ _ _ _ _ _ _ _ _ _ _ _ _ _ _ _ _ _ _ _ _ _ _ _ _ _ _ _ _ _ _ _ _ _ _ _ _ _ _ _ _ _ _ _ _ _ _ _ _ _ _ _ _ _ _ HBF
      · injection e0 with e1 e2 e3
        subst e1 e3
        have hg1 : g < W1.heap.size := (Array.getElem?_eq_some_iff.1 hcur).1
        obtain ⟨b5, o5, hsa⟩ := Own.sl HO1.out
        refine rfind_loop (terms.map wordsB) (by rw [HLL.out]; omega) ad i c s w wr W1.heap.size av cv svs g (wordsB s).length cw (wordsB s) _ _ _ _ _ _ _ _ _ _ _ _ _ _ _ _ _ _ _ _ _ _ _ _ _ _ _ _ _ _ _ _ _ _ _ _ _ _ _ _ _ _ _ _ _ _ _ _ _ _ _ _ _ _ _ _ _ _ _ _ _ _ _ _ _ _ _ _ _ _ _ _ _ _ _ _ _ _ _ _ _ _ _ _ _ _ _ _ _ _ _ _ HBF HWF.out HLN.out rfl (by omega) hnc (by unfold maxLen at hcm; omega) (by have := HB.out.size; omega) (fun j hj => ?_)
        have h1 := hsa.cell j hj
        have h2 := hsa.adr (by omega)
        injection h2 with h2
        injection h2 with h2 h3
        subst h2 h3
        rw [strs_getD _ _ hj, Nat.zero_add] at h1
        exact (HB.out.cell (p := ⟨g, j, none⟩) hg1).trans h1
end Go.Proofs.Ytkodnagneblgaaa
