/- Walks: the places of terms in a text, by the program. -/
import Derived.Test.YtkodnagneblgaaaQ09
namespace Go.Proofs.Ytkodnagneblgaaa
open Go.RowKit Go.Maps Go.Sort
attribute [local go_sem] Ext.cell Ext.frozen
attribute [local go_sem ↓] Go.wp_at_zero Go.wp_at_succ
/-- the places from k on -/
def findV (lists : List (List ByteArray)) (ws : List ByteArray) : Nat → Nat → List (Nat × Nat)
  | 0, _ => []
  | f + 1, k => if k < ws.length then (match bestV lists (ws.drop k) with
    | none => findV lists ws f (k + 1)
    | some i => (i, k) :: findV lists ws f (k + lnW lists i)) else []
def findL (lists : List (List ByteArray)) (ws : List ByteArray) : List (Nat × Nat) := findV lists ws ws.length 0
theorem bestV_some {lists : List (List ByteArray)} {ws : List ByteArray} {i : Nat} (h : bestV lists ws = some i) : i < lists.length ∧ 0 < lnW lists i ∧ lnW lists i ≤ ws.length ∧ lists.getD i [] = ws.take (lnW lists i) := by
  rcases bestTo_spec lists ws lists.length with ⟨e, _⟩ | ⟨b, e, hb⟩
  · unfold bestV at h; rw [e] at h; cases h
  · unfold bestV at h
    rw [e] at h
    injection h with h
    subst h
    have hm := mtB_iff.1 hb.2.1
    refine ⟨hb.1, List.length_pos_iff.2 hm.1, ?_, hm.2⟩
    rcases Nat.lt_or_ge ws.length (lnW lists b) with h' | h'
    · have hq := hb.2.1
      rw [mt_long h'] at hq
      cases hq
    · exact h'
theorem findV_none {lists : List (List ByteArray)} {ws : List ByteArray} {f k : Nat} (hk : k < ws.length) (h : bestV lists (ws.drop k) = none) : findV lists ws (f + 1) k = findV lists ws f (k + 1) := by
  rw [findV, if_pos hk, h]
theorem findV_some {lists : List (List ByteArray)} {ws : List ByteArray} {f k i : Nat} (hk : k < ws.length) (h : bestV lists (ws.drop k) = some i) : findV lists ws (f + 1) k = (i, k) :: findV lists ws f (k + lnW lists i) := by
  rw [findV, if_pos hk, h]
theorem findV_end {lists : List (List ByteArray)} {ws : List ByteArray} {f k : Nat} (hk : ws.length ≤ k) : findV lists ws f k = [] := by
  cases f with
  | zero => rfl
  | succ f => rw [findV, if_neg (by omega)]
/-- pairs of numbers in memory -/
def prV (ps : List (Nat × Nat)) : List Value := ps.flatMap fun p => [.int .i64 (p.1 : Int), .int .i64 (p.2 : Int)]
def PrR (w : World) (base : Nat) (v : Value) (ps : List (Nat × Nat)) : Prop := w.ownsRow base 45 2 v ps.length (prV ps)
theorem prV_snoc (ps : List (Nat × Nat)) (x y : Nat) : prV (ps ++ [(x, y)]) = prV ps ++ [.int .i64 (x : Int), .int .i64 (y : Int)] := by simp [prV]
theorem infoPair : (Try.prog.info? 45).map (fun i => (i.zero, i.size, i.bytes)) = some (some (.agg #[.int .i64 0, .int .i64 0]), 2, 16) := by kernel_rfl
theorem cellsPair : Try.prog.cellsOf 45 = 2 := by kernel_rfl
theorem rw_pair (w : World) (x y : Value) (T : TypeId) : Rw (w.alloc (.cells #[x, y] T)) (some ⟨w.heap.size, 0, none⟩) 1 2 (fun _ j => (#[x, y] : Array Value).getD j undef) w.heap.size 0 :=
  ⟨by omega, fun _ => rfl, fun i j hi hj => by
    obtain rfl : i = 0 := by omega
    rcases (by omega : j = 0 ∨ j = 1) with e | e <;> subst e <;> (rw [Lib.cell_of_heap (heap_alloc_new w _)]; rfl)⟩
theorem appPair {ops : Array Oper} {rest : List Oper} {o : Oper} {a : Act} {Q : Exit → Act → World → Prop} {w : World} (hgd : o.guard = none) (s x : Operand) (ho : o.op = .call { callee := .builtin .append, args := #[s, x], argTypes := #[42, 42] })
    (base : Nat) (ad : Option Addr) (k c : Nat) (ps : List (Nat × Nat)) (hk : ps.length = k) (hs : a.eval s = .slice ad k c) (hown : PrR w base (.slice ad k c) ps) (i j : Nat) (T : TypeId) (hxe : a.eval x = .slice (some ⟨w.heap.size, 0, none⟩) 1 1)
    (h63 : k + 1 ≤ maxLen) (hr : (k + 1) * 16 ≤ 140737488355328) (hb : base ≤ w.heap.size)
    (h : ∀ ad' c' w', PrR w' base (.slice ad' (k + 1) c') (ps ++ [(i, j)]) → Below base w w' → w.grownBy w' (Value.ownBlock (.slice ad k c)) → wpList Try.prog ops Q rest (a.put o.dst (.slice ad' (k + 1) c')) w') :
    wpList Try.prog ops Q (o :: rest) a (w.alloc (.cells #[.int .i64 (i : Int), .int .i64 (j : Int)] T)) := by
  subst hk
  refine wpList_app_rows hgd s x ho Try.underlying42 infoPair rfl (by omega) base ad ps.length c (prV ps) hs (World.ownsRow.alloc hown _) (some ⟨w.heap.size, 0, none⟩) 1 1 _ _ _ hxe (rw_pair w _ _ T) (fun e => by cases e)
    (fun i j _ hj => by rcases (by omega : j = 0 ∨ j = 1) with e | e <;> subst e <;> rfl) h63 hr (by simp; omega) ?_
  intro ad' c' w' h1 h2
  refine h ad' c' w' ?_ ?_ ?_
  · unfold PrR
    rw [prV_snoc, List.length_append]
    exact h1
  · exact ((Below.refl base w).alloc hb _).grown h2 (by simp; omega) (fun k hk => (hown.lt k hk).1)
  · exact ⟨h2.os, h2.tape, h2.output, by have := h2.size; simp at this; omega, fun k hk hne => (h2.block k (by simp; omega) hne).trans (Below.heap_alloc _ _ _ hk)⟩
theorem PrR.below {w w' : World} {base : Nat} {v : Value} {ps : List (Nat × Nat)} (h : PrR w base v ps) (hb : Below w.heap.size w w') : PrR w' base v ps := own_below h hb
theorem words_small {s x : ByteArray} (hs : s.size ≤ 1000000) (h : x ∈ wordsB s) : x.size ≤ 1000000 := Nat.le_trans (wordsB_size s x h) hs
theorem lnW_map (terms : List ByteArray) (hz : ∀ s ∈ terms, s.size ≤ 1000000) (i : Nat) : lnW (terms.map wordsB) i ≤ 1000000000 := by
  unfold lnW
  rw [List.getD_eq_getElem?_getD, List.getElem?_map]
  cases hq : terms[i]? with
  | none => simp
  | some s =>
    have h1 := wordsB_le s
    have h2 := hz s (List.mem_of_getElem? hq)
    simp only [Option.map_some, Option.getD_some]
    omega
theorem drop_getDs (l : List ByteArray) (i k : Nat) : (l.drop i).getD k .empty = l.getD (i + k) .empty := by
  rw [List.getD_eq_getElem?_getD, List.getElem?_drop, List.getD_eq_getElem?_getD]
set_option maxRecDepth 100000 in
set_option maxHeartbeats 8000000 in
theorem find_any (terms : List ByteArray) (ad : Option Addr) (n c : Nat) (s : ByteArray) (w : World) (ht : Sl w ad n (strs terms)) (hn : n ≤ 40) (hz : ∀ s ∈ terms, s.size ≤ 1000000) (hs : s.size ≤ 1000000) :
    Calls Try.prog 38 #[.slice ad n c, .string s] w fun e w' => ∃ ad' c', e = .returned (.slice ad' (findL (terms.map wordsB) (wordsB s)).length c') ∧ PrR w' w.heap.size (.slice ad' (findL (terms.map wordsB) (wordsB s)).length c') (findL (terms.map wordsB) (wordsB s)) ∧ Below w.heap.size w w' := by
  have HIDX := Lib.hid (newIndex_any terms ad n c w ht hn hz)
  have HWD := Lib.hid (words_any s)
  have hwsm := fun x (h : x ∈ wordsB s) => words_small hs h
  have HWSM := Lib.hid hwsm
  have hwl := wordsB_le s
  have HHS := Lib.hid hs
  have HLN := Lib.hid (lnW_map terms hz)
  have HAT := Lib.hid at_any
  clear ht hz hwsm
  generalize terms.map wordsB = lists at *
  obtain ⟨ws, hws⟩ : ∃ ws, wordsB s = ws := ⟨_, rfl⟩
  rw [hws] at HWSM hwl ⊢
  have HWS := Lib.hid hws
  obtain ⟨fl, hfl⟩ : ∃ fl, findL lists ws = fl := ⟨_, rfl⟩
  rw [hfl]
  have HFL := Lib.hid hfl
  clear hws hfl
  go_enter Try.func38, Try.ntmps38
  go_wp2_with fail
  refine HIDX.out.mono ?_
  rintro e W1 ⟨wv, M, svs, hd, rfl, hI, hb1⟩
  obtain ⟨av, cv, rfl⟩ := hI.words.form
  have HI1 := Lib.hid hI
  have HB1 := Lib.hid hb1
  clear hI hb1 HIDX
  go_upto_region 2 with (fail)
  refine wp_at_worldG ?_
  intro W2 hW2
  have HX2 : Hid (W2.heap[W1.heap.size]? = some (.cells #[.slice av svs.length cv, .map (some M)] 80 (0, 0))) := by rw [Hid, hW2]; exact heap_alloc_new W1 _
  have HB12 : Hid (Below W1.heap.size W1 W2) := by rw [Hid, hW2]; exact Bel.alloc (Bel.refl _) _
  clear hW2
  go_wp2_with fail
  refine (HWD.out _ HHS.out).mono ?_
  rintro e W3 ⟨aw, cw, rfl, hown3, hb3⟩
  rw [HWS.out] at hown3 ⊢
  have HX3 : Hid (W3.heap[W1.heap.size]? = some (.cells #[.slice av svs.length cv, .map (some M)] 80 (0, 0))) := (hb3.block _ (Array.getElem?_eq_some_iff.1 HX2.out).1).trans HX2.out
  have HB13 : Hid (Below W1.heap.size W1 W3) := HB12.out.trans (hb3.mono HB12.out.size)
  have HB3 : Hid (Below w.heap.size w W3) := HB1.out.trans (HB13.out.mono HB1.out.size)
  have HI3 := Lib.hid (HI1.out.below HB13.out)
  have HO3 := Lib.hid hown3
  clear hown3 hb3 HX2 HB12 HB1 HB13 HI1 HWD
  rcases HO3.out.2 with ⟨e0, h0⟩ | ⟨g, cap, cur, e0, _, hcur, hnc, hcm, _, _⟩
  · injection e0 with e1 e2 e3
    subst e1 e3
    have HF0 : Hid (fl = []) := by rw [Hid, ← HFL.out]; unfold findL; rw [findV_end (by omega)]
    rw [h0]
    clear h0 e2
    go_wp2_with fail
    refine wp_loop_rounds 1 ?_
    rw [rounds_succ]
    go_wp2_with fail
    go_ret
    rw [HF0.out]
    exact ⟨none, 0, rfl, World.ownsRow_nil _ _ _ _, HB3.out⟩
  · injection e0 with e1 e2 e3
    subst e1 e3
    obtain ⟨b5, o5, hsa⟩ := Own.sl HO3.out
    have hg3 : g < W3.heap.size := (Array.getElem?_eq_some_iff.1 hcur).1
    have HCW : Hid (∀ j, j < ws.length → W3.cell? ⟨g, j, none⟩ = some (.string (ws.getD j .empty))) := fun j hj => by
      have h1 := hsa.cell j hj
      have h2 := hsa.adr (by omega)
      injection h2 with h2
      injection h2 with h2 h3
      subst h2 h3
      rw [strs_getD _ _ hj, Nat.zero_add] at h1
      exact h1
    obtain ⟨N, hN⟩ : ∃ N, ws.length = N := ⟨_, rfl⟩
    have HN := Lib.hid hN
    rw [hN] at HCW hnc hwl ⊢
    have hcm' : cw ≤ 9223372036854775807 := by unfold maxLen at hcm; omega
    have HFU : Hid (findV lists ws N 0 = fl) := by rw [Hid, ← HFL.out]; unfold findL; rw [hN]
    clear HO3 hsa hcur e2 hcm hN HFL
    go_wp2_with fail
    go_loopw [7, 8] (fun o u wr => ∃ (k f : Nat) (done : List (Nat × Nat)) (ad' : Option Addr) (c' : Nat), u = .int .i64 (k : Int) ∧ o = .slice ad' done.length c' ∧ k ≤ N ∧ done.length ≤ k ∧ N - k ≤ f ∧ done ++ findV lists ws f k = fl ∧ PrR wr W3.heap.size (.slice ad' done.length c') done ∧ Below W3.heap.size W3 wr) (fun _ u _ => N - (intOf u).toNat)
    case atStart => exact ⟨0, N, [], none, 0, rfl, rfl, Nat.zero_le _, Nat.le_refl _, by omega, HFU.out, World.ownsRow_nil _ _ _ _, Below.refl _ _⟩
    case round =>
      obtain ⟨k, f, done, ad', c', rfl, rfl, hkN, hdk, hf, hfl, hpr, hbl⟩ := hrel
      have HFV := Lib.hid hfl
      have HPR := Lib.hid hpr
      have HB := Lib.hid hbl
      have hz3 := hbl.size
      clear hfl hpr hbl HFU
      by_cases hlt : k < N
      · obtain ⟨f, rfl⟩ : ∃ q, f = q + 1 := ⟨f - 1, by omega⟩
        have hlz : (k : Int) < (N : Int) := by omega
        have HIr := Lib.hid (HI3.out.below HB.out)
        have hbx : wr.heap[W1.heap.size]? = some (.cells #[.slice av svs.length cv, .map (some M)] 80 (0, 0)) := (HB.out.block _ (Array.getElem?_eq_some_iff.1 HX3.out).1).trans HX3.out
        have hx0 : wr.cell? ⟨W1.heap.size, 0, none⟩ = some (.slice av svs.length cv) := by rw [Lib.cell_of_heap hbx]; rfl
        have hx1 : wr.cell? ⟨W1.heap.size, 1, none⟩ = some (.map (some M)) := by rw [Lib.cell_of_heap hbx]; rfl
        have hxl := (Array.getElem?_eq_some_iff.1 hbx).1
        have HCR : Hid (∀ j, j < N - k → wr.cell? ⟨g, k + j, none⟩ = some (.string ((ws.drop k).getD j .empty))) := fun j hj => by
          rw [drop_getDs]
          exact (HB.out.cell (p := ⟨g, k + j, none⟩) hg3).trans (HCW.out (k + j) (by omega))
        have hgl : g < wr.heap.size := by omega
        have HATX : Hid (∀ x : Ext wr, Calls Try.prog 45 #[.agg #[.slice av svs.length cv, .map (some M)], .slice (some ⟨g, k, none⟩) (N - k) (cw - k)] x.1 fun e w' => e = .returned (.int .i64 (atI (bestV lists (ws.drop k)))) ∧ Below x.1.heap.size x.1 w') := fun x =>
          HAT.out lists x.1 w.heap.size M _ svs hd (HIr.out.below x.2) HLN.out g k (N - k) (cw - k) (ws.drop k) (by rw [List.length_drop, HN.out]) (by omega) (by omega) (by omega) (fun j hj => (x.2.cell (p := ⟨g, k + j, none⟩) hgl).trans (HCR.out j hj)) (fun y hy => HWSM.out y (List.mem_of_mem_drop hy))
        obtain ⟨bv, hbv⟩ : ∃ bv, bestV lists (ws.drop k) = bv := ⟨_, rfl⟩
        rw [hbv] at HATX
        have HBV := Lib.hid hbv
        have hNk : (k : Int) ≤ (N : Int) := by omega
        clear hbx hbv
        go_wp2_with fail
        refine wp_region_ext (by kernel_rfl) (by kernel_rfl) ?_
        repeat (go_big_quiet_step (first | (go_at_call 45; exact Calls.ext (HATX.out _))))
        refine wpQuiet_nil ?_
        intro _ hw'
        obtain ⟨X9, hw''⟩ := hw'
        subst hw''
        have HB9 : Hid (Below W3.heap.size W3 X9.1) := HB.out.trans (X9.2.mono hz3)
        have HPR9 : Hid (PrR X9.1 W3.heap.size (.slice ad' done.length c') done) := HPR.out.below X9.2
        have HI9 := Lib.hid (HIr.out.below X9.2)
        have y0 := (X9.2.cell (p := ⟨W1.heap.size, 0, none⟩) hxl).trans hx0
        have hz9 : W3.heap.size ≤ X9.1.heap.size := Nat.le_trans hz3 X9.2.size
        clear HATX HB HPR HIr hx0 hx1 HCR
        obtain ⟨W9, hX9⟩ := X9
        simp only at HB9 HPR9 HI9 y0 hz9 ⊢
        clear hX9
        cases bv with
        | none =>
          have HFN : Hid (done ++ findV lists ws f (k + 1) = fl) := by rw [Hid, ← findV_none (by rw [HN.out]; exact hlt) HBV.out]; exact HFV.out
          rw [show atI none = (-1 : Int) from rfl]
          go_wp2_with fail
          go_roundw
          case rel => exact ⟨k + 1, f, done, ad', c', by go_num, rfl, by omega, by omega, by omega, HFN.out, HPR9.out, HB9.out⟩
          case measure => simp [intOf]; omega
        | some i =>
          obtain ⟨hil, hlp, hlb, _⟩ := bestV_some HBV.out
          rw [List.length_drop, HN.out] at hlb
          have HFN : Hid ((done ++ [(i, k)]) ++ findV lists ws f (k + lnW lists i) = fl) := by
            rw [Hid, List.append_assoc, List.singleton_append, ← findV_some (by rw [HN.out]; exact hlt) HBV.out]
            exact HFV.out
          rw [show atI (some i) = (i : Int) from rfl]
          have hi0 : ¬ (i : Int) < 0 := by omega
          obtain ⟨b4, o4, hsa4⟩ := Own.sl HI9.out.words.row
          have hsl := HI9.out.words.len
          have hix4 := fun W => hsa4.ix (c := cv) 74 39 Try.underlying74 cellsStrs (show i < svs.length by omega) W
          have hc4 := hsa4.cell i (by omega)
          obtain ⟨a6, c6, e6⟩ := (HI9.out.words.each i hil).form
          rw [e6] at hc4
          have hlne : (lists.getD i []).length = lnW lists i := rfl
          rw [hlne] at hc4
          have HNB4 : Hid (some b4 ≠ Value.ownBlock (.slice ad' done.length c')) := by
            have h1 := own_apart HI9.out.words.row HPR9.out (by decide)
            rw [hsa4.adr (by omega)] at h1
            rcases h1 with h | h
            · cases h
            · exact h
          have HNX : Hid (some W1.heap.size ≠ Value.ownBlock (.slice ad' done.length c')) := fun e => by
            have h1 := (World.ownsRow.lt HPR9.out _ e.symm).1
            have h2 := (Array.getElem?_eq_some_iff.1 HX3.out).1
            omega
          clear hsa4 e6 hlne HBV hsl
          generalize lnW lists i = ln at *
          go_upto_region 10 with (at_builtin; refine appPair rfl _ _ rfl W3.heap.size _ _ _ done rfl rfl HPR9.out i k _ rfl (by unfold maxLen; omega) (by omega) hz9 ?_; intro ad7 c7 w7 hpr7 hb7 hg7; have HPR7 := Lib.hid hpr7; have HB7 := Lib.hid hb7; have y7 : w7.cell? ⟨W1.heap.size, 0, none⟩ = some (.slice av svs.length cv) := hg7.cell y0 HNX.out; have z7 : w7.cell? ⟨b4, o4 + i, none⟩ = some (.slice a6 ln c6) := hg7.cell hc4 HNB4.out; clear hpr7 hb7 hg7)
          go_wp2_with fail
          go_roundw
          case rel => exact ⟨k + ln, f, done ++ [(i, k)], ad7, c7, by go_num, by rw [List.length_append]; rfl, by omega, by rw [List.length_append]; simp; omega, by omega, HFN.out, by rw [List.length_append]; exact HPR7.out, HB9.out.trans HB7.out⟩
          case measure => simp [intOf]; omega
      · obtain rfl : k = N := by omega
        have HF0 : Hid (fl = done) := by rw [Hid, ← HFV.out, findV_end (by rw [HN.out]; exact Nat.le_refl _), List.append_nil]
        go_wp2_with fail
        go_ret
        rw [HF0.out]
        exact ⟨ad', c', rfl, own_rebase HPR.out HB3.out.size, HB3.out.trans (HB.out.mono HB3.out.size)⟩
end Go.Proofs.Ytkodnagneblgaaa
/- Walks: the places of terms in a text, by the reference. -/
namespace Go.Proofs.Ytkodnagneblgaaa
open Go.RowKit Go.Maps Go.Sort
attribute [local go_sem] Ext.cell Ext.frozen
attribute [local go_sem ↓] Go.wp_at_zero Go.wp_at_succ
theorem WordsAt.push {w w1 : World} {base : Nat} {v v' sv : Value} {svs : List Value} {lists : List (List ByteArray)} {i : Nat} (h : WordsAt w base v svs (lists.take i)) (hi : i < lists.length) (hsv : StrR w base sv (lists.getD i [])) (hg : w.grownBy w1 v.ownBlock)
    (hown : w1.ownsRow base 39 1 v' (svs.length + 1) (svs ++ [sv])) : WordsAt w1 base v' (svs ++ [sv]) (lists.take (i + 1)) := by
  have hl := h.len
  rw [List.length_take, Nat.min_eq_left (by omega)] at hl
  have htl : (lists.take (i + 1)).length = i + 1 := by rw [List.length_take, Nat.min_eq_left (by omega)]
  refine ⟨by rw [List.length_append]; exact hown, by rw [htl, List.length_append, hl]; rfl, fun j hj => ?_⟩
  rw [htl] at hj
  rw [getD_take _ _ _ _ hj]
  by_cases hji : j < i
  · rw [getD_snoc_lt _ _ _ _ (by omega)]
    have := h.each j (by rw [List.length_take, Nat.min_eq_left (by omega)]; exact hji)
    rw [getD_take _ _ _ _ hji] at this
    exact own_other this h.row (by decide) hg
  · obtain rfl : j = i := by omega
    rw [getD_snoc_eq _ _ _ _ (by omega)]
    exact own_other hsv h.row (by decide) hg
theorem bestTo_no {lists : List (List ByteArray)} {ws : List ByteArray} {k : Nat} (h : mtB lists ws k = false) : bestTo lists ws (k + 1) = bestTo lists ws k := by
  rw [bestTo]
  cases bestTo lists ws k with
  | none => simp [h]
  | some b => simp [h]
theorem bestTo_first {lists : List (List ByteArray)} {ws : List ByteArray} {k : Nat} (h : mtB lists ws k = true) (hb : bestTo lists ws k = none) : bestTo lists ws (k + 1) = some k := by
  rw [bestTo, hb]; simp [h]
theorem bestTo_more {lists : List (List ByteArray)} {ws : List ByteArray} {k b : Nat} (h : mtB lists ws k = true) (hb : bestTo lists ws k = some b) (hl : lnW lists b < lnW lists k) : bestTo lists ws (k + 1) = some k := by
  rw [bestTo, hb]; simp [h, hl]
theorem bestTo_less {lists : List (List ByteArray)} {ws : List ByteArray} {k b : Nat} (hb : bestTo lists ws k = some b) (hl : ¬ lnW lists b < lnW lists k) : bestTo lists ws (k + 1) = some b := by
  rw [bestTo, hb]; simp [hl]
theorem bestTo_lt {lists : List (List ByteArray)} {ws : List ByteArray} {k b : Nat} (hb : bestTo lists ws k = some b) : b < k ∧ b < lists.length := by
  rcases bestTo_spec lists ws k with ⟨e, _⟩ | ⟨b', e, h⟩
  · rw [e] at hb; cases hb
  · rw [e] at hb
    injection hb with hb
    subst hb
    exact ⟨h.1, mtB_lt h.2.1⟩
theorem mt_zero {lists : List (List ByteArray)} {ws : List ByteArray} {i : Nat} (h : lnW lists i = 0) : mtB lists ws i = false := by
  unfold mtB
  refine decide_eq_false (fun e => e.1 ?_)
  exact List.eq_nil_of_length_eq_zero h
theorem same_mt {lists : List (List ByteArray)} {ws : List ByteArray} {i : Nat} (h : 0 < lnW lists i) : sameB (ws.take (lnW lists i)) (lists.getD i []) = mtB lists ws i := by
  unfold sameB mtB
  have hne : lists.getD i [] ≠ [] := List.length_pos_iff.1 h
  by_cases e : lists.getD i [] = ws.take (lnW lists i)
  · rw [decide_eq_true e.symm, decide_eq_true ⟨hne, e⟩]
  · rw [decide_eq_false (fun h' => e h'.symm), decide_eq_false (fun h' => e h'.2)]
theorem sub_sl {w : World} {g n k m : Nat} {ws : List ByteArray} (hc : ∀ j, j < n → w.cell? ⟨g, j, none⟩ = some (.string (ws.getD j .empty))) (hn : ws.length = n) (hk : k + m ≤ n) (h9 : n ≤ 9223372036854775807) : Sl w (some ⟨g, k, none⟩) m (strs ((ws.drop k).take m)) :=
  ⟨g, k, by rw [strs_length, List.length_take, List.length_drop]; omega, by omega, fun _ => rfl, fun j hj => by
    have e : ((ws.drop k).take m).getD j .empty = ws.getD (k + j) .empty := by simp [List.getD_eq_getElem?_getD, List.getElem?_take_of_lt hj, List.getElem?_drop]
    rw [hc (k + j) (by omega), strs_getD _ _ (by rw [List.length_take, List.length_drop]; omega), e]⟩
noncomputable def rfindC (n : Nat) : Code := fromReg n ((Try.f28.body).getD .skip)
set_option maxRecDepth 100000 in
set_option maxHeartbeats 8000000 in
/-- the second loop -/
theorem rfind_loop (lists : List (List ByteArray)) (hlen : lists.length ≤ 1000) (ad0 : Option Addr) (n0 c0 : Nat) (s : ByteArray) (w W2 : World) (base : Nat) (av : Option Addr) (cv : Nat) (svs : List Value) (g N cw : Nat) (ws : List ByteArray) (u7 u8 u9 u10 u11 u12 u13 u14 u15 u16 u17 u18 u19 u20 u21 u22 u23 u24 u25 u26 u27 u28 u29 u30 u31 u32 u33 u34 u35 u36 u37 u38 u39 u40 u41 u42 u43 u44 u45 u46 u47 u48 u49 u50 u51 u52 u53 u54 u55 u56 u57 u58 u59 u60 u61 u62 u63 u64 u65 u66 u67 u68 u69 u70 u71 u72 u73 u74 u75 u76 u77 u78 u79 u80 u81 u82 u83 u84 u85 u86 u87 u88 u89 u90 u91 u92 u93 u94 u95 u96 u97 u98 : Value) (hB : Below w.heap.size w W2)
    (hW : WordsAt W2 base (.slice av svs.length cv) svs lists) (hL : ∀ i, lnW lists i ≤ 1000000000) (hws : ws.length = N) (hN : N ≤ 1000001) (hcw : N ≤ cw) (hcm : cw ≤ 9223372036854775807) (hg : g < W2.heap.size) (hcell : ∀ j, j < N → W2.cell? ⟨g, j, none⟩ = some (.string (ws.getD j .empty))) :
    (rfindC 7).wp Try.prog (bodyPost Try.prog Try.f28 fun e w' => ∃ ad' c', e = .returned (.slice ad' (findL lists ws).length c') ∧ PrR w' w.heap.size (.slice ad' (findL lists ws).length c') (findL lists ws) ∧ Below w.heap.size w w')
      ⟨#[.slice ad0 n0 c0, .string s, undef, undef, .slice none 0 0, .slice (some ⟨g, 0, none⟩) N cw, .slice av svs.length cv, u7, u8, u9, u10, u11, u12, u13, u14, u15, u16, u17, u18, u19, u20, u21, u22, u23, u24, u25, u26, u27, u28, u29, u30, u31, u32, u33, u34, u35, u36, u37, u38, u39, u40, u41, u42, u43, u44, u45, u46, u47, u48, u49, u50, u51, u52, u53, u54, u55, u56, u57, u58, u59, u60, u61, u62, u63, u64, u65, u66, u67, u68, u69, u70, u71, u72, u73, u74, u75, u76, u77, u78, u79, u80, u81, u82, u83, u84, u85, u86, u87, u88, u89, u90, u91, u92, u93, u94, u95, u96, u97, u98], []⟩ W2 := by
  dsimp only
  conv => arg 2; whnf
  obtain ⟨fl, hfl⟩ : ∃ fl, findL lists ws = fl := ⟨_, rfl⟩
  rw [hfl]
  have HFU : Hid (findV lists ws N 0 = fl) := by rw [Hid, ← hfl]; unfold findL; rw [hws]
  have HB0 := Lib.hid hB
  have HW := Lib.hid hW
  have HLN := Lib.hid hL
  have HN := Lib.hid hws
  have HCW := Lib.hid hcell
  have HSV := Lib.hid hW.len
  have HLE := Lib.hid hlen
  have HSM0 : Hid (∀ ad n c ps ad' n' c' qs w, Sl w ad n (strs ps) → Sl w ad' n' (strs qs) → _) := rsame_any
  clear hfl hB hW hL hws hcell hlen
  go_wp2_with fail
  go_loopw [8, 9] (fun o u wr => ∃ (k f : Nat) (done : List (Nat × Nat)) (ad' : Option Addr) (c' : Nat), u = .int .i64 (k : Int) ∧ o = .slice ad' done.length c' ∧ k ≤ N ∧ done.length ≤ k ∧ N - k ≤ f ∧ done ++ findV lists ws f k = fl ∧ PrR wr W2.heap.size (.slice ad' done.length c') done ∧ Below W2.heap.size W2 wr) (fun _ u _ => N - (intOf u).toNat)
  case atStart => exact ⟨0, N, [], none, 0, rfl, rfl, Nat.zero_le _, Nat.le_refl _, by omega, HFU.out, World.ownsRow_nil _ _ _ _, Below.refl _ _⟩
  case round =>
    obtain ⟨k, f, done, ad', c', rfl, rfl, hkN, hdk, hf, hfl, hpr, hbl⟩ := hrel
    have HFV := Lib.hid hfl
    have HPR0 := Lib.hid hpr
    have HB1 := Lib.hid hbl
    clear hfl hpr hbl HFU
    by_cases hlt : k < N
    · obtain ⟨f, rfl⟩ : ∃ q, f = q + 1 := ⟨f - 1, by omega⟩
      have hlz : (k : Int) < (N : Int) := by omega
      have hNk : (k : Int) ≤ (N : Int) := by omega
      go_wp2_with fail
      obtain ⟨wo, rfl⟩ : ∃ wo : World, wo = wr := ⟨_, rfl⟩
      go_loopw [10, 11] (fun bo u wr => ∃ (i : Nat) (b : Option Nat), u = .int .i64 (i : Int) ∧ bo = .int .i64 (atI b) ∧ i ≤ svs.length ∧ bestTo lists (ws.drop k) i = b ∧ PrR wr W2.heap.size (.slice ad' done.length c') done ∧ Below W2.heap.size W2 wr) (fun _ u _ => svs.length - (intOf u).toNat)
      case atStart => exact ⟨0, none, rfl, rfl, Nat.zero_le _, rfl, HPR0.out, HB1.out⟩
      case round =>
        obtain ⟨i, b, rfl, rfl, hi, hbt, hpr, hbl⟩ := hrel
        have HBT := Lib.hid hbt
        have HPR := Lib.hid hpr
        have HB := Lib.hid hbl
        have hzr := hbl.size
        clear hbt hpr hbl HPR0 HB1
        have hsm : svs.length ≤ 1000 := by rw [HSV.out]; exact HLE.out
        by_cases hil : i < svs.length
        · have hil2 : i < lists.length := by rw [← HSV.out]; exact hil
          have HWr := HW.out.below HB.out
          obtain ⟨b4, o4, hsa4⟩ := Own.sl HWr.row
          have hix4 := fun W => hsa4.ix (c := cv) 74 39 Try.underlying74 cellsStrs hil W
          have hc4 := hsa4.cell i hil
          obtain ⟨a6, c6, e6⟩ := (HWr.each i hil2).form
          have hrow6 := HWr.each i hil2
          rw [e6] at hc4 hrow6
          have hlne : (lists.getD i []).length = lnW lists i := rfl
          unfold StrR at hrow6
          rw [hlne] at hc4 hrow6
          have hblk4 := hsa4.block (by omega)
          have hgr : g < wr.heap.size := by omega
          have HSL6 : Hid (Sl wr a6 (lnW lists i) (strs (lists.getD i []))) := Own.sl hrow6
          have HC9 : Hid (∀ j, j < N → wr.cell? ⟨g, j, none⟩ = some (.string (ws.getD j .empty))) := fun j hj => (HB.out.cell (p := ⟨g, j, none⟩) hg).trans (HCW.out j hj)
          have HMT : Hid (k + lnW lists i ≤ N → 0 < lnW lists i → ∀ x : Ext wr, Calls Try.prog 19 #[.slice (some ⟨g, k, none⟩) (lnW lists i) (cw - k), .slice a6 (lnW lists i) c6] x.1 fun e w' => e = .returned (.bool (mtB lists (ws.drop k) i)) ∧ Below x.1.heap.size x.1 w') := fun h1 h2 x => by
            have := HSM0.out (some ⟨g, k, none⟩) (lnW lists i) (cw - k) ((ws.drop k).take (lnW lists i)) a6 (lnW lists i) c6 (lists.getD i []) x.1 ((sub_sl HC9.out HN.out h1 (by omega)).below x.2) (HSL6.out.below x.2)
            rw [same_mt h2] at this
            exact this
          have HM0 : Hid (lnW lists i = 0 → mtB lists (ws.drop k) i = false) := mt_zero
          have HML : Hid (N < k + lnW lists i → mtB lists (ws.drop k) i = false) := fun h => mt_long (by rw [List.length_drop, HN.out]; omega)
          have HB_no : Hid (mtB lists (ws.drop k) i = false → bestTo lists (ws.drop k) (i + 1) = b) := fun h => (bestTo_no h).trans HBT.out
          have HB_first : Hid (mtB lists (ws.drop k) i = true → b = none → bestTo lists (ws.drop k) (i + 1) = some i) := fun h h2 => bestTo_first h (HBT.out.trans h2)
          have HB_more : Hid (mtB lists (ws.drop k) i = true → ∀ c, b = some c → lnW lists c < lnW lists i → bestTo lists (ws.drop k) (i + 1) = some i) := fun h c h2 h3 => bestTo_more h (HBT.out.trans h2) h3
          have HB_less : Hid (∀ c, b = some c → ¬ lnW lists c < lnW lists i → bestTo lists (ws.drop k) (i + 1) = b) := fun c h2 h3 => by rw [h2]; exact bestTo_less (HBT.out.trans h2) h3
          have HBS : Hid (∀ c, b = some c → c < svs.length ∧ ∃ a7 c7, wr.cell? ⟨b4, o4 + c, none⟩ = some (.slice a7 (lnW lists c) c7) ∧ ∀ W, (Instr.indexAt 74 (.slice av svs.length cv) (.int .i64 (c : Int))).run Try.prog W = .ok (.pointer (some ⟨b4, o4 + c, none⟩)) W) := fun c hc => by
            have h1 := bestTo_lt (HBT.out.trans hc)
            have h2 : c < svs.length := by omega
            obtain ⟨a7, c7, e7⟩ := (HWr.each c h1.2).form
            have h3 := hsa4.cell c h2
            rw [e7] at h3
            exact ⟨h2, a7, c7, h3, fun W => hsa4.ix (c := cv) 74 39 Try.underlying74 cellsStrs h2 W⟩
          have hlb := HLN.out i
          have hiz : (i : Int) < (svs.length : Int) := by omega
          clear hsa4 e6 hlne hrow6 HWr HSL6 HC9 HBT
          generalize mtB lists (ws.drop k) i = mt at *
          generalize hln : lnW lists i = ln at *
          have HLI := Lib.hid hln
          clear hln
          by_cases h0 : ln = 0
          · subst h0
            have HNX := Lib.hid (HB_no.out (HM0.out rfl))
            clear HMT HM0 HML HB_no HB_first HB_more HB_less HBS
            have HSM : Hid True := trivial
            go_wp2_with fail
            refine wp_region_ext (by kernel_rfl) (by kernel_rfl) ?_
            repeat (go_big_quiet_step (fail))
            refine wpQuiet_nil ?_
            intro _ hw'
            obtain ⟨X9, hw''⟩ := hw'
            subst hw''
            have HBX : Hid (Below W2.heap.size W2 X9.1) := HB.out.trans (X9.2.mono hzr)
            have HPX : Hid (PrR X9.1 W2.heap.size (.slice ad' done.length c') done) := HPR.out.below X9.2
            go_wp2_with fail
            go_roundw
            case rel => exact ⟨i + 1, b, by go_num, by first | rfl | go_num, by omega, HNX.out, HPX.out, HBX.out⟩
            case measure => simp [intOf]; omega
          have h1 : 0 < ln := by omega
          have h1z : (0 : Int) < (ln : Int) := by omega
          have d1 : decide ((0 : Int) < (ln : Int)) = true := decide_eq_true h1z
          by_cases h2 : k + ln ≤ N
          · have h2z : (k : Int) + (ln : Int) ≤ (N : Int) := by omega
            have d2 : decide ((k : Int) + (ln : Int) ≤ (N : Int)) = true := decide_eq_true h2z
            have HSM := Lib.hid (HMT.out h2 h1)
            have ekl : k + ln - k = ln := by omega
            clear HMT HM0 HML
            cases mt with
            | false =>
              have HNX := Lib.hid (HB_no.out rfl)
              clear HB_no HB_first HB_more HB_less HBS
              go_wp2_with fail
              refine wp_region_ext (by kernel_rfl) (by kernel_rfl) ?_
              repeat (go_big_quiet_step (first | (go_at_call 19; exact Calls.ext (HSM.out _))))
              refine wpQuiet_nil ?_
              intro _ hw'
              obtain ⟨X9, hw''⟩ := hw'
              subst hw''
              have HBX : Hid (Below W2.heap.size W2 X9.1) := HB.out.trans (X9.2.mono hzr)
              have HPX : Hid (PrR X9.1 W2.heap.size (.slice ad' done.length c') done) := HPR.out.below X9.2
              go_wp2_with fail
              go_roundw
              case rel => exact ⟨i + 1, b, by go_num, by first | rfl | go_num, by omega, HNX.out, HPX.out, HBX.out⟩
              case measure => simp [intOf]; omega
            | true =>
              cases b with
              | none =>
                have HNX := Lib.hid (HB_first.out rfl rfl)
                have d3 : decide (atI none < 0) = true := rfl
                have e3 : atI none = (-1 : Int) := rfl
                clear HB_no HB_first HB_more HB_less HBS
                rw [e3]
                go_wp2_with fail
                refine wp_region_ext (by kernel_rfl) (by kernel_rfl) ?_
                repeat (go_big_quiet_step (first | (go_at_call 19; exact Calls.ext (HSM.out _))))
                refine wpQuiet_nil ?_
                intro _ hw'
                obtain ⟨X9, hw''⟩ := hw'
                subst hw''
                have HBX : Hid (Below W2.heap.size W2 X9.1) := HB.out.trans (X9.2.mono hzr)
                have HPX : Hid (PrR X9.1 W2.heap.size (.slice ad' done.length c') done) := HPR.out.below X9.2
                go_wp2_with fail
                go_roundw
                case rel => exact ⟨i + 1, some i, by go_num, by first | rfl | go_num, by omega, HNX.out, HPX.out, HBX.out⟩
                case measure => simp [intOf]; omega
              | some c =>
                obtain ⟨hcs, a7, c7, hc7, hix7⟩ := HBS.out c rfl
                have hlc := HLN.out c
                have e3 : atI (some c) = (c : Int) := rfl
                have d3 : decide ((c : Int) < 0) = false := decide_eq_false (by omega)
                rw [e3]
                by_cases h4 : lnW lists c < ln
                · have HNX := Lib.hid (HB_more.out rfl c rfl h4)
                  clear HB_no HB_first HB_more HB_less HBS
                  generalize lnW lists c = lc at *
                  have d4 : decide ((lc : Int) < (ln : Int)) = true := decide_eq_true (by omega)
                  have h4z : (lc : Int) < (ln : Int) := by omega
                  go_wp2_with fail
                  refine wp_region_ext (by kernel_rfl) (by kernel_rfl) ?_
                  repeat (go_big_quiet_step (first | (go_at_call 19; exact Calls.ext (HSM.out _))))
                  refine wpQuiet_nil ?_
                  intro _ hw'
                  obtain ⟨X9, hw''⟩ := hw'
                  subst hw''
                  have HBX : Hid (Below W2.heap.size W2 X9.1) := HB.out.trans (X9.2.mono hzr)
                  have HPX : Hid (PrR X9.1 W2.heap.size (.slice ad' done.length c') done) := HPR.out.below X9.2
                  go_wp2_with fail
                  go_roundw
                  case rel => exact ⟨i + 1, some i, by go_num, by first | rfl | go_num, by omega, HNX.out, HPX.out, HBX.out⟩
                  case measure => simp [intOf]; omega
                · have HNX := Lib.hid (HB_less.out c rfl h4)
                  clear HB_no HB_first HB_more HB_less HBS
                  generalize lnW lists c = lc at *
                  have d4 : decide ((lc : Int) < (ln : Int)) = false := decide_eq_false (by omega)
                  have h4z : ¬ (lc : Int) < (ln : Int) := by omega
                  go_wp2_with fail
                  refine wp_region_ext (by kernel_rfl) (by kernel_rfl) ?_
                  repeat (go_big_quiet_step (first | (go_at_call 19; exact Calls.ext (HSM.out _))))
                  refine wpQuiet_nil ?_
                  intro _ hw'
                  obtain ⟨X9, hw''⟩ := hw'
                  subst hw''
                  have HBX : Hid (Below W2.heap.size W2 X9.1) := HB.out.trans (X9.2.mono hzr)
                  have HPX : Hid (PrR X9.1 W2.heap.size (.slice ad' done.length c') done) := HPR.out.below X9.2
                  go_wp2_with fail
                  go_roundw
                  case rel => exact ⟨i + 1, some c, by go_num, by first | rfl | go_num, by omega, HNX.out, HPX.out, HBX.out⟩
                  case measure => simp [intOf]; omega
          · have h2z : ¬ (k : Int) + (ln : Int) ≤ (N : Int) := by omega
            have d2 : decide ((k : Int) + (ln : Int) ≤ (N : Int)) = false := decide_eq_false h2z
            have HNX := Lib.hid (HB_no.out (HML.out (by omega)))
            clear HMT HM0 HML HB_no HB_first HB_more HB_less HBS
            have HSM : Hid True := trivial
            go_wp2_with fail
            refine wp_region_ext (by kernel_rfl) (by kernel_rfl) ?_
            repeat (go_big_quiet_step (fail))
            refine wpQuiet_nil ?_
            intro _ hw'
            obtain ⟨X9, hw''⟩ := hw'
            subst hw''
            have HBX : Hid (Below W2.heap.size W2 X9.1) := HB.out.trans (X9.2.mono hzr)
            have HPX : Hid (PrR X9.1 W2.heap.size (.slice ad' done.length c') done) := HPR.out.below X9.2
            go_wp2_with fail
            go_roundw
            case rel => exact ⟨i + 1, b, by go_num, by first | rfl | go_num, by omega, HNX.out, HPX.out, HBX.out⟩
            case measure => simp [intOf]; omega
        · obtain rfl : i = svs.length := by omega
          have HBV : Hid (bestV lists (ws.drop k) = b) := by
            rw [Hid, ← HBT.out]; unfold bestV; rw [HSV.out]
          have HWr := HW.out.below HB.out
          have hz9 : W2.heap.size ≤ wr.heap.size := hzr
          cases b with
          | none =>
            have HFN : Hid (done ++ findV lists ws f (k + 1) = fl) := by rw [Hid, ← findV_none (by rw [HN.out]; exact hlt) HBV.out]; exact HFV.out
            rw [show atI none = (-1 : Int) from rfl]
            clear HWr
            go_wp2_with fail
            go_roundw
            case rel => exact ⟨k + 1, f, done, ad', c', by go_num, rfl, by omega, by omega, by omega, HFN.out, HPR.out, HB.out⟩
            case measure => simp [intOf]; omega
          | some i =>
            obtain ⟨hil, hlp, hlb, _⟩ := bestV_some HBV.out
            rw [List.length_drop, HN.out] at hlb
            have HFN : Hid ((done ++ [(i, k)]) ++ findV lists ws f (k + lnW lists i) = fl) := by
              rw [Hid, List.append_assoc, List.singleton_append, ← findV_some (by rw [HN.out]; exact hlt) HBV.out]
              exact HFV.out
            rw [show atI (some i) = (i : Int) from rfl]
            have hi0 : ¬ (i : Int) < 0 := by omega
            have hsl := HSV.out
            obtain ⟨b4, o4, hsa4⟩ := Own.sl HWr.row
            have hix4 := fun W => hsa4.ix (c := cv) 74 39 Try.underlying74 cellsStrs (show i < svs.length by omega) W
            have hc4 := hsa4.cell i (by omega)
            obtain ⟨a6, c6, e6⟩ := (HWr.each i hil).form
            rw [e6] at hc4
            have hlne : (lists.getD i []).length = lnW lists i := rfl
            rw [hlne] at hc4
            have HNB4 : Hid (some b4 ≠ Value.ownBlock (.slice ad' done.length c')) := by
              have h1 := own_apart HWr.row HPR.out (by decide)
              rw [hsa4.adr (by omega)] at h1
              rcases h1 with h | h
              · cases h
              · exact h
            clear hsa4 e6 hlne HBV hsl HWr
            generalize lnW lists i = ln at *
            go_upto_region 20 with (at_builtin; refine appPair rfl _ _ rfl W2.heap.size _ _ _ done rfl rfl HPR.out i k _ rfl (by unfold maxLen; omega) (by omega) hz9 ?_; intro ad7 c7 w7 hpr7 hb7 hg7; have HPR7 := Lib.hid hpr7; have HB7 := Lib.hid hb7; have z7 : w7.cell? ⟨b4, o4 + i, none⟩ = some (.slice a6 ln c6) := hg7.cell hc4 HNB4.out; clear hpr7 hb7 hg7)
            go_wp2_with fail
            go_roundw
            case rel => exact ⟨k + ln, f, done ++ [(i, k)], ad7, c7, by go_num, by rw [List.length_append]; rfl, by omega, by rw [List.length_append]; simp; omega, by omega, HFN.out, by rw [List.length_append]; exact HPR7.out, HB.out.trans HB7.out⟩
            case measure => simp [intOf]; omega
    · obtain rfl : k = N := by omega
      have HF0 : Hid (fl = done) := by rw [Hid, ← HFV.out, findV_end (by rw [HN.out]; exact Nat.le_refl _), List.append_nil]
      go_wp2_with fail
      go_ret
      rw [HF0.out]
      exact ⟨ad', c', rfl, own_rebase HPR0.out HB0.out.size, HB0.out.trans (HB1.out.mono HB0.out.size)⟩
end Go.Proofs.Ytkodnagneblgaaa
