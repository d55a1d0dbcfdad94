/- Walks: the term that is found at the beginning of some words. -/
import Derived.Test.YtkodnagneblgaaaD7
namespace Go.Proofs.Ytkodnagneblgaaa
open Go.RowKit Go.Maps Go.Sort
attribute [local go_sem] Ext.cell Ext.frozen
attribute [local go_sem ↓] Go.wp_at_zero Go.wp_at_succ
/-- the result of at -/
def atI : Option Nat → Int
  | none => -1
  | some i => (i : Int)
theorem find_at {α : Type} {p : α → Bool} {d : α} : ∀ {l : List α} {k : Nat}, (∀ j, j < k → p (l.getD j d) = false) → k < l.length → p (l.getD k d) = true → l.find? p = some (l.getD k d)
  | [], _, _, hk, _ => absurd hk (Nat.not_lt_zero _)
  | x :: l, 0, _, _, hp => by
    have : p x = true := hp
    rw [List.find?_cons_of_pos this]; rfl
  | x :: l, k + 1, h, hk, hp => by
    have h0 : p x = false := h 0 (Nat.succ_pos _)
    rw [List.find?_cons_of_neg (by rw [h0]; simp)]
    have := find_at (l := l) (k := k) (d := d) (fun j hj => h (j + 1) (by omega)) (by simpa using hk) hp
    rw [this]; rfl
theorem find_no {α : Type} {p : α → Bool} {d : α} {l : List α} (h : ∀ j, j < l.length → p (l.getD j d) = false) : l.find? p = none := by
  rw [List.find?_eq_none]
  intro x hx hpx
  obtain ⟨j, hj, rfl⟩ := List.getElem_of_mem hx
  have := h j hj
  rw [List.getD_eq_getElem?_getD, List.getElem?_eq_getElem hj] at this
  simp only [Option.getD_some] at this
  rw [this] at hpx
  cases hpx
theorem take_of_mt {lists : List (List ByteArray)} {ws : List ByteArray} {i : Nat} (hne : lists.getD i [] ≠ []) : mtB lists ws i = decide ((lists.getD i []).take (lnW lists i) = ws.take (lnW lists i)) := by
  unfold mtB
  have : (lists.getD i []).take (lnW lists i) = lists.getD i [] := List.take_of_length_le (Nat.le_refl _)
  rw [this]
  by_cases h : lists.getD i [] = ws.take (lnW lists i)
  · rw [decide_eq_true h, decide_eq_true ⟨hne, h⟩]
  · rw [decide_eq_false h, decide_eq_false (fun e => h e.2)]
theorem mt_long {lists : List (List ByteArray)} {ws : List ByteArray} {i : Nat} (h : ws.length < lnW lists i) : mtB lists ws i = false := by
  unfold mtB
  refine decide_eq_false (fun e => ?_)
  have := congrArg List.length e.2
  rw [List.length_take] at this
  unfold lnW at h this
  omega
theorem InR.sl {w : World} {base : Nat} {ad : Option Addr} {n c : Nat} {ns : List Nat} (h : InR w base (.slice ad n c) ns) : ns.length = n ∧ Sl w ad n (ns.map fun (k : Nat) => Value.int .i64 (k : Int)) := by
  have hn : ns.length = n := by
    rcases h.2 with ⟨e, h0⟩ | ⟨g, cap, cur, e, _⟩
    · injection e with _ e2 _; omega
    · injection e with _ e2 _; exact e2.symm
  unfold InR at h
  rw [hn] at h
  exact ⟨hn, Own.sl h⟩
set_option maxRecDepth 100000 in
set_option maxHeartbeats 8000000 in
theorem at_any (lists : List (List ByteArray)) (w : World) (base M : Nat) (wv : Value) (svs : List Value) (hd : ByteArray → Value) (hI : IdxAt w base M wv svs hd lists) (hL : ∀ i, lnW lists i ≤ 1000000000) (wb wo n c : Nat) (ws : List ByteArray) (hws : ws.length = n) (hn : 0 < n) (hnc : n ≤ c) (_hc9 : c ≤ 9223372036854775807)
    (hcell : ∀ j, j < n → w.cell? ⟨wb, wo + j, none⟩ = some (.string (ws.getD j .empty))) (hsz : ∀ s ∈ ws, s.size ≤ 1000000) :
    Calls Try.prog 45 #[.agg #[wv, .map (some M)], .slice (some ⟨wb, wo, none⟩) n c] w fun e w' => e = .returned (.int .i64 (atI (bestV lists ws))) ∧ Below w.heap.size w w' := by
  obtain ⟨av, cv, rfl⟩ := hI.words.form
  obtain ⟨s0, rs, hws0⟩ : ∃ s0 rs, ws = s0 :: rs := by
    cases ws with
    | nil => simp at hws; omega
    | cons a b => exact ⟨a, b, rfl⟩
  have hs0 : s0.size ≤ maxLen := by have := hsz s0 (by rw [hws0]; simp); unfold maxLen; omega
  obtain ⟨ns, hns, hsort⟩ := hI.rows s0 hs0
  have hlook := fun W (hb : Below w.heap.size w W) => (hI.below hb).gm.look s0 hs0
  have hfb := find_best (r := rs) hsort
  rw [← hws0] at hfb
  have hmem : ∀ k, k < ns.length → ns.getD k 0 < lists.length ∧ lists.getD (ns.getD k 0) [] ≠ [] := fun k hk => by
    have h1 := (hsort.1 (ns.getD k 0)).1 (getD_mem ns k 0 hk)
    obtain ⟨h2, h3⟩ := grp_mem.1 h1
    exact ⟨h2, fun e => by rw [e] at h3; cases h3⟩
  obtain ⟨hv, hhv⟩ : ∃ hv, hd s0 = hv := ⟨_, rfl⟩
  rw [hhv] at hns
  have hlook2 : ∀ W, Below w.heap.size w W → (Instr.lookup 78 (.map (some M)) (.string s0) false).run Try.prog W = .ok hv W := fun W hb => by rw [← hhv]; exact hlook W hb
  obtain ⟨ad3, c3, rfl⟩ : ∃ ad3 c3, hv = .slice ad3 ns.length c3 := own_form hns
  obtain ⟨_, hnsl⟩ := InR.sl hns
  have hw0 : w.cell? ⟨wb, wo, none⟩ = some (.string s0) := by
    have := hcell 0 hn
    rw [Nat.add_zero, hws0] at this
    exact this
  have hwlt : wb < w.heap.size := World.block_lt_of_cell? w _ hw0
  have HLK := Lib.hid hlook2
  have HFB := Lib.hid hfb
  have HMEM := Lib.hid hmem
  have HNS := Lib.hid hnsl
  have hmx := hnsl.max
  have HW := Lib.hid hI.words
  have HCELL := Lib.hid hcell
  have HWS := Lib.hid hws
  have HLN := Lib.hid hL
  have HEQ := Lib.hid Try.slices_Equal_string
  have hn0 : (0 : Int) < (n : Int) := by omega
  have hw1 : (w.alloc (.cells #[.slice av svs.length cv, .map (some M)] 80)).cell? ⟨wb, wo, none⟩ = some (.string s0) := Lib.cell?_alloc_some _ hw0
  clear hI hws0 hs0 hns hsort hlook hlook2 hfb hmem hhv hsz hnsl hcell hws hL hw0
  go_enter Try.func45, Try.ntmps45
  go_upto_region 1 with (fail)
  have HLQ := fun q => HLK.out ((w.alloc (.cells #[.slice av svs.length cv, .map (some M)] 80)).drewN q) (Bel.drewN (Bel.alloc (Bel.refl _) _) q)
  have HB0 : Hid (Below w.heap.size w (w.alloc (.cells #[.slice av svs.length cv, .map (some M)] 80))) := Bel.alloc (Bel.refl _) _
  have hx0 : (w.alloc (.cells #[.slice av svs.length cv, .map (some M)] 80)).cell? ⟨w.heap.size, 0, none⟩ = some (.slice av svs.length cv) := by rw [Lib.cell_of_heap (heap_alloc_new w _)]; rfl
  have hx1 : (w.alloc (.cells #[.slice av svs.length cv, .map (some M)] 80)).cell? ⟨w.heap.size, 1, none⟩ = some (.map (some M)) := by rw [Lib.cell_of_heap (heap_alloc_new w _)]; rfl
  generalize w.alloc (.cells #[.slice av svs.length cv, .map (some M)] 80) = w1 at *
  go_quiet (fail)
  go_wp2_with fail
  have HB1 : Hid (Below w.heap.size w (w1.drewN nq)) := Bel.drewN HB0.out nq
  have hq0 : (w1.drewN nq).cell? ⟨w.heap.size, 0, none⟩ = some (.slice av svs.length cv) := hx0
  clear HB0 hx0 hx1 HLQ hw1
  generalize w1.drewN nq = w2 at *
  have HX0 := Lib.hid hq0
  clear hq0
  go_loopw [15] (fun u wr => ∃ k : Nat, u = .int .i64 (k : Int) ∧ k ≤ ns.length ∧ (∀ j, j < k → mtB lists ws (ns.getD j 0) = false) ∧ Below w.heap.size w wr ∧ wr.cell? ⟨w.heap.size, 0, none⟩ = some (.slice av svs.length cv)) (fun u _ => ns.length - (intOf u).toNat)
  case atStart => exact ⟨0, rfl, Nat.zero_le _, fun j hj => absurd hj (Nat.not_lt_zero _), HB1.out, HX0.out⟩
  case round =>
    obtain ⟨k, rfl, hk, hno, hbl, hx⟩ := hrel
    have HNO := Lib.hid hno
    have HB := Lib.hid hbl
    clear hno hbl HX0 HB1
    by_cases hlt : k < ns.length
    · obtain ⟨hil, hie⟩ := HMEM.out k hlt
      obtain ⟨b3, o3, hsa3⟩ := HNS.out.below HB.out
      have hix3 := fun W => hsa3.ix (c := c3) 93 3 Try.underlying93 cellsInt hlt W
      have hc3 := hsa3.cell k hlt
      have hc3' : wr.cell? ⟨b3, o3 + k, none⟩ = some (.int .i64 ((ns.getD k 0 : Nat) : Int)) := by
        rw [hc3, List.getD_eq_getElem?_getD, List.getElem?_map, List.getD_eq_getElem?_getD, List.getElem?_eq_getElem hlt]; rfl
      have HTN : Hid (mtB lists ws (ns.getD k 0) = true → atI (bestV lists ws) = ((ns.getD k 0 : Nat) : Int)) := fun h => by
        rw [← HFB.out, find_at (d := 0) HNO.out hlt h]; rfl
      have HNX : Hid (mtB lists ws (ns.getD k 0) = false → ∀ j, j < k + 1 → mtB lists ws (ns.getD j 0) = false) := fun h j hj => by
        by_cases e : j = k
        · rw [e]; exact h
        · exact HNO.out j (by omega)
      have HTK := Lib.hid (take_of_mt (ws := ws) hie)
      have HLG : Hid (n < lnW lists (ns.getD k 0) → mtB lists ws (ns.getD k 0) = false) := fun h => mt_long (by rw [HWS.out]; exact h)
      have HWW := HW.out.below HB.out
      have hsl := HWW.len
      have hlnp : 0 < lnW lists (ns.getD k 0) := List.length_pos_iff.2 hie
      have hlnb := HLN.out (ns.getD k 0)
      obtain ⟨ad5, c5, e5⟩ := (HWW.each _ hil).form
      have HROW5 := HWW.each _ hil
      rw [e5] at HROW5
      obtain ⟨b5, o5, hsa5⟩ := Own.sl HROW5
      have ha5 := hsa5.adr (by unfold lnW at hlnp; omega)
      subst ha5
      obtain ⟨b4, o4, hsa4⟩ := Own.sl HWW.row
      have hix4 := fun W => hsa4.ix (c := cv) 74 39 Try.underlying74 cellsStrs (show ns.getD k 0 < svs.length by omega) W
      have hc4 := hsa4.cell (ns.getD k 0) (by omega)
      rw [e5] at hc4
      have HC5 : Hid (∀ j, j < (lists.getD (ns.getD k 0) []).length → wr.cell? ⟨b5, o5 + j, none⟩ = some (.string ((lists.getD (ns.getD k 0) []).getD j .empty))) := fun j hj => by
        rw [hsa5.cell j hj, strs_getD _ _ hj]
      have HC6 : Hid (∀ j, j < ws.length → wr.cell? ⟨wb, wo + j, none⟩ = some (.string (ws.getD j .empty))) := fun j hj => by
        rw [HWS.out] at hj
        exact (HB.out.cell (p := ⟨wb, wo + j, none⟩) hwlt).trans (HCELL.out j hj)
      have HLW : Hid ((lists.getD (ns.getD k 0) []).length = lnW lists (ns.getD k 0)) := rfl
      have hlne : (lists.getD (ns.getD k 0) []).length = lnW lists (ns.getD k 0) := rfl
      rw [hlne] at hc4
      have HEQ1 : Hid (lnW lists (ns.getD k 0) ≤ n → ∀ d, Calls Try.prog 52 #[.slice (some ⟨b5, o5, none⟩) (lnW lists (ns.getD k 0)) c5, .slice (some ⟨wb, wo, none⟩) (lnW lists (ns.getD k 0)) d] wr fun e w' => e = .returned (.bool (mtB lists ws (ns.getD k 0))) ∧ ∃ q, w' = wr.drewN q) := fun h d => by
        have := HEQ.out b5 o5 (lnW lists (ns.getD k 0)) c5 wb wo (lnW lists (ns.getD k 0)) d (lists.getD (ns.getD k 0) []) ws wr (Nat.le_refl _) (by rw [HWS.out]; exact h) (by omega) (by omega) HC5.out HC6.out
        rw [HTK.out]
        exact this
      have hlz : (k : Int) < (ns.length : Int) := by omega
      clear hsa3 hc3 hsa4 hsa5 HC5 HC6 HROW5 HWW e5 hil hie HTK hlne hsl
      generalize mtB lists ws (ns.getD k 0) = mt at *
      generalize lnW lists (ns.getD k 0) = ln at *
      generalize ns.getD k 0 = ik at *
      by_cases hln : ln ≤ n
      · have hlz2 : (ln : Int) ≤ (n : Int) := by omega
        have dlz2 : decide ((ln : Int) ≤ (n : Int)) = true := decide_eq_true hlz2
        have HE := Lib.hid (HEQ1.out hln)
        clear HEQ1 HLG
        go_wp2_with fail
        refine (HE.out _).mono ?_
        rintro e w3 ⟨rfl, q3, rfl⟩
        have HBQ : Hid (Below w.heap.size w (wr.drewN q3)) := Bel.drewN HB.out q3
        have hx3 : (wr.drewN q3).cell? ⟨w.heap.size, 0, none⟩ = some (.slice av svs.length cv) := hx
        have HX3 := Lib.hid hx3
        clear hx3
        cases mt with
        | true =>
          have HT := Lib.hid (HTN.out rfl)
          go_wp2_with fail
          go_ret
          exact ⟨by rw [HT.out]; rfl, HBQ.out⟩
        | false =>
          have HN2 := Lib.hid (HNX.out rfl)
          go_wp2_with fail
          go_roundw
          case rel => exact ⟨k + 1, by go_num, by omega, HN2.out, HBQ.out, HX3.out⟩
          case measure => simp [intOf]; omega
      · have hlz2 : ¬ (ln : Int) ≤ (n : Int) := by omega
        have dlz2 : decide ((ln : Int) ≤ (n : Int)) = false := decide_eq_false hlz2
        have HN2 := Lib.hid (HNX.out (HLG.out (by omega)))
        clear HEQ1 HLG HTN HNX
        go_wp2_with fail
        go_roundw
        case rel => exact ⟨k + 1, by go_num, by omega, HN2.out, HB.out, hx⟩
        case measure => simp [intOf]; omega
    · obtain rfl : k = ns.length := by omega
      have HV : Hid (atI (bestV lists ws) = -1) := by
        rw [Hid, ← HFB.out, find_no (d := 0) HNO.out]; rfl
      go_wp2_with fail
      go_ret
      exact ⟨by rw [HV.out]; rfl, HB.out⟩
end Go.Proofs.Ytkodnagneblgaaa
