/- Walks: terms turned into terms; few terms. -/
import Derived.Test.YtkodnagneblgaaaF2
namespace Go.Proofs.Ytkodnagneblgaaa
open Go.RowKit Go.Maps Go.Sort
attribute [local go_sem] Ext.cell Ext.frozen
attribute [local go_sem ↓] Go.wp_at_zero Go.wp_at_succ
/-- terms, all cells in a row -/
def tmF (ts : List Tm) : List Value := ts.flatMap fun x => [.string x.s, .string x.t, .bool x.f]
theorem tmF_snoc (ts : List Tm) (x : Tm) : tmF (ts ++ [x]) = tmF ts ++ [.string x.s, .string x.t, .bool x.f] := by simp [tmF]
theorem list_range {α : Type} (l : List α) (d : α) : l = (List.range l.length).map (fun i => l.getD i d) := by
  apply List.ext_getElem
  · simp
  · intro i h1 h2
    simp [List.getElem?_eq_getElem h1]
theorem tmF_flat (ts : List Tm) : tmF ts = flat 3 (tmC ts) ts.length := by
  have h : tmF ts = tmF ((List.range ts.length).map (fun i => ts.getD i tm0)) := by rw [← list_range]
  rw [h]
  unfold tmF flat
  rw [List.flatMap_map]
  rfl
theorem rw_three (w : World) (x y z : Value) (T : TypeId) : Rw (w.alloc (.cells #[x, y, z] T)) (some ⟨w.heap.size, 0, none⟩) 1 3 (fun _ j => (#[x, y, z] : Array Value).getD j undef) w.heap.size 0 :=
  ⟨by omega, fun _ => rfl, fun i j hi hj => by
    obtain rfl : i = 0 := by omega
    rcases (by omega : j = 0 ∨ j = 1 ∨ j = 2) with e | e | e <;> subst e <;> (rw [Lib.cell_of_heap (heap_alloc_new w _)]; rfl)⟩
/-- a row of terms of the call's own -/
def TmR (w : World) (base : Nat) (v : Value) (ts : List Tm) : Prop := w.ownsRow base 53 3 v ts.length (tmF ts)
theorem TmR.at {w : World} {base : Nat} {ad : Option Addr} {n c : Nat} {ts : List Tm} (h : TmR w base (.slice ad n c) ts) : TmAt w ad n ts := by
  have hn : ts.length = n := by
    rcases h.2 with ⟨e, h0⟩ | ⟨g, cap, cur, e, _⟩
    · injection e with _ e2 _; omega
    · injection e with _ e2 _; exact e2.symm
  unfold TmR at h
  rw [tmF_flat, hn] at h
  obtain ⟨b, hr, _⟩ := own_rw h
  exact ⟨hn, b, 0, hr⟩
theorem appTm {ops : Array Oper} {rest : List Oper} {o : Oper} {a : Act} {Q : Exit → Act → World → Prop} {w : World} (hgd : o.guard = none) (s x : Operand) (ho : o.op = .call { callee := .builtin .append, args := #[s, x], argTypes := #[29, 29] })
    (base : Nat) (ad : Option Addr) (k c : Nat) (ts : List Tm) (hk : ts.length = k) (hs : a.eval s = .slice ad k c) (hown : TmR w base (.slice ad k c) ts) (y : Tm) (T : TypeId) (hxe : a.eval x = .slice (some ⟨w.heap.size, 0, none⟩) 1 1)
    (h63 : k + 1 ≤ maxLen) (hr : (k + 1) * 40 ≤ 140737488355328) (hb : base ≤ w.heap.size)
    (h : ∀ ad' c' w', TmR w' base (.slice ad' (k + 1) c') (ts ++ [y]) → Below base w w' → w.grownBy w' (Value.ownBlock (.slice ad k c)) → wpList Try.prog ops Q rest (a.put o.dst (.slice ad' (k + 1) c')) w') :
    wpList Try.prog ops Q (o :: rest) a (w.alloc (.cells #[.string y.s, .string y.t, .bool y.f] T)) := by
  subst hk
  refine wpList_app_rows hgd s x ho Try.underlying29 infoTm rfl (by omega) base ad ts.length c (tmF ts) hs (World.ownsRow.alloc hown _) (some ⟨w.heap.size, 0, none⟩) 1 1 _ _ _ hxe (rw_three w _ _ _ T) (fun e => by cases e)
    (fun i j _ hj => by rcases (by omega : j = 0 ∨ j = 1 ∨ j = 2) with e | e | e <;> subst e <;> rfl) h63 hr (by simp; omega) ?_
  intro ad' c' w' h1 h2
  refine h ad' c' w' ?_ ?_ ?_
  · unfold TmR
    rw [tmF_snoc, List.length_append]
    exact h1
  · exact ((Below.refl base w).alloc hb _).grown h2 (by simp; omega) (fun k hk => (hown.lt k hk).1)
  · exact ⟨h2.os, h2.tape, h2.output, by have := h2.size; simp at this; omega, fun k hk hne => (h2.block k (by simp; omega) hne).trans (Below.heap_alloc _ _ _ hk)⟩
set_option maxHeartbeats 2000000 in
theorem to_any (ts : List Tm) (ad : Option Addr) (n c : Nat) (w : World) (ht : TmAt w ad n ts) (hn : n ≤ 1000) :
    Calls Try.prog 11 #[.slice ad n c] w fun e w' => ∃ ad' c', e = .returned (.slice ad' n c') ∧ TmR w' w.heap.size (.slice ad' n c') ts ∧ Below w.heap.size w w' := by
  obtain ⟨hl, b, off, hrw⟩ := ht
  have HR := Lib.hid hrw
  have HL := Lib.hid hl
  clear hrw hl
  go_enter Try.func11, Try.ntmps11
  go_wp2_with fail
  go_loopw [3, 8] (fun v u wr => ∃ (i : Nat) (ad' : Option Addr) (c' : Nat), u = .int .i64 (i : Int) ∧ v = .slice ad' i c' ∧ i ≤ n ∧ TmR wr w.heap.size (.slice ad' i c') (ts.take i) ∧ Below w.heap.size w wr) (fun _ u _ => n - (intOf u).toNat)
  case atStart => exact ⟨0, none, 0, rfl, rfl, Nat.zero_le _, World.ownsRow_nil _ _ _ _, Below.refl _ _⟩
  case round =>
    obtain ⟨i, ad', c', rfl, rfl, hin, htr, hbl⟩ := hrel
    have HT := Lib.hid htr
    have HB := Lib.hid hbl
    have hzr := hbl.size
    clear htr hbl
    by_cases hlt : i < n
    · have hr := HR.out.below HB.out
      have hix := fun W => hr.ix 22 48 Try.underlying22 cellsRTm (by omega) hlt c W
      have h0 := hr.cell i 0 hlt (by omega)
      have h1 := hr.cell i 1 hlt (by omega)
      have h2 := hr.cell i 2 hlt (by omega)
      rw [Nat.add_zero] at h0
      simp only [tmC] at h0 h1 h2
      have HTK : Hid (ts.take (i + 1) = ts.take i ++ [ts.getD i tm0]) := take_snoc ts i tm0 (by rw [HL.out]; exact hlt)
      have HTL : Hid ((ts.take i).length = i) := by rw [Hid, List.length_take, HL.out]; omega
      have hlz : (i : Int) < (n : Int) := by omega
      clear hr
      generalize ts.getD i tm0 = x at *
      go_upto_region 5 with (fail)
      have HT2 := Lib.hid (World.ownsRow.alloc HT.out (.cells #[.string x.s, .string x.t, .bool x.f] 48))
      have HB2 : Hid (Below w.heap.size w (wr.alloc (.cells #[.string x.s, .string x.t, .bool x.f] 48))) := HB.out.alloc hzr _
      have x0 : (wr.alloc (.cells #[.string x.s, .string x.t, .bool x.f] 48)).cell? ⟨wr.heap.size, 0, none⟩ = some (.string x.s) := by rw [Lib.cell_of_heap (heap_alloc_new wr _)]; rfl
      have x1 : (wr.alloc (.cells #[.string x.s, .string x.t, .bool x.f] 48)).cell? ⟨wr.heap.size, 1, none⟩ = some (.string x.t) := by rw [Lib.cell_of_heap (heap_alloc_new wr _)]; rfl
      have x2 : (wr.alloc (.cells #[.string x.s, .string x.t, .bool x.f] 48)).cell? ⟨wr.heap.size, 2, none⟩ = some (.bool x.f) := by rw [Lib.cell_of_heap (heap_alloc_new wr _)]; rfl
      have hz2 : w.heap.size ≤ (wr.alloc (.cells #[.string x.s, .string x.t, .bool x.f] 48)).heap.size := by simp; omega
      generalize wr.alloc (.cells #[.string x.s, .string x.t, .bool x.f] 48) = w2 at *
      go_wp2_with (at_builtin; refine appTm rfl _ _ rfl w.heap.size _ _ _ (ts.take i) HTL.out rfl HT2.out x _ rfl (by unfold maxLen; omega) (by omega) hz2 ?_; intro ad7 c7 w7 htr7 hb7 hg7; have HT7 := Lib.hid htr7; have HB7 := Lib.hid hb7; clear htr7 hb7 hg7)
      go_roundw
      case rel => exact ⟨i + 1, ad7, c7, by go_num, rfl, by omega, by rw [HTK.out]; exact HT7.out, HB2.out.trans HB7.out⟩
      case measure => simp [intOf]; omega
    · obtain rfl : i = n := by omega
      go_wp2_with fail
      go_ret
      have := HT.out
      rw [List.take_of_length_le (by rw [HL.out]; exact Nat.le_refl _)] at this
      exact ⟨ad', c', rfl, this, HB.out⟩
/-- few terms -/
def fewT (ts : List Tm) : Bool := ts.all (fun x => decide (x.s.size ≤ 250) && decide (x.t.size ≤ 250)) && decide (ts.length ≤ 30)
set_option maxHeartbeats 2000000 in
theorem few_any (ts : List Tm) (ad : Option Addr) (n c : Nat) (w : World) (ht : TmAt w ad n ts) (hn : n ≤ 9223372036854775807) :
    Calls Try.prog 9 #[.slice ad n c] w fun e w' => e = .returned (.bool (fewT ts)) ∧ w = w' := by
  obtain ⟨hl, b, off, hrw⟩ := ht
  have HR := Lib.hid hrw
  have HL := Lib.hid hl
  clear hrw hl
  go_enter Try.func9, Try.ntmps9
  go_wp2_with fail
  go_loopw [3] (fun u wr => ∃ (i : Nat), u = .int .i64 (i : Int) ∧ i ≤ n ∧ (∀ j, j < i → (ts.getD j tm0).s.size ≤ 250 ∧ (ts.getD j tm0).t.size ≤ 250) ∧ wr = w) (fun u _ => n - (intOf u).toNat)
  case atStart => exact ⟨0, rfl, Nat.zero_le _, fun j hj => absurd hj (Nat.not_lt_zero _), rfl⟩
  case round =>
    obtain ⟨i, rfl, hin, hal, rfl⟩ := hrel
    have HAL := Lib.hid hal
    clear hal
    by_cases hlt : i < n
    · have hr := HR.out
      have hix := fun W => hr.ix 22 48 Try.underlying22 cellsRTm (by omega) hlt c W
      have h0 := hr.cell i 0 hlt (by omega)
      have h1 := hr.cell i 1 hlt (by omega)
      rw [Nat.add_zero] at h0
      simp only [tmC] at h0 h1
      have HNX : Hid ((ts.getD i tm0).s.size ≤ 250 → (ts.getD i tm0).t.size ≤ 250 → ∀ j, j < i + 1 → (ts.getD j tm0).s.size ≤ 250 ∧ (ts.getD j tm0).t.size ≤ 250) := fun e1 e2 j hj => by
        by_cases e : j = i
        · rw [e]; exact ⟨e1, e2⟩
        · exact HAL.out j (by omega)
      have HNO : Hid (¬ ((ts.getD i tm0).s.size ≤ 250 ∧ (ts.getD i tm0).t.size ≤ 250) → fewT ts = false) := fun h => by
        unfold fewT
        rw [all_of_getD _ ts i (by rw [HL.out]; exact hlt) tm0 (by
          rw [Bool.eq_false_iff]
          intro e
          rw [Bool.and_eq_true, decide_eq_true_eq, decide_eq_true_eq] at e
          exact h e), Bool.false_and]
      have hlz : (i : Int) < (n : Int) := by omega
      clear hr
      generalize ts.getD i tm0 = x at *
      by_cases e1 : x.s.size ≤ 250
      · have k1 : ¬ (250 : Int) < (x.s.size : Int) := by omega
        have d1 : decide ((250 : Int) < (x.s.size : Int)) = false := decide_eq_false k1
        by_cases e2 : x.t.size ≤ 250
        · have k2 : ¬ (250 : Int) < (x.t.size : Int) := by omega
          have d2 : decide ((250 : Int) < (x.t.size : Int)) = false := decide_eq_false k2
          have HN := Lib.hid (HNX.out e1 e2)
          clear HNX HNO
          go_wp2_with fail
          go_roundw
          case rel => exact ⟨i + 1, by go_num, by omega, HN.out, trivial⟩
          case measure => simp [intOf]; omega
        · have k2 : (250 : Int) < (x.t.size : Int) := by omega
          have d2 : decide ((250 : Int) < (x.t.size : Int)) = true := decide_eq_true k2
          have HF := Lib.hid (HNO.out (fun h => e2 h.2))
          clear HNX HNO
          go_wp2_with fail
          go_ret
          exact ⟨by rw [HF.out]; rfl, rfl⟩
      · have k1 : (250 : Int) < (x.s.size : Int) := by omega
        have d1 : decide ((250 : Int) < (x.s.size : Int)) = true := decide_eq_true k1
        have HF := Lib.hid (HNO.out (fun h => e1 h.1))
        clear HNX HNO
        go_wp2_with fail
        go_ret
        exact ⟨by rw [HF.out]; rfl, rfl⟩
    · obtain rfl : i = n := by omega
      have HF : Hid (fewT ts = decide ((i : Int) ≤ 30)) := by
        have h1 : ts.all (fun x => decide (x.s.size ≤ 250) && decide (x.t.size ≤ 250)) = true := by
          rw [List.all_eq_true]
          intro x hx
          obtain ⟨j, hj, rfl⟩ := List.getElem_of_mem hx
          have := HAL.out j (by rw [← HL.out]; exact hj)
          rw [List.getD_eq_getElem?_getD, List.getElem?_eq_getElem hj] at this
          simpa using this
        unfold Hid fewT
        rw [h1, Bool.true_and, HL.out, Bool.eq_iff_iff, decide_eq_true_eq, decide_eq_true_eq]
        omega
      go_wp2_with fail
      go_ret
      exact ⟨by rw [HF.out]; rfl, rfl⟩
theorem fewT_iff {ts : List Tm} (h : fewT ts = true) : ts.length ≤ 30 ∧ ∀ x ∈ ts, x.s.size ≤ 250 ∧ x.t.size ≤ 250 := by
  unfold fewT at h
  rw [Bool.and_eq_true, List.all_eq_true, decide_eq_true_eq] at h
  exact ⟨h.2, fun x hx => by simpa using h.1 x hx⟩
end Go.Proofs.Ytkodnagneblgaaa
