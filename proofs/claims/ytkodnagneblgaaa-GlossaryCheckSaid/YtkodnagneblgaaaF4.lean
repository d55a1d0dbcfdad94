/- Walks: valid terms, by the program. -/
import Derived.Test.YtkodnagneblgaaaF3
namespace Go.Proofs.Ytkodnagneblgaaa
open Go.RowKit Go.Maps Go.Sort
attribute [local go_sem] Ext.cell Ext.frozen
attribute [local go_sem ↓] Go.wp_at_zero Go.wp_at_succ
/-- the cells of a block that is known whole -/
theorem row_cells {w : World} {B : Nat} {cs : Array Value} {t : TypeId} (hb : w.heap[B]? = some (.cells cs t (0, 0))) (j : Nat) : w.cell? ⟨B, j, none⟩ = cs[j]? := by
  simp [World.cell?, hb]
theorem row_frozen {w : World} {B : Nat} {cs : Array Value} {t : TypeId} (hb : w.heap[B]? = some (.cells cs t (0, 0))) (j : Nat) : w.frozen? ⟨B, j, none⟩ = false := by
  simp [World.frozen?, hb]
theorem row_new (w : World) (cs : Array Value) (t : TypeId) : (w.alloc (.cells cs t)).heap[w.heap.size]? = some (.cells cs t (0, 0)) := by show (w.heap.push _)[w.heap.size]? = _; simp
theorem row_set {w : World} {B : Nat} {cs : Array Value} {t : TypeId} (hb : w.heap[B]? = some (.cells cs t (0, 0))) (j : Nat) (v : Value) : (w.setCell ⟨B, j, none⟩ v).heap[B]? = some (.cells (cs.setIfInBounds j v) t (0, 0)) := by
  simp [World.setCell, Array.getElem?_modify, hb]
theorem cell_later {w w' : World} (h : Bel w w') {p : Addr} {v : Value} (hc : w.cell? p = some v) : w'.cell? p = some v := by
  have hlt : p.block < w.heap.size := by
    rcases Nat.lt_or_ge p.block w.heap.size with h1 | h1
    · exact h1
    · unfold World.cell? at hc
      rw [Array.getElem?_eq_none h1] at hc
      cases hc
  unfold World.cell? at hc ⊢
  rw [h.block _ hlt]
  exact hc
theorem bel_trans {w X v : World} (h : Bel w X) (hb : Below X.heap.size X v) : Bel w v := Below.trans h (hb.mono (Below.size h))
/-- an earlier term is the same -/
def dupT (ts : List Tm) (i : Nat) : Bool := (List.range i).any fun j => alikeB (ts.getD j tm0).s (ts.getD i tm0).s && alikeB (ts.getD j tm0).t (ts.getD i tm0).t
def okT (ts : List Tm) (i : Nat) : Bool := properB (ts.getD i tm0).s && properB (ts.getD i tm0).t && !dupT ts i
def validT (ts : List Tm) : Bool := (List.range ts.length).all (okT ts) && decide (ts.length ≤ 200)
/-- the keys of the first terms -/
def keysT (ts : List Tm) (i : Nat) : List (ByteArray × ByteArray) := (List.range i).map fun j => (keyB (ts.getD j tm0).s, keyB (ts.getD j tm0).t)
theorem keysT_succ (ts : List Tm) (i : Nat) : keysT ts (i + 1) = keysT ts i ++ [(keyB (ts.getD i tm0).s, keyB (ts.getD i tm0).t)] := by simp [keysT, List.range_succ]
theorem memP_keys (ts : List Tm) (i : Nat) : memP (keyB (ts.getD i tm0).s) (keyB (ts.getD i tm0).t) (keysT ts i) = dupT ts i := by
  unfold memP keysT dupT
  rw [List.any_map]
  congr 1
  funext j
  simp only [Function.comp]
  rw [Bool.eq_iff_iff, decide_eq_true_eq, Bool.and_eq_true, alikeB_iff, alikeB_iff]
theorem valid_no {ts : List Tm} {i : Nat} (hi : i < ts.length) (h : okT ts i = false) : validT ts = false := by
  unfold validT
  have : (List.range ts.length).all (okT ts) = false := by
    rw [Bool.eq_false_iff]
    intro e
    rw [List.all_eq_true] at e
    rw [e i (List.mem_range.2 hi)] at h
    cases h
  rw [this, Bool.false_and]
theorem valid_end {ts : List Tm} (h : ∀ i, i < ts.length → okT ts i = true) : validT ts = decide (ts.length ≤ 200) := by
  unfold validT
  have : (List.range ts.length).all (okT ts) = true := by
    rw [List.all_eq_true]
    intro x hx
    exact h x (List.mem_range.1 hx)
  rw [this, Bool.true_and]
set_option maxRecDepth 100000 in
set_option maxHeartbeats 8000000 in
theorem pvalid_any (ts : List Tm) (ad : Option Addr) (n c : Nat) (w : World) (ht : TmAt w ad n ts) (hn : n ≤ 1000) (hz : ∀ x ∈ ts, x.s.size ≤ 100000 ∧ x.t.size ≤ 100000) :
    Calls Try.prog 15 #[.slice ad n c] w fun e w' => e = .returned (.bool (validT ts)) ∧ Below w.heap.size w w' := by
  obtain ⟨hl, b, off, hrw⟩ := ht
  have HR := Lib.hid hrw
  have HL := Lib.hid hl
  have HZ := Lib.hid hz
  have HK := Lib.hid key_any
  have HP := Lib.hid proper_any
  have hmm := @run_makeMap Try.prog
  clear hrw hl hz
  go_enter Try.func15, Try.ntmps15
  go_wp2_with fail
  have HS0 := Lib.hid (SeenP.made w)
  have HB0 : Hid (Below w.heap.size w (w.alloc (.map #[] 0))) := Bel.alloc (Bel.refl _) _
  generalize w.alloc (.map #[] 0) = w1 at *
  go_loopw [10] (fun u wr => ∃ (i : Nat), u = .int .i64 (i : Int) ∧ i ≤ n ∧ (∀ j, j < i → okT ts j = true) ∧ SeenP wr w.heap.size i (keysT ts i) ∧ Below w.heap.size w wr) (fun u _ => n - (intOf u).toNat)
  case atStart => exact ⟨0, rfl, Nat.zero_le _, fun j hj => absurd hj (Nat.not_lt_zero _), HS0.out, HB0.out⟩
  case round =>
    obtain ⟨i, rfl, hin, hok, hse, hbl⟩ := hrel
    have HOK := Lib.hid hok
    have HSE := Lib.hid hse
    have HB := Lib.hid hbl
    have hzr := hbl.size
    clear hok hse hbl HS0 HB0
    by_cases hlt : i < n
    · have hr := HR.out.below HB.out
      have hix := fun W => hr.ix 29 53 Try.underlying29 cellsTm (by omega) hlt c W
      have h0 := hr.cell i 0 hlt (by omega)
      have h1 := hr.cell i 1 hlt (by omega)
      have h2 := hr.cell i 2 hlt (by omega)
      rw [Nat.add_zero] at h0
      simp only [tmC] at h0 h1 h2
      have HMP := Lib.hid (memP_keys ts i)
      have HKS := Lib.hid (keysT_succ ts i)
      have HNO := Lib.hid (valid_no (ts := ts) (i := i) (by rw [HL.out]; exact hlt))
      have HOKE : Hid (okT ts i = (properB (ts.getD i tm0).s && properB (ts.getD i tm0).t && !dupT ts i)) := rfl
      have HNX : Hid (okT ts i = true → ∀ j, j < i + 1 → okT ts j = true) := fun h j hj => by
        by_cases e : j = i
        · rw [e]; exact h
        · exact HOK.out j (by omega)
      obtain ⟨z1, z2⟩ := HZ.out (ts.getD i tm0) (getD_mem _ _ _ (by rw [HL.out]; exact hlt))
      have hlz : (i : Int) < (n : Int) := by omega
      have HZ1 := Lib.hid z1
      have HZ2 := Lib.hid z2
      clear hr z1 z2
      generalize okT ts i = ok at *
      generalize dupT ts i = du at *
      generalize ts.getD i tm0 = x at *
      go_upto_region 5 with (fail)
      have HB1 : Hid (Below w.heap.size w (wr.alloc (.cells #[.string x.s, .string x.t, .bool x.f] 53))) := HB.out.alloc hzr _
      have HX1 : Hid ((wr.alloc (.cells #[.string x.s, .string x.t, .bool x.f] 53)).heap[wr.heap.size]? = some (.cells #[.string x.s, .string x.t, .bool x.f] 53 (0, 0))) := heap_alloc_new wr _
      have HS1 := Lib.hid (HSE.out.below (Bel.alloc (Bel.refl wr) (.cells #[.string x.s, .string x.t, .bool x.f] 53)))
      generalize wr.alloc (.cells #[.string x.s, .string x.t, .bool x.f] 53) = w2 at *
      have x0 : w2.cell? ⟨wr.heap.size, 0, none⟩ = some (.string x.s) := by rw [Lib.cell_of_heap HX1.out]; rfl
      have x1 : w2.cell? ⟨wr.heap.size, 1, none⟩ = some (.string x.t) := by rw [Lib.cell_of_heap HX1.out]; rfl
      have hxl := (Array.getElem?_eq_some_iff.1 HX1.out).1
      clear HSE HOK hix h0 h1 h2
      have n0 : w2.heap.size ≠ wr.heap.size := by omega
      go_cut [6] (fun p wx => ∃ B : Nat, p = .pointer (some ⟨B, 0, none⟩) ∧ wx.heap[B]? = some (.cells #[.string (keyB x.s), .string (keyB x.t)] 65 (0, 0)) ∧ Below w2.heap.size w2 wx)
      case first =>
        go_region_held (fun w' => w'.cell? ⟨wr.heap.size, 0, none⟩ = some (.string x.s) ∧ w'.cell? ⟨wr.heap.size, 1, none⟩ = some (.string x.t)) (go_keep)
          (first
            | (go_at_call 31; (with_reducible refine (HK.out x.s _ (Nat.le_trans HZ1.out (by omega))).mono ?_); rintro e v1 ⟨rfl, hb⟩; have HV1 : Hid (Bel w2 v1) := bel_trans (by (show Bel w2 _; repeat (first | exact Bel.refl _ | exact HV1.out | exact HV2.out | refine Bel.alloc ?_ _ | refine Bel.drew ?_))) hb; have q0 := cell_later HV1.out x0; have q1 := cell_later HV1.out x1; have n1 : v1.heap.size ≠ wr.heap.size := (by have := Below.size HV1.out; omega); (try (have RA : Hid (v1.heap[w2.heap.size]? = some (.cells #[.string ⟨#[]⟩, .string ⟨#[]⟩] 65 (0, 0))) := (hb.block w2.heap.size (by simp)).trans (row_new w2.drew _ _); have RAc0 := row_cells RA.out 0; have RAz0 := row_frozen RA.out 0; have RAc1 := row_cells RA.out 1; have RAz1 := row_frozen RA.out 1)); clear hb)
            | (go_at_call 31; (with_reducible refine (HK.out x.t _ (Nat.le_trans HZ2.out (by omega))).mono ?_); rintro e v2 ⟨rfl, hb⟩; have HV2 : Hid (Bel w2 v2) := bel_trans (by (show Bel w2 _; repeat (first | exact Bel.refl _ | exact HV1.out | exact HV2.out | refine Bel.alloc ?_ _ | refine Bel.drew ?_))) hb; (try (have RB : Hid (v2.heap[v1.heap.size]? = some (.cells #[.string ⟨#[]⟩, .string ⟨#[]⟩] 65 (0, 0))) := (hb.block v1.heap.size (by simp)).trans (row_new v1 _ _); have RBc0 := row_cells RB.out 0; have RBz0 := row_frozen RB.out 0; have RBc1 := row_cells RB.out 1; have RBz1 := row_frozen RB.out 1)); (try (have RB : Hid (v2.heap[w2.heap.size]? = some (.cells #[.string ⟨#[]⟩, .string ⟨#[]⟩] 65 (0, 0))) := (hb.block w2.heap.size (Array.getElem?_eq_some_iff.1 RA.out).1).trans RA.out; have RBc0 := row_cells RB.out 0; have RBz0 := row_frozen RB.out 0; have RBc1 := row_cells RB.out 1; have RBz1 := row_frozen RB.out 1)); have q0 := cell_later HV2.out x0; have q1 := cell_later HV2.out x1; have n2 : v2.heap.size ≠ wr.heap.size := (by have := Below.size HV2.out; omega); clear hb))
        all_goals
          go_wp2_with fail
          go_meet
          refine ⟨_, rfl, ?_, ?_⟩
          · first | exact row_new _ _ _ | exact row_set (row_set RB.out 0 _) 1 _
          · first | exact Bel.alloc HV2.out _ | exact Bel.setCell (Bel.setCell HV2.out _ _ (Nat.le_refl _)) _ _ (Nat.le_refl _) | exact Bel.setCell (Bel.setCell HV2.out _ _ (Below.size HV1.out)) _ _ (Below.size HV1.out)
      case rest =>
        obtain ⟨B, rfl, hrow, hb⟩ := hcut
        have HB3 : Hid (Below w.heap.size w wc) := HB1.out.trans (hb.mono HB1.out.size)
        have HS3 := Lib.hid (HS1.out.below hb)
        have HX3 : Hid (wc.heap[wr.heap.size]? = some (.cells #[.string x.s, .string x.t, .bool x.f] 53 (0, 0))) := (hb.block _ hxl).trans HX1.out
        have HBX := Lib.hid hrow
        have y0 := row_cells HX3.out 0
        have y1 := row_cells HX3.out 1
        have HP1 : Hid (∀ W, Calls Try.prog 32 #[.string x.s] W fun e w' => e = .returned (.bool (properB x.s)) ∧ Below W.heap.size W w') := fun W => HP.out x.s W (Nat.le_trans HZ1.out (by omega))
        have HP2 : Hid (∀ W, Calls Try.prog 32 #[.string x.t] W fun e w' => e = .returned (.bool (properB x.t)) ∧ Below W.heap.size W w') := fun W => HP.out x.t W (Nat.le_trans HZ2.out (by omega))
        clear hb hrow HB1 HS1 HX1 x0 x1 hxl n0 HP HK
        generalize properB x.s = p1 at *
        generalize properB x.t = p2 at *
        cases p1 with
        | false =>
          have HV : Hid (validT ts = false) := HNO.out (by rw [HOKE.out]; rfl)
          go_wp2_with fail
          refine (HP1.out _).mono ?_
          rintro e v1 ⟨rfl, hb⟩
          have HB4 := Lib.hid (HB3.out.trans (hb.mono HB3.out.size))
          clear hb
          go_wp2_with fail
          go_ret
          exact ⟨by rw [HV.out]; rfl, HB4.out⟩
        | true =>
          go_wp2_with fail
          refine (HP1.out _).mono ?_
          rintro e v1 ⟨rfl, hb⟩
          have HB4 := Lib.hid (HB3.out.trans (hb.mono HB3.out.size))
          have HS4 := Lib.hid (HS3.out.below hb)
          have HX4 : Hid (v1.heap[wr.heap.size]? = some (.cells #[.string x.s, .string x.t, .bool x.f] 53 (0, 0))) := (hb.block _ (Array.getElem?_eq_some_iff.1 HX3.out).1).trans HX3.out
          have HBX4 : Hid (v1.heap[B]? = some (.cells #[.string (keyB x.s), .string (keyB x.t)] 65 (0, 0))) := (hb.block _ (Array.getElem?_eq_some_iff.1 HBX.out).1).trans HBX.out
          have z1 := row_cells HX4.out 1
          clear hb HB3 HS3 HX3 HBX y0 y1
          cases p2 with
          | false =>
            have HV : Hid (validT ts = false) := HNO.out (by rw [HOKE.out]; rfl)
            go_wp2_with fail
            refine (HP2.out _).mono ?_
            rintro e v2 ⟨rfl, hb⟩
            have HB5 := Lib.hid (HB4.out.trans (hb.mono HB4.out.size))
            clear hb
            go_wp2_with fail
            go_ret
            exact ⟨by rw [HV.out]; rfl, HB5.out⟩
          | true =>
            go_wp2_with fail
            refine (HP2.out _).mono ?_
            rintro e v2 ⟨rfl, hb⟩
            have HB5 := Lib.hid (HB4.out.trans (hb.mono HB4.out.size))
            have HS5 := Lib.hid (HS4.out.below hb)
            have HBX5 : Hid (v2.heap[B]? = some (.cells #[.string (keyB x.s), .string (keyB x.t)] 65 (0, 0))) := (hb.block _ (Array.getElem?_eq_some_iff.1 HBX4.out).1).trans HBX4.out
            clear hb HB4 HS4 HX4 HBX4 z1
            have hk1 : (keyB x.s).size ≤ maxLen := Nat.le_trans (keyB_size _) (by have := HZ1.out; unfold maxLen; omega)
            have hk2 : (keyB x.t).size ≤ maxLen := Nat.le_trans (keyB_size _) (by have := HZ2.out; unfold maxLen; omega)
            have hlk := HS5.out.look (keyB x.s) (keyB x.t) hk1 hk2
            rw [HMP.out] at hlk
            have HPUT := Lib.hid (HS5.out.put (keyB x.s) (keyB x.t) hk1 hk2 (by unfold maxLen; omega))
            clear hk1 hk2
            have b0 := row_cells HBX5.out 0
            have b1 := row_cells HBX5.out 1
            cases du with
            | true =>
              have HV : Hid (validT ts = false) := HNO.out (by rw [HOKE.out]; rfl)
              go_wp2_with fail
              go_ret
              exact ⟨by rw [HV.out]; rfl, HB5.out⟩
            | false =>
              obtain ⟨w5, hput, hse5, hg⟩ := HPUT.out
              have HSE5 := Lib.hid (HKS.out ▸ hse5)
              have HB6 : Hid (Below w.heap.size w w5) := HB5.out.grown hg HB5.out.size (fun j hj => by injection hj with hj; omega)
              clear hse5 hg HPUT
              go_wp2_with fail
              go_roundw
              case rel => exact ⟨i + 1, by go_num, by omega, HNX.out (by rw [HOKE.out]; rfl), HSE5.out, HB6.out⟩
              case measure => simp [intOf]; omega
    · obtain rfl : i = n := by omega
      have HF : Hid (validT ts = decide ((i : Int) ≤ 200)) := by
        rw [Hid, valid_end (fun j hj => HOK.out j (by rw [← HL.out]; exact hj)), HL.out, Bool.eq_iff_iff, decide_eq_true_eq, decide_eq_true_eq]
        omega
      go_wp2_with fail
      go_ret
      exact ⟨by rw [HF.out]; rfl, HB.out⟩
end Go.Proofs.Ytkodnagneblgaaa
