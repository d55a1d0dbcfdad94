/- Walks: valid terms, by the program. -/
import Derived.Test.YtkodnagneblgaaaQ11
namespace Go.Proofs.Ytkodnagneblgaaa
open Go.RowKit Go.Maps Go.Sort
attribute [local go_sem] Ext.cell Ext.frozen
attribute [local go_sem ↓] Go.wp_at_zero Go.wp_at_succ
/-- the cells of a block that is known whole -/
theorem row_cells {w : World} {B : Nat} {cs : Array Value} {t : TypeId} (hb : w.heap[B]? = some (.cells cs t (0, 0))) (j : Nat) : w.cell? ⟨B, j, none⟩ = cs[j]? := by
  simp [World.cell?, hb]
theorem row_frozen {w : World} {B : Nat} {cs : Array Value} {t : TypeId} (hb : w.heap[B]? = some (.cells cs t (0, 0))) (j : Nat) : w.frozen? ⟨B, j, none⟩ = false := by
  simp [World.frozen?, hb]
theorem row_new (w : World) (cs : Array Value) (t : TypeId) : (w.alloc (.cells cs t)).heap[w.heap.size]? = some (.cells cs t (0, 0)) := by show (w.heap.push _)[w.heap.size]? = _; simp
theorem row_set {w : World} {B : Nat} {cs : Array Value} {t : TypeId} (hb : w.heap[B]? = some (.cells cs t (0, 0))) (j : Nat) (v : Value) : (w.setCell ⟨B, j, none⟩ v).heap[B]? = some (.cells (cs.setIfInBounds j v) t (0, 0)) := by
  simp [World.setCell, Array.getElem?_modify, hb]
theorem cell_later {w w' : World} (h : Bel w w') {p : Addr} {v : Value} (hc : w.cell? p = some v) : w'.cell? p = some v := by
  have hlt : p.block < w.heap.size := by
    rcases Nat.lt_or_ge p.block w.heap.size with h1 | h1
    · exact h1
    · unfold World.cell? at hc
      rw [Array.getElem?_eq_none h1] at hc
      cases hc
  unfold World.cell? at hc ⊢
  rw [h.block _ hlt]
  exact hc
theorem bel_trans {w X v : World} (h : Bel w X) (hb : Below X.heap.size X v) : Bel w v := Below.trans h (hb.mono (Below.size h))
/-- an earlier term is the same -/
def dupT (ts : List Tm) (i : Nat) : Bool := (List.range i).any fun j => alikeB (ts.getD j tm0).s (ts.getD i tm0).s && alikeB (ts.getD j tm0).t (ts.getD i tm0).t
def okT (ts : List Tm) (i : Nat) : Bool := properB (ts.getD i tm0).s && properB (ts.getD i tm0).t && !dupT ts i
def validT (ts : List Tm) : Bool := (List.range ts.length).all (okT ts) && decide (ts.length ≤ 200)
/-- the keys of the first terms -/
def keysT (ts : List Tm) (i : Nat) : List (ByteArray × ByteArray) := (List.range i).map fun j => (keyB (ts.getD j tm0).s, keyB (ts.getD j tm0).t)
theorem keysT_succ (ts : List Tm) (i : Nat) : keysT ts (i + 1) = keysT ts i ++ [(keyB (ts.getD i tm0).s, keyB (ts.getD i tm0).t)] := by simp [keysT, List.range_succ]
theorem memP_keys (ts : List Tm) (i : Nat) : memP (keyB (ts.getD i tm0).s) (keyB (ts.getD i tm0).t) (keysT ts i) = dupT ts i := by
  unfold memP keysT dupT
  rw [List.any_map]
  congr 1
  funext j
  simp only [Function.comp]
  rw [Bool.eq_iff_iff, decide_eq_true_eq, Bool.and_eq_true, alikeB_iff, alikeB_iff]
theorem valid_no {ts : List Tm} {i : Nat} (hi : i < ts.length) (h : okT ts i = false) : validT ts = false := by
  unfold validT
  have : (List.range ts.length).all (okT ts) = false := by
    rw [Bool.eq_false_iff]
    intro e
    rw [List.all_eq_true] at e
    rw [e i (List.mem_range.2 hi)] at h
    cases h
  rw [this, Bool.false_and]
theorem valid_end {ts : List Tm} (h : ∀ i, i < ts.length → okT ts i = true) : validT ts = decide (ts.length ≤ 200) := by
  unfold validT
  have : (List.range ts.length).all (okT ts) = true := by
    rw [List.all_eq_true]
    intro x hx
    exact h x (List.mem_range.1 hx)
  rw [this, Bool.true_and]
set_option maxRecDepth 100000 in
set_option maxHeartbeats 8000000 in
theorem pvalid_any (ts : List Tm) (ad : Option Addr) (n c : Nat) (w : World) (ht : TmAt w ad n ts) (hn : n ≤ 1000) (hz : ∀ x ∈ ts, x.s.size ≤ 100000 ∧ x.t.size ≤ 100000) :
    Calls Try.prog 15 #[.slice ad n c] w fun e w' => e = .returned (.bool (validT ts)) ∧ Below w.heap.size w w' := by
  obtain ⟨hl, b, off, hrw⟩ := ht
  have HR := Lib.hid hrw
  have HL := Lib.hid hl
  have HZ := Lib.hid hz
  have HK := Lib.hid key_any
  have HP := Lib.hid proper_any
  have hmm := @run_makeMap Try.prog
  clear hrw hl hz
  go_enter Try.func15, Try.ntmps15
  go_wp2_with fail
  have HS0 := Lib.hid (SeenP.made w)
  have HB0 : Hid (Below w.heap.size w (w.alloc (.map #[] 0))) := Bel.alloc (Bel.refl _) _
  generalize w.alloc (.map #[] 0) = w1 at *
  go_loopw [10] (fun u wr => ∃ (i : Nat), u = .int .i64 (i : Int) ∧ i ≤ n ∧ (∀ j, j < i → okT ts j = true) ∧ SeenP wr w.heap.size i (keysT ts i) ∧ Below w.heap.size w wr) (fun u _ => n - (intOf u).toNat)
  case atStart => exact ⟨0, rfl, Nat.zero_le _, fun j hj => absurd hj (Nat.not_lt_zero _), HS0.out, HB0.out⟩
  case round =>
    obtain ⟨i, rfl, hin, hok, hse, hbl⟩ := hrel
    have HOK := Lib.hid hok
    have HSE := Lib.hid hse
    have HB := Lib.hid hbl
    have hzr := hbl.size
    clear hok hse hbl HS0 HB0
    by_cases hlt : i < n
    · have hr := HR.out.below HB.out
      have hix := fun W => hr.ix 29 53 Try.underlying29 cellsTm (by omega) hlt c W
      have h0 := hr.cell i 0 hlt (by omega)
      have h1 := hr.cell i 1 hlt (by omega)
      have h2 := hr.cell i 2 hlt (by omega)
      rw [Nat.add_zero] at h0
      simp only [tmC] at h0 h1 h2
      have HMP := Lib.hid (memP_keys ts i)
      have HKS := Lib.hid (keysT_succ ts i)
      have HNO := Lib.hid (valid_no (ts := ts) (i := i) (by rw [HL.out]; exact hlt))
      have HOKE : Hid (okT ts i = (properB (ts.getD i tm0).s && properB (ts.getD i tm0).t && !dupT ts i)) := rfl
      have HNX : Hid (okT ts i = true → ∀ j, j < i + 1 → okT ts j = true) := fun h j hj => by
        by_cases e : j = i
        · rw [e]; exact h
        · exact HOK.out j (by omega)
      obtain ⟨z1, z2⟩ := HZ.out (ts.getD i tm0) (getD_mem _ _ _ (by rw [HL.out]; exact hlt))
      have hlz : (i : Int) < (n : Int) := by omega
      have HZ1 := Lib.hid z1
      have HZ2 := Lib.hid z2
      clear hr z1 z2
      generalize okT ts i = ok at *
      generalize dupT ts i = du at *
      generalize ts.getD i tm0 = x at *
      go_upto_region 5 with (fail)
      have HB1 : Hid (Below w.heap.size w (wr.alloc (.cells #[.string x.s, .string x.t, .bool x.f] 53))) := HB.out.alloc hzr _
      have HX1 : Hid ((wr.alloc (.cells #[.string x.s, .string x.t, .bool x.f] 53)).heap[wr.heap.size]? = some (.cells #[.string x.s, .string x.t, .bool x.f] 53 (0, 0))) := heap_alloc_new wr _
      have HS1 := Lib.hid (HSE.out.below (Bel.alloc (Bel.refl wr) (.cells #[.string x.s, .string x.t, .bool x.f] 53)))
      generalize wr.alloc (.cells #[.string x.s, .string x.t, .bool x.f] 53) = w2 at *
      have x0 : w2.cell? ⟨wr.heap.size, 0, none⟩ = some (.string x.s) := by rw [Lib.cell_of_heap HX1.out]; rfl
      have x1 : w2.cell? ⟨wr.heap.size, 1, none⟩ = some (.string x.t) := by rw [Lib.cell_of_heap HX1.out]; rfl
      have hxl := (Array.getElem?_eq_some_iff.1 HX1.out).1
      clear HSE HOK hix h0 h1 h2
      have n0 : w2.heap.size ≠ wr.heap.size := by omega
      go_cut [6] (fun p wx => ∃ B : Nat, p = .pointer (some ⟨B, 0, none⟩) ∧ wx.heap[B]? = some (.cells #[.string (keyB x.s), .string (keyB x.t)] 65 (0, 0)) ∧ Below w2.heap.size w2 wx)
      case first =>
        go_region_held (fun w' => w'.cell? ⟨wr.heap.size, 0, none⟩ = some (.string x.s) ∧ w'.cell? ⟨wr.heap.size, 1, none⟩ = some (.string x.t)) (go_keep)
          (first
            | (go_at_call 31; (with_reducible refine (HK.out x.s _ (Nat.le_trans HZ1.out (by omega))).mono ?_); rintro e v1 ⟨rfl, hb⟩; have HV1 : Hid (Bel w2 v1) := bel_trans (by (show Bel w2 _; repeat (first | exact Bel.refl _ | exact HV1.out | exact HV2.out | refine Bel.alloc ?_ _ | refine Bel.drew ?_))) hb; have q0 := cell_later HV1.out x0; have q1 := cell_later HV1.out x1; have n1 : v1.heap.size ≠ wr.heap.size := (by have := Below.size HV1.out; omega); (try (have RA : Hid (v1.heap[w2.heap.size]? = some (.cells #[.string ⟨#[]⟩, .string ⟨#[]⟩] 65 (0, 0))) := (hb.block w2.heap.size (by simp)).trans (row_new w2.drew _ _); have RAc0 := row_cells RA.out 0; have RAz0 := row_frozen RA.out 0; have RAc1 := row_cells RA.out 1; have RAz1 := row_frozen RA.out 1)); clear hb)
            | (go_at_call 31; (with_reducible refine (HK.out x.t _ (Nat.le_trans HZ2.out (by omega))).mono ?_); rintro e v2 ⟨rfl, hb⟩; have HV2 : Hid (Bel w2 v2) := bel_trans (by (show Bel w2 _; repeat (first | exact Bel.refl _ | exact HV1.out | exact HV2.out | refine Bel.alloc ?_ _ | refine Bel.drew ?_))) hb; (try (have RB : Hid (v2.heap[v1.heap.size]? = some (.cells #[.string ⟨#[]⟩, .string ⟨#[]⟩] 65 (0, 0))) := (hb.block v1.heap.size (by simp)).trans (row_new v1 _ _); have RBc0 := row_cells RB.out 0; have RBz0 := row_frozen RB.out 0; have RBc1 := row_cells RB.out 1; have RBz1 := row_frozen RB.out 1)); (try (have RB : Hid (v2.heap[w2.heap.size]? = some (.cells #[.string ⟨#[]⟩, .string ⟨#[]⟩] 65 (0, 0))) := (hb.block w2.heap.size (Array.getElem?_eq_some_iff.1 RA.out).1).trans RA.out; have RBc0 := row_cells RB.out 0; have RBz0 := row_frozen RB.out 0; have RBc1 := row_cells RB.out 1; have RBz1 := row_frozen RB.out 1)); have q0 := cell_later HV2.out x0; have q1 := cell_later HV2.out x1; have n2 : v2.heap.size ≠ wr.heap.size := (by have := Below.size HV2.out; omega); clear hb))
        all_goals
          go_wp2_with fail
          go_meet
          refine ⟨_, rfl, ?_, ?_⟩
          · first | exact row_new _ _ _ | exact row_set (row_set RB.out 0 _) 1 _
          · first | exact Bel.alloc HV2.out _ | exact Bel.setCell (Bel.setCell HV2.out _ _ (Nat.le_refl _)) _ _ (Nat.le_refl _) | exact Bel.setCell (Bel.setCell HV2.out _ _ (Below.size HV1.out)) _ _ (Below.size HV1.out)
      case rest =>
        obtain ⟨B, rfl, hrow, hb⟩ := hcut
        have HB3 : Hid (Below w.heap.size w wc) := HB1.out.trans (hb.mono HB1.out.size)
        have HS3 := Lib.hid (HS1.out.below hb)
        have HX3 : Hid (wc.heap[wr.heap.size]? = some (.cells #[.string x.s, .string x.t, .bool x.f] 53 (0, 0))) := (hb.block _ hxl).trans HX1.out
        have HBX := Lib.hid hrow
        have y0 := row_cells HX3.out 0
        have y1 := row_cells HX3.out 1
        have HP1 : Hid (∀ W, Calls Try.prog 32 #[.string x.s] W fun e w' => e = .returned (.bool (properB x.s)) ∧ Below W.heap.size W w') := fun W => HP.out x.s W (Nat.le_trans HZ1.out (by omega))
        have HP2 : Hid (∀ W, Calls Try.prog 32 #[.string x.t] W fun e w' => e = .returned (.bool (properB x.t)) ∧ Below W.heap.size W w') := fun W => HP.out x.t W (Nat.le_trans HZ2.out (by omega))
        clear hb hrow HB1 HS1 HX1 x0 x1 hxl n0 HP HK
        generalize properB x.s = p1 at *
        generalize properB x.t = p2 at *
        cases p1 with
        | false =>
          have HV : Hid (validT ts = false) := HNO.out (by rw [HOKE.out]; rfl)
          go_wp2_with fail
          refine (HP1.out _).mono ?_
          rintro e v1 ⟨rfl, hb⟩
          have HB4 := Lib.hid (HB3.out.trans (hb.mono HB3.out.size))
          clear hb
          go_wp2_with fail
          go_ret
          exact ⟨by rw [HV.out]; rfl, HB4.out⟩
        | true =>
          go_wp2_with fail
          refine (HP1.out _).mono ?_
          rintro e v1 ⟨rfl, hb⟩
          have HB4 := Lib.hid (HB3.out.trans (hb.mono HB3.out.size))
          have HS4 := Lib.hid (HS3.out.below hb)
          have HX4 : Hid (v1.heap[wr.heap.size]? = some (.cells #[.string x.s, .string x.t, .bool x.f] 53 (0, 0))) := (hb.block _ (Array.getElem?_eq_some_iff.1 HX3.out).1).trans HX3.out
          have HBX4 : Hid (v1.heap[B]? = some (.cells #[.string (keyB x.s), .string (keyB x.t)] 65 (0, 0))) := (hb.block _ (Array.getElem?_eq_some_iff.1 HBX.out).1).trans HBX.out
          have z1 := row_cells HX4.out 1
          clear hb HB3 HS3 HX3 HBX y0 y1
          cases p2 with
          | false =>
            have HV : Hid (validT ts = false) := HNO.out (by rw [HOKE.out]; rfl)
            go_wp2_with fail
            refine (HP2.out _).mono ?_
            rintro e v2 ⟨rfl, hb⟩
            have HB5 := Lib.hid (HB4.out.trans (hb.mono HB4.out.size))
            clear hb
            go_wp2_with fail
            go_ret
            exact ⟨by rw [HV.out]; rfl, HB5.out⟩
          | true =>
            go_wp2_with fail
            refine (HP2.out _).mono ?_
            rintro e v2 ⟨rfl, hb⟩
            have HB5 := Lib.hid (HB4.out.trans (hb.mono HB4.out.size))
            have HS5 := Lib.hid (HS4.out.below hb)
            have HBX5 : Hid (v2.heap[B]? = some (.cells #[.string (keyB x.s), .string (keyB x.t)] 65 (0, 0))) := (hb.block _ (Array.getElem?_eq_some_iff.1 HBX4.out).1).trans HBX4.out
            clear hb HB4 HS4 HX4 HBX4 z1
            have hk1 : (keyB x.s).size ≤ maxLen := Nat.le_trans (keyB_size _) (by have := HZ1.out; unfold maxLen; omega)
            have hk2 : (keyB x.t).size ≤ maxLen := Nat.le_trans (keyB_size _) (by have := HZ2.out; unfold maxLen; omega)
            have hlk := HS5.out.look (keyB x.s) (keyB x.t) hk1 hk2
            rw [HMP.out] at hlk
            have HPUT := Lib.hid (HS5.out.put (keyB x.s) (keyB x.t) hk1 hk2 (by unfold maxLen; omega))
            clear hk1 hk2
            have b0 := row_cells HBX5.out 0
            have b1 := row_cells HBX5.out 1
            cases du with
            | true =>
              have HV : Hid (validT ts = false) := HNO.out (by rw [HOKE.out]; rfl)
              go_wp2_with fail
              go_ret
              exact ⟨by rw [HV.out]; rfl, HB5.out⟩
            | false =>
              obtain ⟨w5, hput, hse5, hg⟩ := HPUT.out
              have HSE5 := Lib.hid (HKS.out ▸ hse5)
              have HB6 : Hid (Below w.heap.size w w5) := HB5.out.grown hg HB5.out.size (fun j hj => by injection hj with hj; omega)
              clear hse5 hg HPUT
              go_wp2_with fail
              go_roundw
              case rel => exact ⟨i + 1, by go_num, by omega, HNX.out (by rw [HOKE.out]; rfl), HSE5.out, HB6.out⟩
              case measure => simp [intOf]; omega
    · obtain rfl : i = n := by omega
      have HF : Hid (validT ts = decide ((i : Int) ≤ 200)) := by
        rw [Hid, valid_end (fun j hj => HOK.out j (by rw [← HL.out]; exact hj)), HL.out, Bool.eq_iff_iff, decide_eq_true_eq, decide_eq_true_eq]
        omega
      go_wp2_with fail
      go_ret
      exact ⟨by rw [HF.out]; rfl, HB.out⟩
end Go.Proofs.Ytkodnagneblgaaa
/- Walks: counts of terms, by the program. -/
namespace Go.Proofs.Ytkodnagneblgaaa
open Go.RowKit Go.Maps Go.Sort
attribute [local go_sem] Ext.cell Ext.frozen
attribute [local go_sem ↓] Go.wp_at_zero Go.wp_at_succ
/-- what is known of a place -/
theorem findV_mem {lists : List (List ByteArray)} {ws : List ByteArray} : ∀ (f k : Nat), ∀ p ∈ findV lists ws f k, p.1 < lists.length ∧ k ≤ p.2 ∧ p.2 + lnW lists p.1 ≤ ws.length ∧ lists.getD p.1 [] = (ws.drop p.2).take (lnW lists p.1) ∧ 0 < lnW lists p.1
  | 0, k, p, hp => by cases hp
  | f + 1, k, p, hp => by
    rcases Nat.lt_or_ge k ws.length with hk | hk
    · cases hb : bestV lists (ws.drop k) with
      | none =>
        rw [findV_none hk hb] at hp
        obtain ⟨h1, h2, h3⟩ := findV_mem f (k + 1) p hp
        exact ⟨h1, by omega, h3⟩
      | some i =>
        rw [findV_some hk hb] at hp
        obtain ⟨g1, g2, g3, g4⟩ := bestV_some hb
        rw [List.length_drop] at g3
        rcases List.mem_cons.1 hp with rfl | hp
        · exact ⟨g1, Nat.le_refl _, by show k + lnW lists i ≤ _; omega, g4, g2⟩
        · obtain ⟨h1, h2, h3⟩ := findV_mem f _ p hp
          exact ⟨h1, by omega, h3⟩
    · rw [findV_end hk] at hp
      cases hp
theorem findV_len {lists : List (List ByteArray)} {ws : List ByteArray} : ∀ (f k : Nat), (findV lists ws f k).length ≤ f
  | 0, k => Nat.le_refl _
  | f + 1, k => by
    rcases Nat.lt_or_ge k ws.length with hk | hk
    · cases hb : bestV lists (ws.drop k) with
      | none =>
        rw [findV_none hk hb]
        exact Nat.le_succ_of_le (findV_len f (k + 1))
      | some i =>
        rw [findV_some hk hb]
        exact Nat.succ_le_succ (findV_len f _)
    · rw [findV_end hk]
      exact Nat.zero_le _
/-- places do not overlap -/
theorem findV_pair {lists : List (List ByteArray)} {ws : List ByteArray} : ∀ (f k : Nat), (findV lists ws f k).Pairwise fun p q => p.2 + lnW lists p.1 ≤ q.2
  | 0, k => List.Pairwise.nil
  | f + 1, k => by
    rcases Nat.lt_or_ge k ws.length with hk | hk
    · cases hb : bestV lists (ws.drop k) with
      | none =>
        rw [findV_none hk hb]
        exact findV_pair f (k + 1)
      | some i =>
        rw [findV_some hk hb]
        exact List.Pairwise.cons (fun q hq => (findV_mem f _ q hq).2.1) (findV_pair f _)
    · rw [findV_end hk]
      exact List.Pairwise.nil
/-- the cells of places -/
def prC (ps : List (Nat × Nat)) (i j : Nat) : Value := match j with
  | 0 => .int .i64 ((ps.getD i (0, 0)).1 : Int)
  | _ => .int .i64 ((ps.getD i (0, 0)).2 : Int)
/-- a slice of places -/
def PrAt (w : World) (ad : Option Addr) (n : Nat) (ps : List (Nat × Nat)) : Prop := ps.length = n ∧ ∃ b off, Rw w ad n 2 (prC ps) b off
theorem PrAt.below {w w' : World} {ad : Option Addr} {n : Nat} {ps : List (Nat × Nat)} (h : PrAt w ad n ps) (hb : Below w.heap.size w w') : PrAt w' ad n ps := by
  obtain ⟨h1, b, off, h2⟩ := h
  exact ⟨h1, b, off, h2.below hb⟩
theorem prV_flat (ps : List (Nat × Nat)) : prV ps = flat 2 (prC ps) ps.length := by
  unfold prV flat
  rw (config := { occs := .pos [1] }) [list_range ps (0, 0)]
  rw [List.flatMap_map]
  rfl
theorem PrR.at {w : World} {base : Nat} {ad : Option Addr} {n c : Nat} {ps : List (Nat × Nat)} (h : PrR w base (.slice ad n c) ps) : PrAt w ad n ps := by
  have hn : ps.length = n := by
    rcases h.2 with ⟨e, h0⟩ | ⟨g, cap, cur, e, _⟩
    · injection e with _ e2 _; omega
    · injection e with _ e2 _; exact e2.symm
  unfold PrR at h
  rw [prV_flat, hn] at h
  obtain ⟨b, hr, _⟩ := own_rw h
  exact ⟨hn, b, 0, hr⟩
/-- how often a key is found -/
def cntV (keys : List ByteArray) (ps : List (Nat × Nat)) : ByteArray → Nat := fun t => (ps.filter fun p => decide (keys.getD p.1 .empty = t)).length
theorem cntV_le (keys : List ByteArray) (ps : List (Nat × Nat)) (t : ByteArray) : cntV keys ps t ≤ ps.length := List.length_filter_le _ _
theorem cntV_succ (keys : List ByteArray) (ps : List (Nat × Nat)) (i : Nat) (hi : i < ps.length) : cntV keys (ps.take (i + 1)) = updN (cntV keys (ps.take i)) (keys.getD (ps.getD i (0, 0)).1 .empty) (cntV keys (ps.take i) (keys.getD (ps.getD i (0, 0)).1 .empty) + 1) := by
  have hg : ps.getD i (0, 0) = ps[i] := by rw [List.getD_eq_getElem?_getD, List.getElem?_eq_getElem hi]; rfl
  funext t
  unfold updN cntV
  rw [List.take_add_one, List.getElem?_eq_getElem hi, hg, Option.toList_some, List.filter_append, List.length_append]
  by_cases e : t = keys.getD ps[i].1 .empty
  · rw [if_pos e]
    simp [e]
  · rw [if_neg e]
    have e' : ¬ keys.getD ps[i].1 .empty = t := fun h => e h.symm
    rw [show List.filter (fun p => decide (keys.getD p.1 ByteArray.empty = t)) [ps[i]] = [] from by simp only [List.filter_cons, List.filter_nil, decide_eq_false e', Bool.false_eq_true, if_false]]
    rfl
set_option maxRecDepth 100000 in
set_option maxHeartbeats 8000000 in
theorem counts_any (terms : List ByteArray) (ad : Option Addr) (n c : Nat) (s : ByteArray) (w : World) (ht : Sl w ad n (strs terms)) (hn : n ≤ 40) (hz : ∀ s ∈ terms, s.size ≤ 1000000) (hs : s.size ≤ 1000000) :
    Calls Try.prog 24 #[.slice ad n c, .string s] w fun e w' => ∃ M m, e = .returned (.map (some M)) ∧ w.heap.size ≤ M ∧ CntAt w' M m (cntV (terms.map keyB) (findL (terms.map wordsB) (wordsB s))) ∧ Below w.heap.size w w' := by
  have hl := ht.len
  rw [strs_length] at hl
  have HT := Lib.hid ht
  have HL := Lib.hid hl
  have HZ := Lib.hid hz
  have HF := Lib.hid (fun W (h : Sl W ad n (strs terms)) => find_any terms ad n c s W h hn hz hs)
  have HK := Lib.hid key_any
  have HFM : Hid (∀ p ∈ findL (terms.map wordsB) (wordsB s), p.1 < n) := fun p hp => by
    have := (findV_mem _ _ p hp).1
    rw [List.length_map] at this
    omega
  have hfl : (findL (terms.map wordsB) (wordsB s)).length ≤ 1000001 := Nat.le_trans (findV_len _ _) (Nat.le_trans (wordsB_le s) (by omega))
  have hmm := @run_makeMap Try.prog
  clear ht hz hs hl
  generalize findL (terms.map wordsB) (wordsB s) = ps at *
  go_enter Try.func24, Try.ntmps24
  go_wp2_with fail
  have HC0 := Lib.hid (CntAt.made w)
  have HB0 : Hid (Below w.heap.size w (w.alloc (.map #[] 0))) := Bel.alloc (Bel.refl _) _
  have HZ1 : Hid ((w.alloc (.map #[] 0)).heap.size = w.heap.size + 1) := World.size_alloc _ _
  generalize w.alloc (.map #[] 0) = w1 at *
  refine (HF.out _ (HT.out.below HB0.out)).mono ?_
  rintro e w2 ⟨ap, cp, rfl, hpr, hb⟩
  rw [HZ1.out] at hpr
  have HPA := Lib.hid hpr
  have HC2 := Lib.hid (HC0.out.below hb)
  have HB2 := Lib.hid (HB0.out.trans (hb.mono HB0.out.size))
  clear hpr hb HC0 HB0 HF
  obtain ⟨N, hN⟩ : ∃ N, ps.length = N := ⟨_, rfl⟩
  rw [hN] at HPA hfl ⊢
  have HN := Lib.hid hN
  clear hN
  go_wp2_with fail
  go_loopw [13] (fun u wr => ∃ (i : Nat), u = .int .i64 (i : Int) ∧ i ≤ N ∧ CntAt wr w.heap.size i (cntV (terms.map keyB) (ps.take i)) ∧ Below w.heap.size w wr ∧ PrR wr (w.heap.size + 1) (.slice ap N cp) ps) (fun u _ => N - (intOf u).toNat)
  case atStart => exact ⟨0, rfl, Nat.zero_le _, HC2.out, HB2.out, HPA.out⟩
  case round =>
    obtain ⟨i, rfl, hin, hcn, hbl, hpa⟩ := hrel
    have HCN := Lib.hid hcn
    have HB := Lib.hid hbl
    have HPR := Lib.hid hpa
    have hzr := hbl.size
    clear hcn hbl hpa HC2 HB2 HPA
    by_cases hlt : i < N
    · obtain ⟨_, pb, po, hrp⟩ := PrR.at HPR.out
      have hix := fun W => hrp.ix 42 45 Try.underlying42 cellsPair (by omega) hlt cp W
      have h0 := hrp.cell i 0 hlt (by omega)
      have h1 := hrp.cell i 1 hlt (by omega)
      rw [Nat.add_zero] at h0
      simp only [prC] at h0 h1
      have hmem := HFM.out (ps.getD i (0, 0)) (getD_mem _ _ _ (by rw [HN.out]; exact hlt))
      have HCS := Lib.hid (cntV_succ (terms.map keyB) ps i (by rw [HN.out]; exact hlt))
      have hlz : (i : Int) < (N : Int) := by omega
      clear hrp
      generalize ps.getD i (0, 0) = x at *
      obtain ⟨a, b⟩ := x
      simp only at h0 h1 hmem
      obtain ⟨tb, tq, hst⟩ := HT.out.below HB.out
      have hixt := fun W => hst.ix (c := c) 39 9 Try.underlying39 cellsStr hmem W
      have hct := hst.cell a hmem
      rw [strs_getD _ _ (by rw [HL.out]; exact hmem)] at hct
      have HKE : Hid ((terms.map keyB).getD a .empty = keyB (terms.getD a .empty)) := by
        rw [Hid, List.getD_eq_getElem?_getD, List.getElem?_map, List.getD_eq_getElem?_getD, List.getElem?_eq_getElem (by rw [HL.out]; exact hmem)]
        rfl
      have hsz := HZ.out (terms.getD a .empty) (getD_mem _ _ _ (by rw [HL.out]; exact hmem))
      have HSZ := Lib.hid hsz
      have HKS : Hid ((keyB (terms.getD a .empty)).size ≤ maxLen) := Nat.le_trans (keyB_size _) (by unfold maxLen; omega)
      clear hst hsz
      simp only [HKE.out] at HCS
      have HLE : Hid (∀ t, cntV (terms.map keyB) (ps.take i) t ≤ 1000001) := fun t => Nat.le_trans (cntV_le _ _ _) (by rw [List.length_take]; omega)
      generalize cntV (terms.map keyB) (ps.take i) = cn at *
      generalize terms.getD a .empty = st at *
      go_upto_region 5 with (fail)
      have HB1 : Hid (Below w.heap.size w (wr.alloc (.cells #[.int .i64 (a : Int), .int .i64 (b : Int)] 45))) := HB.out.alloc hzr _
      have HX1 : Hid ((wr.alloc (.cells #[.int .i64 (a : Int), .int .i64 (b : Int)] 45)).heap[wr.heap.size]? = some (.cells #[.int .i64 (a : Int), .int .i64 (b : Int)] 45 (0, 0))) := heap_alloc_new wr _
      have hb1 : Below wr.heap.size wr (wr.alloc (.cells #[.int .i64 (a : Int), .int .i64 (b : Int)] 45)) := Bel.alloc (Bel.refl wr) _
      have HCN1 := Lib.hid (HCN.out.below hb1)
      have HPR1 := Lib.hid (HPR.out.below hb1)
      have hct1 := cell_later hb1 hct
      generalize wr.alloc (.cells #[.int .i64 (a : Int), .int .i64 (b : Int)] 45) = w3 at *
      have x0 := row_cells HX1.out 0
      clear hb1 hct HCN HPR HB HX1 h0 h1 hix
      go_wp2_with fail
      refine (HK.out _ _ HSZ.out).mono ?_
      rintro e w4 ⟨rfl, hb4⟩
      have HB4 := Lib.hid (HB1.out.trans (hb4.mono HB1.out.size))
      have HCN4 := Lib.hid (HCN1.out.below hb4)
      have HPR4 := Lib.hid (HPR1.out.below hb4)
      clear hb4 HB1 HCN1 HPR1 x0 hct1
      have hlk := HCN4.out.look (keyB st) HKS.out
      obtain ⟨w5, hput, hcn5, hg⟩ := HCN4.out.put (keyB st) HKS.out (by unfold maxLen; omega) (cn (keyB st) + 1) (by have := HLE.out (keyB st); omega)
      have hle := HLE.out (keyB st)
      have HCN5 : Hid (CntAt w5 w.heap.size (i + 1) (cntV (terms.map keyB) (ps.take (i + 1)))) := by rw [HCS.out]; exact hcn5
      have HB5 : Hid (Below w.heap.size w w5) := HB4.out.grown hg HB4.out.size (fun j hj => by injection hj with hj; omega)
      have HPR5 : Hid (PrR w5 (w.heap.size + 1) (.slice ap N cp) ps) := World.ownsRow.kept HPR4.out hg (.inr (fun e => by have := (World.ownsRow.lt HPR4.out _ e).1; omega))
      clear hcn5 hg HB4 HPR4 HCN4
      generalize keyB st = ks at *
      push_cast at hput
      generalize cn ks = ck at *
      go_wp2_with fail
      go_roundw
      case rel => exact ⟨i + 1, by go_num, by omega, HCN5.out, HB5.out, HPR5.out⟩
      case measure => simp [intOf]; omega
    · obtain rfl : i = N := by omega
      have hcn := HCN.out
      rw [List.take_of_length_le (by rw [HN.out]; exact Nat.le_refl _)] at hcn
      have HCN2 := Lib.hid hcn
      clear hcn HCN
      go_wp2_with fail
      go_ret
      exact ⟨_, _, rfl, Nat.le_refl _, HCN2.out, HB.out⟩
end Go.Proofs.Ytkodnagneblgaaa
/- Walks: missing translations, by the program. -/
namespace Go.Proofs.Ytkodnagneblgaaa
open Go.RowKit Go.Maps Go.Sort
attribute [local go_sem] Ext.cell Ext.frozen
attribute [local go_sem ↓] Go.wp_at_zero Go.wp_at_succ
/-- the keys of the allowed targets of a source -/
def stepK (src : ByteArray) (ks : List ByteArray) (x : Tm) : List ByteArray := if keyB x.s = src ∧ x.f = false ∧ memS (keyB x.t) ks = false then ks ++ [keyB x.t] else ks
def knownT (ts : List Tm) (src : ByteArray) (i : Nat) : List ByteArray := (ts.take i).foldl (stepK src) []
theorem knownT_succ (ts : List Tm) (src : ByteArray) (i : Nat) (hi : i < ts.length) : knownT ts src (i + 1) = stepK src (knownT ts src i) (ts.getD i tm0) := by
  have hg : ts.getD i tm0 = ts[i] := by rw [List.getD_eq_getElem?_getD, List.getElem?_eq_getElem hi]; rfl
  unfold knownT
  rw [List.take_add_one, List.getElem?_eq_getElem hi, hg, Option.toList_some, List.foldl_append]
  rfl
theorem knownT_len (ts : List Tm) (src : ByteArray) : ∀ i, i ≤ ts.length → (knownT ts src i).length ≤ i
  | 0, _ => Nat.le_refl _
  | i + 1, h => by
    have := knownT_len ts src i (by omega)
    rw [knownT_succ ts src i (by omega)]
    unfold stepK
    split
    · rw [List.length_append]
      simpa using this
    · omega
def sumL (ct : ByteArray → Nat) (ks : List ByteArray) : Nat := (ks.map ct).sum
theorem sumL_snoc (ct : ByteArray → Nat) (ks : List ByteArray) (k : ByteArray) : sumL ct (ks ++ [k]) = sumL ct ks + ct k := by simp [sumL]
theorem sumL_le (ct : ByteArray → Nat) (h : ∀ t, ct t ≤ 1000001) : ∀ ks : List ByteArray, sumL ct ks ≤ ks.length * 1000001
  | [] => Nat.le_refl _
  | k :: ks => by
    have h1 := sumL_le ct h ks
    have h2 := h k
    have h3 : sumL ct (k :: ks) = ct k + sumL ct ks := by simp [sumL]
    rw [h3, List.length_cons]
    omega
/-- what missing answers -/
def missV (ts : List Tm) (cs ct : ByteArray → Nat) (i : Nat) : Bool :=
  (List.range i).all (fun j => decide (keyB (ts.getD j tm0).s ≠ keyB (ts.getD i tm0).s)) && !(knownT ts (keyB (ts.getD i tm0).s) ts.length).isEmpty && decide (sumL ct (knownT ts (keyB (ts.getD i tm0).s) ts.length) < cs (keyB (ts.getD i tm0).s))
theorem miss_no {ts : List Tm} {cs ct : ByteArray → Nat} {i j : Nat} (hj : j < i) (h : keyB (ts.getD j tm0).s = keyB (ts.getD i tm0).s) : missV ts cs ct i = false := by
  unfold missV
  have : (List.range i).all (fun j => decide (keyB (ts.getD j tm0).s ≠ keyB (ts.getD i tm0).s)) = false := by
    rw [Bool.eq_false_iff]
    intro e
    rw [List.all_eq_true] at e
    exact (of_decide_eq_true (e j (List.mem_range.2 hj))) h
  rw [this, Bool.false_and, Bool.false_and]
theorem miss_end {ts : List Tm} {cs ct : ByteArray → Nat} {i : Nat} (h : ∀ j, j < i → keyB (ts.getD j tm0).s ≠ keyB (ts.getD i tm0).s) :
    missV ts cs ct i = (!(knownT ts (keyB (ts.getD i tm0).s) ts.length).isEmpty && decide (sumL ct (knownT ts (keyB (ts.getD i tm0).s) ts.length) < cs (keyB (ts.getD i tm0).s))) := by
  unfold missV
  have : (List.range i).all (fun j => decide (keyB (ts.getD j tm0).s ≠ keyB (ts.getD i tm0).s)) = true := by
    rw [List.all_eq_true]
    intro x hx
    exact decide_eq_true (h x (List.mem_range.1 hx))
  rw [this, Bool.true_and]
set_option maxRecDepth 100000 in
set_option maxHeartbeats 8000000 in
theorem missing_any (ts : List Tm) (cs ct : ByteArray → Nat) (ad : Option Addr) (n c M1 m1 M2 m2 i : Nat) (w : World) (ht : TmAt w ad n ts) (hn : n ≤ 1000) (hi : i < n) (hz : ∀ x ∈ ts, x.s.size ≤ 100000 ∧ x.t.size ≤ 100000) (h1 : CntAt w M1 m1 cs) (h2 : CntAt w M2 m2 ct) (hcs : ∀ t, cs t ≤ 1000001) (hct : ∀ t, ct t ≤ 1000001) :
    Calls Try.prog 25 #[.agg #[.slice ad n c, .map (some M1), .map (some M2)], .int .i64 (i : Int)] w fun e w' => e = .returned (.bool (missV ts cs ct i)) ∧ Below w.heap.size w w' := by
  have HT := Lib.hid ht
  have HZ := Lib.hid hz
  have HC1 := Lib.hid h1
  have HC2 := Lib.hid h2
  have HCT := Lib.hid hct
  have HCS := Lib.hid hcs
  have HL := Lib.hid ht.1
  have HK := Lib.hid key_any
  have hmm := @run_makeMap Try.prog
  obtain ⟨_, b, off, hrw⟩ := ht
  have hix := fun W => hrw.ix 29 53 Try.underlying29 cellsTm (by omega) hi c W
  have g0 := hrw.cell i 0 hi (by omega)
  rw [Nat.add_zero] at g0
  simp only [tmC] at g0
  have HZI := Lib.hid (hz (ts.getD i tm0) (getD_mem _ _ _ (by rw [HL.out]; exact hi)))
  clear hrw hz h1 h2 hct hcs
  have HNO : Hid (∀ j, j < i → keyB (ts.getD j tm0).s = keyB (ts.getD i tm0).s → missV ts cs ct i = false) := fun j hj h => miss_no hj h
  have HEND : Hid ((∀ j, j < i → keyB (ts.getD j tm0).s ≠ keyB (ts.getD i tm0).s) → missV ts cs ct i = (!(knownT ts (keyB (ts.getD i tm0).s) ts.length).isEmpty && decide (sumL ct (knownT ts (keyB (ts.getD i tm0).s) ts.length) < cs (keyB (ts.getD i tm0).s)))) := fun h => miss_end h
  rw [HL.out] at HEND
  generalize missV ts cs ct i = mv at *
  generalize ts.getD i tm0 = x at *
  have hiz : (i : Int) < (n : Int) := by omega
  go_enter Try.func25, Try.ntmps25
  go_upto_region 1 with (fail)
  have HB0 : Hid (Below w.heap.size w (w.alloc (.cells #[.slice ad n c, .map (some M1), .map (some M2)] 57))) := Bel.alloc (Bel.refl w) _
  have HX0 : Hid ((w.alloc (.cells #[.slice ad n c, .map (some M1), .map (some M2)] 57)).heap[w.heap.size]? = some (.cells #[.slice ad n c, .map (some M1), .map (some M2)] 57 (0, 0))) := heap_alloc_new w _
  have g1 := cell_later HB0.out g0
  generalize w.alloc (.cells #[.slice ad n c, .map (some M1), .map (some M2)] 57) = w0 at *
  have x0 := row_cells HX0.out 0
  go_wp2_with fail
  refine (HK.out x.s _ (Nat.le_trans HZI.out.1 (by omega))).mono ?_
  rintro e w2 ⟨rfl, hb⟩
  have HKS : Hid ((keyB x.s).size ≤ maxLen) := Nat.le_trans (keyB_size _) (by have := HZI.out.1; unfold maxLen; omega)
  generalize keyB x.s = src at *
  have HB2 : Hid (Below w.heap.size w w2) := HB0.out.trans (hb.mono HB0.out.size)
  have HX2 : Hid (w2.heap[w.heap.size]? = some (.cells #[.slice ad n c, .map (some M1), .map (some M2)] 57 (0, 0))) := (hb.block _ (Array.getElem?_eq_some_iff.1 HX0.out).1).trans HX0.out
  clear hb HB0 HX0 x0 g1 g0 HZI hix
  have y0 := row_cells HX2.out 0
  have hzl := (Array.getElem?_eq_some_iff.1 HX2.out).1
  have hzl2 := HB2.out.size
  go_wp2_with fail
  have HS0 := Lib.hid (SeenS.made w2)
  have HBM : Hid (Below w2.heap.size w2 (w2.alloc (.map #[] 0))) := Bel.alloc (Bel.refl w2) _
  have HX3 : Hid ((w2.alloc (.map #[] 0)).heap[w.heap.size]? = some (.cells #[.slice ad n c, .map (some M1), .map (some M2)] 57 (0, 0))) := (HBM.out.block _ hzl).trans HX2.out
  have HB3 : Hid (Below w.heap.size w (w2.alloc (.map #[] 0))) := HB2.out.trans (HBM.out.mono hzl2)
  generalize w2.alloc (.map #[] 0) = w3 at *
  clear HBM HX2 HB2 y0
  obtain ⟨M, hM⟩ : ∃ M, w2.heap.size = M := ⟨_, rfl⟩
  rw [hM] at HS0 hzl hzl2 ⊢
  clear hM
  go_loopw [7, 22] (fun v u wr => ∃ (k nn : Nat), u = .int .i64 (k : Int) ∧ v = .int .i64 ((sumL ct (knownT ts src k) : Nat) : Int) ∧ k ≤ n ∧ nn ≤ k ∧ (∀ j, j < k → j < i → keyB (ts.getD j tm0).s ≠ src) ∧ SeenS wr M nn (knownT ts src k) ∧ wr.heap[w.heap.size]? = some (.cells #[.slice ad n c, .map (some M1), .map (some M2)] 57 (0, 0)) ∧ Below w.heap.size w wr) (fun _ u _ => n - (intOf u).toNat)
  case atStart => exact ⟨0, 0, rfl, rfl, Nat.zero_le _, Nat.le_refl _, fun j hj => absurd hj (Nat.not_lt_zero _), HS0.out, HX3.out, HB3.out⟩
  case round =>
    obtain ⟨k, nn, rfl, rfl, hkn, hnn, hne, hse, hxr, hbl⟩ := hrel
    have HNE := Lib.hid hne
    have HSE := Lib.hid hse
    have HXR := Lib.hid hxr
    have HB := Lib.hid hbl
    clear hne hse hxr hbl HS0 HX3 HB3
    by_cases hlt : k < n
    · obtain ⟨_, tb, tq, hrw⟩ := HT.out.below HB.out
      have hix := fun W => hrw.ix 29 53 Try.underlying29 cellsTm (by omega) hlt c W
      have h0 := hrw.cell k 0 hlt (by omega)
      have h1 := hrw.cell k 1 hlt (by omega)
      have h2 := hrw.cell k 2 hlt (by omega)
      rw [Nat.add_zero] at h0
      simp only [tmC] at h0 h1 h2
      clear hrw
      have HKN := Lib.hid (knownT_succ ts src k (by rw [HL.out]; exact hlt))
      have hkl := knownT_len ts src k (by rw [HL.out]; exact hkn)
      have hsl := sumL_le ct HCT.out (knownT ts src k)
      have HSM : Hid (sumL ct (knownT ts src k) ≤ 1000 * 1000001) := Nat.le_trans hsl (Nat.mul_le_mul_right _ (by omega))
      clear hkl hsl
      have HN0 := Lib.hid (HNO.out k)
      have HNX : Hid ((k < i → keyB (ts.getD k tm0).s ≠ src) → ∀ j, j < k + 1 → j < i → keyB (ts.getD j tm0).s ≠ src) := fun h j hj hji => by
        by_cases e : j = k
        · rw [e]; exact h (by omega)
        · exact HNE.out j (by omega) hji
      obtain ⟨z1, z2⟩ := HZ.out (ts.getD k tm0) (getD_mem _ _ _ (by rw [HL.out]; exact hlt))
      have HZ1 := Lib.hid z1
      have HZ2 := Lib.hid z2
      have hlz : (k : Int) < (n : Int) := by omega
      clear z1 z2 HNE
      generalize ts.getD k tm0 = y at *
      generalize knownT ts src k = ks at *
      go_upto_region 7 with (fail)
      have hzr := HB.out.size
      have HB4 : Hid (Below w.heap.size w (wr.alloc (.cells #[.string y.s, .string y.t, .bool y.f] 53))) := HB.out.alloc hzr _
      have HBA : Hid (Below wr.heap.size wr (wr.alloc (.cells #[.string y.s, .string y.t, .bool y.f] 53))) := Bel.alloc (Bel.refl wr) _
      have HY4 : Hid ((wr.alloc (.cells #[.string y.s, .string y.t, .bool y.f] 53)).heap[wr.heap.size]? = some (.cells #[.string y.s, .string y.t, .bool y.f] 53 (0, 0))) := heap_alloc_new wr _
      have HS4 := Lib.hid (HSE.out.below HBA.out)
      have HX4 := Lib.hid ((HBA.out.block _ (Array.getElem?_eq_some_iff.1 HXR.out).1).trans HXR.out)
      generalize wr.alloc (.cells #[.string y.s, .string y.t, .bool y.f] 53) = w4 at *
      clear HBA HSE HXR HB h0 h1 h2 hix
      have y0 := row_cells HY4.out 0
      go_wp2_with fail
      refine (HK.out y.s _ (Nat.le_trans HZ1.out (by omega))).mono ?_
      rintro e w5 ⟨rfl, hb⟩
      have HB5 := Lib.hid (HB4.out.trans (hb.mono HB4.out.size))
      have HS5 := Lib.hid (HS4.out.below hb)
      have HX5 := Lib.hid ((hb.block _ (Array.getElem?_eq_some_iff.1 HX4.out).1).trans HX4.out)
      have HY5 := Lib.hid ((hb.block _ (Array.getElem?_eq_some_iff.1 HY4.out).1).trans HY4.out)
      clear hb HB4 HS4 HX4 HY4 y0
      by_cases hks : keyB y.s = src
      · rw [hks] at HN0 HNX ⊢
        clear HZ1
        by_cases hki : k < i
        · have HV : Hid (mv = false) := HN0.out hki rfl
          have hkz : (k : Int) < (i : Int) := by omega
          go_wp2_with fail
          go_ret
          exact ⟨by rw [HV.out]; rfl, HB5.out⟩
        · have hkz : ¬ (k : Int) < (i : Int) := by omega
          have y1 := row_cells HY5.out 1
          go_wp2_with fail
          refine (HK.out y.t _ (Nat.le_trans HZ2.out (by omega))).mono ?_
          rintro e w6 ⟨rfl, hb⟩
          have HB6 := Lib.hid (HB5.out.trans (hb.mono HB5.out.size))
          have HS6 := Lib.hid (HS5.out.below hb)
          have HX6 := Lib.hid ((hb.block _ (Array.getElem?_eq_some_iff.1 HX5.out).1).trans HX5.out)
          have HY6 := Lib.hid ((hb.block _ (Array.getElem?_eq_some_iff.1 HY5.out).1).trans HY5.out)
          have HKT : Hid ((keyB y.t).size ≤ maxLen) := Nat.le_trans (keyB_size _) (by have := HZ2.out; unfold maxLen; omega)
          clear hb HB5 HS5 HX5 HY5 y1 HZ2
          have HST : Hid (stepK src ks y = if y.f = false ∧ memS (keyB y.t) ks = false then ks ++ [keyB y.t] else ks) := by
            unfold Hid stepK
            simp only [hks, true_and]
          clear hks
          have HN1 := Lib.hid (HNX.out (fun h => absurd h hki))
          clear HNX HN0 hki
          generalize keyB y.t = kt at *
          generalize y.s = ys at *
          generalize y.t = yt at *
          generalize y.f = yf at *
          generalize stepK src ks y = ks2 at *
          have y2 := row_cells HY6.out 2
          cases yf with
          | true =>
            have HE : Hid (ks2 = ks) := by rw [Hid, HST.out, if_neg (by simp)]
            go_wp2_with fail
            go_roundw
            case rel => exact ⟨k + 1, nn, by go_num, by rw [HKN.out, HE.out], by omega, by omega, HN1.out, by rw [HKN.out, HE.out]; exact HS6.out, HX6.out, HB6.out⟩
            case measure => simp [intOf]; omega
          | false =>
            have hlk := HS6.out.look kt HKT.out
            generalize memS kt ks = mm at *
            cases mm with
            | true =>
              have HE : Hid (ks2 = ks) := by rw [Hid, HST.out, if_neg (by simp)]
              go_wp2_with fail
              go_roundw
              case rel => exact ⟨k + 1, nn, by go_num, by rw [HKN.out, HE.out], by omega, by omega, HN1.out, by rw [HKN.out, HE.out]; exact HS6.out, HX6.out, HB6.out⟩
              case measure => simp [intOf]; omega
            | false =>
              have HE : Hid (ks2 = ks ++ [kt]) := by rw [Hid, HST.out, if_pos ⟨rfl, rfl⟩]
              obtain ⟨w7, hput, hs7, hg⟩ := HS6.out.put kt HKT.out (by unfold maxLen; omega)
              have HS7 := Lib.hid hs7
              have HB7 : Hid (Below w.heap.size w w7) := HB6.out.grown hg HB6.out.size (fun j hj => by injection hj with hj; omega)
              have HX7 : Hid (w7.heap[w.heap.size]? = some (.cells #[.slice ad n c, .map (some M1), .map (some M2)] 57 (0, 0))) := (hg.block _ (Array.getElem?_eq_some_iff.1 HX6.out).1 (by intro e; injection e with e; omega)).trans HX6.out
              have hl2 := (HC2.out.below HB7.out).look kt HKT.out
              have q2 := row_cells HX7.out 2
              have HSS := Lib.hid (sumL_snoc ct ks kt)
              have hc9 := HCT.out kt
              have hs9 := HSM.out
              clear hs7 hg HS6 HX6 HB6 HST
              generalize sumL ct ks = sm at *
              generalize ct kt = ckt at *
              go_wp2_with fail
              go_roundw
              case rel => exact ⟨k + 1, nn + 1, by go_num, by rw [HKN.out, HE.out, HSS.out]; go_num, by omega, by omega, HN1.out, by rw [HKN.out, HE.out]; exact HS7.out, HX7.out, HB7.out⟩
              case measure => simp [intOf]; omega
      · have HE : Hid (stepK src ks y = ks) := by rw [Hid, stepK, if_neg (fun h => hks h.1)]
        have HN1 := Lib.hid (HNX.out (fun _ => hks))
        clear HNX HN0
        generalize stepK src ks y = ks2 at *
        generalize keyB y.s = kys at *
        have kq : (kys.toList == src.toList) = false := by rw [ba_bne]; exact decide_eq_false hks
        go_wp2_with fail
        go_roundw
        case rel => exact ⟨k + 1, nn, by go_num, by rw [HKN.out, HE.out], by omega, by omega, HN1.out, by rw [HKN.out, HE.out]; exact HS5.out, HX5.out, HB5.out⟩
        case measure => simp [intOf]; omega
    · obtain rfl : k = n := by omega
      have HV := Lib.hid (HEND.out (fun j hj => HNE.out j (by omega) hj))
      obtain ⟨lm, hlm, hlen⟩ := HSE.out.len
      have hl1 := (HC1.out.below HB.out).look src HKS.out
      have q1 := row_cells HXR.out 1
      have hcsb := HCS.out src
      generalize knownT ts src k = ks at *
      generalize sumL ct ks = sm at *
      generalize cs src = css at *
      cases ks with
      | nil =>
        have hl0 : lm = 0 := by
          rcases Nat.eq_zero_or_pos lm with h | h
          · exact h
          · exact absurd rfl (hlm.1 h)
        subst hl0
        clear hlm
        go_wp2_with fail
        go_ret
        exact ⟨by rw [HV.out]; rfl, HB.out⟩
      | cons k0 ks =>
        have hl0 : 0 < lm := hlm.2 (by simp)
        have hl0z : (0 : Int) < (lm : Int) := by omega
        clear hlm
        have HD : Hid (mv = decide (sm < css)) := by
          rw [Hid, HV.out]
          simp
        go_wp2_with fail
        go_ret
        exact ⟨by rw [HD.out]; rfl, HB.out⟩
end Go.Proofs.Ytkodnagneblgaaa
