/- ChooseOrder: the cases in another order, and a value of another name ahead. -/
import Derived.Test.YtadhblppeaamlaaGreatDoorQ24
import Derived.Test.YtadhblppeaamlaaGreatDoorQ25
import Derived.Test.YtadhblppeaamlaaGreatDoorQ31
import Derived.Deep.DeepMust
namespace Go.Proofs.YtadhblppeaamlaaGreatDoor
open Go.RowKit
attribute [local go_sem] Ext.cell Ext.frozen
attribute [local go_sem ↓] Go.wp_at_zero Go.wp_at_succ

/-- the keys from behind -/
def revK (keys : List ByteArray) (k : Nat) : List ByteArray := (List.range k).map fun j => keys.getD (keys.length - 1 - j) .empty
theorem revK_length (keys : List ByteArray) (k : Nat) : (revK keys k).length = k := by simp [revK]
theorem revK_mem (keys : List ByteArray) (a : ByteArray) : a ∈ keys ↔ a ∈ revK keys keys.length := by
  unfold revK
  rw [List.mem_map]
  constructor
  · intro h
    obtain ⟨i, hi, rfl⟩ := List.getElem_of_mem h
    refine ⟨keys.length - 1 - i, List.mem_range.2 (by omega), ?_⟩
    rw [show keys.length - 1 - (keys.length - 1 - i) = i by omega]
    simp [List.getD, List.getElem?_eq_getElem hi]
  · rintro ⟨j, hj, rfl⟩
    have := List.mem_range.1 hj
    exact getD_mem keys _ .empty (by omega)
/-- a row of cases from behind -/
theorem rev_rows {w W : World} {base n k : Nat} {ad : Option Addr} {c : Nat} {cf : Nat → Nat → Value} {keys : List ByteArray} (hn : keys.length = n) (hk : k ≤ n) (hl : n ≤ 140737488351232) (hcf : ∀ i x, keys[i]? = some x → CaseC w (cf i) x)
    (h : W.ownsRow base 44 2 (.slice ad k c) k (flat 2 (fun j => cf (n - 1 - j)) k)) : RowsOf 2 CaseC W (.slice ad k c) (revK keys k) := by
  obtain ⟨b, hr, hz, hc, _⟩ := own_rw h
  refine ⟨ad, c, fun j => cf (n - 1 - j), b, 0, by rw [revK_length], by rw [revK_length]; exact hr, hz, by rw [revK_length]; exact hc, by rw [revK_length]; omega, fun i x hx => ?_⟩
  have hi : i < k := by
    have := (List.getElem?_eq_some_iff.1 hx).1
    rwa [revK_length] at this
  have hx2 : keys.getD (n - 1 - i) .empty = x := by
    have : (revK keys k)[i]? = some (keys.getD (n - 1 - i) .empty) := by simp [revK, hi, hn]
    rw [this] at hx
    injection hx
  rw [← hx2]
  exact RowsOf.get hcf (show n - 1 - i < keys.length by omega) ByteArray.empty
theorem get_more {vs : List Vl} {v : Vl} {name : ByteArray} (h : v.nm ≠ name) : getV (v :: vs) name = getV vs name := by
  unfold getV
  exact List.find?_cons_of_neg (by simpa using h)
theorem name_longer (name : ByteArray) : name ++ ⟨#[120]⟩ ≠ name := fun e => by
  have h := congrArg ByteArray.size e
  rw [ByteArray.size_append] at h
  have h1 : (⟨#[120]⟩ : ByteArray).size = 1 := rfl
  omega
theorem val_one {w : World} {x : Nat → Value} {v : Vl} (h : ValC w x v) : ∀ j, j < 5 → (x j).oneCell' = true := by
  obtain ⟨e0, _, e1, e2, _, e3, ad4, c4, _, _, _, e4, _⟩ := h
  intro j hj
  rcases (by omega : j = 0 ∨ j = 1 ∨ j = 2 ∨ j = 3 ∨ j = 4) with e | e | e | e | e <;> subst e
  · rw [e0]; rfl
  · rw [e1]; rfl
  · rw [e2]; rfl
  · rw [e3]; rfl
  · rw [e4]; rfl
/-- one value, and values behind it -/
theorem more_vals {W : World} {base vn : Nat} {mad : Option Addr} {mc : Nat} {vf : Nat → Nat → Value} {vs : List Vl} {name : ByteArray} (h : W.ownsRow base 46 5 (.slice mad (1 + vn) mc) (1 + vn) (#[.string (name ++ (⟨#[120]⟩ : ByteArray)), .int .i64 1, .string ⟨#[111, 110, 101]⟩, .int .i64 0, .slice none 0 0].toList ++ flat 5 vf vn))
    (hvn : vs.length = vn) (hvf : ∀ i x, vs[i]? = some x → ValC W (vf i) x) (hs : name.size ≤ 60) (hv : vn ≤ 30) : ValsAt W (.slice mad (1 + vn) mc) (⟨name ++ ⟨#[120]⟩, 1, ⟨#[111, 110, 101]⟩, 0, []⟩ :: vs) := by
  have e : (#[.string (name ++ (⟨#[120]⟩ : ByteArray)), .int .i64 1, .string ⟨#[111, 110, 101]⟩, .int .i64 0, .slice none 0 0] : Array Value).toList = flat 5 (fun _ j => (#[.string (name ++ (⟨#[120]⟩ : ByteArray)), .int .i64 1, .string ⟨#[111, 110, 101]⟩, .int .i64 0, .slice none 0 0] : Array Value).getD j undef) 1 := rfl
  rw [e, flat_append] at h
  obtain ⟨b, hr, hz, hc, _⟩ := own_rw h
  have hl : (⟨name ++ ⟨#[120]⟩, 1, ⟨#[111, 110, 101]⟩, 0, []⟩ :: vs : List Vl).length = 1 + vn := by rw [List.length_cons, hvn, Nat.add_comm]
  refine ⟨mad, mc, _, b, 0, by rw [hl], by rw [hl]; exact hr, hz, by rw [hl]; exact hc, by rw [hl]; omega, fun i x hx => ?_⟩
  cases i with
  | zero =>
    simp only [List.getElem?_cons_zero, Option.some.injEq] at hx
    subst hx
    exact ⟨rfl, by simp only [ByteArray.size_append]; have : (⟨#[120]⟩ : ByteArray).size = 1 := rfl; omega, rfl, rfl, by show 3 ≤ 140737488351232; omega, rfl, rows_nil1 W⟩
  | succ i =>
    have := hvf i x (by simpa using hx)
    have hf : (fun j => if i + 1 < 1 then (#[.string (name ++ (⟨#[120]⟩ : ByteArray)), .int .i64 1, .string ⟨#[111, 110, 101]⟩, .int .i64 0, .slice none 0 0] : Array Value).getD j undef else vf (i + 1 - 1) j) = vf i := by
      funext j
      rw [if_neg (by omega), Nat.add_sub_cancel]
    show ValC W (fun j => if i + 1 < 1 then (#[.string (name ++ (⟨#[120]⟩ : ByteArray)), .int .i64 1, .string ⟨#[111, 110, 101]⟩, .int .i64 0, .slice none 0 0] : Array Value).getD j undef else vf (i + 1 - 1) j) x
    rw [hf]
    exact this
set_option maxRecDepth 100000 in
set_option maxHeartbeats 64000000 in
theorem chooseOrder_walk (x p : Nat → Value) (a b : List (ByteArray × List (List Rel))) (d : Nat) (kind : Int) (name : ByteArray) (keys : List ByteArray) (vs : List Vl) (vv : Value) (w : World) (h : LocC w x a b) (hp : PartK d w p kind name keys) (hvv : ValsAt w vv vs) :
    Calls Tryz.prog 4 #[.agg #[x 0, x 1, x 2, x 3, x 4, x 5, x 6, x 7, x 8, x 9, x 10, x 11, x 12, x 13, x 14, x 15], .agg #[p 0, p 1, p 2, p 3, p 4, p 5], vv] w fun e w' => e = .returned (.bool true) ∧ Below w.heap.size w w' := by
  have HA := Lib.hid awake31_any
  have HF : Hid (∀ W, Below w.heap.size w W → Calls Tryz.prog 10 #[.agg #[x 0, x 1, x 2, x 3, x 4, x 5, x 6, x 7, x 8, x 9, x 10, x 11, x 12, x 13, x 14, x 15], .agg #[p 0, p 1, p 2, p 3, p 4, p 5], vv] W (BoolIfB W ((FewC a ∧ FewC b ∧ FewV2 vs) ∧ ∀ s : ByteArray, p 2 = .string s → s.size ≤ 60))) := fun W g => few31_top x p a b vs vv d W (h.below g) (hp.tree.below g) (hvv.below g)
  have HC1 : Hid (FewC a → FewC b → FewV2 vs → ∀ W, Below w.heap.size w W → Calls Tryz.prog 11 #[.agg #[x 0, x 1, x 2, x 3, x 4, x 5, x 6, x 7, x 8, x 9, x 10, x 11, x 12, x 13, x 14, x 15], .agg #[p 0, p 1, p 2, p 3, p 4, p 5], vv] W fun e w' => e = .returned (.tuple #[.int .i64 (chooseW kind (rulesV kind a b) keys (getV vs name).isSome (valOf vs name)).1, .int .i64 ((chooseW kind (rulesV kind a b) keys (getV vs name).isSome (valOf vs name)).2 : Nat)]) ∧ Below W.heap.size W w') := fun ha hb hf W g => choose_any x p a b d kind name keys vs vv W (h.below g) (hp.below g) (hvv.below g) hf.1 ha hb
  obtain ⟨s1, hp1, _⟩ := hp.tree.2.1
  obtain ⟨s3, hp3, _⟩ := hp.tree.2.2.2.1
  obtain ⟨qad, qn, qc, hp5⟩ := hp.tree.2.2.2.2.2.slice
  have hp0 := hp.k0
  have hp2 := hp.k2
  have hcl := hp.kl
  obtain ⟨cad, cc, cf, cb, coff, hp4, hcr, _, _, _, hcf⟩ := id hp.k4
  obtain ⟨vad, vc, vf, vb, voff, rfl, hvr, hvz, _, _, hvf⟩ := id hvv
  have hcap := hp.ks
  have HC2 : Hid (FewC a → FewC b → FewV2 vs → ∀ W tad tc mad mc, Below w.heap.size w W → RowsOf 2 CaseC W (.slice tad keys.length tc) (revK keys keys.length) → ValsAt W (.slice mad (1 + vs.length) mc) (⟨name ++ ⟨#[120]⟩, 1, ⟨#[111, 110, 101]⟩, 0, []⟩ :: vs) → Calls Tryz.prog 11 #[.agg #[x 0, x 1, x 2, x 3, x 4, x 5, x 6, x 7, x 8, x 9, x 10, x 11, x 12, x 13, x 14, x 15], .agg #[.int .i64 kind, .string s1, .string name, .string s3, .slice tad keys.length tc, .slice qad qn qc], .slice mad (1 + vs.length) mc] W fun e w' => e = .returned (.tuple #[.int .i64 (chooseW kind (rulesV kind a b) (revK keys keys.length) (getV vs name).isSome (valOf vs name)).1, .int .i64 ((chooseW kind (rulesV kind a b) (revK keys keys.length) (getV vs name).isSome (valOf vs name)).2 : Nat)]) ∧ Below W.heap.size W w') := fun ha hb hf W tad tc mad mc g hk hv => by
    have := choose_any2 x (fun j => (#[.int .i64 kind, .string s1, .string name, .string s3, .slice tad keys.length tc, .slice qad qn qc] : Array Value).getD j undef) a b kind name (revK keys keys.length) _ _ W (h.below g) rfl rfl hk (by rw [revK_length]; omega) hv (fun v hv => by
      rcases List.mem_cons.1 hv with rfl | hv
      · exact ⟨by show 3 ≤ 200; omega, Nat.zero_le _⟩
      · exact hf.1 v hv) ha hb
    rw [get_more (name_longer name)] at this
    unfold valOf at this
    rw [get_more (name_longer name)] at this
    exact this
  have HKT : Hid (∀ W l tad k tc, RowsOf 2 CaseC W (.slice tad k tc) l → l.length * 40 ≤ 140737488355328 → Calls Tryz.prog 14 #[.agg #[.int .i64 kind, .string s1, .string name, .string s3, .slice tad k tc, .slice qad qn qc]] W (WantP W l)) := fun W l tad k tc hk hl => rkeys_any (fun j => (#[.int .i64 kind, .string s1, .string name, .string s3, .slice tad k tc, .slice qad qn qc] : Array Value).getD j undef) l W hk hl
  have HIN : Hid (∀ W kad kn kc (l : List ByteArray) x, Sl W kad kn (strs l) → Calls Tryz.prog 13 #[.slice kad kn kc, .string x] W fun e w' => e = .returned (.bool (l.contains x)) ∧ W = w') := fun W kad kn kc l x hk => rin_str kad kn kc l x W hk
  have hord := order_law kind (rulesV kind a b) keys (revK keys keys.length) (getV vs name).isSome (valOf vs name) (revK_mem keys)
  rw [revK_length] at hord
  obtain ⟨cn, hcn⟩ : ∃ n, keys.length = n := ⟨_, rfl⟩
  obtain ⟨vn, hvn⟩ : ∃ n, vs.length = n := ⟨_, rfl⟩
  have HORD := Lib.hid hord
  generalize hcw2 : chooseW kind (rulesV kind a b) (revK keys keys.length) (getV vs name).isSome (valOf vs name) = cw2 at *
  generalize hcw1 : chooseW kind (rulesV kind a b) keys (getV vs name).isSome (valOf vs name) = cw1 at *
  obtain ⟨ci, ce⟩ := cw1
  obtain ⟨di, de⟩ := cw2
  clear hcw1 hcw2 hord
  rw [hcn] at hp4 hcr hcl HC2
  rw [hvn] at hvr HC2
  rw [hvn]
  rw [Hid, hcn] at HORD
  simp only at HORD
  replace HORD := Lib.hid HORD
  have HCN := Lib.hid hcn
  have HVN := Lib.hid hvn
  have HCR := Lib.hid hcr
  have HCF := Lib.hid hcf
  have HVR := Lib.hid hvr
  have HVF := Lib.hid hvf
  have HVZ := Lib.hid hvz
  have HCB : Hid (cn ≠ 0 → cb < w.heap.size) := fun h => hcr.block h (by omega)
  have HVB : Hid (vn ≠ 0 → vb < w.heap.size) := fun h => hvr.block h (by omega)
  have hvm := hvr.max
  have hvo : vn * 1 ≤ vn := by omega
  simp only at HC1 HC2
  rw [Hid, hvn, hp0, hp1, hp2, hp3, hp4, hp5] at HF HC1
  replace HF := Lib.hid HF
  replace HC1 := Lib.hid HC1
  rw [hp0, hp1, hp2, hp3, hp4, hp5]
  clear h hp hvv hcn hvn hcr hcf hvr hvf hvz hp0 hp1 hp2 hp3 hp4 hp5
  generalize x 0 = x0 at *
  generalize x 1 = x1 at *
  generalize x 2 = x2 at *
  generalize x 3 = x3 at *
  generalize x 4 = x4 at *
  generalize x 5 = x5 at *
  generalize x 6 = x6 at *
  generalize x 7 = x7 at *
  generalize x 8 = x8 at *
  generalize x 9 = x9 at *
  generalize x 10 = x10 at *
  generalize x 11 = x11 at *
  generalize x 12 = x12 at *
  generalize x 13 = x13 at *
  generalize x 14 = x14 at *
  generalize x 15 = x15 at *
  go_enter Tryz.func4, Tryz.ntmps4
  go_wp2_with fail
  refine (HA.out _).mono ?_
  rintro e W1 ⟨rfl, hb1⟩
  have HW1 : Hid (Below w.heap.size w W1) := Below.trans (by show Bel w _; exact ((Bel.refl _).alloc _).alloc _) (hb1.mono (by simp; omega))
  have HRL1 : Hid (W1.heap[w.heap.size]? = some (.cells #[x0, x1, x2, x3, x4, x5, x6, x7, x8, x9, x10, x11, x12, x13, x14, x15] 30 (0, 0))) := (hb1.block _ (by simp; omega)).trans ((Below.heap_alloc _ _ _ (by simp)).trans (row_first w _ _))
  have HRP1 : Hid (W1.heap[w.heap.size + 1]? = some (.cells #[.int .i64 kind, .string s1, .string name, .string s3, .slice cad cn cc, .slice qad qn qc] 34 (0, 0))) := (hb1.block _ (by simp)).trans (row_second w _ _ _)
  have hz1 : w.heap.size + 1 < W1.heap.size := by have := hb1.size; simp at this; omega
  have o10 : w.heap.size < W1.heap.size := by omega
  clear hb1
  have lq0 : W1.cell? ⟨w.heap.size, 0, none⟩ = some (x0) := by rw [Lib.cell_of_heap HRL1.out]; rfl
  have lq1 : W1.cell? ⟨w.heap.size, 1, none⟩ = some (x1) := by rw [Lib.cell_of_heap HRL1.out]; rfl
  have lq2 : W1.cell? ⟨w.heap.size, 2, none⟩ = some (x2) := by rw [Lib.cell_of_heap HRL1.out]; rfl
  have lq3 : W1.cell? ⟨w.heap.size, 3, none⟩ = some (x3) := by rw [Lib.cell_of_heap HRL1.out]; rfl
  have lq4 : W1.cell? ⟨w.heap.size, 4, none⟩ = some (x4) := by rw [Lib.cell_of_heap HRL1.out]; rfl
  have lq5 : W1.cell? ⟨w.heap.size, 5, none⟩ = some (x5) := by rw [Lib.cell_of_heap HRL1.out]; rfl
  have lq6 : W1.cell? ⟨w.heap.size, 6, none⟩ = some (x6) := by rw [Lib.cell_of_heap HRL1.out]; rfl
  have lq7 : W1.cell? ⟨w.heap.size, 7, none⟩ = some (x7) := by rw [Lib.cell_of_heap HRL1.out]; rfl
  have lq8 : W1.cell? ⟨w.heap.size, 8, none⟩ = some (x8) := by rw [Lib.cell_of_heap HRL1.out]; rfl
  have lq9 : W1.cell? ⟨w.heap.size, 9, none⟩ = some (x9) := by rw [Lib.cell_of_heap HRL1.out]; rfl
  have lq10 : W1.cell? ⟨w.heap.size, 10, none⟩ = some (x10) := by rw [Lib.cell_of_heap HRL1.out]; rfl
  have lq11 : W1.cell? ⟨w.heap.size, 11, none⟩ = some (x11) := by rw [Lib.cell_of_heap HRL1.out]; rfl
  have lq12 : W1.cell? ⟨w.heap.size, 12, none⟩ = some (x12) := by rw [Lib.cell_of_heap HRL1.out]; rfl
  have lq13 : W1.cell? ⟨w.heap.size, 13, none⟩ = some (x13) := by rw [Lib.cell_of_heap HRL1.out]; rfl
  have lq14 : W1.cell? ⟨w.heap.size, 14, none⟩ = some (x14) := by rw [Lib.cell_of_heap HRL1.out]; rfl
  have lq15 : W1.cell? ⟨w.heap.size, 15, none⟩ = some (x15) := by rw [Lib.cell_of_heap HRL1.out]; rfl
  have pq0 : W1.cell? ⟨w.heap.size + 1, 0, none⟩ = some (.int .i64 kind) := by rw [Lib.cell_of_heap HRP1.out]; rfl
  have pq1 : W1.cell? ⟨w.heap.size + 1, 1, none⟩ = some (.string s1) := by rw [Lib.cell_of_heap HRP1.out]; rfl
  have pq2 : W1.cell? ⟨w.heap.size + 1, 2, none⟩ = some (.string name) := by rw [Lib.cell_of_heap HRP1.out]; rfl
  have pq3 : W1.cell? ⟨w.heap.size + 1, 3, none⟩ = some (.string s3) := by rw [Lib.cell_of_heap HRP1.out]; rfl
  have pq4 : W1.cell? ⟨w.heap.size + 1, 4, none⟩ = some (.slice cad cn cc) := by rw [Lib.cell_of_heap HRP1.out]; rfl
  have pq5 : W1.cell? ⟨w.heap.size + 1, 5, none⟩ = some (.slice qad qn qc) := by rw [Lib.cell_of_heap HRP1.out]; rfl
  go_wp2_with fail
  refine (HF.out _ HW1.out).mono ?_
  rintro e W2 ⟨qa, rfl, hb2, hqa⟩
  have HQA := Lib.hid hqa
  have HB2 : Hid (Below W1.heap.size W1 W2) := hb2
  have HW2 : Hid (Below w.heap.size w W2) := HW1.out.trans (HB2.out.mono HW1.out.size)
  have HRL2 : Hid (W2.heap[w.heap.size]? = some (.cells #[x0, x1, x2, x3, x4, x5, x6, x7, x8, x9, x10, x11, x12, x13, x14, x15] 30 (0, 0))) := (HB2.out.block _ (by omega)).trans HRL1.out
  have HRP2 : Hid (W2.heap[w.heap.size + 1]? = some (.cells #[.int .i64 kind, .string s1, .string name, .string s3, .slice cad cn cc, .slice qad qn qc] 34 (0, 0))) := (HB2.out.block _ (by omega)).trans HRP1.out
  have hz2 : w.heap.size + 1 < W2.heap.size := by have := HB2.out.size; omega
  clear hb2 hqa
  clear lq0 lq1 lq2 lq3 lq4 lq5 lq6 lq7 lq8 lq9 lq10 lq11 lq12 lq13 lq14 lq15 pq0 pq1 pq2 pq3 pq4 pq5
  cases qa with
  | false =>
    go_wp2_with fail
    go_ret
    exact ⟨rfl, HW2.out⟩
  | true =>
    obtain ⟨⟨hfa, hfb, hfv⟩, hnm⟩ := HQA.out rfl
    have hns : name.size ≤ 60 := hnm name rfl
    replace HC1 := Lib.hid (HC1.out hfa hfb hfv)
    replace HC2 := Lib.hid (HC2.out hfa hfb hfv)
    have hv30 : vn ≤ 30 := by have := hfv.2; have := HVN.out; omega
    clear hfa hfb hfv HQA hnm
    have o20 : w.heap.size < W2.heap.size := by omega
    have lq0 : W2.cell? ⟨w.heap.size, 0, none⟩ = some (x0) := by rw [Lib.cell_of_heap HRL2.out]; rfl
    have lq1 : W2.cell? ⟨w.heap.size, 1, none⟩ = some (x1) := by rw [Lib.cell_of_heap HRL2.out]; rfl
    have lq2 : W2.cell? ⟨w.heap.size, 2, none⟩ = some (x2) := by rw [Lib.cell_of_heap HRL2.out]; rfl
    have lq3 : W2.cell? ⟨w.heap.size, 3, none⟩ = some (x3) := by rw [Lib.cell_of_heap HRL2.out]; rfl
    have lq4 : W2.cell? ⟨w.heap.size, 4, none⟩ = some (x4) := by rw [Lib.cell_of_heap HRL2.out]; rfl
    have lq5 : W2.cell? ⟨w.heap.size, 5, none⟩ = some (x5) := by rw [Lib.cell_of_heap HRL2.out]; rfl
    have lq6 : W2.cell? ⟨w.heap.size, 6, none⟩ = some (x6) := by rw [Lib.cell_of_heap HRL2.out]; rfl
    have lq7 : W2.cell? ⟨w.heap.size, 7, none⟩ = some (x7) := by rw [Lib.cell_of_heap HRL2.out]; rfl
    have lq8 : W2.cell? ⟨w.heap.size, 8, none⟩ = some (x8) := by rw [Lib.cell_of_heap HRL2.out]; rfl
    have lq9 : W2.cell? ⟨w.heap.size, 9, none⟩ = some (x9) := by rw [Lib.cell_of_heap HRL2.out]; rfl
    have lq10 : W2.cell? ⟨w.heap.size, 10, none⟩ = some (x10) := by rw [Lib.cell_of_heap HRL2.out]; rfl
    have lq11 : W2.cell? ⟨w.heap.size, 11, none⟩ = some (x11) := by rw [Lib.cell_of_heap HRL2.out]; rfl
    have lq12 : W2.cell? ⟨w.heap.size, 12, none⟩ = some (x12) := by rw [Lib.cell_of_heap HRL2.out]; rfl
    have lq13 : W2.cell? ⟨w.heap.size, 13, none⟩ = some (x13) := by rw [Lib.cell_of_heap HRL2.out]; rfl
    have lq14 : W2.cell? ⟨w.heap.size, 14, none⟩ = some (x14) := by rw [Lib.cell_of_heap HRL2.out]; rfl
    have lq15 : W2.cell? ⟨w.heap.size, 15, none⟩ = some (x15) := by rw [Lib.cell_of_heap HRL2.out]; rfl
    have pq0 : W2.cell? ⟨w.heap.size + 1, 0, none⟩ = some (.int .i64 kind) := by rw [Lib.cell_of_heap HRP2.out]; rfl
    have pq1 : W2.cell? ⟨w.heap.size + 1, 1, none⟩ = some (.string s1) := by rw [Lib.cell_of_heap HRP2.out]; rfl
    have pq2 : W2.cell? ⟨w.heap.size + 1, 2, none⟩ = some (.string name) := by rw [Lib.cell_of_heap HRP2.out]; rfl
    have pq3 : W2.cell? ⟨w.heap.size + 1, 3, none⟩ = some (.string s3) := by rw [Lib.cell_of_heap HRP2.out]; rfl
    have pq4 : W2.cell? ⟨w.heap.size + 1, 4, none⟩ = some (.slice cad cn cc) := by rw [Lib.cell_of_heap HRP2.out]; rfl
    have pq5 : W2.cell? ⟨w.heap.size + 1, 5, none⟩ = some (.slice qad qn qc) := by rw [Lib.cell_of_heap HRP2.out]; rfl
    go_wp2_with fail
    refine wp_at_worldT ?_
    intro W3 hW3
    have HT3 : Hid (W3.heap[W2.heap.size]? = some (.cells #[.int .i64 kind, .string s1, .string name, .string s3, .slice none 0 0, .slice qad qn qc] 34 (0, 0))) := by rw [hW3]; exact row_first W2 _ _
    have HBL3 : Hid (Below W2.heap.size W2 W3) := by rw [hW3]; exact (Below.refl _ _).alloc (Nat.le_refl _) _
    clear hW3
    clear lq0 lq1 lq2 lq3 lq4 lq5 lq6 lq7 lq8 lq9 lq10 lq11 lq12 lq13 lq14 lq15 pq0 pq1 pq2 pq3 pq4 pq5
    go_loopw [8] (fun v wr => ∃ (z : Int) (r k : Nat) (tad : Option Addr) (tc : Nat), v = .int .i64 z ∧ z = (r : Int) - 1 ∧ r + k = cn ∧ wr.heap[W2.heap.size]? = some (.cells #[.int .i64 kind, .string s1, .string name, .string s3, .slice tad k tc, .slice qad qn qc] 34 (0, 0)) ∧ wr.ownsRow (W2.heap.size + 1) 44 2 (.slice tad k tc) k (flat 2 (fun j => cf (cn - 1 - j)) k) ∧ Below W2.heap.size W2 wr) (fun v _ => (intOf v + 1).toNat)
    case atStart => exact ⟨_, cn, 0, none, 0, rfl, rfl, by omega, HT3.out, ⟨by simp [flat], .inl ⟨rfl, rfl⟩⟩, HBL3.out⟩
    case round =>
      obtain ⟨wo, rfl⟩ : ∃ wo : World, wo = wr := ⟨_, rfl⟩
      obtain ⟨z, r, k, tad, tc, rfl, hzr, hrk, hT, hown, hbl⟩ := hrel
      have HTO := Lib.hid hT
      have HOW := Lib.hid hown
      have HBL := Lib.hid hbl
      have hBz : W2.heap.size < wo.heap.size := (Array.getElem?_eq_some_iff.1 hT).1
      have HWO : Hid (Below w.heap.size w wo) := HW2.out.trans (hbl.mono HW2.out.size)
      have HLO : Hid (wo.heap[w.heap.size]? = some (.cells #[x0, x1, x2, x3, x4, x5, x6, x7, x8, x9, x10, x11, x12, x13, x14, x15] 30 (0, 0))) := (hbl.block _ (by omega)).trans HRL2.out
      have HPO : Hid (wo.heap[w.heap.size + 1]? = some (.cells #[.int .i64 kind, .string s1, .string name, .string s3, .slice cad cn cc, .slice qad qn qc] 34 (0, 0))) := (hbl.block _ (by omega)).trans HRP2.out
      have HRO : Hid (RowsOf 2 CaseC wo (.slice tad k tc) (revK keys k)) := rev_rows HCN.out (by omega) (by omega) HCF.out hown
      clear hT hown hbl
      rcases Nat.eq_zero_or_pos r with hr0 | hr0
      · subst hr0
        obtain rfl : z = -1 := by omega
        obtain rfl : cn = k := by omega
        clear hzr hrk
        have aa := fun W => run_string_add_sum (P := Tryz.prog) (w := W) name ⟨#[120]⟩ (by rw [show (⟨#[120]⟩ : ByteArray).size = 1 from rfl]; omega)
        have HOM : Hid ((wo.alloc (.cells #[.string (name ++ (⟨#[120]⟩ : ByteArray)), .int .i64 1, .string ⟨#[111, 110, 101]⟩, .int .i64 0, .slice none 0 0] 46)).ownsRow wo.heap.size 46 5 (.slice (some ⟨wo.heap.size, 0, none⟩) 1 1) 1 #[.string (name ++ (⟨#[120]⟩ : ByteArray)), .int .i64 1, .string ⟨#[111, 110, 101]⟩, .int .i64 0, .slice none 0 0].toList) := own_literal wo _ 5 1 #[.string (name ++ (⟨#[120]⟩ : ByteArray)), .int .i64 1, .string ⟨#[111, 110, 101]⟩, .int .i64 0, .slice none 0 0] wo.heap.size (Nat.le_refl _) (by unfold maxLen; omega) rfl
        have HVM : Hid (Rw (wo.alloc (.cells #[.string (name ++ (⟨#[120]⟩ : ByteArray)), .int .i64 1, .string ⟨#[111, 110, 101]⟩, .int .i64 0, .slice none 0 0] 46)) vad vn 5 vf vb voff) := HVR.out.below (by show Bel w _; exact Bel.alloc HWO.out _)
        have HV1 : Hid (∀ i j, i < vn → j < 5 → (vf i j).oneCell' = true) := fun i j hi hj => val_one (RowsOf.get HVF.out (show i < vs.length by rw [HVN.out]; exact hi) vl0) j hj
        have HMS : Hid (wo.heap.size ≤ (wo.alloc (.cells #[.string (name ++ (⟨#[120]⟩ : ByteArray)), .int .i64 1, .string ⟨#[111, 110, 101]⟩, .int .i64 0, .slice none 0 0] 46)).heap.size) := by unfold Hid; simp
        have HRV : Hid (∀ W, Below w.heap.size w W → ∀ i x, vs[i]? = some x → ValC W (vf i) x) := fun W g i x hx => (HVF.out i x hx).below g
        have pq0 : wo.cell? ⟨w.heap.size + 1, 0, none⟩ = some (.int .i64 kind) := by rw [Lib.cell_of_heap HPO.out]; rfl
        have pq1 : wo.cell? ⟨w.heap.size + 1, 1, none⟩ = some (.string s1) := by rw [Lib.cell_of_heap HPO.out]; rfl
        have pq2 : wo.cell? ⟨w.heap.size + 1, 2, none⟩ = some (.string name) := by rw [Lib.cell_of_heap HPO.out]; rfl
        have pq3 : wo.cell? ⟨w.heap.size + 1, 3, none⟩ = some (.string s3) := by rw [Lib.cell_of_heap HPO.out]; rfl
        have pq4 : wo.cell? ⟨w.heap.size + 1, 4, none⟩ = some (.slice cad cn cc) := by rw [Lib.cell_of_heap HPO.out]; rfl
        have pq5 : wo.cell? ⟨w.heap.size + 1, 5, none⟩ = some (.slice qad qn qc) := by rw [Lib.cell_of_heap HPO.out]; rfl
        go_wp2_with (at_builtin; go_must (refine wpList_app_rows rfl (.tmp 54) (.tmp 55) rfl Tryz.underlying35 infoVal rfl (by omega) wo.heap.size (some ⟨wo.heap.size, 0, none⟩) 1 1 #[.string (name ++ (⟨#[120]⟩ : ByteArray)), .int .i64 1, .string ⟨#[111, 110, 101]⟩, .int .i64 0, .slice none 0 0].toList rfl HOM.out vad vn vc vf vb voff rfl HVM.out HVZ.out HV1.out (by unfold maxLen; omega) (by omega) HMS.out ?_); intro mad mc w7 hown7 hg7; have HO7 := Lib.hid hown7; have HG7 := Lib.hid hg7; clear hown7 hg7; have HB7 : Hid (Below wo.heap.size wo w7) := Below.grown (by show Bel wo _; exact Bel.alloc (Bel.refl _) _) HG7.out (by simp) (own_base HOM.out); have HW7 : Hid (Below w.heap.size w w7) := HWO.out.trans (HB7.out.mono HWO.out.size); have HRL7 : Hid (w7.heap[w.heap.size]? = some (.cells #[x0, x1, x2, x3, x4, x5, x6, x7, x8, x9, x10, x11, x12, x13, x14, x15] 30 (0, 0))) := (HB7.out.block _ (by omega)).trans HLO.out; have HRP7 : Hid (w7.heap[w.heap.size + 1]? = some (.cells #[.int .i64 kind, .string s1, .string name, .string s3, .slice cad cn cc, .slice qad qn qc] 34 (0, 0))) := (HB7.out.block _ (by omega)).trans HPO.out; have HRT7 : Hid (w7.heap[W2.heap.size]? = some (.cells #[.int .i64 kind, .string s1, .string name, .string s3, .slice tad cn tc, .slice qad qn qc] 34 (0, 0))) := (HB7.out.block _ (by omega)).trans HTO.out; have hz7 : W2.heap.size < w7.heap.size := (by have := HB7.out.size; omega); have lq0 : w7.cell? ⟨w.heap.size, 0, none⟩ = some (x0) := (by rw [Lib.cell_of_heap HRL7.out]; rfl); have lq1 : w7.cell? ⟨w.heap.size, 1, none⟩ = some (x1) := (by rw [Lib.cell_of_heap HRL7.out]; rfl); have lq2 : w7.cell? ⟨w.heap.size, 2, none⟩ = some (x2) := (by rw [Lib.cell_of_heap HRL7.out]; rfl); have lq3 : w7.cell? ⟨w.heap.size, 3, none⟩ = some (x3) := (by rw [Lib.cell_of_heap HRL7.out]; rfl); have lq4 : w7.cell? ⟨w.heap.size, 4, none⟩ = some (x4) := (by rw [Lib.cell_of_heap HRL7.out]; rfl); have lq5 : w7.cell? ⟨w.heap.size, 5, none⟩ = some (x5) := (by rw [Lib.cell_of_heap HRL7.out]; rfl); have lq6 : w7.cell? ⟨w.heap.size, 6, none⟩ = some (x6) := (by rw [Lib.cell_of_heap HRL7.out]; rfl); have lq7 : w7.cell? ⟨w.heap.size, 7, none⟩ = some (x7) := (by rw [Lib.cell_of_heap HRL7.out]; rfl); have lq8 : w7.cell? ⟨w.heap.size, 8, none⟩ = some (x8) := (by rw [Lib.cell_of_heap HRL7.out]; rfl); have lq9 : w7.cell? ⟨w.heap.size, 9, none⟩ = some (x9) := (by rw [Lib.cell_of_heap HRL7.out]; rfl); have lq10 : w7.cell? ⟨w.heap.size, 10, none⟩ = some (x10) := (by rw [Lib.cell_of_heap HRL7.out]; rfl); have lq11 : w7.cell? ⟨w.heap.size, 11, none⟩ = some (x11) := (by rw [Lib.cell_of_heap HRL7.out]; rfl); have lq12 : w7.cell? ⟨w.heap.size, 12, none⟩ = some (x12) := (by rw [Lib.cell_of_heap HRL7.out]; rfl); have lq13 : w7.cell? ⟨w.heap.size, 13, none⟩ = some (x13) := (by rw [Lib.cell_of_heap HRL7.out]; rfl); have lq14 : w7.cell? ⟨w.heap.size, 14, none⟩ = some (x14) := (by rw [Lib.cell_of_heap HRL7.out]; rfl); have lq15 : w7.cell? ⟨w.heap.size, 15, none⟩ = some (x15) := (by rw [Lib.cell_of_heap HRL7.out]; rfl); have pq0 : w7.cell? ⟨w.heap.size + 1, 0, none⟩ = some (.int .i64 kind) := (by rw [Lib.cell_of_heap HRP7.out]; rfl); have pq1 : w7.cell? ⟨w.heap.size + 1, 1, none⟩ = some (.string s1) := (by rw [Lib.cell_of_heap HRP7.out]; rfl); have pq2 : w7.cell? ⟨w.heap.size + 1, 2, none⟩ = some (.string name) := (by rw [Lib.cell_of_heap HRP7.out]; rfl); have pq3 : w7.cell? ⟨w.heap.size + 1, 3, none⟩ = some (.string s3) := (by rw [Lib.cell_of_heap HRP7.out]; rfl); have pq4 : w7.cell? ⟨w.heap.size + 1, 4, none⟩ = some (.slice cad cn cc) := (by rw [Lib.cell_of_heap HRP7.out]; rfl); have pq5 : w7.cell? ⟨w.heap.size + 1, 5, none⟩ = some (.slice qad qn qc) := (by rw [Lib.cell_of_heap HRP7.out]; rfl))
        refine (HC1.out _ HW7.out).mono ?_
        rintro e w8 ⟨rfl, hb8⟩
        have HB8 : Hid (Below w7.heap.size w7 w8) := hb8
        have HW8 : Hid (Below w.heap.size w w8) := HW7.out.trans (HB8.out.mono HW7.out.size)
        have HRL8 : Hid (w8.heap[w.heap.size]? = some (.cells #[x0, x1, x2, x3, x4, x5, x6, x7, x8, x9, x10, x11, x12, x13, x14, x15] 30 (0, 0))) := (HB8.out.block _ (by omega)).trans HRL7.out
        have HRP8 : Hid (w8.heap[w.heap.size + 1]? = some (.cells #[.int .i64 kind, .string s1, .string name, .string s3, .slice cad cn cc, .slice qad qn qc] 34 (0, 0))) := (HB8.out.block _ (by omega)).trans HRP7.out
        have HRT8 : Hid (w8.heap[W2.heap.size]? = some (.cells #[.int .i64 kind, .string s1, .string name, .string s3, .slice tad cn tc, .slice qad qn qc] 34 (0, 0))) := (HB8.out.block _ (by omega)).trans HRT7.out
        have hz8 : W2.heap.size < w8.heap.size := by have := HB8.out.size; omega
        clear hb8 pq0 pq1 pq2 pq3 pq4 pq5
        clear lq0 lq1 lq2 lq3 lq4 lq5 lq6 lq7 lq8 lq9 lq10 lq11 lq12 lq13 lq14 lq15 pq0 pq1 pq2 pq3 pq4 pq5
        have HV8 : Hid (ValsAt w8 (.slice mad (1 + vn) mc) (⟨name ++ ⟨#[120]⟩, 1, ⟨#[111, 110, 101]⟩, 0, []⟩ :: vs)) := more_vals (own_below HO7.out HB8.out) HVN.out (HRV.out _ HW8.out) hns hv30
        have HR8 : Hid (RowsOf 2 CaseC w8 (.slice tad cn tc) (revK keys cn)) := HRO.out.map (HB7.out.trans (HB8.out.mono HB7.out.size)) fun _ _ h => h
        have lq0 : w8.cell? ⟨w.heap.size, 0, none⟩ = some (x0) := by rw [Lib.cell_of_heap HRL8.out]; rfl
        have lq1 : w8.cell? ⟨w.heap.size, 1, none⟩ = some (x1) := by rw [Lib.cell_of_heap HRL8.out]; rfl
        have lq2 : w8.cell? ⟨w.heap.size, 2, none⟩ = some (x2) := by rw [Lib.cell_of_heap HRL8.out]; rfl
        have lq3 : w8.cell? ⟨w.heap.size, 3, none⟩ = some (x3) := by rw [Lib.cell_of_heap HRL8.out]; rfl
        have lq4 : w8.cell? ⟨w.heap.size, 4, none⟩ = some (x4) := by rw [Lib.cell_of_heap HRL8.out]; rfl
        have lq5 : w8.cell? ⟨w.heap.size, 5, none⟩ = some (x5) := by rw [Lib.cell_of_heap HRL8.out]; rfl
        have lq6 : w8.cell? ⟨w.heap.size, 6, none⟩ = some (x6) := by rw [Lib.cell_of_heap HRL8.out]; rfl
        have lq7 : w8.cell? ⟨w.heap.size, 7, none⟩ = some (x7) := by rw [Lib.cell_of_heap HRL8.out]; rfl
        have lq8 : w8.cell? ⟨w.heap.size, 8, none⟩ = some (x8) := by rw [Lib.cell_of_heap HRL8.out]; rfl
        have lq9 : w8.cell? ⟨w.heap.size, 9, none⟩ = some (x9) := by rw [Lib.cell_of_heap HRL8.out]; rfl
        have lq10 : w8.cell? ⟨w.heap.size, 10, none⟩ = some (x10) := by rw [Lib.cell_of_heap HRL8.out]; rfl
        have lq11 : w8.cell? ⟨w.heap.size, 11, none⟩ = some (x11) := by rw [Lib.cell_of_heap HRL8.out]; rfl
        have lq12 : w8.cell? ⟨w.heap.size, 12, none⟩ = some (x12) := by rw [Lib.cell_of_heap HRL8.out]; rfl
        have lq13 : w8.cell? ⟨w.heap.size, 13, none⟩ = some (x13) := by rw [Lib.cell_of_heap HRL8.out]; rfl
        have lq14 : w8.cell? ⟨w.heap.size, 14, none⟩ = some (x14) := by rw [Lib.cell_of_heap HRL8.out]; rfl
        have lq15 : w8.cell? ⟨w.heap.size, 15, none⟩ = some (x15) := by rw [Lib.cell_of_heap HRL8.out]; rfl
        have tq0 : w8.cell? ⟨W2.heap.size, 0, none⟩ = some (.int .i64 kind) := by rw [Lib.cell_of_heap HRT8.out]; rfl
        have tq1 : w8.cell? ⟨W2.heap.size, 1, none⟩ = some (.string s1) := by rw [Lib.cell_of_heap HRT8.out]; rfl
        have tq2 : w8.cell? ⟨W2.heap.size, 2, none⟩ = some (.string name) := by rw [Lib.cell_of_heap HRT8.out]; rfl
        have tq3 : w8.cell? ⟨W2.heap.size, 3, none⟩ = some (.string s3) := by rw [Lib.cell_of_heap HRT8.out]; rfl
        have tq4 : w8.cell? ⟨W2.heap.size, 4, none⟩ = some (.slice tad cn tc) := by rw [Lib.cell_of_heap HRT8.out]; rfl
        have tq5 : w8.cell? ⟨W2.heap.size, 5, none⟩ = some (.slice qad qn qc) := by rw [Lib.cell_of_heap HRT8.out]; rfl
        go_wp2_with fail
        refine (HC2.out _ _ _ _ _ HW8.out HR8.out HV8.out).mono ?_
        rintro e w9 ⟨rfl, hb9⟩
        have HB9 : Hid (Below w8.heap.size w8 w9) := hb9
        have HW9 : Hid (Below w.heap.size w w9) := HW8.out.trans (HB9.out.mono HW8.out.size)
        have HRL9 : Hid (w9.heap[w.heap.size]? = some (.cells #[x0, x1, x2, x3, x4, x5, x6, x7, x8, x9, x10, x11, x12, x13, x14, x15] 30 (0, 0))) := (HB9.out.block _ (by omega)).trans HRL8.out
        have HRP9 : Hid (w9.heap[w.heap.size + 1]? = some (.cells #[.int .i64 kind, .string s1, .string name, .string s3, .slice cad cn cc, .slice qad qn qc] 34 (0, 0))) := (HB9.out.block _ (by omega)).trans HRP8.out
        have HRT9 : Hid (w9.heap[W2.heap.size]? = some (.cells #[.int .i64 kind, .string s1, .string name, .string s3, .slice tad cn tc, .slice qad qn qc] 34 (0, 0))) := (HB9.out.block _ (by omega)).trans HRT8.out
        have hz9 : W2.heap.size < w9.heap.size := by have := HB9.out.size; omega
        clear hb9
        clear lq0 lq1 lq2 lq3 lq4 lq5 lq6 lq7 lq8 lq9 lq10 lq11 lq12 lq13 lq14 lq15 tq0 tq1 tq2 tq3 tq4 tq5
        obtain ⟨hfe, hok⟩ := HORD.out
        subst hfe
        by_cases he : ce = 0
        · obtain ⟨j, q, hj, hq, hcj, hdq, hkk⟩ := hok he
          subst he hcj hdq
          have HR9 : Hid (RowsOf 2 CaseC w9 (.slice tad cn tc) (revK keys cn)) := HR8.out.map HB9.out fun _ _ h => h
          obtain ⟨ad9, c9, f9, b9, off9, e9, hr9, _, _, _, hf9⟩ := HR9.out
          rw [revK_length] at e9 hr9
          injection e9 with e91 e92 e93
          subst e91 e93
          have hix1 := fun W => HCR.out.ix 31 44 Tryz.underlying31 (by kernel_rfl) (by omega) hj cc W
          have hix2 := fun W => hr9.ix 31 44 Tryz.underlying31 (by kernel_rfl) (by omega) hq tc W
          have d0 : w9.cell? ⟨cb, coff + j * 2, none⟩ = some (cf j 0) := (HCR.out.below HW9.out).cell j 0 hj (by omega)
          have d1 : w9.cell? ⟨b9, off9 + q * 2, none⟩ = some (f9 q 0) := hr9.cell q 0 hq (by omega)
          rw [(RowsOf.get HCF.out (show j < keys.length by rw [HCN.out]; exact hj) ByteArray.empty).1] at d0
          rw [(RowsOf.get hf9 (show q < (revK keys cn).length by rw [revK_length]; exact hq) ByteArray.empty).1, ← hkk] at d1
          clear hr9 hf9 hok hkk HORD
          generalize keys.getD j .empty = kj at *
          have e1 : (kj.toList == kj.toList) = true := by simp
          have i1 : decide ((0 : Int) ≤ (j : Int)) = true := by simp
          have i2 : decide (j < cn) = true := by simpa using hj
          have i3 : decide ((0 : Int) ≤ (q : Int)) = true := by simp
          have i4 : decide (q < cn) = true := by simpa using hq
          have i5 : (0 : Int) ≤ (j : Int) := by omega
          have i6 : (0 : Int) ≤ (q : Int) := by omega
          have pq0 : w9.cell? ⟨w.heap.size + 1, 0, none⟩ = some (.int .i64 kind) := by rw [Lib.cell_of_heap HRP9.out]; rfl
          have pq1 : w9.cell? ⟨w.heap.size + 1, 1, none⟩ = some (.string s1) := by rw [Lib.cell_of_heap HRP9.out]; rfl
          have pq2 : w9.cell? ⟨w.heap.size + 1, 2, none⟩ = some (.string name) := by rw [Lib.cell_of_heap HRP9.out]; rfl
          have pq3 : w9.cell? ⟨w.heap.size + 1, 3, none⟩ = some (.string s3) := by rw [Lib.cell_of_heap HRP9.out]; rfl
          have pq4 : w9.cell? ⟨w.heap.size + 1, 4, none⟩ = some (.slice cad cn cc) := by rw [Lib.cell_of_heap HRP9.out]; rfl
          have pq5 : w9.cell? ⟨w.heap.size + 1, 5, none⟩ = some (.slice qad qn qc) := by rw [Lib.cell_of_heap HRP9.out]; rfl
          have tq0 : w9.cell? ⟨W2.heap.size, 0, none⟩ = some (.int .i64 kind) := by rw [Lib.cell_of_heap HRT9.out]; rfl
          have tq1 : w9.cell? ⟨W2.heap.size, 1, none⟩ = some (.string s1) := by rw [Lib.cell_of_heap HRT9.out]; rfl
          have tq2 : w9.cell? ⟨W2.heap.size, 2, none⟩ = some (.string name) := by rw [Lib.cell_of_heap HRT9.out]; rfl
          have tq3 : w9.cell? ⟨W2.heap.size, 3, none⟩ = some (.string s3) := by rw [Lib.cell_of_heap HRT9.out]; rfl
          have tq4 : w9.cell? ⟨W2.heap.size, 4, none⟩ = some (.slice tad cn tc) := by rw [Lib.cell_of_heap HRT9.out]; rfl
          have tq5 : w9.cell? ⟨W2.heap.size, 5, none⟩ = some (.slice qad qn qc) := by rw [Lib.cell_of_heap HRT9.out]; rfl
          go_wp2_with fail
          go_quiet (fail)
          go_wp2_with fail
          go_ret
          exact ⟨rfl, by show Bel w _; exact Bel.drewN HW9.out _⟩
        · have e0 : ((ce : Int) == 0) = false := by rw [beq_eq_false_iff_ne]; omega
          have e1 : ((ce : Int) != 0) = true := by rw [bne, e0]; rfl
          have e2 : ((ce : Int) == (ce : Int)) = true := by simp
          clear hok HORD
          go_wp2_with fail
          go_ret
          exact ⟨rfl, HW9.out⟩
      · obtain ⟨m, rfl⟩ : ∃ m, r = m + 1 := ⟨r - 1, by omega⟩
        obtain rfl : z = (m : Int) := by omega
        have hmn : m < cn := by omega
        have hkn : k < cn := by omega
        have hmk : cn - 1 - k = m := by omega
        have HMK := Lib.hid hmk
        have HRK := Lib.hid hrk
        clear hzr hrk hmk
        have hix := fun W => HCR.out.ix 31 44 Tryz.underlying31 (by kernel_rfl) (by omega) hmn cc W
        have hcbo : cb < wo.heap.size := by have := HCB.out (by omega); have := HWO.out.size; omega
        have hcbw : cb < W2.heap.size := by have := HCB.out (by omega); have := HW2.out.size; omega
        have c0 : wo.cell? ⟨cb, coff + m * 2, none⟩ = some (cf m 0) := (HCR.out.below HWO.out).cell m 0 hmn (by omega)
        have c1 : wo.cell? ⟨cb, coff + m * 2 + 1, none⟩ = some (cf m 1) := (HCR.out.below HWO.out).cell m 1 hmn (by omega)
        have hm0 : m < keys.length := by rw [HCN.out]; exact hmn
        obtain ⟨g0, a5, m5, c5, g1⟩ := RowsOf.get HCF.out hm0 ByteArray.empty
        have HFK : Hid (flat 2 (fun j => cf (cn - 1 - j)) k ++ [.string (keys.getD m .empty), .slice a5 m5 c5] = flat 2 (fun j => cf (cn - 1 - j)) (k + 1)) := by
          rw [Hid, flat_succ, HMK.out]
          rw [show (List.range 2).map (cf m) = [cf m 0, cf m 1] from rfl, g0, g1]
        rw [g0] at c0
        rw [g1] at c1
        clear g0 g1 hm0
        generalize keys.getD m .empty = ky at *
        obtain ⟨bb, hbb⟩ : ∃ bb, (revK keys k).contains ky = bb := ⟨_, rfl⟩
        have HINK : Hid (∀ W kad kn kc, Sl W kad kn (strs (revK keys k)) → Calls Tryz.prog 13 #[.slice kad kn kc, .string ky] W fun e w' => e = .returned (.bool bb) ∧ W = w') := fun W kad kn kc g => by have := HIN.out W kad kn kc (revK keys k) ky g; rwa [hbb] at this
        clear hbb
        go_wp2_with fail
        refine wp_region_held_drew (S := fun w' => Below wo.heap.size wo w') (by kernel_rfl) ((Below.refl _ _).drew) (fun hHeld => ?_)
        refine wpAnyH_take (i := 0) (v := ?_) rfl (by kernel_rfl) (by kernel_rfl) (by kernel_rfl) (fun _ _ _ h => h) (Or.inl ⟨by kernel_rfl, ?_⟩) hHeld ?_
        rotate_left
        · (intro wx hSw; (try dsimp only at hSw); have hrx := (hSw.block W2.heap.size (by omega)).trans HTO.out; have k0 := Lib.cell_of_heap (j := 0) hrx; have k1 := Lib.cell_of_heap (j := 1) hrx; have k2 := Lib.cell_of_heap (j := 2) hrx; have k3 := Lib.cell_of_heap (j := 3) hrx; have k4 := Lib.cell_of_heap (j := 4) hrx; have k5 := Lib.cell_of_heap (j := 5) hrx; simp [] at k0 k1 k2 k3 k4 k5; go_simp; try with_reducible rfl)
        simp only [Act.put, List.getElem_toArray, List.getElem_cons_zero, List.setIfInBounds_toArray, List.set_cons_zero, List.set_cons_succ]
        refine wpAnyH_take (i := 2) (v := ?_) rfl (by kernel_rfl) (by kernel_rfl) (by kernel_rfl) (fun _ _ _ h => h) (Or.inl ⟨by kernel_rfl, ?_⟩) hHeld ?_
        rotate_left
        · (intro wx hSw; (try dsimp only at hSw); go_simp; try with_reducible rfl)
        simp only [Act.put, List.getElem_toArray, List.getElem_cons_succ, List.getElem_cons_zero, List.setIfInBounds_toArray, List.set_cons_zero, List.set_cons_succ]
        refine wpAnyH_take (i := 3) (v := ?_) rfl (by kernel_rfl) (by kernel_rfl) (by kernel_rfl) (fun _ _ _ h => h) (Or.inl ⟨by kernel_rfl, ?_⟩) hHeld ?_
        rotate_left
        · (intro wx hSw; (try dsimp only at hSw); have hrx := (hSw.block (w.heap.size + 1) (by omega)).trans HPO.out; have k0 := Lib.cell_of_heap (j := 0) hrx; have k1 := Lib.cell_of_heap (j := 1) hrx; have k2 := Lib.cell_of_heap (j := 2) hrx; have k3 := Lib.cell_of_heap (j := 3) hrx; have k4 := Lib.cell_of_heap (j := 4) hrx; simp [] at k0 k1 k2 k3 k4; go_simp; try with_reducible rfl)
        simp only [Act.put, List.getElem_toArray, List.getElem_cons_succ, List.getElem_cons_zero, List.setIfInBounds_toArray, List.set_cons_zero, List.set_cons_succ]
        refine wpAnyH_take (i := 4) (v := ?_) rfl (by kernel_rfl) (by kernel_rfl) (by kernel_rfl) (fun _ _ _ h => h) (Or.inl ⟨by kernel_rfl, ?_⟩) hHeld ?_
        rotate_left
        · (intro wx hSw; (try dsimp only at hSw); go_simp; try with_reducible rfl)
        simp only [Act.put, List.getElem_toArray, List.getElem_cons_succ, List.getElem_cons_zero, List.setIfInBounds_toArray, List.set_cons_zero, List.set_cons_succ]
        refine wpAnyH_take (i := 5) (v := ?_) rfl (by kernel_rfl) (by kernel_rfl) (by kernel_rfl) (fun _ _ _ h => h) (Or.inl ⟨by kernel_rfl, ?_⟩) hHeld ?_
        rotate_left
        · (intro wx hSw; (try dsimp only at hSw); go_simp; try with_reducible rfl)
        simp only [Act.put, List.getElem_toArray, List.getElem_cons_succ, List.getElem_cons_zero, List.setIfInBounds_toArray, List.set_cons_zero, List.set_cons_succ]
        refine wpAnyH_take (i := 6) (v := ?_) rfl (by kernel_rfl) (by kernel_rfl) (by kernel_rfl) (fun _ _ _ h => h) (Or.inl ⟨by kernel_rfl, ?_⟩) hHeld ?_
        rotate_left
        · (intro wx hSw; (try dsimp only at hSw); go_simp; try with_reducible rfl)
        simp only [Act.put, List.getElem_toArray, List.getElem_cons_succ, List.getElem_cons_zero, List.setIfInBounds_toArray, List.set_cons_zero, List.set_cons_succ]
        refine wpAnyH_take (i := 7) (v := ?_) rfl (by kernel_rfl) (by kernel_rfl) (by kernel_rfl) (fun _ _ _ h => h) (Or.inl ⟨by kernel_rfl, ?_⟩) hHeld ?_
        rotate_left
        · (intro wx hSw; (try dsimp only at hSw); have cw := (hSw.cell (p := ⟨cb, coff + m * 2, none⟩) hcbo).trans c0; go_simp; try with_reducible rfl)
        simp only [Act.put, List.getElem_toArray, List.getElem_cons_succ, List.getElem_cons_zero, List.setIfInBounds_toArray, List.set_cons_zero, List.set_cons_succ]
        refine wpAnyH_ready (rs := [1]) (by kernel_rfl) (by simp) ?_
        refine AllReadyH.cons rfl (fun K hK => ?_) AllReadyH.nil
        go_simp
        refine (HKT.out _ _ _ _ _ (HRO.out.map hHeld fun _ _ h => h) (by rw [revK_length]; omega)).mono ?_
        rintro e wk ⟨kad, kn, kc, rfl, hslk, hbk⟩
        have HSK := Lib.hid hslk
        have HBK := Lib.hid hbk
        clear hslk hbk
        go_simp
        refine hK.out _ _ (hHeld.trans (HBK.out.mono hHeld.size)) (fun hHeld2 => ?_)
        clear hK K hHeld
        have hHeld := hHeld2
        clear hHeld2
        refine wpAnyH_ready (rs := [8]) (by kernel_rfl) (by simp) ?_
        refine AllReadyH.cons rfl (fun K hK => ?_) AllReadyH.nil
        go_simp
        refine (HINK.out _ _ _ _ HSK.out).mono ?_
        rintro e _ ⟨rfl, rfl⟩
        go_simp
        refine hK.out _ _ (hHeld) (fun hHeld2 => ?_)
        clear hK K hHeld
        have hHeld := hHeld2
        clear hHeld2
        refine wpAnyH_done (by kernel_rfl) ?_ _
        cases bb with
        | true =>
          go_wp2_with fail
          go_ret
          exact ⟨rfl, HWO.out.trans (hHeld.mono HWO.out.size)⟩
        | false =>
          have HKW : Hid (Below wo.heap.size wo wk) := hHeld
          have HTK : Hid (wk.heap[W2.heap.size]? = some (.cells #[.int .i64 kind, .string s1, .string name, .string s3, .slice tad k tc, .slice qad qn qc] 34 (0, 0))) := (hHeld.block _ hBz).trans HTO.out
          have HPK : Hid (wk.heap[w.heap.size + 1]? = some (.cells #[.int .i64 kind, .string s1, .string name, .string s3, .slice cad cn cc, .slice qad qn qc] 34 (0, 0))) := (hHeld.block _ (by omega)).trans HPO.out
          have HBLK : Hid (Below W2.heap.size W2 wk) := HBL.out.trans (hHeld.mono (by omega))
          have u1 : wk.cell? ⟨W2.heap.size, 4, none⟩ = some (.slice tad k tc) := by rw [Lib.cell_of_heap HTK.out]; rfl
          have u2 : wk.cell? ⟨w.heap.size + 1, 4, none⟩ = some (.slice cad cn cc) := by rw [Lib.cell_of_heap HPK.out]; rfl
          have u3 : wk.cell? ⟨cb, coff + m * 2, none⟩ = some (.string ky) := (hHeld.cell (p := ⟨cb, coff + m * 2, none⟩) hcbo).trans c0
          have u4 : wk.cell? ⟨cb, coff + m * 2 + 1, none⟩ = some (.slice a5 m5 c5) := (hHeld.cell (p := ⟨cb, coff + m * 2 + 1, none⟩) hcbo).trans c1
          have hzk : wo.heap.size ≤ wk.heap.size := hHeld.size
          have HOB : Hid ((wk.alloc (.cells #[.string ky, .slice a5 m5 c5] 44)).drew.ownsRow (W2.heap.size + 1) 44 2 (.slice tad k tc) k (flat 2 (fun j => cf (cn - 1 - j)) k)) := own_below HOW.out (hHeld.trans ((Below.refl _ _).alloc hHeld.size _).drew)
          have HNB : Hid (Rw (wk.alloc (.cells #[.string ky, .slice a5 m5 c5] 44)).drew (some ⟨wk.heap.size, 0, none⟩) 1 2 (fun _ j => (#[.string ky, .slice a5 m5 c5] : Array Value).getD j undef) wk.heap.size 0) := ⟨by omega, fun _ => rfl, fun i j hi hj => by
            obtain rfl : i = 0 := by omega
            rcases (by omega : j = 0 ∨ j = 1) with e | e <;> subst e <;> simp [go_sem]⟩
          have HBS : Hid (W2.heap.size + 1 ≤ (wk.alloc (.cells #[.string ky, .slice a5 m5 c5] 44)).drew.heap.size) := by unfold Hid; simp; omega
          have HNE : Hid (∀ q, q ≤ W2.heap.size → some q ≠ Value.ownBlock (.slice tad k tc)) := fun q hq e => by have := own_base HOB.out q e.symm; omega
          clear HSK HBK c0 c1 hHeld
          go_wp2_with fail
          refine wp_region_until 10 (fun w' => w'.cell? ⟨W2.heap.size, 4, none⟩ = some (.slice tad k tc) ∧ w'.cell? ⟨w.heap.size + 1, 4, none⟩ = some (.slice cad cn cc) ∧ w'.cell? ⟨cb, coff + m * 2, none⟩ = some (.string ky) ∧ w'.cell? ⟨cb, coff + m * 2 + 1, none⟩ = some (.slice a5 m5 c5)) (by kernel_rfl) ⟨u1, u2, u3, u4⟩ (fun hS0 => ?_)
          refine wpAnyG_take (i := 0) (v := ?_) rfl (by kernel_rfl) (by kernel_rfl) (by kernel_rfl) (fun _ _ _ h => h) (by kernel_rfl) (by decide) (by kernel_rfl) (Or.inl ⟨by kernel_rfl, ?_⟩) hS0 ?_
          rotate_left
          · (intro wx hSw; obtain ⟨t1, t2, t3, t4⟩ := hSw; go_simp; try with_reducible rfl)
          simp only [Act.put, List.getElem_toArray, List.getElem_cons_zero, List.setIfInBounds_toArray, List.set_cons_zero, List.set_cons_succ]
          refine wpAnyG_take (i := 1) (v := ?_) rfl (by kernel_rfl) (by kernel_rfl) (by kernel_rfl) (fun _ _ _ h => h) (by kernel_rfl) (by decide) (by kernel_rfl) (Or.inl ⟨by kernel_rfl, ?_⟩) hS0 ?_
          rotate_left
          · (intro wx hSw; obtain ⟨t1, t2, t3, t4⟩ := hSw; go_simp; try with_reducible rfl)
          simp only [Act.put, List.getElem_toArray, List.getElem_cons_succ, List.getElem_cons_zero, List.setIfInBounds_toArray, List.set_cons_zero, List.set_cons_succ]
          refine wpAnyG_take (i := 2) (v := ?_) rfl (by kernel_rfl) (by kernel_rfl) (by kernel_rfl) (fun _ _ _ h => h) (by kernel_rfl) (by decide) (by kernel_rfl) (Or.inl ⟨by kernel_rfl, ?_⟩) hS0 ?_
          rotate_left
          · (intro wx hSw; obtain ⟨t1, t2, t3, t4⟩ := hSw; go_simp; try with_reducible rfl)
          simp only [Act.put, List.getElem_toArray, List.getElem_cons_succ, List.getElem_cons_zero, List.setIfInBounds_toArray, List.set_cons_zero, List.set_cons_succ]
          refine wpAnyG_take (i := 3) (v := ?_) rfl (by kernel_rfl) (by kernel_rfl) (by kernel_rfl) (fun _ _ _ h => h) (by kernel_rfl) (by decide) (by kernel_rfl) (Or.inl ⟨by kernel_rfl, ?_⟩) hS0 ?_
          rotate_left
          · (intro wx hSw; obtain ⟨t1, t2, t3, t4⟩ := hSw; go_simp; try with_reducible rfl)
          simp only [Act.put, List.getElem_toArray, List.getElem_cons_succ, List.getElem_cons_zero, List.setIfInBounds_toArray, List.set_cons_zero, List.set_cons_succ]
          refine wpAnyG_take (i := 4) (v := ?_) rfl (by kernel_rfl) (by kernel_rfl) (by kernel_rfl) (fun _ _ _ h => h) (by kernel_rfl) (by decide) (by kernel_rfl) (Or.inl ⟨by kernel_rfl, ?_⟩) hS0 ?_
          rotate_left
          · (intro wx hSw; obtain ⟨t1, t2, t3, t4⟩ := hSw; go_simp; try with_reducible rfl)
          simp only [Act.put, List.getElem_toArray, List.getElem_cons_succ, List.getElem_cons_zero, List.setIfInBounds_toArray, List.set_cons_zero, List.set_cons_succ]
          refine wpAnyG_take (i := 5) (v := ?_) rfl (by kernel_rfl) (by kernel_rfl) (by kernel_rfl) (fun _ _ _ h => h) (by kernel_rfl) (by decide) (by kernel_rfl) (Or.inl ⟨by kernel_rfl, ?_⟩) hS0 ?_
          rotate_left
          · (intro wx hSw; obtain ⟨t1, t2, t3, t4⟩ := hSw; go_simp; try with_reducible rfl)
          simp only [Act.put, List.getElem_toArray, List.getElem_cons_succ, List.getElem_cons_zero, List.setIfInBounds_toArray, List.set_cons_zero, List.set_cons_succ]
          refine wpAnyG_take (i := 6) (v := ?_) rfl (by kernel_rfl) (by kernel_rfl) (by kernel_rfl) (fun _ _ _ h => h) (by kernel_rfl) (by decide) (by kernel_rfl) (Or.inl ⟨by kernel_rfl, ?_⟩) hS0 ?_
          rotate_left
          · (intro wx hSw; obtain ⟨t1, t2, t3, t4⟩ := hSw; go_simp; try with_reducible rfl)
          simp only [Act.put, List.getElem_toArray, List.getElem_cons_succ, List.getElem_cons_zero, List.setIfInBounds_toArray, List.set_cons_zero, List.set_cons_succ]
          refine wpAnyG_ready (rs := [7]) (by kernel_rfl) (by simp) ?_
          refine AllReadyG.cons rfl (fun K hK => ?_) AllReadyG.nil
          go_simp
          refine hK.out _ _ (fun _ => ⟨Lib.cell?_alloc_some _ u1, Lib.cell?_alloc_some _ u2, Lib.cell?_alloc_some _ u3, Lib.cell?_alloc_some _ u4⟩) (fun _ => ?_)
          clear hK K
          refine wpAnyG_ready (rs := [8]) (by kernel_rfl) (by simp) ?_
          refine AllReadyG.cons rfl (fun K hK => ?_) AllReadyG.nil
          refine step_app_rows rfl (.tmp 41) (.tmp 47) rfl Tryz.underlying31 infoCase (by rfl) (by omega) (W2.heap.size + 1) tad k tc (flat 2 (fun j => cf (cn - 1 - j)) k) (by rfl) HOB.out (some ⟨wk.heap.size, 0, none⟩) 1 1 (fun _ j => (#[.string ky, .slice a5 m5 c5] : Array Value).getD j undef) wk.heap.size 0 (by rfl) HNB.out (fun h => by cases h) (fun i j _ hj => by rcases (by omega : j = 0 ∨ j = 1) with e | e <;> subst e <;> rfl) (by unfold maxLen; omega) (by omega) HBS.out ?_
          intro ad2 c2 w6 hown6 hg6
          have HO6 := Lib.hid hown6
          have HG6 := Lib.hid hg6
          clear hown6 hg6
          have v1 : w6.cell? ⟨W2.heap.size, 4, none⟩ = some (.slice tad k tc) := (HG6.out.cell_far ⟨W2.heap.size, 4, none⟩ (by show W2.heap.size < (World.alloc wk _).heap.size; simp; omega) (HNE.out _ (Nat.le_refl _))).trans (Lib.cell?_alloc_some _ u1)
          have v2 : w6.cell? ⟨w.heap.size + 1, 4, none⟩ = some (.slice cad cn cc) := (HG6.out.cell_far ⟨w.heap.size + 1, 4, none⟩ (by show w.heap.size + 1 < (World.alloc wk _).heap.size; simp; omega) (HNE.out _ (by show w.heap.size + 1 ≤ W2.heap.size; omega))).trans (Lib.cell?_alloc_some _ u2)
          have v3 : w6.cell? ⟨cb, coff + m * 2, none⟩ = some (.string ky) := (HG6.out.cell_far ⟨cb, coff + m * 2, none⟩ (by show cb < (World.alloc wk _).heap.size; simp; omega) (HNE.out _ (by show cb ≤ W2.heap.size; omega))).trans (Lib.cell?_alloc_some _ u3)
          have v4 : w6.cell? ⟨cb, coff + m * 2 + 1, none⟩ = some (.slice a5 m5 c5) := (HG6.out.cell_far ⟨cb, coff + m * 2 + 1, none⟩ (by show cb < (World.alloc wk _).heap.size; simp; omega) (HNE.out _ (by show cb ≤ W2.heap.size; omega))).trans (Lib.cell?_alloc_some _ u4)
          refine hK.out _ _ (fun _ => ⟨v1, v2, v3, v4⟩) (fun _ => ?_)
          clear hK K
          refine wpAnyG_take (i := 9) (v := ?_) rfl (by kernel_rfl) (by kernel_rfl) (by kernel_rfl) (fun _ _ _ h => h) (by kernel_rfl) (by decide) (by kernel_rfl) (Or.inl ⟨by kernel_rfl, ?_⟩) ⟨v1, v2, v3, v4⟩ ?_
          rotate_left
          · (intro wx hSw; obtain ⟨t1, t2, t3, t4⟩ := hSw; go_simp; try with_reducible rfl)
          simp only [Act.put, List.getElem_toArray, List.getElem_cons_succ, List.getElem_cons_zero, List.setIfInBounds_toArray, List.set_cons_zero, List.set_cons_succ]
          have hrow6 : w6.heap[W2.heap.size]? = some (.cells #[.int .i64 kind, .string s1, .string name, .string s3, .slice tad k tc, .slice qad qn qc] 34 (0, 0)) := (HG6.out.block _ (by show W2.heap.size < (World.alloc wk _).heap.size; simp; omega) (HNE.out _ (Nat.le_refl _))).trans ((Below.heap_alloc _ _ _ (by omega)).trans HTK.out)
          have HROW6 := Lib.hid hrow6
          have fz6 : w6.frozen? ⟨W2.heap.size, 4, none⟩ = false := row_fz6 hrow6 4
          have hz6 : W2.heap.size < w6.heap.size := World.block_lt_of_cell? _ _ v1
          have HBL6 : Hid (Below W2.heap.size W2 w6) := Below.grown (by show Bel W2 _; exact Bel.drew (Bel.alloc HBLK.out _)) HG6.out (by show W2.heap.size ≤ (World.alloc wk _).heap.size; simp; omega) (fun kk hkk => by have := own_base HOB.out kk hkk; omega)
          clear hrow6
          refine wpAnyG_ready (rs := [10]) (by kernel_rfl) (by simp) ?_
          refine AllReadyG.cons rfl (fun K hK => ?_) AllReadyG.nil
          go_simp
          refine hK.out _ _ (fun h => absurd ((show _ = true by kernel_rfl : _ = true).symm.trans h) (by decide)) (fun _ => ?_)
          clear hK K
          refine wpAnyG_done (by kernel_rfl) ?_ _
          clear v2 v3 v4 u1 u2 u3 u4 hS0
          go_wp2_with fail
          go_roundw
          case rel =>
            refine ⟨_, m, k + 1, ad2, c2, rfl, rfl, by have := HRK.out; omega, row_st6 HROW6.out 4 _, ?_, Bel.setCell HBL6.out _ _ (Nat.le_refl _)⟩
            have := HO6.out
            rw [show flat 2 (fun _ j => (#[.string ky, .slice a5 m5 c5] : Array Value).getD j undef) 1 = [.string ky, .slice a5 m5 c5] from rfl, HFK.out] at this
            exact own_store this _ (by omega)
          case measure => simp [intOf]
end Go.Proofs.YtadhblppeaamlaaGreatDoor
