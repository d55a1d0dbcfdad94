/- Plain: what stands at a token's place; the example of the document. -/
import Derived.Test.YtpionddponmdmaaGreatDoorQ32
namespace Go.Proofs.YtpionddponmdmaaGreatDoor
open Go.RowKit
def awL : List UInt8 := [108, 105, 115, 116, 32, 97, 110, 100, 32, 34, 97, 92, 34, 98, 34, 59, 32, 35, 32, 101, 110, 100]
theorem aw_pos : posV awL 0 = 0 ∧ posV awL 1 = 5 ∧ posV awL 2 = 9 ∧ posV awL 3 = 15 ∧ posV awL 4 = 22 := by decide +kernel
theorem aw_items : itemV awL 0 = ((1, [108, 105, 115, 116], 0), 4, 0, 0) ∧ itemV awL 1 = ((1, [97, 110, 100], 5), 3, 0, 0) ∧ itemV awL 2 = ((2, [97, 34, 98], 9), 6, 0, 0) ∧ itemV awL 3 = ((3, [59], 15), 1, 0, 0) := by decide +kernel
theorem run_unique {l : List UInt8} {M N : Nat} (h : RunP l M) (hN : ∀ k, k < N → posV l k < l.length ∧ (itemV l k).2.2.2 = 0) (hE : l.length ≤ posV l N) : M = N := by
  rcases Nat.lt_trichotomy M N with h1 | h1 | h1
  · rcases h.2.2 with ⟨h2, _⟩ | ⟨h2, h3⟩
    · have := (hN M h1).1; omega
    · exact absurd (hN (M - 1) (by omega)).2 h3
  · exact h1
  · have := h.1 N h1; omega
theorem aw_run {M : Nat} (h : RunP awL M) : M = 4 := by
  obtain ⟨p0, p1, p2, p3, p4⟩ := aw_pos
  obtain ⟨i0, i1, i2, i3⟩ := aw_items
  refine run_unique h (fun k hk => ?_) (by rw [p4]; decide)
  match k, hk with
  | 0, _ => exact ⟨by rw [p0]; decide, by rw [i0]⟩
  | 1, _ => exact ⟨by rw [p1]; decide, by rw [i1]⟩
  | 2, _ => exact ⟨by rw [p2]; decide, by rw [i2]⟩
  | 3, _ => exact ⟨by rw [p3]; decide, by rw [i3]⟩
/-- what a token says of its place -/
def PlaceOk (l : List UInt8) (x : Nx) : Prop := x.1.2.2 < l.length ∧ ((x.1.1 = 2 ∧ l.getD x.1.2.2 0 = 34) ∨ (x.1.1 ≠ 2 ∧ x.1.1 < 4 ∧ ∃ r, x.1.2.1 = l.getD x.1.2.2 0 :: r))
theorem quotedV_none {l : List UInt8} {i : Nat} (h : endL (l.drop (i + 1)) = none) : quotedV l i = badN i 3 := by unfold quotedV; rw [h]
theorem quotedV_some {l : List UInt8} {i n : Nat} (h : endL (l.drop (i + 1)) = some n) : quotedV l i = if (unescV ((l.drop (i + 1)).take n)).2.2 ≠ 0 then badN (i + 1 + (unescV ((l.drop (i + 1)).take n)).2.1) 3 else if 400 < (unescV ((l.drop (i + 1)).take n)).1.length then badN i 6
      else if Lib.validD (unescV ((l.drop (i + 1)).take n)).1 = false then badN i 4 else ((2, (unescV ((l.drop (i + 1)).take n)).1, i), n + 2, 0, 0) := by unfold quotedV; rw [h]
theorem quoted_from (l : List UInt8) (i : Nat) (hi : i < l.length) : ((quotedV l i).2.2.2 = 0 → (quotedV l i).1.1 = 2 ∧ (quotedV l i).1.2.2 = i) ∧ ((quotedV l i).2.2.2 ≠ 0 → (quotedV l i).2.2.1 < l.length) := by
  cases hn : endL (l.drop (i + 1)) with
  | none =>
    rw [quotedV_none hn]
    exact ⟨fun h => absurd (show (3 : Nat) = 0 from h) (by decide), fun _ => hi⟩
  | some n =>
    have h1 := endL_ltN hn
    rw [List.length_drop] at h1
    have h2 := (unescV_len ((l.drop (i + 1)).take n)).2
    rw [List.length_take] at h2
    rw [quotedV_some hn]
    split
    · exact ⟨fun h => absurd (show (3 : Nat) = 0 from h) (by decide), fun _ => by show i + 1 + _ < _; omega⟩
    · split
      · exact ⟨fun h => absurd (show (6 : Nat) = 0 from h) (by decide), fun _ => hi⟩
      · split
        · exact ⟨fun h => absurd (show (4 : Nat) = 0 from h) (by decide), fun _ => hi⟩
        · exact ⟨fun _ => ⟨rfl, rfl⟩, fun h => absurd rfl h⟩
theorem next_from (l : List UInt8) (i : Nat) (hi : i < l.length) : ((nextV l i).2.2.2 = 0 → PlaceOk l (nextV l i) ∧ (nextV l i).1.2.2 = i) ∧ ((nextV l i).2.2.2 ≠ 0 → (nextV l i).2.2.1 < l.length) := by
  have hd := drop_at hi
  unfold nextV
  split
  · exact ⟨fun _ => ⟨⟨hi, .inr ⟨by show (3 : Nat) ≠ 2; decide, by show (3 : Nat) < 4; decide, [], rfl⟩⟩, rfl⟩, fun h => absurd rfl h⟩
  · split
    · rename_i h34
      obtain ⟨q1, q2⟩ := quoted_from l i hi
      exact ⟨fun h => by obtain ⟨a, b⟩ := q1 h; exact ⟨⟨by rw [b]; exact hi, .inl ⟨a, by rw [b]; exact h34⟩⟩, b⟩, q2⟩
    · split
      · exact ⟨fun h => absurd (show (3 : Nat) = 0 from h) (by decide), fun _ => hi⟩
      · rename_i h0
        split
        · exact ⟨fun h => absurd (show (6 : Nat) = 0 from h) (by decide), fun _ => hi⟩
        · refine ⟨fun _ => ⟨⟨hi, .inr ⟨by show (1 : Nat) ≠ 2; decide, by show (1 : Nat) < 4; decide, ((l.drop (i + 1)).take (wordLen (l.drop i) - 1)), ?_⟩⟩, rfl⟩, fun h => absurd rfl h⟩
          show (l.drop i).take (wordLen (l.drop i)) = l.getD i 0 :: _
          obtain ⟨m, hm⟩ : ∃ m, wordLen (l.drop i) = m + 1 := ⟨wordLen (l.drop i) - 1, by omega⟩
          rw [hm, hd, List.take_succ_cons]
          rfl
theorem pos_mono (l : List UInt8) (k : Nat) (h : (itemV l k).2.2.2 = 0) : posV l k < posV l (k + 1) := by
  have := next_pos l _ h
  show _ < skipAt l _
  unfold skipAt
  omega
end Go.Proofs.YtpionddponmdmaaGreatDoor
/- Walks: the example of the document holds. -/
namespace Go.Proofs.YtpionddponmdmaaGreatDoor
open Go.RowKit
attribute [local go_sem] Ext.cell Ext.frozen
attribute [local go_sem ↓] Go.wp_at_zero Go.wp_at_succ
/-- a slice of tokens that reads so, from block b on -/
structure TkAt (w : World) (ad : Option Addr) (n : Nat) (xs : List Nx) (b off : Nat) : Prop where
  len : xs.length = n
  max : n ≤ 1000000
  adr : n ≠ 0 → ad = some ⟨b, off, none⟩
  c0 : ∀ i, i < n → w.cell? ⟨b, off + i * 3, none⟩ = some (.int .i64 ((xs.getD i (badN 0 0)).1.1 : Int))
  c1 : ∀ i, i < n → w.cell? ⟨b, off + i * 3 + 1, none⟩ = some (.string (bs (xs.getD i (badN 0 0)).1.2.1))
  c2 : ∀ i, i < n → w.cell? ⟨b, off + i * 3 + 2, none⟩ = some (.int .i64 ((xs.getD i (badN 0 0)).1.2.2 : Int))
theorem tkCells_len (xs : List Nx) : (tkCells xs).length = xs.length * 3 := by
  induction xs with
  | nil => rfl
  | cons x xs ih => simp only [tkCells, List.flatMap_cons, List.length_append, List.length_cons, List.length_nil] at ih ⊢; omega
theorem tkCells_at : ∀ (xs : List Nx) (i : Nat), i < xs.length → (tkCells xs)[i * 3]? = some (.int .i64 ((xs.getD i (badN 0 0)).1.1 : Int)) ∧ (tkCells xs)[i * 3 + 1]? = some (.string (bs (xs.getD i (badN 0 0)).1.2.1)) ∧ (tkCells xs)[i * 3 + 2]? = some (.int .i64 ((xs.getD i (badN 0 0)).1.2.2 : Int))
  | [], i, h => absurd h (Nat.not_lt_zero _)
  | x :: xs, 0, _ => ⟨rfl, rfl, rfl⟩
  | x :: xs, i + 1, h => by
    have := tkCells_at xs i (by simpa using h)
    rw [show (i + 1) * 3 = i * 3 + 1 + 1 + 1 by omega]
    exact this
theorem own_tk {w : World} {base : Nat} {E : TypeId} {ad : Option Addr} {n c : Nat} {xs : List Nx} (h : w.ownsRow base E 3 (.slice ad n c) n (tkCells xs)) (hm : n ≤ 1000000) : ∃ b, TkAt w ad n xs b 0 := by
  have hl : xs.length = n := by have := h.1; rw [tkCells_len] at this; omega
  obtain ⟨_, ⟨h1, h2⟩ | ⟨g, cap, cur, h1, h2, h3, h4, h5, h6, h7⟩⟩ := h
  · subst h2
    exact ⟨0, hl, hm, fun h => absurd rfl h, fun i hi => absurd hi (Nat.not_lt_zero _), fun i hi => absurd hi (Nat.not_lt_zero _), fun i hi => absurd hi (Nat.not_lt_zero _)⟩
  · injection h1 with e1 e2 e3
    subst e1
    have key : ∀ j v, j < n * 3 → (tkCells xs)[j]? = some v → w.cell? ⟨g, 0 + j, none⟩ = some v := fun j v hj hv => by
      rw [Nat.zero_add]
      rw [← h7, List.getElem?_take, if_pos hj] at hv
      simp only [World.cell?, h3]
      rw [Array.getElem?_toList] at hv
      simpa using hv
    exact ⟨g, hl, hm, fun _ => rfl, fun i hi => key _ _ (by omega) (tkCells_at xs i (by omega)).1,
      fun i hi => by have := key _ _ (by omega) (tkCells_at xs i (by omega)).2.1; rwa [← Nat.add_assoc] at this,
      fun i hi => by have := key _ _ (by omega) (tkCells_at xs i (by omega)).2.2; rwa [← Nat.add_assoc] at this⟩
theorem cellsTk : Tryz.prog.cellsOf 38 = 3 := by kernel_rfl
theorem TkAt.ixT {P : Program} {w : World} {ad : Option Addr} {n : Nat} {xs} {b off : Nat} (h : TkAt w ad n xs b off) (T E : TypeId) (hT : P.underlying T = some (.slice E)) (hE : P.cellsOf E = 3) {i : Nat} (hi : i < n) (c : Nat) (W : World) :
    (Instr.indexAt T (.slice ad n c) (.int .i64 (i : Int))).run P W = .ok (.pointer (some ⟨b, off + i * 3, none⟩)) W := by
  rw [h.adr (by omega)]
  have hel : P.elem T = E := by simp [Program.elem, hT]
  rw [run_indexAt_slice W T _ n c .i64 i (by rw [hel]; exact hT), hel, if_pos (by omega)]
  have hs : (sizeOf E).run P W = .ok 3 W := by
    unfold Program.cellsOf at hE
    cases hi' : P.info? E with
    | none => simp [hi'] at hE
    | some q => simp [hi'] at hE; simp [sizeOf, typeInfo, hi', hE]
  rw [hs]
  simp [Result.andThen, Addr.add]
theorem TkAt.below {w w' : World} {ad : Option Addr} {n : Nat} {xs} {b off : Nat} (h : TkAt w ad n xs b off) (hb : Below w.heap.size w w') : TkAt w' ad n xs b off :=
  ⟨h.len, h.max, h.adr, fun i hi => (hb.cell (p := ⟨b, off + i * 3, none⟩) (World.block_lt_of_cell? w _ (h.c0 i hi))).trans (h.c0 i hi),
    fun i hi => (hb.cell (p := ⟨b, off + i * 3 + 1, none⟩) (World.block_lt_of_cell? w _ (h.c1 i hi))).trans (h.c1 i hi),
    fun i hi => (hb.cell (p := ⟨b, off + i * 3 + 2, none⟩) (World.block_lt_of_cell? w _ (h.c2 i hi))).trans (h.c2 i hi)⟩
set_option maxRecDepth 20000 in
set_option maxHeartbeats 4000000 in
theorem awake_any (w : World) (hM : MaxLen w) (hU : TabU w) : Calls Tryz.prog 4 #[] w fun e w' => e = .returned (.bool true) ∧ Below w.heap.size w w' := by
  have HTK : Hid (Calls Tryz.prog 15 #[.string ⟨#[108, 105, 115, 116, 32, 97, 110, 100, 32, 34, 97, 92, 34, 98, 34, 59, 32, 35, 32, 101, 110, 100]⟩] w (TokP awL w)) := tokens_any awL (by decide) w hM hU
  obtain ⟨-, -, i2, i3⟩ := aw_items
  clear hM hU
  go_enter Tryz.func4, Tryz.ntmps4
  go_wp2_with fail
  refine HTK.out.mono ?_
  rintro e w1 ⟨hb, M, hrun, hMl, hor⟩
  obtain rfl := aw_run hrun
  rcases hor with ⟨-, ad, c, rfl, hown⟩ | ⟨_, h6, -⟩
  rotate_left
  · exact absurd (show (itemV awL 3).2.2.2 = 0 by rw [i3]) h6
  obtain ⟨b, htk⟩ := own_tk hown (by omega)
  have x2 : (upto (itemV awL) 4).getD 2 (badN 0 0) = itemV awL 2 := rfl
  have x3 : (upto (itemV awL) 4).getD 3 (badN 0 0) = itemV awL 3 := rfl
  have a0 := htk.c0 2 (by omega)
  have a1 := htk.c1 2 (by omega)
  have a2 := htk.c2 2 (by omega)
  have b0 := htk.c0 3 (by omega)
  rw [x2, i2] at a0 a1 a2
  rw [x3, i3] at b0
  replace a0 : w1.cell? ⟨b, 6, none⟩ = some (.int .i64 2) := a0
  replace a1 : w1.cell? ⟨b, 7, none⟩ = some (.string ⟨#[97, 34, 98]⟩) := a1
  replace a2 : w1.cell? ⟨b, 8, none⟩ = some (.int .i64 9) := a2
  replace b0 : w1.cell? ⟨b, 9, none⟩ = some (.int .i64 3) := b0
  have ix2 : ∀ W, (Instr.indexAt 28 (.slice ad 4 c) (.int .i64 2)).run Tryz.prog W = .ok (.pointer (some ⟨b, 6, none⟩)) W := fun W => htk.ixT 28 38 Tryz.underlying28 cellsTk (i := 2) (by omega) c W
  have ix3 : ∀ W, (Instr.indexAt 28 (.slice ad 4 c) (.int .i64 3)).run Tryz.prog W = .ok (.pointer (some ⟨b, 9, none⟩)) W := fun W => htk.ixT 28 38 Tryz.underlying28 cellsTk (i := 3) (by omega) c W
  have HB := Lib.hid hb
  clear hb hrun hMl hown htk x2 x3 i2 i3
  go_wp2_with fail
  go_ret
  exact ⟨rfl, HB.out⟩
end Go.Proofs.YtpionddponmdmaaGreatDoor
