/- Walks over tokens of any kind and place: few, to, IsWord, IsText; the reference's Same. -/
import Derived.Test.YtpionddponmdmaaGreatDoorQ34
import Derived.Deep.QuietTactic
import Derived.BigQuiet
import Derived.Test.YtpionddponmdmaaGreatDoorQ33
import Derived.Test.YtpionddponmdmaaGreatDoorRows
import Derived.Lib.LaidU8T
import Derived.Shelf.Vars
namespace Go.Proofs.YtpionddponmdmaaGreatDoor
open Go.RowKit
attribute [local go_sem] Ext.cell Ext.frozen
attribute [local go_sem ↓] Go.wp_at_zero Go.wp_at_succ
/-- a token as it is given: kind, text, place -/
abbrev Tz := Int × List UInt8 × Int
def tz0 : Tz := (0, [], 0)
structure TzAt (w : World) (ad : Option Addr) (n : Nat) (xs : List Tz) (b off : Nat) : Prop where
  len : xs.length = n
  max : n ≤ 10000000000000
  adr : n ≠ 0 → ad = some ⟨b, off, none⟩
  c0 : ∀ i, i < n → w.cell? ⟨b, off + i * 3, none⟩ = some (.int .i64 (xs.getD i tz0).1)
  c1 : ∀ i, i < n → w.cell? ⟨b, off + i * 3 + 1, none⟩ = some (.string (bs (xs.getD i tz0).2.1))
  c2 : ∀ i, i < n → w.cell? ⟨b, off + i * 3 + 2, none⟩ = some (.int .i64 (xs.getD i tz0).2.2)
def zOf (x : Nx) : Tz := ((x.1.1 : Int), x.1.2.1, (x.1.2.2 : Int))
theorem zOf_getD (xs : List Nx) {i : Nat} (h : i < xs.length) : (xs.map zOf).getD i tz0 = zOf (xs.getD i (badN 0 0)) := by
  simp [List.getD, List.getElem?_eq_getElem h]
theorem TkAt.z {w : World} {ad : Option Addr} {n : Nat} {xs : List Nx} {b off : Nat} (h : TkAt w ad n xs b off) : TzAt w ad n (xs.map zOf) b off :=
  ⟨by rw [List.length_map]; exact h.len, by have := h.max; omega, h.adr, fun i hi => by rw [zOf_getD _ (by rw [h.len]; exact hi)]; exact h.c0 i hi, fun i hi => by rw [zOf_getD _ (by rw [h.len]; exact hi)]; exact h.c1 i hi, fun i hi => by rw [zOf_getD _ (by rw [h.len]; exact hi)]; exact h.c2 i hi⟩
theorem TzAt.ixT {P : Program} {w : World} {ad : Option Addr} {n : Nat} {xs} {b off : Nat} (h : TzAt w ad n xs b off) (T E : TypeId) (hT : P.underlying T = some (.slice E)) (hE : P.cellsOf E = 3) {i : Nat} (hi : i < n) (c : Nat) (W : World) :
    (Instr.indexAt T (.slice ad n c) (.int .i64 (i : Int))).run P W = .ok (.pointer (some ⟨b, off + i * 3, none⟩)) W := by
  rw [h.adr (by omega)]
  have hel : P.elem T = E := by simp [Program.elem, hT]
  rw [run_indexAt_slice W T _ n c .i64 i (by rw [hel]; exact hT), hel, if_pos (by omega)]
  have hs : (sizeOf E).run P W = .ok 3 W := by
    unfold Program.cellsOf at hE
    cases hi' : P.info? E with
    | none => simp [hi'] at hE
    | some q => simp [hi'] at hE; simp [sizeOf, typeInfo, hi', hE]
  rw [hs]
  simp [Result.andThen, Addr.add]
theorem TzAt.below {w w' : World} {ad : Option Addr} {n : Nat} {xs} {b off : Nat} (h : TzAt w ad n xs b off) (hb : Below w.heap.size w w') : TzAt w' ad n xs b off :=
  ⟨h.len, h.max, h.adr, fun i hi => (hb.cell (p := ⟨b, off + i * 3, none⟩) (World.block_lt_of_cell? w _ (h.c0 i hi))).trans (h.c0 i hi),
    fun i hi => (hb.cell (p := ⟨b, off + i * 3 + 1, none⟩) (World.block_lt_of_cell? w _ (h.c1 i hi))).trans (h.c1 i hi),
    fun i hi => (hb.cell (p := ⟨b, off + i * 3 + 2, none⟩) (World.block_lt_of_cell? w _ (h.c2 i hi))).trans (h.c2 i hi)⟩
def tzCells (xs : List Tz) : List Value := xs.flatMap fun x => [.int .i64 x.1, .string (bs x.2.1), .int .i64 x.2.2]
theorem tzCells_snoc (xs : List Tz) (x : Tz) : tzCells (xs ++ [x]) = tzCells xs ++ [.int .i64 x.1, .string (bs x.2.1), .int .i64 x.2.2] := by simp [tzCells]
theorem tzCells_len (xs : List Tz) : (tzCells xs).length = xs.length * 3 := by
  induction xs with
  | nil => rfl
  | cons x xs ih => simp only [tzCells, List.flatMap_cons, List.length_append, List.length_cons, List.length_nil] at ih ⊢; omega
theorem tzCells_at : ∀ (xs : List Tz) (i : Nat), i < xs.length → (tzCells xs)[i * 3]? = some (.int .i64 (xs.getD i tz0).1) ∧ (tzCells xs)[i * 3 + 1]? = some (.string (bs (xs.getD i tz0).2.1)) ∧ (tzCells xs)[i * 3 + 2]? = some (.int .i64 (xs.getD i tz0).2.2)
  | [], i, h => absurd h (Nat.not_lt_zero _)
  | x :: xs, 0, _ => ⟨rfl, rfl, rfl⟩
  | x :: xs, i + 1, h => by
    have := tzCells_at xs i (by simpa using h)
    rw [show (i + 1) * 3 = i * 3 + 1 + 1 + 1 by omega]
    exact this
theorem own_tz {w : World} {base : Nat} {E : TypeId} {ad : Option Addr} {n c : Nat} {xs : List Tz} (h : w.ownsRow base E 3 (.slice ad n c) n (tzCells xs)) (hm : n ≤ 10000000000000) : ∃ b, TzAt w ad n xs b 0 := by
  have hl : xs.length = n := by have := h.1; rw [tzCells_len] at this; omega
  obtain ⟨_, ⟨h1, h2⟩ | ⟨g, cap, cur, h1, h2, h3, h4, h5, h6, h7⟩⟩ := h
  · subst h2
    exact ⟨0, hl, hm, fun h => absurd rfl h, fun i hi => absurd hi (Nat.not_lt_zero _), fun i hi => absurd hi (Nat.not_lt_zero _), fun i hi => absurd hi (Nat.not_lt_zero _)⟩
  · injection h1 with e1 e2 e3
    subst e1
    have key : ∀ j v, j < n * 3 → (tzCells xs)[j]? = some v → w.cell? ⟨g, 0 + j, none⟩ = some v := fun j v hj hv => by
      rw [Nat.zero_add]
      rw [← h7, List.getElem?_take, if_pos hj] at hv
      simp only [World.cell?, h3]
      rw [Array.getElem?_toList] at hv
      simpa using hv
    exact ⟨g, hl, hm, fun _ => rfl, fun i hi => key _ _ (by omega) (tzCells_at xs i (by omega)).1,
      fun i hi => by have := key _ _ (by omega) (tzCells_at xs i (by omega)).2.1; rwa [← Nat.add_assoc] at this,
      fun i hi => by have := key _ _ (by omega) (tzCells_at xs i (by omega)).2.2; rwa [← Nat.add_assoc] at this⟩
/-- what is compared of two tokens without their places -/
def keyZ (x : Tz) : Int × List UInt8 := (x.1, x.2.1)
def sameZ (xs ys : List Tz) : Bool := decide (xs.map keyZ = ys.map keyZ)
theorem getD_extZ {a b : List Tz} (hl : a.length = b.length) (h : ∀ i, i < a.length → keyZ (a.getD i tz0) = keyZ (b.getD i tz0)) : a.map keyZ = b.map keyZ := by
  apply List.ext_getElem (by simpa using hl)
  intro i h1 h2
  rw [List.length_map] at h1 h2
  have := h i h1
  simpa [List.getD, List.getElem?_eq_getElem h1, List.getElem?_eq_getElem h2] using this
theorem getD_keyZ {a b : List Tz} {k : Nat} (h1 : k < a.length) (h2 : k < b.length) (h : keyZ (a.getD k tz0) ≠ keyZ (b.getD k tz0)) : sameZ a b = false :=
  decide_eq_false fun e => h (by
    have : (a.map keyZ)[k]? = (b.map keyZ)[k]? := by rw [e]
    simpa [List.getD, List.getElem?_eq_getElem h1, List.getElem?_eq_getElem h2] using this)
/-- tokens are few and short -/
def fewZ (xs : List Tz) : Bool := decide (∀ x ∈ xs, x.2.1.length ≤ 500) && decide (xs.length ≤ 60)
theorem getD_memZ {xs : List Tz} {k : Nat} (h : k < xs.length) : xs.getD k tz0 ∈ xs := by simp [List.getD, List.getElem?_eq_getElem h]
set_option maxRecDepth 20000 in
set_option maxHeartbeats 4000000 in
theorem few_any11 (ad : Option Addr) (n c : Nat) (ps : List Tz) (b off : Nat) (w : World) (hp : TzAt w ad n ps b off) (hsz : ∀ x ∈ ps, x.2.1.length ≤ 140737488351232) :
    Calls Tryz.prog 5 #[.slice ad n c] w fun e w' => e = .returned (.bool (fewZ ps)) ∧ w = w' := by
  have hnm := hp.max
  have HL := Lib.hid hp.len
  have HP := Lib.hid hp
  have HSZ := Lib.hid hsz
  clear hp hsz
  go_enter Tryz.func5, Tryz.ntmps5
  go_wp2_with fail
  go_loopw [6] (fun i wr => ∃ (k : Nat), i = .int .i64 (k : Int) ∧ k ≤ n ∧ (∀ i, i < k → (ps.getD i tz0).2.1.length ≤ 500) ∧ wr = w) (fun i _ => n - (intOf i).toNat)
  case atStart => exact ⟨0, rfl, Nat.zero_le _, fun i hi => absurd hi (Nat.not_lt_zero _), rfl⟩
  case round =>
    obtain ⟨k, rfl, hkn, hal, rfl⟩ := hrel
    have HAL := Lib.hid hal
    clear hal
    by_cases hlt : k < n
    · have hix := fun W => HP.out.ixT 22 39 Tryz.underlying22 cellsRt hlt c W
      have h1 := HP.out.c1 k hlt
      have hkl : k < ps.length := by rw [HL.out]; exact hlt
      have hm := getD_memZ hkl
      have hz := HSZ.out _ hm
      have hbz : (bs (ps.getD k tz0).2.1).size = (ps.getD k tz0).2.1.length := bs_size _
      by_cases h5 : (ps.getD k tz0).2.1.length ≤ 500
      · have HNX : Hid (∀ i, i < k + 1 → (ps.getD i tz0).2.1.length ≤ 500) := fun i hi => by
          rcases Nat.lt_or_ge i k with h' | h'
          · exact HAL.out i h'
          · rw [show i = k by omega]; exact h5
        have g5 : ¬ 500 < ((bs (ps.getD k tz0).2.1).size : Int) := by omega
        clear hm hkl
        generalize ps.getD k tz0 = x at *
        obtain ⟨x0, x1, x2⟩ := x
        simp only at h1 g5 hbz
        clear hz h5 hbz
        generalize bs x1 = X at *
        go_wp2_with fail
        go_roundw
        case rel => exact ⟨k + 1, by go_num, by omega, HNX.out, trivial⟩
        case measure => simp [intOf]; omega
      · have HN : Hid (fewZ ps = false) := by
          unfold Hid fewZ
          rw [decide_eq_false (fun h => h5 (h _ hm)), Bool.false_and]
        have g5 : 500 < ((bs (ps.getD k tz0).2.1).size : Int) := by omega
        clear hm hkl h5
        generalize ps.getD k tz0 = x at *
        obtain ⟨x0, x1, x2⟩ := x
        simp only at h1 g5 hbz
        clear hz hbz
        generalize bs x1 = X at *
        go_wp2_with fail
        go_ret
        exact ⟨by rw [HN.out]; rfl, rfl⟩
    · obtain rfl : k = n := by omega
      have hall : ∀ x ∈ ps, x.2.1.length ≤ 500 := fun x hx => by
        obtain ⟨i, hi, rfl⟩ := List.getElem_of_mem hx
        have := HAL.out i (by rw [← HL.out]; exact hi)
        simpa [List.getD, List.getElem?_eq_getElem hi] using this
      by_cases h6 : k ≤ 60
      · have g6 : (k : Int) ≤ 60 := by omega
        have HS : Hid (fewZ ps = true) := by unfold Hid fewZ; rw [decide_eq_true hall, decide_eq_true (by rw [HL.out]; exact h6)]; rfl
        clear hall
        go_wp2_with fail
        go_ret
        exact ⟨by rw [HS.out]; rfl, rfl⟩
      · have g6 : ¬ (k : Int) ≤ 60 := by omega
        have HS : Hid (fewZ ps = false) := by unfold Hid fewZ; rw [decide_eq_false (p := ps.length ≤ 60) (by rw [HL.out]; exact h6), Bool.and_false]
        clear hall
        go_wp2_with fail
        go_ret
        exact ⟨by rw [HS.out]; rfl, rfl⟩
theorem infoPt : (Tryz.prog.info? 38).map (fun i => (i.zero, i.size, i.bytes)) = some (some (.agg #[.int .i64 0, .string .empty, .int .i64 0]), 3, 32) := by kernel_rfl
/-- tokens are answered, in a row of the call's own -/
def TzPost (E : TypeId) (w : World) (ps : List Tz) (e : Ending) (w' : World) : Prop :=
  ∃ ad c, e = .returned (.slice ad ps.length c) ∧ w'.ownsRow w.heap.size E 3 (.slice ad ps.length c) ps.length (tzCells ps) ∧ Below w.heap.size w w'
set_option maxRecDepth 20000 in
set_option maxHeartbeats 4000000 in
theorem totk_any (ad : Option Addr) (n c : Nat) (ps : List Tz) (w : World) (b off : Nat) (hp : TzAt w ad n ps b off) (hn : n ≤ 1000000) :
    Calls Tryz.prog 7 #[.slice ad n c] w (TzPost 38 w ps) := by
  have HP := Lib.hid hp
  have HLN := Lib.hid hp.len
  obtain ⟨i0, hi, hz0, hz1, hz2⟩ := info_parts infoPt
  have HI := Lib.hid hi
  have HZ0 := Lib.hid hz0
  have HZ1 := Lib.hid hz1
  have HZ2 := Lib.hid hz2
  clear hp hi hz0 hz1 hz2
  go_enter Tryz.func7, Tryz.ntmps7
  go_wp2_with fail
  go_loopw [3, 8] (fun v i wr => ∃ (k : Nat) (ad' : Option Addr) (c' : Nat), i = .int .i64 (k : Int) ∧ k ≤ n ∧ v = .slice ad' k c' ∧ wr.ownsRow w.heap.size 38 3 (.slice ad' k c') k (tzCells (ps.take k)) ∧ Below w.heap.size w wr) (fun _ i _ => n - (intOf i).toNat)
  case atStart => exact ⟨0, none, 0, rfl, Nat.zero_le _, rfl, by rw [List.take_zero]; exact World.ownsRow_nil _ _ _ _, Below.refl _ _⟩
  case round =>
    obtain ⟨k, ad', c', rfl, hkn, rfl, hown, hbl⟩ := hrel
    have HOWN := Lib.hid hown
    have HBL := Lib.hid hbl
    have hzr := hbl.size
    clear hown hbl
    by_cases hlt : k < n
    · have HPR := Lib.hid (HP.out.below HBL.out)
      have hix := fun W => HPR.out.ixT 22 39 Tryz.underlying22 cellsRt hlt c W
      have h0 := HPR.out.c0 k hlt
      have h1 := HPR.out.c1 k hlt
      have h2 := HPR.out.c2 k hlt
      have hkl : k < ps.length := by rw [HLN.out]; exact hlt
      have HTS : Hid (ps.take (k + 1) = ps.take k ++ [ps.getD k tz0]) := by
        unfold Hid
        rw [List.take_succ_eq_append_getElem hkl]
        simp [List.getD, List.getElem?_eq_getElem hkl]
      clear hkl
      generalize ps.getD k tz0 = p at *
      obtain ⟨p0, p1, p2⟩ := p
      simp only at h0 h1 h2
      go_wp2_with (at_builtin; refine wpList_app3 28 38 Tryz.underlying28 i0 _ HI.out HZ0.out HZ1.out HZ2.out rfl rfl _ _ rfl w.heap.size ad' k c' _ rfl (World.ownsRow.alloc HOWN.out _) _ _ _ _ (by rw [show (wr.alloc (.cells #[.int .i64 p0, .string (bs p1), .int .i64 p2] 39)).heap.size = wr.heap.size + 1 from by simp]; rfl) rfl rfl rfl (by omega) (by simp; omega) ?_; intro ad6 c6 w3 hown3 hb3 hg3 hz3; have HOWN3 := Lib.hid hown3; have HB3 := Lib.hid hb3; clear hown3 hb3 hg3 hz3)
      go_roundw
      case rel => exact ⟨k + 1, ad6, c6, by go_num, by omega, rfl, by rw [HTS.out, tzCells_snoc]; exact HOWN3.out, HBL.out.trans (((Below.refl _ _).alloc hzr _).trans HB3.out)⟩
      case measure => simp [intOf]; omega
    · obtain rfl : k = n := by omega
      go_wp2_with fail
      go_ret
      have h1 := HOWN.out
      rw [List.take_of_length_le (by rw [HLN.out]; exact Nat.le_refl _)] at h1
      have h2 := HLN.out
      exact ⟨ad', c', by rw [h2]; rfl, by rw [h2]; exact h1, HBL.out⟩
def isWordV (l : List UInt8) : Bool := decide (l ≠ []) && decide (l.length ≤ 40) && decide (wordLen l = l.length)
def isTextV (l : List UInt8) : Bool := decide (l.length ≤ 400) && Lib.validD l
set_option maxRecDepth 20000 in
theorem istext_any (l : List UInt8) (hl : l.length ≤ 100000) (w : World) (hT : TabU w) : Calls Tryz.prog 13 #[.string (bs l)] w fun e w' => e = .returned (.bool (isTextV l)) ∧ Below w.heap.size w w' := by
  have HV := Lib.hid (valid_any l hl w hT)
  have hsz : (bs l).size = l.length := bs_size l
  by_cases h4 : l.length ≤ 400
  · have g4 : ((bs l).size : Int) ≤ 400 := by omega
    have HR : Hid (isTextV l = Lib.validD l) := by unfold Hid isTextV; rw [decide_eq_true h4]; rfl
    clear hsz
    generalize bs l = S at *
    generalize Lib.validD l = V at *
    go_enter Tryz.func13, Tryz.ntmps13
    go_wp2_with fail
    refine HV.out.mono ?_
    rintro e w2 ⟨rfl, hb⟩
    have HB := Lib.hid hb
    clear hb
    go_wp2_with fail
    go_ret
    exact ⟨by rw [HR.out]; rfl, HB.out⟩
  · have g4 : ¬ ((bs l).size : Int) ≤ 400 := by omega
    have HR : Hid (isTextV l = false) := by unfold Hid isTextV; rw [decide_eq_false h4]; rfl
    clear hsz
    generalize bs l = S at *
    go_enter Tryz.func13, Tryz.ntmps13
    go_wp2_with fail
    go_ret
    exact ⟨by rw [HR.out]; rfl, Below.refl _ _⟩
set_option maxRecDepth 20000 in
theorem isword_any (l : List UInt8) (hl : l.length ≤ 100000) (w : World) : Calls Tryz.prog 11 #[.string (bs l)] w fun e w' => e = .returned (.bool (isWordV l)) ∧ Below w.heap.size w w' := by
  have HRN := Lib.hid (fun w => run_any l hl w)
  have hsz : (bs l).size = l.length := bs_size l
  by_cases h0 : l = []
  · have HR : Hid (isWordV l = false) := by unfold Hid isWordV; rw [decide_eq_false (fun h => h h0)]; rfl
    have hz : bs l = ⟨#[]⟩ := by rw [h0]; rfl
    have m0 : ((⟨#[]⟩ : ByteArray).toList != (⟨#[]⟩ : ByteArray).toList) = false := by simp
    rw [hz]
    clear hsz HRN
    go_enter Tryz.func11, Tryz.ntmps11
    go_wp2_with fail
    go_ret
    exact ⟨by rw [HR.out]; rfl, Below.refl _ _⟩
  · have m1 : ¬ (bs l).toList = [] := by rw [bs_toList]; exact h0
    have m0 : (bs l).toList.isEmpty = false := by rw [bs_toList]; cases l with
      | nil => exact absurd rfl h0
      | cons a r => rfl
    by_cases h4 : l.length ≤ 40
    · have g4 : ((bs l).size : Int) ≤ 40 := by omega
      by_cases h5 : wordLen l = l.length
      · have HR : Hid (isWordV l = true) := by unfold Hid isWordV; rw [decide_eq_true h0, decide_eq_true h4, decide_eq_true h5]; rfl
        have m5 : (((wordLen l : Nat) : Int) == ((bs l).size : Int)) = true := by rw [hsz, h5]; simp
        generalize wordLen l = W at *
        generalize bs l = S at *
        clear hsz h0 h4 h5
        go_enter Tryz.func11, Tryz.ntmps11
        go_wp2_with fail
        refine (HRN.out _).mono ?_
        rintro e w2 ⟨rfl, hb⟩
        have HB := Lib.hid hb
        clear hb
        go_wp2_with fail
        go_ret
        exact ⟨by rw [HR.out]; rfl, HB.out⟩
      · have HR : Hid (isWordV l = false) := by unfold Hid isWordV; rw [decide_eq_false h5, Bool.and_false]
        have m5 : (((wordLen l : Nat) : Int) == ((bs l).size : Int)) = false := by rw [hsz, beq_eq_false_iff_ne]; omega
        generalize wordLen l = W at *
        generalize bs l = S at *
        clear hsz h0 h4 h5
        go_enter Tryz.func11, Tryz.ntmps11
        go_wp2_with fail
        refine (HRN.out _).mono ?_
        rintro e w2 ⟨rfl, hb⟩
        have HB := Lib.hid hb
        clear hb
        go_wp2_with fail
        go_ret
        exact ⟨by rw [HR.out]; rfl, HB.out⟩
    · have g4 : ¬ ((bs l).size : Int) ≤ 40 := by omega
      have HR : Hid (isWordV l = false) := by unfold Hid isWordV; rw [decide_eq_false h4, Bool.and_false]; rfl
      generalize bs l = S at *
      clear hsz h0 h4 HRN
      go_enter Tryz.func11, Tryz.ntmps11
      go_wp2_with fail
      go_ret
      exact ⟨by rw [HR.out]; rfl, Below.refl _ _⟩
end Go.Proofs.YtpionddponmdmaaGreatDoor
/- Plain: the laid variables of a row of layer 11: utf8's tables; bytealg.MaxLen holds a number. -/
namespace Go.Proofs.YtpionddponmdmaaGreatDoor
open Go.RowKit Go.Lib
theorem first_data : (Rows.laid_unicode_utf8_first : DataW Unit) = firstData := by kernel_rfl
theorem accept_data : (Rows.laid_unicode_utf8_acceptRanges : DataW Unit) = acceptData := by kernel_rfl
theorem u8extra : U8Extra Tryz.prog Tryz.lays196_ren := ⟨by kernel_rfl, by kernel_rfl, by kernel_rfl, by kernel_rfl, by kernel_rfl, by kernel_rfl, by kernel_rfl⟩
theorem tabU_of {W : World} {rest : List (String × DataW Unit)} (hall : ((("unicode/utf8.acceptRanges", Rows.laid_unicode_utf8_acceptRanges) :: ("unicode/utf8.first", Rows.laid_unicode_utf8_first) :: rest).all fun x => x.2.handleName?.isNone) = true)
    (h : laidMetH Tryz.prog (("unicode/utf8.acceptRanges", Rows.laid_unicode_utf8_acceptRanges) :: ("unicode/utf8.first", Rows.laid_unicode_utf8_first) :: rest) W) : TabU W := by
  rw [MakeChecks.laidMetH_plain _ _ _ hall] at h
  have h2 := Lib.laidMet.reads h (List.mem_cons_self ..)
  have h1 := Lib.laidMet.reads h (List.mem_cons_of_mem _ (List.mem_cons_self ..))
  rw [first_data] at h1
  rw [accept_data] at h2
  exact utf8Tabs_of_readsT (U8Types.of196 Tryz.lays196) u8extra h1 h2
theorem maxLen_of11 {W : World} (h : W.ShapedOpen Tryz.prog) : MaxLen W :=
  cell_of_shapedOpen_int (g := 4) (t := 3) (k := .i64) (zero := #[.int .i64 0]) h (by decide +kernel) (by kernel_rfl) rfl (by kernel_rfl) (by kernel_rfl) Tryz.underlying3
end Go.Proofs.YtpionddponmdmaaGreatDoor
