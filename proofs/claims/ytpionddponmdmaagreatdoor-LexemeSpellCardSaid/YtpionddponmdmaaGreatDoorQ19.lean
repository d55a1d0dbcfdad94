/- Walks: digits in base 16, of any bytes. -/
import Derived.Test.YtpionddponmdmaaGreatDoorQ18
namespace Go.Proofs.YtpionddponmdmaaGreatDoor
open Go.RowKit
attribute [local go_sem] Ext.cell Ext.frozen
attribute [local go_sem ↓] Go.wp_at_zero Go.wp_at_succ
def hexV (c : UInt8) : Option Nat :=
  if 48 ≤ c.toNat ∧ c.toNat ≤ 57 then some (c.toNat - 48) else if 97 ≤ c.toNat ∧ c.toNat ≤ 102 then some (c.toNat - 87) else if 65 ≤ c.toNat ∧ c.toNat ≤ 70 then some (c.toNat - 55) else none
def hexAll : List UInt8 := [48, 49, 50, 51, 52, 53, 54, 55, 56, 57, 97, 98, 99, 100, 101, 102]
theorem hex_cases (c : UInt8) :
    (hexV c = none ∧ Lib.indexByte hexAll ((c.toNat : Int).toNat.toUInt8) = -1 ∧ (c.toNat < 65 ∨ 70 < c.toNat)) ∨
    (∃ d : Nat, d < 16 ∧ hexV c = some d ∧ Lib.indexByte hexAll ((c.toNat : Int).toNat.toUInt8) = (d : Int) ∧ (c.toNat < 65 ∨ 70 < c.toNat)) ∨
    (∃ d : Nat, d < 16 ∧ hexV c = some d ∧ 65 ≤ c.toNat ∧ c.toNat ≤ 70 ∧ d = c.toNat - 55) := by
  have k : ∀ f : Fin 256, (hexV (UInt8.ofNat f.1) = none ∧ Lib.indexByte hexAll ((UInt8.ofNat f.1).toNat : Int).toNat.toUInt8 = -1 ∧ ((UInt8.ofNat f.1).toNat < 65 ∨ 70 < (UInt8.ofNat f.1).toNat)) ∨
      (∃ d : Fin 16, hexV (UInt8.ofNat f.1) = some d.1 ∧ Lib.indexByte hexAll ((UInt8.ofNat f.1).toNat : Int).toNat.toUInt8 = (d.1 : Int) ∧ ((UInt8.ofNat f.1).toNat < 65 ∨ 70 < (UInt8.ofNat f.1).toNat)) ∨
      (∃ d : Fin 16, hexV (UInt8.ofNat f.1) = some d.1 ∧ 65 ≤ (UInt8.ofNat f.1).toNat ∧ (UInt8.ofNat f.1).toNat ≤ 70 ∧ d.1 = (UInt8.ofNat f.1).toNat - 55) := by decide +kernel
  have e : UInt8.ofNat c.toNat = c := by simp
  have := k ⟨c.toNat, c.toNat_lt⟩
  simp only [e] at this
  rcases this with h | ⟨d, h⟩ | ⟨d, h⟩
  · exact .inl h
  · exact .inr (.inl ⟨d.1, d.2, h⟩)
  · exact .inr (.inr ⟨d.1, d.2, h⟩)
def stepV (a : Option Nat) (c : UInt8) : Option Nat := match a, hexV c with
  | some n, some d => some (n * 16 + d)
  | _, _ => none
def numV (l : List UInt8) : Option Nat := l.foldl stepV (some 0)
theorem stepV_none {a : Option Nat} {c : UInt8} (h : hexV c = none) : stepV a c = none := by unfold stepV; rw [h]; cases a <;> rfl
theorem stepV_some {n d : Nat} {c : UInt8} (h : hexV c = some d) : stepV (some n) c = some (n * 16 + d) := by unfold stepV; rw [h]
theorem foldl_stepV_none (l : List UInt8) : l.foldl stepV none = none := by
  induction l with
  | nil => rfl
  | cons c l ih => exact ih
theorem numV_take {l : List UInt8} {i : Nat} (hi : i < l.length) : numV (l.take (i + 1)) = stepV (numV (l.take i)) (l.getD i 0) := by
  unfold numV
  rw [List.take_succ_eq_append_getElem hi, List.foldl_append]
  simp [List.getD, List.getElem?_eq_getElem hi]
theorem numV_fail {l : List UInt8} {i : Nat} (hi : i < l.length) (h : hexV (l.getD i 0) = none) : numV l = none := by
  have e : l = l.take (i + 1) ++ l.drop (i + 1) := (List.take_append_drop _ _).symm
  have e2 : numV (l.take (i + 1)) = none := by
    rw [numV_take hi, stepV_none h]
  unfold numV at e2 ⊢
  rw [e, List.foldl_append, e2, foldl_stepV_none]
theorem ba_at (l : List UInt8) {i : Nat} (g : i < (bs l).size) : (bs l)[i]'g = l.getD i 0 := by
  have h : i < l.length := by rw [bs_size] at g; exact g
  show l.toArray[i]'(by simpa using h) = _
  simp [List.getD, List.getElem?_eq_getElem h]
theorem hexIx (c : UInt8) (w : World) : Calls Tryz.prog 27 #[.string ⟨#[48, 49, 50, 51, 52, 53, 54, 55, 56, 57, 97, 98, 99, 100, 101, 102]⟩, .int .u8 (c.toNat : Int)] w fun e w' => e = .returned (.int .i64 (Lib.indexByte hexAll ((c.toNat : Int).toNat.toUInt8))) ∧ w' = w :=
  Tryz.strings_IndexByte ⟨#[48, 49, 50, 51, 52, 53, 54, 55, 56, 57, 97, 98, 99, 100, 101, 102]⟩ (c.toNat : Int) w
set_option maxRecDepth 20000 in
set_option maxHeartbeats 4000000 in
theorem digits_any (l : List UInt8) (hl : l.length ≤ 4) (w : World) :
    Calls Tryz.prog 110 #[.string (bs l), .int .i64 16] w fun e w' => e = .returned (.tuple #[.int .i64 (((numV l).getD 0 : Nat) : Int), .bool ((numV l).isSome && !l.isEmpty)]) ∧ w = w' := by
  have hsz : (bs l).size = l.length := bs_size l
  have HSZ := Lib.hid hsz
  have hle : (bs l).size ≤ 4 := by omega
  have hat := @ba_at l
  have hem : (bs l).toList.isEmpty = l.isEmpty := by rw [bs_toList]
  have HEM := Lib.hid hem
  generalize hS : bs l = S at *
  clear hS hsz hem
  go_enter Tryz.func110, Tryz.ntmps110
  go_wp2_with fail
  go_loopw [6, 11] (fun n i wr => ∃ (k m : Nat), k ≤ l.length ∧ i = .int .i64 (k : Int) ∧ n = .int .i64 (m : Int) ∧ numV (l.take k) = some m ∧ m < 16 ^ k ∧ w = wr) (fun _ i _ => l.length - (intOf i).toNat)
  case atStart => exact ⟨0, 0, Nat.zero_le _, rfl, rfl, rfl, by decide, rfl⟩
  case round =>
    obtain ⟨k, m, hk, rfl, rfl, hnum, hm, rfl⟩ := hrel
    have hm4 : m ≤ 65536 := by
      have : 16 ^ k ≤ 16 ^ 4 := Nat.pow_le_pow_right (by decide) (by omega)
      have : (16 : Nat) ^ 4 = 65536 := by decide
      omega
    by_cases hlt : k < l.length
    · have hks : k < S.size := by rw [HSZ.out]; exact hlt
      have hix : ∀ g : k < S.size, S[k]'g = l.getD k 0 := fun g => hat g
      have HNT := Lib.hid (numV_take hlt)
      have HNF := Lib.hid (fun h => numV_fail hlt h)
      have HNM := Lib.hid hnum
      have HPW := Lib.hid hm
      have HL := Lib.hid hk
      clear hat hnum hm
      generalize l.getD k 0 = c at *
      have HIX := Lib.hid (hexIx c)
      rcases hex_cases c with ⟨hv, hi, hr⟩ | ⟨d, hd, hv, hi, hr⟩ | ⟨d, hd, hv, h65, h70, hde⟩
      · have HF := Lib.hid (HNF.out hv)
        rw [hi] at HIX
        clear hi hv
        rcases hr with hr | hr
        · have g1 : ¬ (65 : Int) ≤ (c.toNat : Int) := by omega
          clear hr
          go_wp2_with fail
          refine (HIX.out _).mono ?_
          rintro e _ ⟨rfl, rfl⟩
          go_wp2_with fail
          go_ret2
          exact ⟨by rw [HF.out]; rfl, rfl⟩
        · have g1 : (65 : Int) ≤ (c.toNat : Int) := by omega
          have g2 : ¬ (c.toNat : Int) ≤ 70 := by omega
          clear hr
          go_wp2_with fail
          refine (HIX.out _).mono ?_
          rintro e _ ⟨rfl, rfl⟩
          go_wp2_with fail
          go_ret2
          exact ⟨by rw [HF.out]; rfl, rfl⟩
      · have HNX : Hid (numV (l.take (k + 1)) = some (m * 16 + d)) := by unfold Hid; rw [HNT.out, HNM.out, stepV_some hv]
        have HPX : Hid (m * 16 + d < 16 ^ (k + 1)) := by unfold Hid; have := HPW.out; rw [Nat.pow_succ]; omega
        rw [hi] at HIX
        clear hi hv
        rcases hr with hr | hr
        · have g1 : ¬ (65 : Int) ≤ (c.toNat : Int) := by omega
          clear hr
          go_wp2_with fail
          refine (HIX.out _).mono ?_
          rintro e _ ⟨rfl, rfl⟩
          go_wp2_with fail
          go_roundw
          case rel => exact ⟨k + 1, m * 16 + d, hlt, by go_num, by go_num, HNX.out, HPX.out, trivial⟩
          case measure => simp [intOf]; omega
        · have g1 : (65 : Int) ≤ (c.toNat : Int) := by omega
          have g2 : ¬ (c.toNat : Int) ≤ 70 := by omega
          clear hr
          go_wp2_with fail
          refine (HIX.out _).mono ?_
          rintro e _ ⟨rfl, rfl⟩
          go_wp2_with fail
          go_roundw
          case rel => exact ⟨k + 1, m * 16 + d, hlt, by go_num, by go_num, HNX.out, HPX.out, trivial⟩
          case measure => simp [intOf]; omega
      · have HNX : Hid (numV (l.take (k + 1)) = some (m * 16 + d)) := by unfold Hid; rw [HNT.out, HNM.out, stepV_some hv]
        have HPX : Hid (m * 16 + d < 16 ^ (k + 1)) := by unfold Hid; have := HPW.out; rw [Nat.pow_succ]; omega
        have g1 : (65 : Int) ≤ (c.toNat : Int) := by omega
        have g2 : (c.toNat : Int) ≤ 70 := by omega
        have HDE : Hid ((d : Int) = (c.toNat : Int) - 65 + 10) := by unfold Hid; omega
        clear hv h65 h70 hde
        generalize Lib.indexByte hexAll ((c.toNat : Int).toNat.toUInt8) = ix at *
        go_wp2_with fail
        refine (HIX.out _).mono ?_
        rintro e _ ⟨rfl, rfl⟩
        go_wp2_with fail
        go_roundw
        case rel => exact ⟨k + 1, m * 16 + d, hlt, by go_num, by have := HDE.out; go_num, HNX.out, HPX.out, trivial⟩
        case measure => simp [intOf]; omega
    · obtain rfl : k = l.length := by omega
      rw [List.take_length] at hnum
      have HN := Lib.hid hnum
      have hks : ¬ l.length < S.size := by rw [HSZ.out]; omega
      clear hnum hm hat
      go_wp2_with fail
      go_ret2
      exact ⟨by rw [HN.out, ← HEM.out]; rfl, rfl⟩
end Go.Proofs.YtpionddponmdmaaGreatDoor
/- Walks: a number's encoding; what a sequence behind a backslash stands for, of any string. -/
namespace Go.Proofs.YtpionddponmdmaaGreatDoor
open Go.RowKit
attribute [local go_sem] Ext.cell Ext.frozen
attribute [local go_sem ↓] Go.wp_at_zero Go.wp_at_succ
def oneV (n : Nat) : List UInt8 :=
  if n ≤ 127 then [UInt8.ofNat n] else if n ≤ 2047 then [UInt8.ofNat (192 + n / 64), UInt8.ofNat (128 + n % 64)] else [UInt8.ofNat (224 + n / 4096), UInt8.ofNat (128 + n / 64 % 64), UInt8.ofNat (128 + n % 64)]
theorem cell8 {k : Nat} (h : k < 256) : Value.int .u8 ((UInt8.ofNat k).toNat : Int) = .int .u8 (k : Int) := by
  rw [UInt8.toNat_ofNat_of_lt' (by simpa using h)]
set_option maxRecDepth 20000 in
theorem oneV_cells {n : Nat} (h : n ≤ 65535) : runeV (n : Int) = Lib.byteCells (oneV n) := by
  unfold runeV oneV
  by_cases h1 : n ≤ 127
  · rw [if_pos h1, if_pos (by omega)]
    simp only [Lib.byteCells, List.map_cons, List.map_nil]
    rw [cell8 (by omega)]
  · rw [if_neg h1, if_neg (by omega)]
    by_cases h2 : n ≤ 2047
    · rw [if_pos h2, if_pos (by omega)]
      simp only [Lib.byteCells, List.map_cons, List.map_nil]
      rw [cell8 (by omega), cell8 (by omega)]
      push_cast
      rfl
    · rw [if_neg h2, if_neg (by omega)]
      simp only [Lib.byteCells, List.map_cons, List.map_nil]
      rw [cell8 (by omega), cell8 (by omega), cell8 (by omega)]
      push_cast
      rfl
theorem oneV_len (n : Nat) : (oneV n).length ≤ 3 := by unfold oneV; (repeat' split) <;> simp
def pointB (n : Nat) : Bool := decide (n < 55296) || decide (57343 < n)
def encV (n : Nat) : List UInt8 := if pointB n then oneV n else oneV 65533
theorem encV_len (n : Nat) : (encV n).length ≤ 3 := by unfold encV; split <;> exact oneV_len _
set_option maxRecDepth 20000 in
theorem point_any (n : Nat) (hn : n ≤ 65535) (w : World) : Calls Tryz.prog 123 #[.int .i64 (n : Int)] w fun e w' => e = .returned (.bool (pointB n)) ∧ w = w' := by
  have g0 : (0 : Int) ≤ (n : Int) := by omega
  have g00 : (n : Int) ≤ 1114111 := by omega
  by_cases h1 : n < 55296
  · have g1 : (n : Int) < 55296 := by omega
    have HE : Hid (pointB n = true) := by unfold Hid pointB; rw [decide_eq_true h1]; rfl
    go_enter Tryz.func123, Tryz.ntmps123
    go_wp2_with fail
    go_ret
    exact ⟨by rw [HE.out]; rfl, rfl⟩
  · have g1 : ¬ (n : Int) < 55296 := by omega
    by_cases h2 : 57343 < n
    · have g2 : 57343 < (n : Int) := by omega
      have HE : Hid (pointB n = true) := by unfold Hid pointB; rw [decide_eq_true h2, Bool.or_true]
      go_enter Tryz.func123, Tryz.ntmps123
      go_wp2_with fail
      go_ret
      exact ⟨by rw [HE.out]; rfl, rfl⟩
    · have g2 : ¬ 57343 < (n : Int) := by omega
      have HE : Hid (pointB n = false) := by unfold Hid pointB; rw [decide_eq_false h1, decide_eq_false h2]; rfl
      go_enter Tryz.func123, Tryz.ntmps123
      go_wp2_with fail
      go_ret
      exact ⟨by rw [HE.out]; rfl, rfl⟩
theorem pointI_of {n : Nat} (hn : n ≤ 65535) (h : pointB n = true) : PointI (n : Int) := by
  unfold pointB at h
  rw [Bool.or_eq_true, decide_eq_true_eq, decide_eq_true_eq] at h
  exact ⟨by omega, by omega, by omega⟩
set_option maxRecDepth 20000 in
set_option maxHeartbeats 4000000 in
theorem encode_any (n : Nat) (hn : n ≤ 65535) (b c : Nat) (w : World) (h0 : w.cell? ⟨b, 0, none⟩ = some (.int .i64 (n : Int))) :
    Calls Tryz.prog 119 #[.slice (some ⟨b, 0, none⟩) 1 c] w fun e w' => e = .returned (.string (bs (encV n))) ∧ Below w.heap.size w w' := by
  have HPT := Lib.hid (fun w => point_any n hn w)
  have HW : Hid (∀ m : Nat, m ≤ 65535 → PointI (m : Int) → ∀ wr, Lib.IsBuilder 61 5 w.heap.size w.heap.size (Lib.byteCells []) wr → w.heap.size ≤ wr.heap.size → Calls Tryz.prog 124 #[.pointer (some ⟨w.heap.size, 0, none⟩), .int .i32 (m : Int)] wr fun e w' => ∃ k : Nat, e = .returned (.tuple #[.int .i64 k, .nilIface]) ∧ Lib.IsBuilder 61 5 w.heap.size w.heap.size (Lib.byteCells (oneV m)) w' ∧ Below w.heap.size wr w') := by
    intro m hm hp wr hb hz
    refine (wrune_any w.heap.size w.heap.size (Lib.byteCells []) m hp wr hb (by simp [Lib.byteCells]) hz).mono ?_
    rintro e w' ⟨rfl, g1, g2⟩
    refine ⟨_, rfl, .inr ?_, g2⟩
    rw [oneV_cells hm, show Lib.byteCells ([] : List UInt8) = [] from rfl, List.nil_append] at g1
    exact g1
  have hbl := World.block_lt_of_cell? w _ h0
  have HC0 := Lib.hid h0
  clear h0
  go_enter Tryz.func119, Tryz.ntmps119
  go_wp2_with fail
  refine wp_at_worldH ?_
  intro W hW
  have b1 : Lib.IsBuilder 61 5 w.heap.size w.heap.size (Lib.byteCells []) W := by
    refine .inl ⟨Nat.le_refl _, .slice none 0 0, ?_, World.ownsRow_nil _ _ _ _, by simp [Value.ownBlock]⟩
    rw [hW]
    exact row_new _ _ _
  have hb0 : Below w.heap.size w W := by rw [hW]; exact (Below.refl _ _).alloc (Nat.le_refl _) _
  have hc0 : W.cell? ⟨b, 0, none⟩ = some (.int .i64 (n : Int)) := (hb0.cell (p := ⟨b, 0, none⟩) hbl).trans HC0.out
  have HB1 := Lib.hid b1
  have HB0 := Lib.hid hb0
  have hzW := hb0.size
  clear b1 hb0 hW hbl
  cases hp : pointB n
  · have HX : Hid (encV n = oneV 65533) := by unfold Hid encV; rw [hp]; rfl
    have HWX := Lib.hid (HW.out 65533 (by omega) (by unfold PointI; omega) W HB1.out hzW)
    rw [hp] at HPT
    clear hp HW HB1
    refine wp_loop_rounds 2 ?_
    rw [rounds_succ]
    go_wp2_with fail
    refine (HPT.out _).mono ?_
    rintro e _ ⟨rfl, rfl⟩
    go_wp2_with fail
    refine HWX.out.mono ?_
    rintro e w2 ⟨k, rfl, hb2, hbl2⟩
    have HB2 : Hid (Below w.heap.size w w2) := HB0.out.trans hbl2
    have HU2 := Lib.hid hb2
    have hz2 := HB2.out.size
    clear hb2 hbl2 hc0
    go_wp2_with fail
    rw [rounds_succ]
    go_wp2_with fail
    have HS := Lib.hid (Tryz.Builder_String_any_k w.heap.size w.heap.size (oneV 65533) w2 (Lib.IsBuilderF.of HU2.out) hz2)
    refine HS.out.mono ?_
    rintro e w3 ⟨rfl, _, hbl6, _⟩
    have HB6 : Hid (Below w.heap.size w w3) := HB2.out.trans hbl6
    clear hbl6
    go_wp2_with fail
    go_ret
    exact ⟨by rw [HX.out]; rfl, HB6.out⟩
  · have HX : Hid (encV n = oneV n) := by unfold Hid encV; rw [hp]; rfl
    have HWX := Lib.hid (HW.out n hn (pointI_of hn hp) W HB1.out hzW)
    rw [hp] at HPT
    clear hp HW HB1
    refine wp_loop_rounds 2 ?_
    rw [rounds_succ]
    go_wp2_with fail
    refine (HPT.out _).mono ?_
    rintro e _ ⟨rfl, rfl⟩
    go_wp2_with fail
    refine HWX.out.mono ?_
    rintro e w2 ⟨k, rfl, hb2, hbl2⟩
    have HB2 : Hid (Below w.heap.size w w2) := HB0.out.trans hbl2
    have HU2 := Lib.hid hb2
    have hz2 := HB2.out.size
    clear hb2 hbl2 hc0
    go_wp2_with fail
    rw [rounds_succ]
    go_wp2_with fail
    have HS := Lib.hid (Tryz.Builder_String_any_k w.heap.size w.heap.size (oneV n) w2 (Lib.IsBuilderF.of HU2.out) hz2)
    refine HS.out.mono ?_
    rintro e w3 ⟨rfl, _, hbl6, _⟩
    have HB6 : Hid (Below w.heap.size w w3) := HB2.out.trans hbl6
    clear hbl6
    go_wp2_with fail
    go_ret
    exact ⟨by rw [HX.out]; rfl, HB6.out⟩
set_option maxRecDepth 20000 in
set_option maxHeartbeats 4000000 in
theorem encoded_any (n : Nat) (hn : n ≤ 65535) (w : World) :
    Calls Tryz.prog 111 #[.int .i64 (n : Int)] w fun e w' => e = .returned (.tuple #[.string (bs (encV n)), .bool (pointB n)]) ∧ Below w.heap.size w w' := by
  have HE := Lib.hid (encode_any n hn w.heap.size 1 (w.alloc (.cells #[.int .i64 (n : Int)] 3)) (row_cells (row_new w #[.int .i64 (n : Int)] 3) 0))
  have g0 : (n : Int) ≤ 1114111 := by omega
  by_cases h1 : n < 55296
  · have g1 : (n : Int) < 55296 := by omega
    have HB : Hid (pointB n = true) := by unfold Hid pointB; rw [decide_eq_true h1]; rfl
    go_enter Tryz.func111, Tryz.ntmps111
    go_wp2_with fail
    refine HE.out.mono ?_
    rintro e w2 ⟨rfl, hb⟩
    have HB2 := Lib.hid hb
    clear hb
    go_wp2_with fail
    go_ret2
    exact ⟨by rw [HB.out]; rfl, ((Below.refl _ _).alloc (Nat.le_refl _) _).trans (HB2.out.mono (by simp))⟩
  · have g1 : ¬ (n : Int) < 55296 := by omega
    by_cases h2 : 57343 < n
    · have g2 : 57343 < (n : Int) := by omega
      have HB : Hid (pointB n = true) := by unfold Hid pointB; rw [decide_eq_true h2, Bool.or_true]
      go_enter Tryz.func111, Tryz.ntmps111
      go_wp2_with fail
      refine HE.out.mono ?_
      rintro e w2 ⟨rfl, hb⟩
      have HB2 := Lib.hid hb
      clear hb
      go_wp2_with fail
      go_ret2
      exact ⟨by rw [HB.out]; rfl, ((Below.refl _ _).alloc (Nat.le_refl _) _).trans (HB2.out.mono (by simp))⟩
    · have g2 : ¬ 57343 < (n : Int) := by omega
      have HB : Hid (pointB n = false) := by unfold Hid pointB; rw [decide_eq_false h1, decide_eq_false h2]; rfl
      go_enter Tryz.func111, Tryz.ntmps111
      go_wp2_with fail
      refine HE.out.mono ?_
      rintro e w2 ⟨rfl, hb⟩
      have HB2 := Lib.hid hb
      clear hb
      go_wp2_with fail
      go_ret2
      exact ⟨by rw [HB.out]; rfl, ((Below.refl _ _).alloc (Nat.le_refl _) _).trans (HB2.out.mono (by simp))⟩
end Go.Proofs.YtpionddponmdmaaGreatDoor
