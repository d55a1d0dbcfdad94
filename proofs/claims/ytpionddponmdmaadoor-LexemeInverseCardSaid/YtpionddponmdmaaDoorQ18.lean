/- Walks: a number's encoding; what a sequence behind a backslash stands for, of any string. -/
import Derived.Test.YtpionddponmdmaaDoorQ17
namespace Go.Proofs.YtpionddponmdmaaDoor
open Go.RowKit
attribute [local go_sem] Ext.cell Ext.frozen
attribute [local go_sem ↓] Go.wp_at_zero Go.wp_at_succ
def oneV (n : Nat) : List UInt8 :=
  if n ≤ 127 then [UInt8.ofNat n] else if n ≤ 2047 then [UInt8.ofNat (192 + n / 64), UInt8.ofNat (128 + n % 64)] else [UInt8.ofNat (224 + n / 4096), UInt8.ofNat (128 + n / 64 % 64), UInt8.ofNat (128 + n % 64)]
theorem cell8 {k : Nat} (h : k < 256) : Value.int .u8 ((UInt8.ofNat k).toNat : Int) = .int .u8 (k : Int) := by
  rw [UInt8.toNat_ofNat_of_lt' (by simpa using h)]
set_option maxRecDepth 20000 in
theorem oneV_cells {n : Nat} (h : n ≤ 65535) : runeV (n : Int) = Lib.byteCells (oneV n) := by
  unfold runeV oneV
  by_cases h1 : n ≤ 127
  · rw [if_pos h1, if_pos (by omega)]
    simp only [Lib.byteCells, List.map_cons, List.map_nil]
    rw [cell8 (by omega)]
  · rw [if_neg h1, if_neg (by omega)]
    by_cases h2 : n ≤ 2047
    · rw [if_pos h2, if_pos (by omega)]
      simp only [Lib.byteCells, List.map_cons, List.map_nil]
      rw [cell8 (by omega), cell8 (by omega)]
      push_cast
      rfl
    · rw [if_neg h2, if_neg (by omega)]
      simp only [Lib.byteCells, List.map_cons, List.map_nil]
      rw [cell8 (by omega), cell8 (by omega), cell8 (by omega)]
      push_cast
      rfl
theorem oneV_len (n : Nat) : (oneV n).length ≤ 3 := by unfold oneV; (repeat' split) <;> simp
def pointB (n : Nat) : Bool := decide (n < 55296) || decide (57343 < n)
def encV (n : Nat) : List UInt8 := if pointB n then oneV n else oneV 65533
theorem encV_len (n : Nat) : (encV n).length ≤ 3 := by unfold encV; split <;> exact oneV_len _
set_option maxRecDepth 20000 in
theorem point_any (n : Nat) (hn : n ≤ 65535) (w : World) : Calls Tryd.prog 112 #[.int .i64 (n : Int)] w fun e w' => e = .returned (.bool (pointB n)) ∧ w = w' := by
  have g0 : (0 : Int) ≤ (n : Int) := by omega
  have g00 : (n : Int) ≤ 1114111 := by omega
  by_cases h1 : n < 55296
  · have g1 : (n : Int) < 55296 := by omega
    have HE : Hid (pointB n = true) := by unfold Hid pointB; rw [decide_eq_true h1]; rfl
    go_enter Tryd.func112, Tryd.ntmps112
    go_wp2_with fail
    go_ret
    exact ⟨by rw [HE.out]; rfl, rfl⟩
  · have g1 : ¬ (n : Int) < 55296 := by omega
    by_cases h2 : 57343 < n
    · have g2 : 57343 < (n : Int) := by omega
      have HE : Hid (pointB n = true) := by unfold Hid pointB; rw [decide_eq_true h2, Bool.or_true]
      go_enter Tryd.func112, Tryd.ntmps112
      go_wp2_with fail
      go_ret
      exact ⟨by rw [HE.out]; rfl, rfl⟩
    · have g2 : ¬ 57343 < (n : Int) := by omega
      have HE : Hid (pointB n = false) := by unfold Hid pointB; rw [decide_eq_false h1, decide_eq_false h2]; rfl
      go_enter Tryd.func112, Tryd.ntmps112
      go_wp2_with fail
      go_ret
      exact ⟨by rw [HE.out]; rfl, rfl⟩
theorem pointI_of {n : Nat} (hn : n ≤ 65535) (h : pointB n = true) : PointI (n : Int) := by
  unfold pointB at h
  rw [Bool.or_eq_true, decide_eq_true_eq, decide_eq_true_eq] at h
  exact ⟨by omega, by omega, by omega⟩
set_option maxRecDepth 20000 in
set_option maxHeartbeats 4000000 in
theorem encode_any (n : Nat) (hn : n ≤ 65535) (b c : Nat) (w : World) (h0 : w.cell? ⟨b, 0, none⟩ = some (.int .i64 (n : Int))) :
    Calls Tryd.prog 104 #[.slice (some ⟨b, 0, none⟩) 1 c] w fun e w' => e = .returned (.string (bs (encV n))) ∧ Below w.heap.size w w' := by
  have HPT := Lib.hid (fun w => point_any n hn w)
  have HW : Hid (∀ m : Nat, m ≤ 65535 → PointI (m : Int) → ∀ wr, Lib.IsBuilder 68 5 w.heap.size w.heap.size (Lib.byteCells []) wr → w.heap.size ≤ wr.heap.size → Calls Tryd.prog 113 #[.pointer (some ⟨w.heap.size, 0, none⟩), .int .i32 (m : Int)] wr fun e w' => ∃ k : Nat, e = .returned (.tuple #[.int .i64 k, .nilIface]) ∧ Lib.IsBuilder 68 5 w.heap.size w.heap.size (Lib.byteCells (oneV m)) w' ∧ Below w.heap.size wr w') := by
    intro m hm hp wr hb hz
    refine (wrune_any w.heap.size w.heap.size (Lib.byteCells []) m hp wr hb (by simp [Lib.byteCells]) hz).mono ?_
    rintro e w' ⟨rfl, g1, g2⟩
    refine ⟨_, rfl, .inr ?_, g2⟩
    rw [oneV_cells hm, show Lib.byteCells ([] : List UInt8) = [] from rfl, List.nil_append] at g1
    exact g1
  have hbl := World.block_lt_of_cell? w _ h0
  have HC0 := Lib.hid h0
  clear h0
  go_enter Tryd.func104, Tryd.ntmps104
  go_wp2_with fail
  refine wp_at_worldH ?_
  intro W hW
  have b1 : Lib.IsBuilder 68 5 w.heap.size w.heap.size (Lib.byteCells []) W := by
    refine .inl ⟨Nat.le_refl _, .slice none 0 0, ?_, World.ownsRow_nil _ _ _ _, by simp [Value.ownBlock]⟩
    rw [hW]
    exact row_new _ _ _
  have hb0 : Below w.heap.size w W := by rw [hW]; exact (Below.refl _ _).alloc (Nat.le_refl _) _
  have hc0 : W.cell? ⟨b, 0, none⟩ = some (.int .i64 (n : Int)) := (hb0.cell (p := ⟨b, 0, none⟩) hbl).trans HC0.out
  have HB1 := Lib.hid b1
  have HB0 := Lib.hid hb0
  have hzW := hb0.size
  clear b1 hb0 hW hbl
  cases hp : pointB n
  · have HX : Hid (encV n = oneV 65533) := by unfold Hid encV; rw [hp]; rfl
    have HWX := Lib.hid (HW.out 65533 (by omega) (by unfold PointI; omega) W HB1.out hzW)
    rw [hp] at HPT
    clear hp HW HB1
    refine wp_loop_rounds 2 ?_
    rw [rounds_succ]
    go_wp2_with fail
    refine (HPT.out _).mono ?_
    rintro e _ ⟨rfl, rfl⟩
    go_wp2_with fail
    refine HWX.out.mono ?_
    rintro e w2 ⟨k, rfl, hb2, hbl2⟩
    have HB2 : Hid (Below w.heap.size w w2) := HB0.out.trans hbl2
    have HU2 := Lib.hid hb2
    have hz2 := HB2.out.size
    clear hb2 hbl2 hc0
    go_wp2_with fail
    rw [rounds_succ]
    go_wp2_with fail
    have HS := Lib.hid (Tryd.Builder_String_any_k w.heap.size w.heap.size (oneV 65533) w2 (Lib.IsBuilderF.of HU2.out) hz2)
    refine HS.out.mono ?_
    rintro e w3 ⟨rfl, _, hbl6, _⟩
    have HB6 : Hid (Below w.heap.size w w3) := HB2.out.trans hbl6
    clear hbl6
    go_wp2_with fail
    go_ret
    exact ⟨by rw [HX.out]; rfl, HB6.out⟩
  · have HX : Hid (encV n = oneV n) := by unfold Hid encV; rw [hp]; rfl
    have HWX := Lib.hid (HW.out n hn (pointI_of hn hp) W HB1.out hzW)
    rw [hp] at HPT
    clear hp HW HB1
    refine wp_loop_rounds 2 ?_
    rw [rounds_succ]
    go_wp2_with fail
    refine (HPT.out _).mono ?_
    rintro e _ ⟨rfl, rfl⟩
    go_wp2_with fail
    refine HWX.out.mono ?_
    rintro e w2 ⟨k, rfl, hb2, hbl2⟩
    have HB2 : Hid (Below w.heap.size w w2) := HB0.out.trans hbl2
    have HU2 := Lib.hid hb2
    have hz2 := HB2.out.size
    clear hb2 hbl2 hc0
    go_wp2_with fail
    rw [rounds_succ]
    go_wp2_with fail
    have HS := Lib.hid (Tryd.Builder_String_any_k w.heap.size w.heap.size (oneV n) w2 (Lib.IsBuilderF.of HU2.out) hz2)
    refine HS.out.mono ?_
    rintro e w3 ⟨rfl, _, hbl6, _⟩
    have HB6 : Hid (Below w.heap.size w w3) := HB2.out.trans hbl6
    clear hbl6
    go_wp2_with fail
    go_ret
    exact ⟨by rw [HX.out]; rfl, HB6.out⟩
set_option maxRecDepth 20000 in
set_option maxHeartbeats 4000000 in
theorem encoded_any (n : Nat) (hn : n ≤ 65535) (w : World) :
    Calls Tryd.prog 92 #[.int .i64 (n : Int)] w fun e w' => e = .returned (.tuple #[.string (bs (encV n)), .bool (pointB n)]) ∧ Below w.heap.size w w' := by
  have HE := Lib.hid (encode_any n hn w.heap.size 1 (w.alloc (.cells #[.int .i64 (n : Int)] 3)) (row_cells (row_new w #[.int .i64 (n : Int)] 3) 0))
  have g0 : (n : Int) ≤ 1114111 := by omega
  by_cases h1 : n < 55296
  · have g1 : (n : Int) < 55296 := by omega
    have HB : Hid (pointB n = true) := by unfold Hid pointB; rw [decide_eq_true h1]; rfl
    go_enter Tryd.func92, Tryd.ntmps92
    go_wp2_with fail
    refine HE.out.mono ?_
    rintro e w2 ⟨rfl, hb⟩
    have HB2 := Lib.hid hb
    clear hb
    go_wp2_with fail
    go_ret2
    exact ⟨by rw [HB.out]; rfl, ((Below.refl _ _).alloc (Nat.le_refl _) _).trans (HB2.out.mono (by simp))⟩
  · have g1 : ¬ (n : Int) < 55296 := by omega
    by_cases h2 : 57343 < n
    · have g2 : 57343 < (n : Int) := by omega
      have HB : Hid (pointB n = true) := by unfold Hid pointB; rw [decide_eq_true h2, Bool.or_true]
      go_enter Tryd.func92, Tryd.ntmps92
      go_wp2_with fail
      refine HE.out.mono ?_
      rintro e w2 ⟨rfl, hb⟩
      have HB2 := Lib.hid hb
      clear hb
      go_wp2_with fail
      go_ret2
      exact ⟨by rw [HB.out]; rfl, ((Below.refl _ _).alloc (Nat.le_refl _) _).trans (HB2.out.mono (by simp))⟩
    · have g2 : ¬ 57343 < (n : Int) := by omega
      have HB : Hid (pointB n = false) := by unfold Hid pointB; rw [decide_eq_false h1, decide_eq_false h2]; rfl
      go_enter Tryd.func92, Tryd.ntmps92
      go_wp2_with fail
      refine HE.out.mono ?_
      rintro e w2 ⟨rfl, hb⟩
      have HB2 := Lib.hid hb
      clear hb
      go_wp2_with fail
      go_ret2
      exact ⟨by rw [HB.out]; rfl, ((Below.refl _ _).alloc (Nat.le_refl _) _).trans (HB2.out.mono (by simp))⟩
end Go.Proofs.YtpionddponmdmaaDoor
/- Walks: what a sequence behind a backslash stands for, of any string. -/
namespace Go.Proofs.YtpionddponmdmaaDoor
open Go.RowKit
attribute [local go_sem] Ext.cell Ext.frozen
attribute [local go_sem ↓] Go.wp_at_zero Go.wp_at_succ
def selfs : List UInt8 := [92, 34, 61, 58, 35, 33, 123, 125, 32]
def rbV : List UInt8 → List UInt8 × Nat
  | _ :: c :: r =>
    if c = 110 then ([10], 2) else if c = 114 then ([13], 2) else if c = 116 then ([9], 2)
    else if c = 120 then (if 2 ≤ r.length then (match numV (r.take 2) with | some n => if n ≤ 127 then ([UInt8.ofNat n], 4) else ([], 0) | none => ([], 0)) else ([], 0))
    else if c = 117 then (if 4 ≤ r.length then (match numV (r.take 4) with | some n => if pointB n then (encV n, 6) else ([], 0) | none => ([], 0)) else ([], 0))
    else if c ∈ selfs then ([c], 2) else ([], 0)
  | _ => ([], 0)
theorem self_cases (c : UInt8) : (c ∈ selfs ∧ 0 ≤ Lib.indexByte selfs ((c.toNat : Int).toNat.toUInt8)) ∨ (c ∉ selfs ∧ Lib.indexByte selfs ((c.toNat : Int).toNat.toUInt8) = -1) := by
  have k : ∀ f : Fin 256, ((UInt8.ofNat f.1) ∈ selfs ∧ 0 ≤ Lib.indexByte selfs (((UInt8.ofNat f.1).toNat : Int).toNat.toUInt8)) ∨ ((UInt8.ofNat f.1) ∉ selfs ∧ Lib.indexByte selfs (((UInt8.ofNat f.1).toNat : Int).toNat.toUInt8) = -1) := by decide +kernel
  have e : UInt8.ofNat c.toNat = c := by simp
  have := k ⟨c.toNat, c.toNat_lt⟩
  simpa only [e] using this
theorem foldl_stepV_lt : ∀ (l : List UInt8) (m n : Nat), l.foldl stepV (some m) = some n → n < (m + 1) * 16 ^ l.length
  | [], m, n, h => by
    injection h with h
    simp; omega
  | c :: l, m, n, h => by
    cases hc : hexV c with
    | none => rw [List.foldl_cons, stepV_none hc, foldl_stepV_none] at h; cases h
    | some d =>
      have hd : d < 16 := by
        rcases hex_cases c with ⟨h1, _, _⟩ | ⟨e, h1, h2, _, _⟩ | ⟨e, h1, h2, _⟩
        · rw [hc] at h1; cases h1
        · rw [hc] at h2; injection h2 with h2; omega
        · rw [hc] at h2; injection h2 with h2; omega
      rw [List.foldl_cons, stepV_some hc] at h
      have := foldl_stepV_lt l _ n h
      rw [List.length_cons, Nat.pow_succ, Nat.mul_comm (16 ^ l.length) 16, ← Nat.mul_assoc]
      exact Nat.lt_of_lt_of_le this (Nat.mul_le_mul_right _ (by omega))
theorem numV_lt {l : List UInt8} {n : Nat} (h : numV l = some n) : n < 16 ^ l.length := by
  have := foldl_stepV_lt l 0 n h
  simpa using this
theorem rbV_len (l : List UInt8) : (rbV l).1.length ≤ 3 ∧ (rbV l).2 ≤ l.length ∧ (rbV l).1.length ≤ (rbV l).2 := by
  match l with
  | [] => exact ⟨by decide, by decide, by decide⟩
  | [a] => exact ⟨by simp [rbV], by simp [rbV], by simp [rbV]⟩
  | a :: c :: r =>
    simp only [rbV]
    have := encV_len
    repeat' split
    all_goals simp only [List.length_cons, List.length_nil]
    all_goals first | (refine ⟨?_, ?_, ?_⟩ <;> omega) | (rename_i n _ _; have := encV_len n; refine ⟨?_, ?_, ?_⟩ <;> omega)
def RbP (x : List UInt8 × Nat) (w : World) (e : Ending) (w' : World) : Prop := e = .returned (.tuple #[.string (bs x.1), .int .i64 (x.2 : Int)]) ∧ Below w.heap.size w w'
set_option maxRecDepth 20000 in
set_option maxHeartbeats 4000000 in
theorem rbx_short (l : List UInt8) (h : l.length < 2) (w : World) : Calls Tryd.prog 76 #[.string (bs l)] w (RbP (rbV l) w) := by
  have e : rbV l = ([], 0) := by
    match l, h with
    | [], _ => rfl
    | [_], _ => rfl
    | _ :: _ :: _, h => simp at h; omega
  have hs : ((bs l).size : Int) < 2 := by rw [bs_size]; omega
  rw [e]
  generalize bs l = D at *
  go_enter Tryd.func76, Tryd.ntmps76
  go_wp2_with fail
  go_ret2
  exact ⟨rfl, Below.refl _ _⟩
set_option maxRecDepth 20000 in
set_option maxHeartbeats 4000000 in
theorem rbx_letter (a : UInt8) (c : UInt8) (r : List UInt8) (hr : r.length ≤ 100000) (h : c = 110 ∨ c = 114 ∨ c = 116) (w : World) :
    Calls Tryd.prog 76 #[.string (bs (a :: c :: r))] w (RbP (rbV (a :: c :: r)) w) := by
  have hsz : (bs (a :: c :: r)).size = r.length + 2 := by rw [bs_size]; simp
  have hs : ¬ ((bs (a :: c :: r)).size : Int) < 2 := by omega
  have hle : (bs (a :: c :: r)).size ≤ 1000000 := by omega
  have hb : 1 < (bs (a :: c :: r)).size := by omega
  have hx : ∀ g : 1 < (bs (a :: c :: r)).size, (bs (a :: c :: r))[1]'g = c := fun _ => rfl
  have HRB : Hid ((c = 110 → rbV (a :: c :: r) = ([10], 2)) ∧ (c = 114 → rbV (a :: c :: r) = ([13], 2)) ∧ (c = 116 → rbV (a :: c :: r) = ([9], 2))) :=
    ⟨fun e => by subst e; rfl, fun e => by subst e; rfl, fun e => by subst e; rfl⟩
  generalize rbV (a :: c :: r) = RB at *
  rcases h with h | h | h
  all_goals
    subst h
    obtain ⟨r1, r2, r3⟩ := HRB.out
    first | (have e := r1 rfl) | (have e := r2 rfl) | (have e := r3 rfl)
    subst e
    clear HRB r1 r2 r3 hsz
    generalize bs (_ :: _ :: r) = D at *
    go_enter Tryd.func76, Tryd.ntmps76
    go_wp2_with fail
    go_ret2
    exact ⟨rfl, Below.refl _ _⟩
set_option maxRecDepth 20000 in
set_option maxHeartbeats 4000000 in
theorem rbx_self (a : UInt8) (c : UInt8) (r : List UInt8) (hr : r.length ≤ 100000) (h110 : c ≠ 110) (h114 : c ≠ 114) (h116 : c ≠ 116) (h120 : c ≠ 120) (h117 : c ≠ 117) (w : World) :
    Calls Tryd.prog 76 #[.string (bs (a :: c :: r))] w (RbP (rbV (a :: c :: r)) w) := by
  have hsz : (bs (a :: c :: r)).size = r.length + 2 := by rw [bs_size]; simp
  have hs : ¬ ((bs (a :: c :: r)).size : Int) < 2 := by omega
  have hle : (bs (a :: c :: r)).size ≤ 1000000 := by omega
  have hb : 1 < (bs (a :: c :: r)).size := by omega
  have hx : ∀ g : 1 < (bs (a :: c :: r)).size, (bs (a :: c :: r))[1]'g = c := fun _ => rfl
  have n110 : ((c.toNat : Int) == 110) = false := neU h110
  have n114 : ((c.toNat : Int) == 114) = false := neU h114
  have n116 : ((c.toNat : Int) == 116) = false := neU h116
  have n120 : ((c.toNat : Int) == 120) = false := neU h120
  have n117 : ((c.toNat : Int) == 117) = false := neU h117
  have HIX := Lib.hid (fun w => Tryd.strings_IndexByte ⟨#[92, 34, 61, 58, 35, 33, 123, 125, 32]⟩ (c.toNat : Int) w)
  have hcut : (bs (a :: c :: r)).extract 1 2 = bs [c] := by rw [bs_extract]; rfl
  have hb2 : 2 ≤ (bs (a :: c :: r)).size := by omega
  have hrb : rbV (a :: c :: r) = if c ∈ selfs then ([c], 2) else ([], 0) := by
    show (if c = 110 then _ else _) = _
    rw [if_neg h110, if_neg h114, if_neg h116, if_neg h120, if_neg h117]
  rcases self_cases c with ⟨h1, h2⟩ | ⟨h1, h2⟩
  · rw [if_pos h1] at hrb
    rw [hrb]
    replace h2 : 0 ≤ Lib.indexByte (⟨#[92, 34, 61, 58, 35, 33, 123, 125, 32]⟩ : ByteArray).data.toList ((c.toNat : Int).toNat.toUInt8) := h2
    generalize Lib.indexByte (⟨#[92, 34, 61, 58, 35, 33, 123, 125, 32]⟩ : ByteArray).data.toList ((c.toNat : Int).toNat.toUInt8) = ix at *
    clear hsz hrb h1 h110 h114 h116 h120 h117
    generalize bs (a :: c :: r) = D at *
    go_enter Tryd.func76, Tryd.ntmps76
    go_wp2_with fail
    refine (HIX.out _).mono ?_
    rintro e _ ⟨rfl, rfl⟩
    go_wp2_with fail
    go_ret2
    exact ⟨rfl, Below.refl _ _⟩
  · rw [if_neg h1] at hrb
    rw [hrb]
    replace h2 : Lib.indexByte (⟨#[92, 34, 61, 58, 35, 33, 123, 125, 32]⟩ : ByteArray).data.toList ((c.toNat : Int).toNat.toUInt8) = -1 := h2
    rw [h2] at HIX
    clear hsz hrb h1 h2 hcut h110 h114 h116 h120 h117
    generalize bs (a :: c :: r) = D at *
    go_enter Tryd.func76, Tryd.ntmps76
    go_wp2_with fail
    refine (HIX.out _).mono ?_
    rintro e _ ⟨rfl, rfl⟩
    go_wp2_with fail
    go_ret2
    exact ⟨rfl, Below.refl _ _⟩
set_option maxRecDepth 20000 in
set_option maxHeartbeats 4000000 in
theorem rbx_x (a : UInt8) (r : List UInt8) (hr : r.length ≤ 100000) (w : World) :
    Calls Tryd.prog 76 #[.string (bs (a :: 120 :: r))] w (RbP (rbV (a :: 120 :: r)) w) := by
  have hsz : (bs (a :: 120 :: r)).size = r.length + 2 := by rw [bs_size]; simp
  have hs : ¬ ((bs (a :: 120 :: r)).size : Int) < 2 := by omega
  have hle : (bs (a :: 120 :: r)).size ≤ 1000000 := by omega
  have hb : 1 < (bs (a :: 120 :: r)).size := by omega
  have hx : ∀ g : 1 < (bs (a :: 120 :: r)).size, (bs (a :: 120 :: r))[1]'g = 120 := fun _ => rfl
  by_cases hl : 2 ≤ r.length
  · have h4 : (4 : Int) ≤ ((bs (a :: 120 :: r)).size : Int) := by omega
    have h4n : 4 ≤ (bs (a :: 120 :: r)).size := by omega
    have hcut : (bs (a :: 120 :: r)).extract 2 4 = bs (r.take 2) := by rw [bs_extract]; rfl
    have hlen : (r.take 2).length = 2 := by rw [List.length_take]; omega
    have HDG := Lib.hid (fun w => digits_any (r.take 2) (by omega) w)
    have hne : (r.take 2).isEmpty = false := by
      cases h : r.take 2 with
      | nil => rw [h] at hlen; cases hlen
      | cons _ _ => rfl
    rw [hne] at HDG
    cases hn : numV (r.take 2) with
    | none =>
      have hrb : rbV (a :: 120 :: r) = ([], 0) := by
        show (if 2 ≤ r.length then _ else _) = _
        rw [if_pos hl, hn]
      rw [hrb]
      rw [hn] at HDG
      clear hn hrb hsz hlen hne
      generalize bs (a :: 120 :: r) = D at *
      generalize bs (r.take 2) = U at *
      go_enter Tryd.func76, Tryd.ntmps76
      go_wp2_with fail
      refine (HDG.out _).mono ?_
      rintro e _ ⟨rfl, rfl⟩
      go_wp2_with fail
      go_ret2
      exact ⟨rfl, Below.refl _ _⟩
    | some n =>
      have hlt := numV_lt hn
      rw [hlen] at hlt
      rw [hn] at HDG
      replace HDG : Hid (∀ w, Calls Tryd.prog 91 #[.string (bs (r.take 2)), .int .i64 16] w fun e w' => e = .returned (.tuple #[.int .i64 (n : Int), .bool true]) ∧ w = w') := HDG
      by_cases h7 : n ≤ 127
      · have h7i : (n : Int) ≤ 127 := by omega
        have hrb : rbV (a :: 120 :: r) = ([UInt8.ofNat n], 4) := by
          show (if 2 ≤ r.length then _ else _) = _
          rw [if_pos hl, hn]
          show (if n ≤ 127 then _ else _) = _
          rw [if_pos h7]
        rw [hrb]
        have hcv := convH (n : Int) (UInt8.ofNat n) (by rw [UInt8.toNat_ofNat_of_lt' (by omega)])
        clear hn hrb hsz hlen hne hlt
        generalize bs (a :: 120 :: r) = D at *
        generalize bs (r.take 2) = U at *
        go_enter Tryd.func76, Tryd.ntmps76
        go_wp2_with fail
        refine (HDG.out _).mono ?_
        rintro e _ ⟨rfl, rfl⟩
        go_wp2_with fail
        go_ret2
        exact ⟨rfl, (Below.refl _ _).alloc (Nat.le_refl _) _⟩
      · have h7i : ¬ (n : Int) ≤ 127 := by omega
        have hrb : rbV (a :: 120 :: r) = ([], 0) := by
          show (if 2 ≤ r.length then _ else _) = _
          rw [if_pos hl, hn]
          show (if n ≤ 127 then _ else _) = _
          rw [if_neg h7]
        rw [hrb]
        clear hn hrb hsz hlen hne hlt
        generalize bs (a :: 120 :: r) = D at *
        generalize bs (r.take 2) = U at *
        go_enter Tryd.func76, Tryd.ntmps76
        go_wp2_with fail
        refine (HDG.out _).mono ?_
        rintro e _ ⟨rfl, rfl⟩
        go_wp2_with fail
        go_ret2
        exact ⟨rfl, Below.refl _ _⟩
  · have h4 : ¬ (4 : Int) ≤ ((bs (a :: 120 :: r)).size : Int) := by omega
    have hrb : rbV (a :: 120 :: r) = ([], 0) := by
      show (if 2 ≤ r.length then _ else _) = _
      rw [if_neg hl]
    rw [hrb]
    clear hrb hsz hl
    generalize bs (a :: 120 :: r) = D at *
    go_enter Tryd.func76, Tryd.ntmps76
    go_wp2_with fail
    go_ret2
    exact ⟨rfl, Below.refl _ _⟩
set_option maxRecDepth 20000 in
set_option maxHeartbeats 4000000 in
theorem rbx_u (a : UInt8) (r : List UInt8) (hr : r.length ≤ 100000) (w : World) :
    Calls Tryd.prog 76 #[.string (bs (a :: 117 :: r))] w (RbP (rbV (a :: 117 :: r)) w) := by
  have hsz : (bs (a :: 117 :: r)).size = r.length + 2 := by rw [bs_size]; simp
  have hs : ¬ ((bs (a :: 117 :: r)).size : Int) < 2 := by omega
  have hle : (bs (a :: 117 :: r)).size ≤ 1000000 := by omega
  have hb : 1 < (bs (a :: 117 :: r)).size := by omega
  have hx : ∀ g : 1 < (bs (a :: 117 :: r)).size, (bs (a :: 117 :: r))[1]'g = 117 := fun _ => rfl
  by_cases hl : 4 ≤ r.length
  · have h4 : (6 : Int) ≤ ((bs (a :: 117 :: r)).size : Int) := by omega
    have h4n : 6 ≤ (bs (a :: 117 :: r)).size := by omega
    have hcut : (bs (a :: 117 :: r)).extract 2 6 = bs (r.take 4) := by rw [bs_extract]; rfl
    have hlen : (r.take 4).length = 4 := by rw [List.length_take]; omega
    have HDG := Lib.hid (fun w => digits_any (r.take 4) (by omega) w)
    have hne : (r.take 4).isEmpty = false := by
      cases h : r.take 4 with
      | nil => rw [h] at hlen; cases hlen
      | cons _ _ => rfl
    rw [hne] at HDG
    cases hn : numV (r.take 4) with
    | none =>
      have hrb : rbV (a :: 117 :: r) = ([], 0) := by
        show (if 4 ≤ r.length then _ else _) = _
        rw [if_pos hl, hn]
      rw [hrb]
      rw [hn] at HDG
      clear hn hrb hsz hlen hne
      generalize bs (a :: 117 :: r) = D at *
      generalize bs (r.take 4) = U at *
      go_enter Tryd.func76, Tryd.ntmps76
      go_wp2_with fail
      refine (HDG.out _).mono ?_
      rintro e _ ⟨rfl, rfl⟩
      go_wp2_with fail
      go_ret2
      exact ⟨rfl, Below.refl _ _⟩
    | some n =>
      have hlt := numV_lt hn
      rw [hlen] at hlt
      rw [hn] at HDG
      replace HDG : Hid (∀ w, Calls Tryd.prog 91 #[.string (bs (r.take 4)), .int .i64 16] w fun e w' => e = .returned (.tuple #[.int .i64 (n : Int), .bool true]) ∧ w = w') := HDG
      have hlt4 : n ≤ 65535 := by omega
      have HEN := Lib.hid (fun w => encoded_any n hlt4 w)
      cases hp : pointB n
      · have hrb : rbV (a :: 117 :: r) = ([], 0) := by
          show (if 4 ≤ r.length then _ else _) = _
          rw [if_pos hl, hn]
          show (if pointB n = true then _ else _) = _
          rw [hp]
          rfl
        rw [hrb]
        rw [hp] at HEN
        clear hn hrb hsz hlen hne hlt hp
        generalize bs (a :: 117 :: r) = D at *
        generalize bs (r.take 4) = U at *
        go_enter Tryd.func76, Tryd.ntmps76
        go_wp2_with fail
        refine (HDG.out _).mono ?_
        rintro e _ ⟨rfl, rfl⟩
        go_wp2_with fail
        refine (HEN.out _).mono ?_
        rintro e w2 ⟨rfl, hb2⟩
        have HB2 := Lib.hid hb2
        clear hb2
        go_wp2_with fail
        go_ret2
        exact ⟨rfl, HB2.out⟩
      · have hrb : rbV (a :: 117 :: r) = (encV n, 6) := by
          show (if 4 ≤ r.length then _ else _) = _
          rw [if_pos hl, hn]
          show (if pointB n = true then _ else _) = _
          rw [hp]
          rfl
        rw [hrb]
        rw [hp] at HEN
        clear hn hrb hsz hlen hne hlt hp
        generalize bs (a :: 117 :: r) = D at *
        generalize bs (r.take 4) = U at *
        go_enter Tryd.func76, Tryd.ntmps76
        go_wp2_with fail
        refine (HDG.out _).mono ?_
        rintro e _ ⟨rfl, rfl⟩
        go_wp2_with fail
        refine (HEN.out _).mono ?_
        rintro e w2 ⟨rfl, hb2⟩
        have HB2 := Lib.hid hb2
        clear hb2
        go_wp2_with fail
        go_ret2
        exact ⟨rfl, HB2.out⟩
  · have h4 : ¬ (6 : Int) ≤ ((bs (a :: 117 :: r)).size : Int) := by omega
    have hrb : rbV (a :: 117 :: r) = ([], 0) := by
      show (if 4 ≤ r.length then _ else _) = _
      rw [if_neg hl]
    rw [hrb]
    clear hrb hsz hl
    generalize bs (a :: 117 :: r) = D at *
    go_enter Tryd.func76, Tryd.ntmps76
    go_wp2_with fail
    go_ret2
    exact ⟨rfl, Below.refl _ _⟩
theorem rb_any (l : List UInt8) (hl : l.length ≤ 100000) (w : World) : Calls Tryd.prog 76 #[.string (bs l)] w (RbP (rbV l) w) := by
  by_cases h : l.length < 2
  · exact rbx_short l h w
  · match l, hl, h with
    | a :: c :: r, hl, _ =>
      have hr : r.length ≤ 100000 := by simp only [List.length_cons] at hl; omega
      by_cases h1 : c = 110
      · exact rbx_letter a c r hr (.inl h1) w
      by_cases h2 : c = 114
      · exact rbx_letter a c r hr (.inr (.inl h2)) w
      by_cases h3 : c = 116
      · exact rbx_letter a c r hr (.inr (.inr h3)) w
      by_cases h4 : c = 120
      · subst h4; exact rbx_x a r hr w
      by_cases h5 : c = 117
      · subst h5; exact rbx_u a r hr w
      exact rbx_self a c r hr h1 h2 h3 h4 h5 w
    | [], _, h => simp at h
    | [_], _, h => simp at h
end Go.Proofs.YtpionddponmdmaaDoor
