/- Walks: what a sequence behind a backslash stands for, of any string. -/
import Derived.Test.YtmleeodfmmpdgaaGreatDoorQ05
import Derived.Laws.BytesString
namespace Go.Proofs.YtmleeodfmmpdgaaGreatDoor
open Go.RowKit
attribute [local go_sem] Ext.cell Ext.frozen
attribute [local go_sem ↓] Go.wp_at_zero Go.wp_at_succ
def selfs : List UInt8 := [92, 34, 61, 58, 35, 33, 123, 125, 32]
def rbV : List UInt8 → List UInt8 × Nat
  | _ :: c :: r =>
    if c = 110 then ([10], 2) else if c = 114 then ([13], 2) else if c = 116 then ([9], 2)
    else if c = 120 then (if 2 ≤ r.length then (match numV (r.take 2) with | some n => if n ≤ 127 then ([UInt8.ofNat n], 4) else ([], 0) | none => ([], 0)) else ([], 0))
    else if c = 117 then (if 4 ≤ r.length then (match numV (r.take 4) with | some n => if pointB n then (encV n, 6) else ([], 0) | none => ([], 0)) else ([], 0))
    else if c ∈ selfs then ([c], 2) else ([], 0)
  | _ => ([], 0)
theorem self_cases (c : UInt8) : (c ∈ selfs ∧ 0 ≤ Lib.indexByte selfs ((c.toNat : Int).toNat.toUInt8)) ∨ (c ∉ selfs ∧ Lib.indexByte selfs ((c.toNat : Int).toNat.toUInt8) = -1) := by
  have k : ∀ f : Fin 256, ((UInt8.ofNat f.1) ∈ selfs ∧ 0 ≤ Lib.indexByte selfs (((UInt8.ofNat f.1).toNat : Int).toNat.toUInt8)) ∨ ((UInt8.ofNat f.1) ∉ selfs ∧ Lib.indexByte selfs (((UInt8.ofNat f.1).toNat : Int).toNat.toUInt8) = -1) := by decide +kernel
  have e : UInt8.ofNat c.toNat = c := by simp
  have := k ⟨c.toNat, c.toNat_lt⟩
  simpa only [e] using this
theorem foldl_stepV_lt : ∀ (l : List UInt8) (m n : Nat), l.foldl stepV (some m) = some n → n < (m + 1) * 16 ^ l.length
  | [], m, n, h => by
    injection h with h
    simp; omega
  | c :: l, m, n, h => by
    cases hc : hexV c with
    | none => rw [List.foldl_cons, stepV_none hc, foldl_stepV_none] at h; cases h
    | some d =>
      have hd : d < 16 := by
        rcases hex_cases c with ⟨h1, _, _⟩ | ⟨e, h1, h2, _, _⟩ | ⟨e, h1, h2, _⟩
        · rw [hc] at h1; cases h1
        · rw [hc] at h2; injection h2 with h2; omega
        · rw [hc] at h2; injection h2 with h2; omega
      rw [List.foldl_cons, stepV_some hc] at h
      have := foldl_stepV_lt l _ n h
      rw [List.length_cons, Nat.pow_succ, Nat.mul_comm (16 ^ l.length) 16, ← Nat.mul_assoc]
      exact Nat.lt_of_lt_of_le this (Nat.mul_le_mul_right _ (by omega))
theorem numV_lt {l : List UInt8} {n : Nat} (h : numV l = some n) : n < 16 ^ l.length := by
  have := foldl_stepV_lt l 0 n h
  simpa using this
theorem rbV_len (l : List UInt8) : (rbV l).1.length ≤ 3 ∧ (rbV l).2 ≤ l.length ∧ (rbV l).1.length ≤ (rbV l).2 := by
  match l with
  | [] => exact ⟨by decide, by decide, by decide⟩
  | [a] => exact ⟨by simp [rbV], by simp [rbV], by simp [rbV]⟩
  | a :: c :: r =>
    simp only [rbV]
    have := encV_len
    repeat' split
    all_goals simp only [List.length_cons, List.length_nil]
    all_goals first | (refine ⟨?_, ?_, ?_⟩ <;> omega) | (rename_i n _ _; have := encV_len n; refine ⟨?_, ?_, ?_⟩ <;> omega)
def RbP (x : List UInt8 × Nat) (w : World) (e : Ending) (w' : World) : Prop := e = .returned (.tuple #[.string (bs x.1), .int .i64 (x.2 : Int)]) ∧ Below w.heap.size w w'
set_option maxRecDepth 20000 in
set_option maxHeartbeats 4000000 in
theorem rbx_short (l : List UInt8) (h : l.length < 2) (w : World) : Calls Tryz.prog 265 #[.string (bs l)] w (RbP (rbV l) w) := by
  have e : rbV l = ([], 0) := by
    match l, h with
    | [], _ => rfl
    | [_], _ => rfl
    | _ :: _ :: _, h => simp at h; omega
  have hs : ((bs l).size : Int) < 2 := by rw [bs_size]; omega
  rw [e]
  generalize bs l = D at *
  go_enter Tryz.func265, Tryz.ntmps265
  go_wp2_with fail
  go_ret2
  exact ⟨rfl, Below.refl _ _⟩
set_option maxRecDepth 20000 in
set_option maxHeartbeats 4000000 in
theorem rbx_letter (a : UInt8) (c : UInt8) (r : List UInt8) (hr : r.length ≤ 200000) (h : c = 110 ∨ c = 114 ∨ c = 116) (w : World) :
    Calls Tryz.prog 265 #[.string (bs (a :: c :: r))] w (RbP (rbV (a :: c :: r)) w) := by
  have hsz : (bs (a :: c :: r)).size = r.length + 2 := by rw [bs_size]; simp
  have hs : ¬ ((bs (a :: c :: r)).size : Int) < 2 := by omega
  have hle : (bs (a :: c :: r)).size ≤ 1000000 := by omega
  have hb : 1 < (bs (a :: c :: r)).size := by omega
  have hx : ∀ g : 1 < (bs (a :: c :: r)).size, (bs (a :: c :: r))[1]'g = c := fun _ => rfl
  have HRB : Hid ((c = 110 → rbV (a :: c :: r) = ([10], 2)) ∧ (c = 114 → rbV (a :: c :: r) = ([13], 2)) ∧ (c = 116 → rbV (a :: c :: r) = ([9], 2))) :=
    ⟨fun e => by subst e; rfl, fun e => by subst e; rfl, fun e => by subst e; rfl⟩
  generalize rbV (a :: c :: r) = RB at *
  rcases h with h | h | h
  all_goals
    subst h
    obtain ⟨r1, r2, r3⟩ := HRB.out
    first | (have e := r1 rfl) | (have e := r2 rfl) | (have e := r3 rfl)
    subst e
    clear HRB r1 r2 r3 hsz
    generalize bs (_ :: _ :: r) = D at *
    go_enter Tryz.func265, Tryz.ntmps265
    go_wp2_with fail
    go_ret2
    exact ⟨rfl, Below.refl _ _⟩
set_option maxRecDepth 20000 in
set_option maxHeartbeats 4000000 in
theorem rbx_self (a : UInt8) (c : UInt8) (r : List UInt8) (hr : r.length ≤ 200000) (h110 : c ≠ 110) (h114 : c ≠ 114) (h116 : c ≠ 116) (h120 : c ≠ 120) (h117 : c ≠ 117) (w : World) :
    Calls Tryz.prog 265 #[.string (bs (a :: c :: r))] w (RbP (rbV (a :: c :: r)) w) := by
  have hsz : (bs (a :: c :: r)).size = r.length + 2 := by rw [bs_size]; simp
  have hs : ¬ ((bs (a :: c :: r)).size : Int) < 2 := by omega
  have hle : (bs (a :: c :: r)).size ≤ 1000000 := by omega
  have hb : 1 < (bs (a :: c :: r)).size := by omega
  have hx : ∀ g : 1 < (bs (a :: c :: r)).size, (bs (a :: c :: r))[1]'g = c := fun _ => rfl
  have n110 : ((c.toNat : Int) == 110) = false := neU h110
  have n114 : ((c.toNat : Int) == 114) = false := neU h114
  have n116 : ((c.toNat : Int) == 116) = false := neU h116
  have n120 : ((c.toNat : Int) == 120) = false := neU h120
  have n117 : ((c.toNat : Int) == 117) = false := neU h117
  have HIX := Lib.hid (fun w => Tryz.strings_IndexByte ⟨#[92, 34, 61, 58, 35, 33, 123, 125, 32]⟩ (c.toNat : Int) w)
  have hcut : (bs (a :: c :: r)).extract 1 2 = bs [c] := by rw [bs_extract]; rfl
  have hb2 : 2 ≤ (bs (a :: c :: r)).size := by omega
  have hrb : rbV (a :: c :: r) = if c ∈ selfs then ([c], 2) else ([], 0) := by
    show (if c = 110 then _ else _) = _
    rw [if_neg h110, if_neg h114, if_neg h116, if_neg h120, if_neg h117]
  rcases self_cases c with ⟨h1, h2⟩ | ⟨h1, h2⟩
  · rw [if_pos h1] at hrb
    rw [hrb]
    replace h2 : 0 ≤ Lib.indexByte (⟨#[92, 34, 61, 58, 35, 33, 123, 125, 32]⟩ : ByteArray).data.toList ((c.toNat : Int).toNat.toUInt8) := h2
    generalize Lib.indexByte (⟨#[92, 34, 61, 58, 35, 33, 123, 125, 32]⟩ : ByteArray).data.toList ((c.toNat : Int).toNat.toUInt8) = ix at *
    clear hsz hrb h1 h110 h114 h116 h120 h117
    generalize bs (a :: c :: r) = D at *
    go_enter Tryz.func265, Tryz.ntmps265
    go_wp2_with fail
    refine (HIX.out _).mono ?_
    rintro e _ ⟨rfl, rfl⟩
    go_wp2_with fail
    go_ret2
    exact ⟨rfl, Below.refl _ _⟩
  · rw [if_neg h1] at hrb
    rw [hrb]
    replace h2 : Lib.indexByte (⟨#[92, 34, 61, 58, 35, 33, 123, 125, 32]⟩ : ByteArray).data.toList ((c.toNat : Int).toNat.toUInt8) = -1 := h2
    rw [h2] at HIX
    clear hsz hrb h1 h2 hcut h110 h114 h116 h120 h117
    generalize bs (a :: c :: r) = D at *
    go_enter Tryz.func265, Tryz.ntmps265
    go_wp2_with fail
    refine (HIX.out _).mono ?_
    rintro e _ ⟨rfl, rfl⟩
    go_wp2_with fail
    go_ret2
    exact ⟨rfl, Below.refl _ _⟩
set_option maxRecDepth 20000 in
set_option maxHeartbeats 4000000 in
theorem rbx_x (a : UInt8) (r : List UInt8) (hr : r.length ≤ 200000) (w : World) :
    Calls Tryz.prog 265 #[.string (bs (a :: 120 :: r))] w (RbP (rbV (a :: 120 :: r)) w) := by
  have hsz : (bs (a :: 120 :: r)).size = r.length + 2 := by rw [bs_size]; simp
  have hs : ¬ ((bs (a :: 120 :: r)).size : Int) < 2 := by omega
  have hle : (bs (a :: 120 :: r)).size ≤ 1000000 := by omega
  have hb : 1 < (bs (a :: 120 :: r)).size := by omega
  have hx : ∀ g : 1 < (bs (a :: 120 :: r)).size, (bs (a :: 120 :: r))[1]'g = 120 := fun _ => rfl
  by_cases hl : 2 ≤ r.length
  · have h4 : (4 : Int) ≤ ((bs (a :: 120 :: r)).size : Int) := by omega
    have h4n : 4 ≤ (bs (a :: 120 :: r)).size := by omega
    have hcut : (bs (a :: 120 :: r)).extract 2 4 = bs (r.take 2) := by rw [bs_extract]; rfl
    have hlen : (r.take 2).length = 2 := by rw [List.length_take]; omega
    have HDG := Lib.hid (fun w => digits_any (r.take 2) (by omega) w)
    have hne : (r.take 2).isEmpty = false := by
      cases h : r.take 2 with
      | nil => rw [h] at hlen; cases hlen
      | cons _ _ => rfl
    rw [hne] at HDG
    cases hn : numV (r.take 2) with
    | none =>
      have hrb : rbV (a :: 120 :: r) = ([], 0) := by
        show (if 2 ≤ r.length then _ else _) = _
        rw [if_pos hl, hn]
      rw [hrb]
      rw [hn] at HDG
      clear hn hrb hsz hlen hne
      generalize bs (a :: 120 :: r) = D at *
      generalize bs (r.take 2) = U at *
      go_enter Tryz.func265, Tryz.ntmps265
      go_wp2_with fail
      refine (HDG.out _).mono ?_
      rintro e _ ⟨rfl, rfl⟩
      go_wp2_with fail
      go_ret2
      exact ⟨rfl, Below.refl _ _⟩
    | some n =>
      have hlt := numV_lt hn
      rw [hlen] at hlt
      rw [hn] at HDG
      replace HDG : Hid (∀ w, Calls Tryz.prog 303 #[.string (bs (r.take 2)), .int .i64 16] w fun e w' => e = .returned (.tuple #[.int .i64 (n : Int), .bool true]) ∧ w = w') := HDG
      by_cases h7 : n ≤ 127
      · have h7i : (n : Int) ≤ 127 := by omega
        have hrb : rbV (a :: 120 :: r) = ([UInt8.ofNat n], 4) := by
          show (if 2 ≤ r.length then _ else _) = _
          rw [if_pos hl, hn]
          show (if n ≤ 127 then _ else _) = _
          rw [if_pos h7]
        rw [hrb]
        have hcv := convH (n : Int) (UInt8.ofNat n) (by rw [UInt8.toNat_ofNat_of_lt' (by omega)])
        clear hn hrb hsz hlen hne hlt
        generalize bs (a :: 120 :: r) = D at *
        generalize bs (r.take 2) = U at *
        go_enter Tryz.func265, Tryz.ntmps265
        go_wp2_with fail
        refine (HDG.out _).mono ?_
        rintro e _ ⟨rfl, rfl⟩
        go_wp2_with fail
        go_ret2
        exact ⟨rfl, (Below.refl _ _).alloc (Nat.le_refl _) _⟩
      · have h7i : ¬ (n : Int) ≤ 127 := by omega
        have hrb : rbV (a :: 120 :: r) = ([], 0) := by
          show (if 2 ≤ r.length then _ else _) = _
          rw [if_pos hl, hn]
          show (if n ≤ 127 then _ else _) = _
          rw [if_neg h7]
        rw [hrb]
        clear hn hrb hsz hlen hne hlt
        generalize bs (a :: 120 :: r) = D at *
        generalize bs (r.take 2) = U at *
        go_enter Tryz.func265, Tryz.ntmps265
        go_wp2_with fail
        refine (HDG.out _).mono ?_
        rintro e _ ⟨rfl, rfl⟩
        go_wp2_with fail
        go_ret2
        exact ⟨rfl, Below.refl _ _⟩
  · have h4 : ¬ (4 : Int) ≤ ((bs (a :: 120 :: r)).size : Int) := by omega
    have hrb : rbV (a :: 120 :: r) = ([], 0) := by
      show (if 2 ≤ r.length then _ else _) = _
      rw [if_neg hl]
    rw [hrb]
    clear hrb hsz hl
    generalize bs (a :: 120 :: r) = D at *
    go_enter Tryz.func265, Tryz.ntmps265
    go_wp2_with fail
    go_ret2
    exact ⟨rfl, Below.refl _ _⟩
set_option maxRecDepth 20000 in
set_option maxHeartbeats 4000000 in
theorem rbx_u (a : UInt8) (r : List UInt8) (hr : r.length ≤ 200000) (w : World) :
    Calls Tryz.prog 265 #[.string (bs (a :: 117 :: r))] w (RbP (rbV (a :: 117 :: r)) w) := by
  have hsz : (bs (a :: 117 :: r)).size = r.length + 2 := by rw [bs_size]; simp
  have hs : ¬ ((bs (a :: 117 :: r)).size : Int) < 2 := by omega
  have hle : (bs (a :: 117 :: r)).size ≤ 1000000 := by omega
  have hb : 1 < (bs (a :: 117 :: r)).size := by omega
  have hx : ∀ g : 1 < (bs (a :: 117 :: r)).size, (bs (a :: 117 :: r))[1]'g = 117 := fun _ => rfl
  by_cases hl : 4 ≤ r.length
  · have h4 : (6 : Int) ≤ ((bs (a :: 117 :: r)).size : Int) := by omega
    have h4n : 6 ≤ (bs (a :: 117 :: r)).size := by omega
    have hcut : (bs (a :: 117 :: r)).extract 2 6 = bs (r.take 4) := by rw [bs_extract]; rfl
    have hlen : (r.take 4).length = 4 := by rw [List.length_take]; omega
    have HDG := Lib.hid (fun w => digits_any (r.take 4) (by omega) w)
    have hne : (r.take 4).isEmpty = false := by
      cases h : r.take 4 with
      | nil => rw [h] at hlen; cases hlen
      | cons _ _ => rfl
    rw [hne] at HDG
    cases hn : numV (r.take 4) with
    | none =>
      have hrb : rbV (a :: 117 :: r) = ([], 0) := by
        show (if 4 ≤ r.length then _ else _) = _
        rw [if_pos hl, hn]
      rw [hrb]
      rw [hn] at HDG
      clear hn hrb hsz hlen hne
      generalize bs (a :: 117 :: r) = D at *
      generalize bs (r.take 4) = U at *
      go_enter Tryz.func265, Tryz.ntmps265
      go_wp2_with fail
      refine (HDG.out _).mono ?_
      rintro e _ ⟨rfl, rfl⟩
      go_wp2_with fail
      go_ret2
      exact ⟨rfl, Below.refl _ _⟩
    | some n =>
      have hlt := numV_lt hn
      rw [hlen] at hlt
      rw [hn] at HDG
      replace HDG : Hid (∀ w, Calls Tryz.prog 303 #[.string (bs (r.take 4)), .int .i64 16] w fun e w' => e = .returned (.tuple #[.int .i64 (n : Int), .bool true]) ∧ w = w') := HDG
      have hlt4 : n ≤ 65535 := by omega
      have HEN := Lib.hid (fun w => encoded_any n hlt4 w)
      cases hp : pointB n
      · have hrb : rbV (a :: 117 :: r) = ([], 0) := by
          show (if 4 ≤ r.length then _ else _) = _
          rw [if_pos hl, hn]
          show (if pointB n = true then _ else _) = _
          rw [hp]
          rfl
        rw [hrb]
        rw [hp] at HEN
        clear hn hrb hsz hlen hne hlt hp
        generalize bs (a :: 117 :: r) = D at *
        generalize bs (r.take 4) = U at *
        go_enter Tryz.func265, Tryz.ntmps265
        go_wp2_with fail
        refine (HDG.out _).mono ?_
        rintro e _ ⟨rfl, rfl⟩
        go_wp2_with fail
        refine (HEN.out _).mono ?_
        rintro e w2 ⟨rfl, hb2⟩
        have HB2 := Lib.hid hb2
        clear hb2
        go_wp2_with fail
        go_ret2
        exact ⟨rfl, HB2.out⟩
      · have hrb : rbV (a :: 117 :: r) = (encV n, 6) := by
          show (if 4 ≤ r.length then _ else _) = _
          rw [if_pos hl, hn]
          show (if pointB n = true then _ else _) = _
          rw [hp]
          rfl
        rw [hrb]
        rw [hp] at HEN
        clear hn hrb hsz hlen hne hlt hp
        generalize bs (a :: 117 :: r) = D at *
        generalize bs (r.take 4) = U at *
        go_enter Tryz.func265, Tryz.ntmps265
        go_wp2_with fail
        refine (HDG.out _).mono ?_
        rintro e _ ⟨rfl, rfl⟩
        go_wp2_with fail
        refine (HEN.out _).mono ?_
        rintro e w2 ⟨rfl, hb2⟩
        have HB2 := Lib.hid hb2
        clear hb2
        go_wp2_with fail
        go_ret2
        exact ⟨rfl, HB2.out⟩
  · have h4 : ¬ (6 : Int) ≤ ((bs (a :: 117 :: r)).size : Int) := by omega
    have hrb : rbV (a :: 117 :: r) = ([], 0) := by
      show (if 4 ≤ r.length then _ else _) = _
      rw [if_neg hl]
    rw [hrb]
    clear hrb hsz hl
    generalize bs (a :: 117 :: r) = D at *
    go_enter Tryz.func265, Tryz.ntmps265
    go_wp2_with fail
    go_ret2
    exact ⟨rfl, Below.refl _ _⟩
theorem rb_any (l : List UInt8) (hl : l.length ≤ 200000) (w : World) : Calls Tryz.prog 265 #[.string (bs l)] w (RbP (rbV l) w) := by
  by_cases h : l.length < 2
  · exact rbx_short l h w
  · match l, hl, h with
    | a :: c :: r, hl, _ =>
      have hr : r.length ≤ 200000 := by simp only [List.length_cons] at hl; omega
      by_cases h1 : c = 110
      · exact rbx_letter a c r hr (.inl h1) w
      by_cases h2 : c = 114
      · exact rbx_letter a c r hr (.inr (.inl h2)) w
      by_cases h3 : c = 116
      · exact rbx_letter a c r hr (.inr (.inr h3)) w
      by_cases h4 : c = 120
      · subst h4; exact rbx_x a r hr w
      by_cases h5 : c = 117
      · subst h5; exact rbx_u a r hr w
      exact rbx_self a c r hr h1 h2 h3 h4 h5 w
    | [], _, h => simp at h
    | [_], _, h => simp at h
def unescN (l : List UInt8) : Nat → Nat → List UInt8 → List UInt8 × Nat × Nat
  | 0, _, acc => (acc, 0, 0)
  | f + 1, i, acc =>
    if i < l.length then
      if l.getD i 0 = 92 then (if (rbV (l.drop i)).2 = 0 then ([], i, 3) else unescN l f (i + (rbV (l.drop i)).2) (acc ++ (rbV (l.drop i)).1))
      else if l.getD i 0 = 10 ∨ l.getD i 0 = 34 then ([], i, 3) else unescN l f (i + 1) (acc ++ [l.getD i 0])
    else (acc, 0, 0)
def unescV (l : List UInt8) : List UInt8 × Nat × Nat := unescN l (l.length + 1) 0 []
theorem unescN_end {l : List UInt8} {i : Nat} (h : ¬ i < l.length) (f : Nat) (acc : List UInt8) : unescN l f i acc = (acc, 0, 0) := by
  cases f with
  | zero => rfl
  | succ f => rw [unescN, if_neg h]
theorem unescN_esc {l : List UInt8} {i : Nat} (h : i < l.length) (hc : l.getD i 0 = 92) (hk : (rbV (l.drop i)).2 ≠ 0) (f : Nat) (acc : List UInt8) :
    unescN l (f + 1) i acc = unescN l f (i + (rbV (l.drop i)).2) (acc ++ (rbV (l.drop i)).1) := by rw [unescN, if_pos h, if_pos hc, if_neg hk]
theorem unescN_bad {l : List UInt8} {i : Nat} (h : i < l.length) (hc : l.getD i 0 = 92) (hk : (rbV (l.drop i)).2 = 0) (f : Nat) (acc : List UInt8) :
    unescN l (f + 1) i acc = ([], i, 3) := by rw [unescN, if_pos h, if_pos hc, if_pos hk]
theorem unescN_forb {l : List UInt8} {i : Nat} (h : i < l.length) (hc : l.getD i 0 ≠ 92) (hk : l.getD i 0 = 10 ∨ l.getD i 0 = 34) (f : Nat) (acc : List UInt8) :
    unescN l (f + 1) i acc = ([], i, 3) := by rw [unescN, if_pos h, if_neg hc, if_pos hk]
theorem unescN_one {l : List UInt8} {i : Nat} (h : i < l.length) (hc : l.getD i 0 ≠ 92) (h1 : l.getD i 0 ≠ 10) (h2 : l.getD i 0 ≠ 34) (f : Nat) (acc : List UInt8) :
    unescN l (f + 1) i acc = unescN l f (i + 1) (acc ++ [l.getD i 0]) := by rw [unescN, if_pos h, if_neg hc, if_neg (fun e => e.elim h1 h2)]
theorem ext_drop (l : List UInt8) (i : Nat) : (bs l).extract i (bs l).size = bs (l.drop i) := by rw [bs_extract, bs_size, List.take_length]
theorem forbid_any (c : UInt8) (w : World) : Calls Tryz.prog 267 #[.int .i64 2, .int .u8 (c.toNat : Int)] w fun e w' => e = .returned (.bool (decide (c = 10 ∨ c = 34))) ∧ w = w' := by
  by_cases h1 : c = 10
  · subst h1
    go_enter Tryz.func267, Tryz.ntmps267
    go_wp2_with fail
    go_ret
    exact ⟨rfl, rfl⟩
  · by_cases h2 : c = 34
    · subst h2
      go_enter Tryz.func267, Tryz.ntmps267
      go_wp2_with fail
      go_ret
      exact ⟨rfl, rfl⟩
    · rw [decide_eq_false (fun e => e.elim h1 h2)]
      exact forbid_no c h1 h2 w
def UnP (x : List UInt8 × Nat × Nat) (w : World) (e : Ending) (w' : World) : Prop := e = .returned (.tuple #[.string (bs x.1), .int .i64 (x.2.1 : Int), .int .i64 (x.2.2 : Int)]) ∧ Below w.heap.size w w'
theorem below_builder {w wr w2 : World} {l : List UInt8} (h : Lib.IsBuilder 82 5 w.heap.size w.heap.size (Lib.byteCells l) wr) (hb : Below wr.heap.size wr w2) : Lib.IsBuilder 82 5 w.heap.size w.heap.size (Lib.byteCells l) w2 := by
  have key : ∀ p, Lib.BuilderAt 82 5 w.heap.size w.heap.size p (Lib.byteCells l) wr → Lib.BuilderAt 82 5 w.heap.size w.heap.size p (Lib.byteCells l) w2 := by
    rintro p ⟨h1, v, h2, h3, h4⟩
    exact ⟨h1, v, (hb.block _ (Array.getElem?_eq_some_iff.1 h2).1).trans h2, own_below2 h3 hb, h4⟩
  exact h.elim (fun h => .inl (key _ h)) (fun h => .inr (key _ h))
set_option maxRecDepth 20000 in
set_option maxHeartbeats 4000000 in
theorem unescape_any (l : List UInt8) (w : World) (hl : l.length ≤ 200000) : Calls Tryz.prog 219 #[.int .i64 2, .string (bs l)] w (UnP (unescV l) w) := by
  have HST := Lib.hid style_any
  have hsz : (bs l).size = l.length := bs_size _
  have HSZ := Lib.hid hsz
  have hle : (bs l).size ≤ 200000 := by omega
  have HAT : Hid (∀ (i : Nat) (g : i < (bs l).size), (bs l)[i]'g = l.getD i 0) := fun i g => ba_at l g
  have HEX := Lib.hid (ext_drop l)
  generalize hS : bs l = S at *
  generalize hX : unescV l = X at *
  have HX0 := Lib.hid hX
  clear hsz hS hX
  go_enter Tryz.func219, Tryz.ntmps219
  go_wp2_with fail
  refine (HST.out _).mono ?_
  rintro e _ ⟨rfl, rfl⟩
  go_wp2_with fail
  refine wp_at_worldH ?_
  intro W hW
  have b1 : Lib.IsBuilder 82 5 w.heap.size w.heap.size (Lib.byteCells []) W := by
    refine .inl ⟨Nat.le_refl _, .slice none 0 0, ?_, World.ownsRow_nil _ _ _ _, by simp [Value.ownBlock]⟩
    rw [hW]
    exact row_new _ _ _
  have HB0 : Hid (Below w.heap.size w W) := by rw [hW]; exact (Below.refl _ _).alloc (Nat.le_refl _) _
  have HB1 := Lib.hid b1
  clear b1 hW
  go_loopw [10] (fun i wr => ∃ (j f : Nat) (acc : List UInt8), j ≤ l.length ∧ acc.length ≤ j ∧ l.length - j < f ∧ unescN l f j acc = X ∧ i = .int .i64 (j : Int) ∧ Lib.IsBuilder 82 5 w.heap.size w.heap.size (Lib.byteCells acc) wr ∧ Below w.heap.size w wr) (fun i _ => l.length - (intOf i).toNat)
  case atStart => exact ⟨0, l.length + 1, [], Nat.zero_le _, Nat.le_refl _, by omega, HX0.out, rfl, HB1.out, HB0.out⟩
  case round =>
    obtain ⟨j, f, acc, hj, hal, hf, hun, rfl, hbu, hbl⟩ := hrel
    obtain ⟨g, rfl⟩ : ∃ g, f = g + 1 := ⟨f - 1, by omega⟩
    have HUN := Lib.hid hun
    have HBU := Lib.hid hbu
    have HBL := Lib.hid hbl
    have HAL := Lib.hid hal
    have HF := Lib.hid hf
    have hzr := hbl.size
    have halS : acc.length ≤ 200000 := by have := HSZ.out; omega
    clear hbu hbl hun hal hf HX0 HB0 HB1
    by_cases hlt : j < l.length
    · have hN : j < S.size := by rw [HSZ.out]; exact hlt
      have hix : ∀ g : j < S.size, S[j]'g = l.getD j 0 := fun g => HAT.out j g
      have HJ := Lib.hid hlt
      by_cases h92 : l.getD j 0 = 92
      · rw [h92] at hix
        have hcut : S.extract j S.size = bs (l.drop j) := HEX.out j
        have hdl : (l.drop j).length = l.length - j := List.length_drop ..
        have HRC := Lib.hid (fun w => rb_any (l.drop j) (by have := HSZ.out; omega) w)
        obtain ⟨q1, q2, q3⟩ := rbV_len (l.drop j)
        rw [hdl] at q2
        by_cases hk : (rbV (l.drop j)).2 = 0
        · have HBAD : Hid (X = ([], j, 3)) := by unfold Hid; rw [← HUN.out]; exact unescN_bad hlt h92 hk g acc
          have hki : ((rbV (l.drop j)).2 : Int) = 0 := by omega
          clear q1 q2 q3 hdl hk h92
          generalize rbV (l.drop j) = R at *
          generalize bs (l.drop j) = E at *
          go_wp2_with fail
          refine (HRC.out _).mono ?_
          rintro e w2 ⟨rfl, hb2⟩
          have HB2 : Hid (Below w.heap.size w w2) := HBL.out.trans (hb2.mono hzr)
          clear hb2
          go_wp2_with fail
          exact bodyPost_ret (v := .tuple #[.string (bs []), .int .i64 (j : Int), .int .i64 3]) (by simp [results, Tryz.f219, go_sem]; rfl) rfl ⟨by rw [HBAD.out]; rfl, HB2.out⟩
        · have HNX : Hid (unescN l g (j + (rbV (l.drop j)).2) (acc ++ (rbV (l.drop j)).1) = X) := by unfold Hid; rw [← HUN.out]; exact (unescN_esc hlt h92 hk g acc).symm
          have hki : (((rbV (l.drop j)).2 : Int) == 0) = false := by simp only [beq_eq_false_iff_ne]; omega
          have hkb : ((rbV (l.drop j)).2 : Int) ≤ 200000 := by have := HSZ.out; omega
          have HQ : Hid (0 < (rbV (l.drop j)).2 ∧ (rbV (l.drop j)).1.length ≤ (rbV (l.drop j)).2 ∧ j + (rbV (l.drop j)).2 ≤ l.length) := ⟨by omega, q3, by omega⟩
          have HST : Hid ((bs (rbV (l.drop j)).1).size = (rbV (l.drop j)).1.length) := bs_size _
          clear q2 q3 hdl hk h92 hlt
          generalize rbV (l.drop j) = R at *
          obtain ⟨Rt, Rk⟩ := R
          simp only at HRC HQ HNX HST hki hkb q1
          generalize bs (l.drop j) = E at *
          go_wp2_with fail
          refine (HRC.out _).mono ?_
          rintro e w2 ⟨rfl, hb2⟩
          have hzx : w.heap.size ≤ w2.heap.size := Nat.le_trans hzr hb2.size
          have HW := Lib.hid (wstring_any w.heap.size w.heap.size _ (bs Rt) w2 (below_builder HBU.out hb2) (by rw [Lib.byteCells_length, HST.out]; omega) hzx)
          have HBX : Hid (Below w.heap.size w w2) := HBL.out.trans (hb2.mono hzr)
          clear hb2
          go_wp2_with fail
          refine HW.out.mono ?_
          rintro e w3 ⟨rfl, hb6, hbl6, _⟩
          have HB6 : Hid (Below w.heap.size w w3) := HBX.out.trans hbl6
          have HU6 : Hid (Lib.IsBuilder 82 5 w.heap.size w.heap.size (Lib.byteCells (acc ++ Rt)) w3) := by
            unfold Hid
            rw [show Lib.byteCells (acc ++ Rt) = Lib.byteCells acc ++ Lib.strCells (bs Rt) by rw [Lib.strCells_eq, bs_data]; simp [Lib.byteCells]]
            exact .inr hb6
          clear hb6 hbl6
          go_wp2_with fail
          go_roundw
          case rel => exact ⟨j + Rk, g, acc ++ Rt, HQ.out.2.2, by have := HAL.out; have := HQ.out.2.1; rw [List.length_append]; omega, by have := HF.out; have := HQ.out; omega, HNX.out, by go_num, HU6.out, HB6.out⟩
          case measure => have := HQ.out; have := HJ.out; simp [intOf]; omega
      · by_cases hfb : l.getD j 0 = 10 ∨ l.getD j 0 = 34
        · have HBAD : Hid (X = ([], j, 3)) := by unfold Hid; rw [← HUN.out]; exact unescN_forb hlt h92 hfb g acc
          have HFB := Lib.hid (fun w => forbid_any (l.getD j 0) w)
          rw [decide_eq_true hfb] at HFB
          have g92 : (((l.getD j 0).toNat : Int) == 92) = false := neU h92
          clear hfb h92 hlt
          generalize l.getD j 0 = c at *
          go_wp2_with fail
          refine (HFB.out _).mono ?_
          rintro e _ ⟨rfl, rfl⟩
          go_wp2_with fail
          exact bodyPost_ret (v := .tuple #[.string (bs []), .int .i64 (j : Int), .int .i64 3]) (by simp [results, Tryz.f219, go_sem]; rfl) rfl ⟨by rw [HBAD.out]; rfl, HBL.out⟩
        · have HNX : Hid (unescN l g (j + 1) (acc ++ [l.getD j 0]) = X) := by unfold Hid; rw [← HUN.out]; exact (unescN_one hlt h92 (fun e => hfb (.inl e)) (fun e => hfb (.inr e)) g acc).symm
          have HFB := Lib.hid (fun w => forbid_any (l.getD j 0) w)
          rw [decide_eq_false hfb] at HFB
          have g92 : (((l.getD j 0).toNat : Int) == 92) = false := neU h92
          have HWB := Lib.hid (wbyte_any w.heap.size w.heap.size (Lib.byteCells acc) ((l.getD j 0).toNat : Int) wr HBU.out (by rw [Lib.byteCells_length]; omega) hzr)
          clear hfb h92
          generalize l.getD j 0 = c at *
          go_wp2_with fail
          refine (HFB.out _).mono ?_
          rintro e _ ⟨rfl, rfl⟩
          go_wp2_with fail
          refine HWB.out.mono ?_
          rintro e w3 ⟨rfl, hb6, hbl6⟩
          have HB6 : Hid (Below w.heap.size w w3) := HBL.out.trans hbl6
          have HU6 : Hid (Lib.IsBuilder 82 5 w.heap.size w.heap.size (Lib.byteCells (acc ++ [c])) w3) := by
            unfold Hid
            rw [show Lib.byteCells (acc ++ [c]) = Lib.byteCells acc ++ [.int .u8 (c.toNat : Int)] by simp [Lib.byteCells]]
            exact .inr hb6
          clear hb6 hbl6
          go_wp2_with fail
          go_roundw
          case rel => exact ⟨j + 1, g, acc ++ [c], hlt, by have := HAL.out; simp; omega, by have := HF.out; omega, HNX.out, by go_num, HU6.out, HB6.out⟩
          case measure => simp [intOf]; omega
    · have HEND : Hid (X = (acc, 0, 0)) := by unfold Hid; rw [← HUN.out]; exact unescN_end hlt (g + 1) acc
      have hN : ¬ j < S.size := by rw [HSZ.out]; exact hlt
      have HS := Lib.hid (Tryz.Builder_String_any_k w.heap.size w.heap.size acc wr (Lib.IsBuilderF.of HBU.out) hzr)
      go_wp2_with fail
      refine HS.out.mono ?_
      rintro e w3 ⟨rfl, _, hbl6, _⟩
      have HB6 : Hid (Below w.heap.size w w3) := HBL.out.trans hbl6
      clear hbl6
      go_wp2_with fail
      exact bodyPost_ret (v := .tuple #[.string (bs acc), .int .i64 0, .int .i64 0]) (by simp [results, Tryz.f219, go_sem]; rfl) rfl ⟨by rw [HEND.out]; rfl, HB6.out⟩
theorem unescN_len (l : List UInt8) : ∀ (f i : Nat) (acc : List UInt8), acc.length ≤ i → i ≤ l.length → (unescN l f i acc).1.length ≤ l.length ∧ (unescN l f i acc).2.1 ≤ l.length
  | 0, i, acc, h1, h2 => ⟨by show acc.length ≤ _; omega, Nat.zero_le _⟩
  | f + 1, i, acc, h1, h2 => by
    by_cases h : i < l.length
    · by_cases hc : l.getD i 0 = 92
      · by_cases hk : (rbV (l.drop i)).2 = 0
        · rw [unescN_bad h hc hk]; exact ⟨Nat.zero_le _, by show i ≤ _; omega⟩
        · rw [unescN_esc h hc hk]
          obtain ⟨_, q2, q3⟩ := rbV_len (l.drop i)
          rw [List.length_drop] at q2
          exact unescN_len l f _ _ (by rw [List.length_append]; omega) (by omega)
      · by_cases hk : l.getD i 0 = 10 ∨ l.getD i 0 = 34
        · rw [unescN_forb h hc hk]; exact ⟨Nat.zero_le _, by show i ≤ _; omega⟩
        · rw [unescN_one h hc (fun e => hk (.inl e)) (fun e => hk (.inr e))]
          exact unescN_len l f _ _ (by simp; omega) (by omega)
    · rw [unescN_end h]; exact ⟨by show acc.length ≤ _; omega, Nat.zero_le _⟩
theorem unescV_len (l : List UInt8) : (unescV l).1.length ≤ l.length ∧ (unescV l).2.1 ≤ l.length := unescN_len l _ 0 [] (Nat.le_refl _) (Nat.zero_le _)
end Go.Proofs.YtmleeodfmmpdgaaGreatDoor
namespace Go.Proofs.YtmleeodfmmpdgaaGreatDoor
open Go.RowKit

end Go.Proofs.YtmleeodfmmpdgaaGreatDoor
namespace Go.Proofs.YtmleeodfmmpdgaaGreatDoor
open Go.RowKit
attribute [local go_sem] Ext.cell Ext.frozen
attribute [local go_sem ↓] Go.wp_at_zero Go.wp_at_succ
theorem ext_one (l : List UInt8) {i : Nat} (h : i < l.length) : (bs l).extract i (i + 1) = bs [l.getD i 0] := by
  rw [bs_extract, List.take_succ_eq_append_getElem h]
  have e : (l.take i).length = i := by rw [List.length_take]; omega
  have k := @List.drop_left _ (l.take i) [l[i]]
  rw [e] at k
  rw [k]
  simp [List.getD, List.getElem?_eq_getElem h]
end Go.Proofs.YtmleeodfmmpdgaaGreatDoor
