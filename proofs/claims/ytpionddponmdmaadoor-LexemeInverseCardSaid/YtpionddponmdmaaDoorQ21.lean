/- Walks: the reference's One. -/
import Derived.Test.YtpionddponmdmaaDoorQ20
namespace Go.Proofs.YtpionddponmdmaaDoor
open Go.RowKit
attribute [local go_sem] Ext.cell Ext.frozen
attribute [local go_sem ↓] Go.wp_at_zero Go.wp_at_succ
theorem conv2H (y z : Int) (b c : UInt8) (hy : y = (b.toNat : Int)) (hz : z = (c.toNat : Int)) (W : World) :
    (convert 35 9 (.slice (some ⟨W.heap.size, 0, none⟩) 2 2)).run Tryd.prog (W.alloc (.cells #[.int .u8 y, .int .u8 z] 5)) = .ok (.string (bs [b, c])) (W.alloc (.cells #[.int .u8 y, .int .u8 z] 5)) := by
  refine run_convert_bytes_back _ 35 9 5 ⟨W.heap.size, 0, none⟩ 2 [b, c] Tryd.underlying35 Tryd.underlying5 Tryd.underlying9 ?_
  intro j hj
  subst hy hz
  match j, hj with
  | 0, _ => simp [go_sem, Addr.add]
  | 1, _ => simp [go_sem, Addr.add]
  | j + 2, hj => exact absurd (show j + 2 < 2 from hj) (by omega)
theorem conv3H (x y z : Int) (a b c : UInt8) (hx : x = (a.toNat : Int)) (hy : y = (b.toNat : Int)) (hz : z = (c.toNat : Int)) (W : World) :
    (convert 35 9 (.slice (some ⟨W.heap.size, 0, none⟩) 3 3)).run Tryd.prog (W.alloc (.cells #[.int .u8 x, .int .u8 y, .int .u8 z] 5)) = .ok (.string (bs [a, b, c])) (W.alloc (.cells #[.int .u8 x, .int .u8 y, .int .u8 z] 5)) := by
  refine run_convert_bytes_back _ 35 9 5 ⟨W.heap.size, 0, none⟩ 3 [a, b, c] Tryd.underlying35 Tryd.underlying5 Tryd.underlying9 ?_
  intro j hj
  subst hx hy hz
  match j, hj with
  | 0, _ => simp [go_sem, Addr.add]
  | 1, _ => simp [go_sem, Addr.add]
  | 2, _ => simp [go_sem, Addr.add]
  | j + 3, hj => exact absurd (show j + 3 < 3 from hj) (by omega)
theorem u8_of {k : Nat} (h : k < 256) : ((UInt8.ofNat k).toNat : Int) = (k : Int) := by rw [UInt8.toNat_ofNat_of_lt' (by simpa using h)]
theorem u8_ex (k : Nat) (h : k < 256) : ∃ A : UInt8, UInt8.ofNat k = A ∧ (A.toNat : Int) = (k : Int) := ⟨_, rfl, u8_of h⟩
set_option maxRecDepth 20000 in
set_option maxHeartbeats 4000000 in
theorem rone_any (n : Nat) (hn : n ≤ 65535) (w : World) : Calls Tryd.prog 62 #[.int .i64 (n : Int)] w fun e w' => e = .returned (.string (bs (oneV n))) ∧ Below w.heap.size w w' := by
  by_cases h1 : n ≤ 127
  · have g1 : (n : Int) < 128 := by omega
    have HE : Hid (oneV n = [UInt8.ofNat n]) := by unfold Hid oneV; rw [if_pos h1]
    have hcv := convH (n : Int) (UInt8.ofNat n) (u8_of (by omega)).symm
    go_enter Tryd.func62, Tryd.ntmps62
    go_wp2_with fail
    go_ret
    exact ⟨by rw [HE.out]; rfl, (Below.refl _ _).alloc (Nat.le_refl _) _⟩
  · have g1 : ¬ (n : Int) < 128 := by omega
    by_cases h2 : n ≤ 2047
    · have g2 : (n : Int) < 2048 := by omega
      have HE : Hid (oneV n = [UInt8.ofNat (192 + n / 64), UInt8.ofNat (128 + n % 64)]) := by unfold Hid oneV; rw [if_neg h1, if_pos h2]
      obtain ⟨A, ha, ha2⟩ := u8_ex (192 + n / 64) (by omega)
      obtain ⟨B, hb, hb2⟩ := u8_ex (128 + n % 64) (by omega)
      rw [ha, hb] at HE
      have hcv := conv2H (192 + (n : Int) / 64) (128 + (n : Int) % 64) A B (by omega) (by omega)
      clear ha ha2 hb hb2
      go_enter Tryd.func62, Tryd.ntmps62
      go_wp2_with fail
      go_ret
      exact ⟨by rw [HE.out]; rfl, (Below.refl _ _).alloc (Nat.le_refl _) _⟩
    · have g2 : ¬ (n : Int) < 2048 := by omega
      have g3 : (n : Int) < 65536 := by omega
      have HE : Hid (oneV n = [UInt8.ofNat (224 + n / 4096), UInt8.ofNat (128 + n / 64 % 64), UInt8.ofNat (128 + n % 64)]) := by unfold Hid oneV; rw [if_neg h1, if_neg h2]
      obtain ⟨A, ha, ha2⟩ := u8_ex (224 + n / 4096) (by omega)
      obtain ⟨B, hb, hb2⟩ := u8_ex (128 + n / 64 % 64) (by omega)
      obtain ⟨C, hc, hc2⟩ := u8_ex (128 + n % 64) (by omega)
      rw [ha, hb, hc] at HE
      have hcv := conv3H (224 + (n : Int) / 4096) (128 + (n : Int) / 64 % 64) (128 + (n : Int) % 64) A B C (by omega) (by omega) (by omega)
      clear ha ha2 hb hb2 hc hc2
      go_enter Tryd.func62, Tryd.ntmps62
      go_wp2_with fail
      go_ret
      exact ⟨by rw [HE.out]; rfl, (Below.refl _ _).alloc (Nat.le_refl _) _⟩
end Go.Proofs.YtpionddponmdmaaDoor
/- Walks: the reference's backslash, of any string. -/
namespace Go.Proofs.YtpionddponmdmaaDoor
open Go.RowKit
attribute [local go_sem] Ext.cell Ext.frozen
attribute [local go_sem ↓] Go.wp_at_zero Go.wp_at_succ
set_option maxRecDepth 20000 in
set_option maxHeartbeats 4000000 in
theorem rbr_short (l : List UInt8) (h : l.length < 2) (w : World) : Calls Tryd.prog 44 #[.string (bs l)] w (RbP (rbV l) w) := by
  have e : rbV l = ([], 0) := by
    match l, h with
    | [], _ => rfl
    | [_], _ => rfl
    | _ :: _ :: _, h => simp at h; omega
  have hs : ((bs l).size : Int) < 2 := by rw [bs_size]; omega
  rw [e]
  generalize bs l = D at *
  go_enter Tryd.func44, Tryd.ntmps44
  go_wp2_with fail
  go_ret2
  exact ⟨rfl, Below.refl _ _⟩
set_option maxRecDepth 20000 in
set_option maxHeartbeats 4000000 in
theorem rbr_letter (a : UInt8) (c : UInt8) (r : List UInt8) (hr : r.length ≤ 100000) (h : c = 110 ∨ c = 114 ∨ c = 116) (w : World) :
    Calls Tryd.prog 44 #[.string (bs (a :: c :: r))] w (RbP (rbV (a :: c :: r)) w) := by
  have hsz : (bs (a :: c :: r)).size = r.length + 2 := by rw [bs_size]; simp
  have hs : ¬ ((bs (a :: c :: r)).size : Int) < 2 := by omega
  have hle : (bs (a :: c :: r)).size ≤ 1000000 := by omega
  have hb : 1 < (bs (a :: c :: r)).size := by omega
  have hx : ∀ g : 1 < (bs (a :: c :: r)).size, (bs (a :: c :: r))[1]'g = c := fun _ => rfl
  have HRB : Hid ((c = 110 → rbV (a :: c :: r) = ([10], 2)) ∧ (c = 114 → rbV (a :: c :: r) = ([13], 2)) ∧ (c = 116 → rbV (a :: c :: r) = ([9], 2))) :=
    ⟨fun e => by subst e; rfl, fun e => by subst e; rfl, fun e => by subst e; rfl⟩
  generalize rbV (a :: c :: r) = RB at *
  rcases h with h | h | h
  all_goals
    subst h
    obtain ⟨r1, r2, r3⟩ := HRB.out
    first | (have e := r1 rfl) | (have e := r2 rfl) | (have e := r3 rfl)
    subst e
    clear HRB r1 r2 r3 hsz
    generalize bs (_ :: _ :: r) = D at *
    go_enter Tryd.func44, Tryd.ntmps44
    go_wp2_with fail
    go_ret2
    exact ⟨rfl, Below.refl _ _⟩
set_option maxRecDepth 20000 in
set_option maxHeartbeats 4000000 in
theorem rbr_self (a : UInt8) (c : UInt8) (r : List UInt8) (hr : r.length ≤ 100000) (h110 : c ≠ 110) (h114 : c ≠ 114) (h116 : c ≠ 116) (h120 : c ≠ 120) (h117 : c ≠ 117) (w : World) :
    Calls Tryd.prog 44 #[.string (bs (a :: c :: r))] w (RbP (rbV (a :: c :: r)) w) := by
  have hsz : (bs (a :: c :: r)).size = r.length + 2 := by rw [bs_size]; simp
  have hs : ¬ ((bs (a :: c :: r)).size : Int) < 2 := by omega
  have hle : (bs (a :: c :: r)).size ≤ 1000000 := by omega
  have hb : 1 < (bs (a :: c :: r)).size := by omega
  have hx : ∀ g : 1 < (bs (a :: c :: r)).size, (bs (a :: c :: r))[1]'g = c := fun _ => rfl
  have n110 : ((c.toNat : Int) == 110) = false := neU h110
  have n114 : ((c.toNat : Int) == 114) = false := neU h114
  have n116 : ((c.toNat : Int) == 116) = false := neU h116
  have n120 : ((c.toNat : Int) == 120) = false := neU h120
  have n117 : ((c.toNat : Int) == 117) = false := neU h117
  have HIN := Lib.hid (fun w => rin_any c selfs (by decide) w)
  replace HIN : Hid (∀ w, Calls Tryd.prog 46 #[.int .u8 (c.toNat : Int), .string ⟨#[92, 34, 61, 58, 35, 33, 123, 125, 32]⟩] w fun e w' => e = .returned (.bool (decide (c ∈ selfs))) ∧ w = w') := HIN
  have hcut : (bs (a :: c :: r)).extract 1 2 = bs [c] := by rw [bs_extract]; rfl
  have hb2 : 2 ≤ (bs (a :: c :: r)).size := by omega
  have hrb : rbV (a :: c :: r) = if c ∈ selfs then ([c], 2) else ([], 0) := by
    show (if c = 110 then _ else _) = _
    rw [if_neg h110, if_neg h114, if_neg h116, if_neg h120, if_neg h117]
  rcases self_cases c with ⟨h1, h2⟩ | ⟨h1, h2⟩
  · rw [if_pos h1] at hrb
    rw [hrb]
    rw [decide_eq_true h1] at HIN
    clear hsz hrb h1 h2 h110 h114 h116 h120 h117
    generalize bs (a :: c :: r) = D at *
    go_enter Tryd.func44, Tryd.ntmps44
    go_wp2_with fail
    refine (HIN.out _).mono ?_
    rintro e _ ⟨rfl, rfl⟩
    go_wp2_with fail
    go_ret2
    exact ⟨rfl, Below.refl _ _⟩
  · rw [if_neg h1] at hrb
    rw [hrb]
    rw [decide_eq_false h1] at HIN
    clear hsz hrb h1 h2 hcut h110 h114 h116 h120 h117
    generalize bs (a :: c :: r) = D at *
    go_enter Tryd.func44, Tryd.ntmps44
    go_wp2_with fail
    refine (HIN.out _).mono ?_
    rintro e _ ⟨rfl, rfl⟩
    go_wp2_with fail
    go_ret2
    exact ⟨rfl, Below.refl _ _⟩
set_option maxRecDepth 20000 in
set_option maxHeartbeats 4000000 in
theorem rbr_x (a : UInt8) (r : List UInt8) (hr : r.length ≤ 100000) (w : World) :
    Calls Tryd.prog 44 #[.string (bs (a :: 120 :: r))] w (RbP (rbV (a :: 120 :: r)) w) := by
  have hsz : (bs (a :: 120 :: r)).size = r.length + 2 := by rw [bs_size]; simp
  have hs : ¬ ((bs (a :: 120 :: r)).size : Int) < 2 := by omega
  have hle : (bs (a :: 120 :: r)).size ≤ 1000000 := by omega
  have hb : 1 < (bs (a :: 120 :: r)).size := by omega
  have hx : ∀ g : 1 < (bs (a :: 120 :: r)).size, (bs (a :: 120 :: r))[1]'g = 120 := fun _ => rfl
  have HIN : Hid (∀ w, Calls Tryd.prog 46 #[.int .u8 120, .string ⟨#[92, 34, 61, 58, 35, 33, 123, 125, 32]⟩] w fun e w' => e = .returned (.bool false) ∧ w = w') := fun w => rin_any 120 selfs (by decide) w
  by_cases hl : 2 ≤ r.length
  · have h4 : (4 : Int) ≤ ((bs (a :: 120 :: r)).size : Int) := by omega
    have h4n : 4 ≤ (bs (a :: 120 :: r)).size := by omega
    have hcut : (bs (a :: 120 :: r)).extract 2 4 = bs (r.take 2) := by rw [bs_extract]; rfl
    have hlen : (r.take 2).length = 2 := by rw [List.length_take]; omega
    have HDG0 := Lib.hid (fun (h : r.take 2 ≠ []) w => rnumber_any (r.take 2) (by omega) h w)
    have hne : (r.take 2).isEmpty = false := by
      cases h : r.take 2 with
      | nil => rw [h] at hlen; cases hlen
      | cons _ _ => rfl
    have HDG := Lib.hid (HDG0.out (fun e => by rw [e] at hne; cases hne))
    clear HDG0
    cases hn : numV (r.take 2) with
    | none =>
      have hrb : rbV (a :: 120 :: r) = ([], 0) := by
        show (if 2 ≤ r.length then _ else _) = _
        rw [if_pos hl, hn]
      rw [hrb]
      have hnI : numI (r.take 2) = -1 := by unfold numI; rw [hn]
      rw [hnI] at HDG
      clear hnI hn hrb hsz hlen hne
      generalize bs (a :: 120 :: r) = D at *
      generalize bs (r.take 2) = U at *
      go_enter Tryd.func44, Tryd.ntmps44
      go_wp2_with fail
      refine (HIN.out _).mono ?_
      rintro e _ ⟨rfl, rfl⟩
      go_wp2_with fail
      refine (HDG.out _).mono ?_
      rintro e _ ⟨rfl, rfl⟩
      go_wp2_with fail
      go_ret2
      exact ⟨rfl, Below.refl _ _⟩
    | some n =>
      have hlt := numV_lt hn
      rw [hlen] at hlt
      have hnI : numI (r.take 2) = (n : Int) := by unfold numI; rw [hn]
      rw [hnI] at HDG
      clear hnI
      by_cases h7 : n ≤ 127
      · have h7i : (n : Int) ≤ 127 := by omega
        have hrb : rbV (a :: 120 :: r) = ([UInt8.ofNat n], 4) := by
          show (if 2 ≤ r.length then _ else _) = _
          rw [if_pos hl, hn]
          show (if n ≤ 127 then _ else _) = _
          rw [if_pos h7]
        rw [hrb]
        have hcv := convH (n : Int) (UInt8.ofNat n) (by rw [UInt8.toNat_ofNat_of_lt' (by omega)])
        clear hn hrb hsz hlen hne hlt
        generalize bs (a :: 120 :: r) = D at *
        generalize bs (r.take 2) = U at *
        go_enter Tryd.func44, Tryd.ntmps44
        go_wp2_with fail
        refine (HIN.out _).mono ?_
        rintro e _ ⟨rfl, rfl⟩
        go_wp2_with fail
        refine (HDG.out _).mono ?_
        rintro e _ ⟨rfl, rfl⟩
        go_wp2_with fail
        go_ret2
        exact ⟨rfl, (Below.refl _ _).alloc (Nat.le_refl _) _⟩
      · have h7i : ¬ (n : Int) ≤ 127 := by omega
        have hrb : rbV (a :: 120 :: r) = ([], 0) := by
          show (if 2 ≤ r.length then _ else _) = _
          rw [if_pos hl, hn]
          show (if n ≤ 127 then _ else _) = _
          rw [if_neg h7]
        rw [hrb]
        clear hn hrb hsz hlen hne hlt
        generalize bs (a :: 120 :: r) = D at *
        generalize bs (r.take 2) = U at *
        go_enter Tryd.func44, Tryd.ntmps44
        go_wp2_with fail
        refine (HIN.out _).mono ?_
        rintro e _ ⟨rfl, rfl⟩
        go_wp2_with fail
        refine (HDG.out _).mono ?_
        rintro e _ ⟨rfl, rfl⟩
        go_wp2_with fail
        go_ret2
        exact ⟨rfl, Below.refl _ _⟩
  · have h4 : ¬ (4 : Int) ≤ ((bs (a :: 120 :: r)).size : Int) := by omega
    have hrb : rbV (a :: 120 :: r) = ([], 0) := by
      show (if 2 ≤ r.length then _ else _) = _
      rw [if_neg hl]
    rw [hrb]
    clear hrb hsz hl
    generalize bs (a :: 120 :: r) = D at *
    go_enter Tryd.func44, Tryd.ntmps44
    go_wp2_with fail
    refine (HIN.out _).mono ?_
    rintro e _ ⟨rfl, rfl⟩
    go_wp2_with fail
    go_ret2
    exact ⟨rfl, Below.refl _ _⟩
set_option maxRecDepth 20000 in
set_option maxHeartbeats 4000000 in
theorem rbr_u (a : UInt8) (r : List UInt8) (hr : r.length ≤ 100000) (w : World) :
    Calls Tryd.prog 44 #[.string (bs (a :: 117 :: r))] w (RbP (rbV (a :: 117 :: r)) w) := by
  have hsz : (bs (a :: 117 :: r)).size = r.length + 2 := by rw [bs_size]; simp
  have hs : ¬ ((bs (a :: 117 :: r)).size : Int) < 2 := by omega
  have hle : (bs (a :: 117 :: r)).size ≤ 1000000 := by omega
  have hb : 1 < (bs (a :: 117 :: r)).size := by omega
  have hx : ∀ g : 1 < (bs (a :: 117 :: r)).size, (bs (a :: 117 :: r))[1]'g = 117 := fun _ => rfl
  have HIN : Hid (∀ w, Calls Tryd.prog 46 #[.int .u8 117, .string ⟨#[92, 34, 61, 58, 35, 33, 123, 125, 32]⟩] w fun e w' => e = .returned (.bool false) ∧ w = w') := fun w => rin_any 117 selfs (by decide) w
  by_cases hl : 4 ≤ r.length
  · have h4 : (6 : Int) ≤ ((bs (a :: 117 :: r)).size : Int) := by omega
    have h4n : 6 ≤ (bs (a :: 117 :: r)).size := by omega
    have hcut : (bs (a :: 117 :: r)).extract 2 6 = bs (r.take 4) := by rw [bs_extract]; rfl
    have hlen : (r.take 4).length = 4 := by rw [List.length_take]; omega
    have HDG0 := Lib.hid (fun (h : r.take 4 ≠ []) w => rnumber_any (r.take 4) (by omega) h w)
    have hne : (r.take 4).isEmpty = false := by
      cases h : r.take 4 with
      | nil => rw [h] at hlen; cases hlen
      | cons _ _ => rfl
    have HDG := Lib.hid (HDG0.out (fun e => by rw [e] at hne; cases hne))
    clear HDG0
    cases hn : numV (r.take 4) with
    | none =>
      have hrb : rbV (a :: 117 :: r) = ([], 0) := by
        show (if 4 ≤ r.length then _ else _) = _
        rw [if_pos hl, hn]
      rw [hrb]
      have hnI : numI (r.take 4) = -1 := by unfold numI; rw [hn]
      rw [hnI] at HDG
      clear hnI hn hrb hsz hlen hne
      generalize bs (a :: 117 :: r) = D at *
      generalize bs (r.take 4) = U at *
      go_enter Tryd.func44, Tryd.ntmps44
      go_wp2_with fail
      refine (HIN.out _).mono ?_
      rintro e _ ⟨rfl, rfl⟩
      go_wp2_with fail
      refine (HDG.out _).mono ?_
      rintro e _ ⟨rfl, rfl⟩
      go_wp2_with fail
      go_ret2
      exact ⟨rfl, Below.refl _ _⟩
    | some n =>
      have hlt := numV_lt hn
      rw [hlen] at hlt
      have hnI : numI (r.take 4) = (n : Int) := by unfold numI; rw [hn]
      rw [hnI] at HDG
      clear hnI
      have hlt4 : n ≤ 65535 := by omega
      have HPN := Lib.hid (fun w => rpoint_any n hlt4 w)
      have HEN := Lib.hid (fun w => rone_any n hlt4 w)
      cases hp : pointB n
      · have hrb : rbV (a :: 117 :: r) = ([], 0) := by
          show (if 4 ≤ r.length then _ else _) = _
          rw [if_pos hl, hn]
          show (if pointB n = true then _ else _) = _
          rw [hp]
          rfl
        rw [hrb]
        rw [hp] at HPN
        clear hn hrb hsz hlen hne hlt hp
        generalize bs (a :: 117 :: r) = D at *
        generalize bs (r.take 4) = U at *
        go_enter Tryd.func44, Tryd.ntmps44
        go_wp2_with fail
        refine (HIN.out _).mono ?_
        rintro e _ ⟨rfl, rfl⟩
        go_wp2_with fail
        refine (HDG.out _).mono ?_
        rintro e _ ⟨rfl, rfl⟩
        go_wp2_with fail
        refine (HPN.out _).mono ?_
        rintro e _ ⟨rfl, rfl⟩
        go_wp2_with fail
        go_ret2
        exact ⟨rfl, Below.refl _ _⟩
      · have HEV : Hid (encV n = oneV n) := by unfold Hid encV; rw [hp]; rfl
        have hrb : rbV (a :: 117 :: r) = (encV n, 6) := by
          show (if 4 ≤ r.length then _ else _) = _
          rw [if_pos hl, hn]
          show (if pointB n = true then _ else _) = _
          rw [hp]
          rfl
        rw [hrb]
        rw [hp] at HPN
        clear hn hrb hsz hlen hne hlt hp
        generalize bs (a :: 117 :: r) = D at *
        generalize bs (r.take 4) = U at *
        go_enter Tryd.func44, Tryd.ntmps44
        go_wp2_with fail
        refine (HIN.out _).mono ?_
        rintro e _ ⟨rfl, rfl⟩
        go_wp2_with fail
        refine (HDG.out _).mono ?_
        rintro e _ ⟨rfl, rfl⟩
        go_wp2_with fail
        refine (HPN.out _).mono ?_
        rintro e _ ⟨rfl, rfl⟩
        go_wp2_with fail
        refine (HEN.out _).mono ?_
        rintro e w2 ⟨rfl, hb2⟩
        have HB2 := Lib.hid hb2
        clear hb2
        go_wp2_with fail
        go_ret2
        exact ⟨by rw [HEV.out]; rfl, HB2.out⟩
  · have h4 : ¬ (6 : Int) ≤ ((bs (a :: 117 :: r)).size : Int) := by omega
    have hrb : rbV (a :: 117 :: r) = ([], 0) := by
      show (if 4 ≤ r.length then _ else _) = _
      rw [if_neg hl]
    rw [hrb]
    clear hrb hsz hl
    generalize bs (a :: 117 :: r) = D at *
    go_enter Tryd.func44, Tryd.ntmps44
    go_wp2_with fail
    refine (HIN.out _).mono ?_
    rintro e _ ⟨rfl, rfl⟩
    go_wp2_with fail
    go_ret2
    exact ⟨rfl, Below.refl _ _⟩
theorem rback_any (l : List UInt8) (hl : l.length ≤ 100000) (w : World) : Calls Tryd.prog 44 #[.string (bs l)] w (RbP (rbV l) w) := by
  by_cases h : l.length < 2
  · exact rbr_short l h w
  · match l, hl, h with
    | a :: c :: r, hl, _ =>
      have hr : r.length ≤ 100000 := by simp only [List.length_cons] at hl; omega
      by_cases h1 : c = 110
      · exact rbr_letter a c r hr (.inl h1) w
      by_cases h2 : c = 114
      · exact rbr_letter a c r hr (.inr (.inl h2)) w
      by_cases h3 : c = 116
      · exact rbr_letter a c r hr (.inr (.inr h3)) w
      by_cases h4 : c = 120
      · subst h4; exact rbr_x a r hr w
      by_cases h5 : c = 117
      · subst h5; exact rbr_u a r hr w
      exact rbr_self a c r hr h1 h2 h3 h4 h5 w
    | [], _, h => simp at h
    | [_], _, h => simp at h
end Go.Proofs.YtpionddponmdmaaDoor
