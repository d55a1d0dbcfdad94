/- Plain: an escaped string is read back. -/
import Derived.Test.YtpionddponmdmaaDoorQ19
import Derived.Test.YtpionddponmdmaaDoorQ18
namespace Go.Proofs.YtpionddponmdmaaDoor
open Go.RowKit
theorem num_hex : ∀ f : Fin 128, numV [hexD (f.1 / 16), hexD (f.1 % 16)] = some f.1 := by decide +kernel
theorem rbV_x (a : UInt8) (r : List UInt8) (h : 2 ≤ r.length) : rbV (a :: 120 :: r) = (match numV (r.take 2) with | some n => if n ≤ 127 then (([UInt8.ofNat n], 4) : List UInt8 × Nat) else ([], 0) | none => ([], 0)) := by
  show (if 2 ≤ r.length then _ else _) = _
  rw [if_pos h]
  cases numV (r.take 2) <;> rfl
theorem rbV_esc (c : UInt8) : (escC c = [c] ∧ c ≠ 92 ∧ c ≠ 10 ∧ c ≠ 34) ∨ ((∃ tl, escC c = 92 :: tl) ∧ ∀ R : List UInt8, rbV (escC c ++ R) = ([c], (escC c).length)) := by
  unfold escC
  split
  · rename_i h; subst h; exact .inr ⟨⟨_, rfl⟩, fun R => rfl⟩
  · split
    · rename_i h; subst h; exact .inr ⟨⟨_, rfl⟩, fun R => rfl⟩
    · split
      · rename_i h; subst h; exact .inr ⟨⟨_, rfl⟩, fun R => rfl⟩
      · split
        · rename_i h; subst h; exact .inr ⟨⟨_, rfl⟩, fun R => rfl⟩
        · split
          · rename_i h; subst h; exact .inr ⟨⟨_, rfl⟩, fun R => rfl⟩
          · split
            · rename_i h
              refine .inr ⟨⟨_, rfl⟩, fun R => ?_⟩
              have hc : c.toNat < 128 := by omega
              have hn := num_hex ⟨c.toNat, hc⟩
              have hl : 2 ≤ (hexD (c.toNat / 16) :: hexD (c.toNat % 16) :: R).length := by simp
              show rbV (92 :: 120 :: (hexD (c.toNat / 16) :: hexD (c.toNat % 16) :: R)) = _
              rw [rbV_x _ _ hl]
              show (match numV [hexD (c.toNat / 16), hexD (c.toNat % 16)] with | some n => if n ≤ 127 then (([UInt8.ofNat n], 4) : List UInt8 × Nat) else ([], 0) | none => ([], 0)) = ([c], 4)
              rw [hn]
              show (if c.toNat ≤ 127 then (([UInt8.ofNat c.toNat], 4) : List UInt8 × Nat) else ([], 0)) = ([c], 4)
              rw [if_pos (by omega)]
              simp
            · rename_i h1 h2 _ _ h3 _; exact .inl ⟨rfl, h1, h2, h3⟩
theorem getD_split (A T : List UInt8) (h : UInt8) : (A ++ h :: T).getD A.length 0 = h := by simp [List.getD]
theorem unescN_esc_of (x : List UInt8) : ∀ (m j f : Nat), x.length - j = m → j ≤ x.length → (escS x).length - (escS (x.take j)).length < f → unescN (escS x) f (escS (x.take j)).length (x.take j) = (x, 0, 0)
  | 0, j, f, hm, hj, hf => by
    obtain rfl : j = x.length := by omega
    rw [List.take_length, unescN_end (Nat.lt_irrefl _)]
  | m + 1, j, f, hm, hj, hf => by
    have hlt : j < x.length := by omega
    have hsp := escS_split x hlt
    have htk := escS_take x j hlt
    have htx : x.take (j + 1) = x.take j ++ [x.getD j 0] := by
      rw [List.take_succ_eq_append_getElem hlt]
      simp [List.getD, List.getElem?_eq_getElem hlt]
    have hR : ∃ R, escS (x.drop (j + 1)) = R := ⟨_, rfl⟩
    obtain ⟨R, hR⟩ := hR
    rw [hR] at hsp
    obtain ⟨c, hc⟩ : ∃ c, x.getD j 0 = c := ⟨_, rfl⟩
    rw [hc] at hsp htk htx
    have hlen : (escS x).length = (escS (x.take j)).length + ((escC c).length + R.length) := by rw [hsp, List.length_append, List.length_append]
    have hpos : 1 ≤ (escC c).length := by
      rcases rbV_esc c with ⟨e, _⟩ | ⟨⟨tl, e⟩, _⟩ <;> rw [e] <;> simp
    obtain ⟨g, rfl⟩ : ∃ g, f = g + 1 := ⟨f - 1, by omega⟩
    have hi : (escS (x.take j)).length < (escS x).length := by omega
    have htl : (escS (x.take (j + 1))).length = (escS (x.take j)).length + (escC c).length := by rw [htk, List.length_append]
    have ih := unescN_esc_of x m (j + 1) g (by omega) hlt (by omega)
    rw [htl, htx] at ih
    rcases rbV_esc c with ⟨e, n1, n2, n3⟩ | ⟨⟨tl, e⟩, hrb⟩
    · have hg : (escS x).getD (escS (x.take j)).length 0 = c := by rw [hsp, e]; exact getD_split _ R c
      rw [unescN_one hi (by rw [hg]; exact n1) (by rw [hg]; exact n2) (by rw [hg]; exact n3), hg]
      rw [e] at ih
      exact ih
    · have hg : (escS x).getD (escS (x.take j)).length 0 = 92 := by rw [hsp, e]; exact getD_split _ (tl ++ R) 92
      have hd : (escS x).drop (escS (x.take j)).length = escC c ++ R := by rw [hsp, List.drop_left]
      rw [unescN_esc hi hg (by rw [hd, hrb]; show (escC c).length ≠ 0; omega), hd, hrb]
      exact ih
theorem unescV_esc (x : List UInt8) : unescV (escS x) = (x, 0, 0) := unescN_esc_of x x.length 0 _ rfl (Nat.zero_le _) (by show (escS x).length - 0 < (escS x).length + 1; omega)
end Go.Proofs.YtpionddponmdmaaDoor
/- Walks: the reference's digits, In, Point and One. -/
namespace Go.Proofs.YtpionddponmdmaaDoor
open Go.RowKit
attribute [local go_sem] Ext.cell Ext.frozen
attribute [local go_sem ↓] Go.wp_at_zero Go.wp_at_succ
def digI (c : UInt8) : Int := match hexV c with
  | some d => (d : Int)
  | none => -1
theorem hexV_lt {c : UInt8} {d : Nat} (h : hexV c = some d) : d < 16 := by
  rcases hex_cases c with ⟨h1, _, _⟩ | ⟨e, h1, h2, _, _⟩ | ⟨e, h1, h2, _⟩
  · rw [h] at h1; cases h1
  · rw [h] at h2; injection h2 with h2; omega
  · rw [h] at h2; injection h2 with h2; omega
set_option maxRecDepth 20000 in
set_option maxHeartbeats 4000000 in
theorem rdigit_any (c : UInt8) (w : World) : Calls Tryd.prog 80 #[.int .u8 (c.toNat : Int), .int .i64 16] w fun e w' => e = .returned (.int .i64 (digI c)) ∧ w = w' := by
  have hz : c.toNat < 256 := c.toNat_lt
  have hcs : c.toNat < 48 ∨ (48 ≤ c.toNat ∧ c.toNat ≤ 57) ∨ (57 < c.toNat ∧ c.toNat < 65) ∨ (65 ≤ c.toNat ∧ c.toNat ≤ 70) ∨ (70 < c.toNat ∧ c.toNat < 97) ∨ (97 ≤ c.toNat ∧ c.toNat ≤ 102) ∨ 102 < c.toNat := by omega
  have HD : Hid (digI c = if 48 ≤ c.toNat ∧ c.toNat ≤ 57 then (c.toNat : Int) - 48 else if 97 ≤ c.toNat ∧ c.toNat ≤ 102 then (c.toNat : Int) - 97 + 10 else if 65 ≤ c.toNat ∧ c.toNat ≤ 70 then (c.toNat : Int) - 65 + 10 else -1) := by
    unfold Hid digI hexV
    by_cases a1 : 48 ≤ c.toNat ∧ c.toNat ≤ 57
    · rw [if_pos a1, if_pos a1]; show ((c.toNat - 48 : Nat) : Int) = _; omega
    · rw [if_neg a1, if_neg a1]
      by_cases a2 : 97 ≤ c.toNat ∧ c.toNat ≤ 102
      · rw [if_pos a2, if_pos a2]; show ((c.toNat - 87 : Nat) : Int) = _; omega
      · rw [if_neg a2, if_neg a2]
        by_cases a3 : 65 ≤ c.toNat ∧ c.toNat ≤ 70
        · rw [if_pos a3, if_pos a3]; show ((c.toNat - 55 : Nat) : Int) = _; omega
        · rw [if_neg a3, if_neg a3]
  rcases hcs with h | ⟨h, h'⟩ | ⟨h, h'⟩ | ⟨h, h'⟩ | ⟨h, h'⟩ | ⟨h, h'⟩ | h
  · have g0 : ¬ (48 : Int) ≤ (c.toNat : Int) := by omega
    have g1 : (c.toNat : Int) ≤ 57 := by omega
    have g2 : ¬ (97 : Int) ≤ (c.toNat : Int) := by omega
    have g3 : (c.toNat : Int) ≤ 102 := by omega
    have g4 : ¬ (65 : Int) ≤ (c.toNat : Int) := by omega
    have g5 : (c.toNat : Int) ≤ 70 := by omega
    have HV := HD.out
    rw [if_neg (by omega), if_neg (by omega), if_neg (by omega)] at HV
    rw [HV]
    clear HV HD h
    go_enter Tryd.func80, Tryd.ntmps80
    go_wp2_with fail
    go_ret
    exact ⟨rfl, rfl⟩
  · have g0 : (48 : Int) ≤ (c.toNat : Int) := by omega
    have g1 : (c.toNat : Int) ≤ 57 := by omega
    have g2 : ¬ (97 : Int) ≤ (c.toNat : Int) := by omega
    have g3 : (c.toNat : Int) ≤ 102 := by omega
    have g4 : ¬ (65 : Int) ≤ (c.toNat : Int) := by omega
    have g5 : (c.toNat : Int) ≤ 70 := by omega
    have HV := HD.out
    rw [if_pos ⟨h, h'⟩] at HV
    rw [HV]
    clear HV HD h h'
    go_enter Tryd.func80, Tryd.ntmps80
    go_wp2_with fail
    go_ret
    exact ⟨rfl, rfl⟩
  · have g0 : (48 : Int) ≤ (c.toNat : Int) := by omega
    have g1 : ¬ (c.toNat : Int) ≤ 57 := by omega
    have g2 : ¬ (97 : Int) ≤ (c.toNat : Int) := by omega
    have g3 : (c.toNat : Int) ≤ 102 := by omega
    have g4 : ¬ (65 : Int) ≤ (c.toNat : Int) := by omega
    have g5 : (c.toNat : Int) ≤ 70 := by omega
    have HV := HD.out
    rw [if_neg (by omega), if_neg (by omega), if_neg (by omega)] at HV
    rw [HV]
    clear HV HD h h'
    go_enter Tryd.func80, Tryd.ntmps80
    go_wp2_with fail
    go_ret
    exact ⟨rfl, rfl⟩
  · have g0 : (48 : Int) ≤ (c.toNat : Int) := by omega
    have g1 : ¬ (c.toNat : Int) ≤ 57 := by omega
    have g2 : ¬ (97 : Int) ≤ (c.toNat : Int) := by omega
    have g3 : (c.toNat : Int) ≤ 102 := by omega
    have g4 : (65 : Int) ≤ (c.toNat : Int) := by omega
    have g5 : (c.toNat : Int) ≤ 70 := by omega
    have HV := HD.out
    rw [if_neg (by omega), if_neg (by omega), if_pos ⟨h, h'⟩] at HV
    rw [HV]
    clear HV HD h h'
    go_enter Tryd.func80, Tryd.ntmps80
    go_wp2_with fail
    go_ret
    exact ⟨rfl, rfl⟩
  · have g0 : (48 : Int) ≤ (c.toNat : Int) := by omega
    have g1 : ¬ (c.toNat : Int) ≤ 57 := by omega
    have g2 : ¬ (97 : Int) ≤ (c.toNat : Int) := by omega
    have g3 : (c.toNat : Int) ≤ 102 := by omega
    have g4 : (65 : Int) ≤ (c.toNat : Int) := by omega
    have g5 : ¬ (c.toNat : Int) ≤ 70 := by omega
    have HV := HD.out
    rw [if_neg (by omega), if_neg (by omega), if_neg (by omega)] at HV
    rw [HV]
    clear HV HD h h'
    go_enter Tryd.func80, Tryd.ntmps80
    go_wp2_with fail
    go_ret
    exact ⟨rfl, rfl⟩
  · have g0 : (48 : Int) ≤ (c.toNat : Int) := by omega
    have g1 : ¬ (c.toNat : Int) ≤ 57 := by omega
    have g2 : (97 : Int) ≤ (c.toNat : Int) := by omega
    have g3 : (c.toNat : Int) ≤ 102 := by omega
    have g4 : (65 : Int) ≤ (c.toNat : Int) := by omega
    have g5 : ¬ (c.toNat : Int) ≤ 70 := by omega
    have HV := HD.out
    rw [if_neg (by omega), if_pos ⟨h, h'⟩] at HV
    rw [HV]
    clear HV HD h h'
    go_enter Tryd.func80, Tryd.ntmps80
    go_wp2_with fail
    go_ret
    exact ⟨rfl, rfl⟩
  · have g0 : (48 : Int) ≤ (c.toNat : Int) := by omega
    have g1 : ¬ (c.toNat : Int) ≤ 57 := by omega
    have g2 : (97 : Int) ≤ (c.toNat : Int) := by omega
    have g3 : ¬ (c.toNat : Int) ≤ 102 := by omega
    have g4 : (65 : Int) ≤ (c.toNat : Int) := by omega
    have g5 : ¬ (c.toNat : Int) ≤ 70 := by omega
    have HV := HD.out
    rw [if_neg (by omega), if_neg (by omega), if_neg (by omega)] at HV
    rw [HV]
    clear HV HD h
    go_enter Tryd.func80, Tryd.ntmps80
    go_wp2_with fail
    go_ret
    exact ⟨rfl, rfl⟩
def numI (l : List UInt8) : Int := match numV l with
  | some n => (n : Int)
  | none => -1
set_option maxRecDepth 20000 in
set_option maxHeartbeats 4000000 in
theorem rnumber_any (l : List UInt8) (hl : l.length ≤ 4) (hne : l ≠ []) (w : World) :
    Calls Tryd.prog 60 #[.string (bs l), .int .i64 16] w fun e w' => e = .returned (.int .i64 (numI l)) ∧ w = w' := by
  have hsz : (bs l).size = l.length := bs_size l
  have HSZ := Lib.hid hsz
  have hle : (bs l).size ≤ 4 := by omega
  have HAT : Hid (∀ (i : Nat) (g : i < (bs l).size), (bs l)[i]'g = l.getD i 0) := fun i g => ba_at l g
  have hem : (bs l).toList.isEmpty = false := by
    rw [bs_toList]
    cases l with
    | nil => exact absurd rfl hne
    | cons _ _ => rfl
  generalize hS : bs l = S at *
  clear hS hsz hne
  go_enter Tryd.func60, Tryd.ntmps60
  go_wp2_with fail
  go_loopw [5, 6] (fun n i wr => ∃ (k m : Nat), k ≤ l.length ∧ i = .int .i64 (k : Int) ∧ n = .int .i64 (m : Int) ∧ numV (l.take k) = some m ∧ m < 16 ^ k ∧ w = wr) (fun _ i _ => l.length - (intOf i).toNat)
  case atStart => exact ⟨0, 0, Nat.zero_le _, rfl, rfl, rfl, by decide, rfl⟩
  case round =>
    obtain ⟨k, m, hk, rfl, rfl, hnum, hm, rfl⟩ := hrel
    have hm4 : m ≤ 65536 := by
      have : 16 ^ k ≤ 16 ^ 4 := Nat.pow_le_pow_right (by decide) (by omega)
      have : (16 : Nat) ^ 4 = 65536 := by decide
      omega
    by_cases hlt : k < l.length
    · have hks : k < S.size := by rw [HSZ.out]; exact hlt
      have hix : ∀ g : k < S.size, S[k]'g = l.getD k 0 := fun g => HAT.out k g
      have HNT := Lib.hid (numV_take hlt)
      have HNF := Lib.hid (fun h => numV_fail hlt h)
      have HNM := Lib.hid hnum
      have HPW := Lib.hid hm
      clear hnum hm
      generalize l.getD k 0 = c at *
      have HDG := Lib.hid (fun w => rdigit_any c w)
      cases hv : hexV c with
      | none =>
        have HF : Hid (numI l = -1) := by unfold Hid numI; rw [HNF.out hv]
        have hd : digI c = -1 := by unfold digI; rw [hv]
        rw [hd] at HDG
        clear hv hd
        go_wp2_with fail
        refine (HDG.out _).mono ?_
        rintro e _ ⟨rfl, rfl⟩
        go_wp2_with fail
        go_ret
        exact ⟨by rw [HF.out]; rfl, rfl⟩
      | some d =>
        have hd16 := hexV_lt hv
        have HNX : Hid (numV (l.take (k + 1)) = some (m * 16 + d)) := by unfold Hid; rw [HNT.out, HNM.out, stepV_some hv]
        have HPX : Hid (m * 16 + d < 16 ^ (k + 1)) := by unfold Hid; have := HPW.out; rw [Nat.pow_succ]; omega
        have hd : digI c = (d : Int) := by unfold digI; rw [hv]
        rw [hd] at HDG
        clear hv hd
        go_wp2_with fail
        refine (HDG.out _).mono ?_
        rintro e _ ⟨rfl, rfl⟩
        go_wp2_with fail
        go_roundw
        case rel => exact ⟨k + 1, m * 16 + d, hlt, by go_num, by go_num, HNX.out, HPX.out, trivial⟩
        case measure => simp [intOf]; omega
    · obtain rfl : k = l.length := by omega
      rw [List.take_length] at hnum
      have HN : Hid (numI l = (m : Int)) := by unfold Hid numI; rw [hnum]
      have hks : ¬ l.length < S.size := by rw [HSZ.out]; omega
      clear hnum hm
      go_wp2_with fail
      go_ret
      exact ⟨by rw [HN.out]; rfl, rfl⟩
theorem u8_eq_int (a b : UInt8) : ((a.toNat : Int) == (b.toNat : Int)) = decide (a = b) := by
  by_cases h : a = b
  · subst h; rw [decide_eq_true rfl, beq_self_eq_true]
  · rw [decide_eq_false h, beq_eq_false_iff_ne]
    exact fun e => h (UInt8.toNat_inj.1 (by omega))
theorem mem_take_succ {l : List UInt8} {k : Nat} {c : UInt8} (h : k < l.length) (h1 : c ∉ l.take k) (h2 : l.getD k 0 ≠ c) : c ∉ l.take (k + 1) := by
  rw [List.take_succ_eq_append_getElem h]
  intro hm
  rcases List.mem_append.1 hm with hm | hm
  · exact h1 hm
  · apply h2
    rw [List.mem_singleton.1 hm]
    simp [List.getD, List.getElem?_eq_getElem h]
theorem getD_mem8 {l : List UInt8} {k : Nat} (h : k < l.length) : l.getD k 0 ∈ l := by simp [List.getD, List.getElem?_eq_getElem h]
set_option maxRecDepth 20000 in
set_option maxHeartbeats 4000000 in
theorem rin_any (c : UInt8) (l : List UInt8) (hl : l.length ≤ 1000) (w : World) :
    Calls Tryd.prog 46 #[.int .u8 (c.toNat : Int), .string (bs l)] w fun e w' => e = .returned (.bool (decide (c ∈ l))) ∧ w = w' := by
  have hsz : (bs l).size = l.length := bs_size l
  have HSZ := Lib.hid hsz
  have hle : (bs l).size ≤ 1000 := by omega
  have HAT : Hid (∀ (i : Nat) (g : i < (bs l).size), (bs l)[i]'g = l.getD i 0) := fun i g => ba_at l g
  generalize hS : bs l = S at *
  clear hS hsz
  go_enter Tryd.func46, Tryd.ntmps46
  go_wp2_with fail
  go_loopw [5] (fun i wr => ∃ k : Nat, k ≤ l.length ∧ i = .int .i64 (k : Int) ∧ c ∉ l.take k ∧ w = wr) (fun i _ => l.length - (intOf i).toNat)
  case atStart => exact ⟨0, Nat.zero_le _, rfl, by simp, rfl⟩
  case round =>
    obtain ⟨k, hk, rfl, hno, rfl⟩ := hrel
    have HNO := Lib.hid hno
    clear hno
    by_cases hlt : k < l.length
    · have hks : k < S.size := by rw [HSZ.out]; exact hlt
      have hix : ∀ g : k < S.size, S[k]'g = l.getD k 0 := fun g => HAT.out k g
      have HNX := Lib.hid (fun h => mem_take_succ hlt HNO.out h)
      have HMM := Lib.hid (getD_mem8 hlt)
      generalize l.getD k 0 = d at *
      have hq := u8_eq_int d c
      by_cases e : d = c
      · rw [decide_eq_true e] at hq
        have HR : Hid (decide (c ∈ l) = true) := decide_eq_true (by rw [← e]; exact HMM.out)
        clear HNX HMM e
        go_wp2_with fail
        go_ret
        exact ⟨by rw [HR.out]; rfl, rfl⟩
      · rw [decide_eq_false e] at hq
        have HNY := Lib.hid (HNX.out e)
        clear HNX HMM e
        go_wp2_with fail
        go_roundw
        case rel => exact ⟨k + 1, hlt, by go_num, HNY.out, trivial⟩
        case measure => simp [intOf]; omega
    · obtain rfl : k = l.length := by omega
      have hks : ¬ l.length < S.size := by rw [HSZ.out]; omega
      have HR : Hid (decide (c ∈ l) = false) := decide_eq_false (by have := HNO.out; rwa [List.take_length] at this)
      go_wp2_with fail
      go_ret
      exact ⟨by rw [HR.out]; rfl, rfl⟩
set_option maxRecDepth 20000 in
theorem rpoint_any (n : Nat) (hn : n ≤ 65535) (w : World) : Calls Tryd.prog 61 #[.int .i64 (n : Int)] w fun e w' => e = .returned (.bool (pointB n)) ∧ w = w' := by
  have g0 : (0 : Int) ≤ (n : Int) := by omega
  have g00 : (n : Int) ≤ 1114111 := by omega
  rcases (by omega : n < 55296 ∨ (¬ n < 55296 ∧ 57343 < n) ∨ (¬ n < 55296 ∧ ¬ 57343 < n)) with h1 | ⟨h1, h2⟩ | ⟨h1, h2⟩
  · have g1 : (n : Int) < 55296 := by omega
    have HE : Hid (pointB n = true) := by unfold Hid pointB; rw [decide_eq_true h1]; rfl
    go_enter Tryd.func61, Tryd.ntmps61
    go_wp2_with fail
    go_ret
    exact ⟨by rw [HE.out]; rfl, rfl⟩
  · have g1 : ¬ (n : Int) < 55296 := by omega
    have g2 : 57343 < (n : Int) := by omega
    have HE : Hid (pointB n = true) := by unfold Hid pointB; rw [decide_eq_true h2, Bool.or_true]
    go_enter Tryd.func61, Tryd.ntmps61
    go_wp2_with fail
    go_ret
    exact ⟨by rw [HE.out]; rfl, rfl⟩
  · have g1 : ¬ (n : Int) < 55296 := by omega
    have g2 : ¬ 57343 < (n : Int) := by omega
    have HE : Hid (pointB n = false) := by unfold Hid pointB; rw [decide_eq_false h1, decide_eq_false h2]; rfl
    go_enter Tryd.func61, Tryd.ntmps61
    go_wp2_with fail
    go_ret
    exact ⟨by rw [HE.out]; rfl, rfl⟩
end Go.Proofs.YtpionddponmdmaaDoor
