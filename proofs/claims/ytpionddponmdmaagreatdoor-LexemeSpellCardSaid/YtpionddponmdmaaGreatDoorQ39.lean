/- Plain: the decoder, by the size that a lead byte announces. -/
import Derived.Test.YtpionddponmdmaaGreatDoorQ38
namespace Go.Proofs.YtpionddponmdmaaGreatDoor
open Go.RowKit
attribute [local go_sem] Ext.cell Ext.frozen
attribute [local go_sem ↓] Go.wp_at_zero Go.wp_at_succ
def cvV (l : List UInt8) (n0 : Nat) : Nat → Nat
  | 0 => n0
  | j + 1 => 64 * cvV l n0 j + ((l.getD (j + 1) 0).toNat - 128)
/-- a lead byte, the size that it announces, and what it holds of the number -/
def LeadB (b k n0 : Nat) : Prop := (k = 2 ∧ 192 ≤ b ∧ b < 224 ∧ n0 = b - 192) ∨ (k = 3 ∧ 224 ≤ b ∧ b < 240 ∧ n0 = b - 224) ∨ (k = 4 ∧ 240 ≤ b ∧ b < 248 ∧ n0 = b - 240)
def ContB (l : List UInt8) (i : Nat) : Prop := 128 ≤ (l.getD i 0).toNat ∧ (l.getD i 0).toNat ≤ 191
theorem len_pos {l : List UInt8} (h : l ≠ []) : 1 ≤ l.length := List.length_pos_iff.2 h
theorem dec_ascii {l : List UInt8} (h : (l.getD 0 0).toNat < 128) : Lib.decodeL l = ((l.getD 0 0).toNat, 1) := by
  rw [Lib.decodeL_N, Lib.decodeN, if_pos h]
theorem dec_odd {l : List UInt8} (h : (128 ≤ (l.getD 0 0).toNat ∧ (l.getD 0 0).toNat < 192) ∨ 248 ≤ (l.getD 0 0).toNat) : Lib.decodeL l = (65533, 1) := by
  have hb := (l.getD 0 0).toNat_lt
  rw [Lib.decodeL_N]
  exact Lib.decodeN_bad _ _ _ _ _ (by omega)
set_option maxRecDepth 100000 in
theorem dec_short {l : List UInt8} {k n0 : Nat} (hk : LeadB (l.getD 0 0).toNat k n0) (h : l.length < k) : Lib.decodeL l = (65533, 1) := by
  rw [Lib.decodeL_N, Lib.decodeN]
  rcases hk with ⟨rfl, h1, h2, rfl⟩ | ⟨rfl, h1, h2, rfl⟩ | ⟨rfl, h1, h2, rfl⟩
  all_goals rw [if_neg (by omega), if_neg (by omega), if_neg (by omega), if_neg (by omega)]
set_option maxRecDepth 100000 in
theorem dec_cont {l : List UInt8} {k n0 i : Nat} (hk : LeadB (l.getD 0 0).toNat k n0) (h0 : 1 ≤ i) (h1 : i < k) (h : ¬ ContB l i) : Lib.decodeL l = (65533, 1) := by
  unfold ContB at h
  have b1 := (l.getD 1 0).toNat_lt
  have b2 := (l.getD 2 0).toNat_lt
  have b3 := (l.getD 3 0).toNat_lt
  rw [Lib.decodeL_N, Lib.decodeN]
  have hi : i = 1 ∨ i = 2 ∨ i = 3 := by rcases hk with ⟨h2, _⟩ | ⟨h2, _⟩ | ⟨h2, _⟩ <;> omega
  rcases hk with ⟨rfl, k1, k2, rfl⟩ | ⟨rfl, k1, k2, rfl⟩ | ⟨rfl, k1, k2, rfl⟩
  all_goals
    rcases hi with rfl | rfl | rfl
    all_goals first
      | (exfalso; omega)
      | rw [if_neg (by omega), if_neg (by omega), if_neg (by omega), if_neg (by omega)]
theorem oneW_1 {v : Nat} (h : v ≤ 127) : (oneW v).length = 1 := by unfold oneW oneV; rw [if_pos (by omega), if_pos h]; rfl
theorem oneW_2 {v : Nat} (h : 128 ≤ v) (h1 : v ≤ 2047) : (oneW v).length = 2 := by unfold oneW oneV; rw [if_pos (by omega), if_neg (by omega), if_pos h1]; rfl
theorem oneW_3 {v : Nat} (h : 2048 ≤ v) (h1 : v ≤ 65535) : (oneW v).length = 3 := by unfold oneW oneV; rw [if_pos (by omega), if_neg (by omega), if_neg (by omega)]; rfl
theorem oneW_4 {v : Nat} (h : 65536 ≤ v) : (oneW v).length = 4 := by unfold oneW; rw [if_neg (by omega)]; rfl
theorem dec_if {l : List UInt8} {v k : Nat} (hne : l ≠ []) (h2 : 2 ≤ k) (hy : Lib.decodeL l = (v, k) ∧ pointW v = true ∨ Lib.decodeL l = (65533, 1) ∧ (pointW v = false ∨ (oneW v).length < k) ∧ k ≤ l.length) :
    Lib.decodeL l = if pointW v = true ∧ oneW v = l.take k then (v, k) else (65533, 1) := by
  rcases hy with ⟨h, hp⟩ | ⟨h, hp, hl⟩
  · have := Lib.encode_decode l hne (by rw [h]; show ¬ (v = 65533 ∧ k = 1); omega)
    rw [h] at this
    rw [if_pos ⟨hp, by rw [← encodeRune_oneW hp]; exact this⟩, h]
  · rw [if_neg ?_, h]
    rintro ⟨h3, h4⟩
    rcases hp with hp | hp
    · rw [hp] at h3; cases h3
    · have := congrArg List.length h4
      rw [List.length_take] at this
      omega
theorem pointW_dec (v : Nat) : pointW v = decide (v < 55296 ∨ (57343 < v ∧ v ≤ 1114111)) := by
  unfold pointW
  rw [← Bool.decide_and, ← Bool.decide_or]
set_option maxRecDepth 100000 in
set_option maxHeartbeats 4000000 in
theorem dec_end {l : List UInt8} {k n0 : Nat} (hne : l ≠ []) (hk : LeadB (l.getD 0 0).toNat k n0) (hl : k ≤ l.length) (hc : ∀ i, 1 ≤ i → i < k → ContB l i) :
    Lib.decodeL l = if pointW (cvV l n0 (k - 1)) = true ∧ oneW (cvV l n0 (k - 1)) = l.take k then (cvV l n0 (k - 1), k) else (65533, 1) := by
  have hk2 := hk
  have hD := Lib.decodeL_N l
  rw [Lib.decodeN] at hD
  rcases hk with ⟨rfl, k1, k2, rfl⟩ | ⟨rfl, k1, k2, rfl⟩ | ⟨rfl, k1, k2, rfl⟩
  · obtain ⟨c1, c2⟩ := hc 1 (by omega) (by omega)
    have hv : cvV l ((l.getD 0 0).toNat - 192) (2 - 1) = (l.getD 0 0).toNat % 32 * 64 + (l.getD 1 0).toNat % 64 := by
      show 64 * ((l.getD 0 0).toNat - 192) + ((l.getD 1 0).toNat - 128) = _
      omega
    rw [if_neg (by omega), if_pos (by omega)] at hD
    rw [← hv] at hD
    have hb : cvV l ((l.getD 0 0).toNat - 192) (2 - 1) < 2048 := by rw [hv]; omega
    generalize cvV l ((l.getD 0 0).toNat - 192) (2 - 1) = v at *
    refine dec_if hne (by omega) ?_
    split at hD
    · exact .inl ⟨hD, by rw [pointW_dec]; exact decide_eq_true (by omega)⟩
    · exact .inr ⟨hD, .inr (by rw [oneW_1 (by omega)]; omega), hl⟩
  · obtain ⟨c1, c2⟩ := hc 1 (by omega) (by omega)
    obtain ⟨c3, c4⟩ := hc 2 (by omega) (by omega)
    have hv : cvV l ((l.getD 0 0).toNat - 224) (3 - 1) = (l.getD 0 0).toNat % 16 * 4096 + (l.getD 1 0).toNat % 64 * 64 + (l.getD 2 0).toNat % 64 := by
      show 64 * (64 * ((l.getD 0 0).toNat - 224) + ((l.getD 1 0).toNat - 128)) + ((l.getD 2 0).toNat - 128) = _
      omega
    rw [if_neg (by omega), if_neg (by omega), if_pos (by omega)] at hD
    rw [← hv] at hD
    have hb : cvV l ((l.getD 0 0).toNat - 224) (3 - 1) < 65536 := by rw [hv]; omega
    generalize cvV l ((l.getD 0 0).toNat - 224) (3 - 1) = v at *
    refine dec_if hne (by omega) ?_
    split at hD
    · exact .inl ⟨hD, by rw [pointW_dec]; exact decide_eq_true (by omega)⟩
    · refine .inr ⟨hD, ?_, hl⟩
      by_cases h : v < 2048
      · right
        by_cases h2 : v ≤ 127
        · rw [oneW_1 h2]; omega
        · rw [oneW_2 (by omega) (by omega)]; omega
      · left
        rw [pointW_dec]; exact decide_eq_false (by omega)
  · obtain ⟨c1, c2⟩ := hc 1 (by omega) (by omega)
    obtain ⟨c3, c4⟩ := hc 2 (by omega) (by omega)
    obtain ⟨c5, c6⟩ := hc 3 (by omega) (by omega)
    have hv : cvV l ((l.getD 0 0).toNat - 240) (4 - 1) = (l.getD 0 0).toNat % 8 * 262144 + (l.getD 1 0).toNat % 64 * 4096 + (l.getD 2 0).toNat % 64 * 64 + (l.getD 3 0).toNat % 64 := by
      show 64 * (64 * (64 * ((l.getD 0 0).toNat - 240) + ((l.getD 1 0).toNat - 128)) + ((l.getD 2 0).toNat - 128)) + ((l.getD 3 0).toNat - 128) = _
      omega
    rw [if_neg (by omega), if_neg (by omega), if_neg (by omega), if_pos (by omega)] at hD
    rw [← hv] at hD
    generalize cvV l ((l.getD 0 0).toNat - 240) (4 - 1) = v at *
    refine dec_if hne (by omega) ?_
    split at hD
    · exact .inl ⟨hD, by rw [pointW_dec]; exact decide_eq_true (by omega)⟩
    · refine .inr ⟨hD, ?_, hl⟩
      by_cases h : v < 65536
      · right
        by_cases h2 : v ≤ 127
        · rw [oneW_1 h2]; omega
        · by_cases h3 : v ≤ 2047
          · rw [oneW_2 (by omega) h3]; omega
          · rw [oneW_3 (by omega) (by omega)]; omega
      · left
        rw [pointW_dec]; exact decide_eq_false (by omega)
theorem cvV_lt {l : List UInt8} {n0 : Nat} (h0 : n0 < 32) : ∀ j, j ≤ 3 → cvV l n0 j + 3 < 256 * 64 ^ j
  | 0, _ => by show n0 + 3 < 256 * 1; omega
  | j + 1, h => by
    have := cvV_lt h0 (l := l) j (by omega)
    have hb := (l.getD (j + 1) 0).toNat_lt
    show 64 * cvV l n0 j + ((l.getD (j + 1) 0).toNat - 128) + 3 < 256 * 64 ^ (j + 1)
    rw [Nat.pow_succ]
    omega
theorem lead_n0 {b k n0 : Nat} (h : LeadB b k n0) : n0 < 32 := by rcases h with ⟨_, _, _, h⟩ | ⟨_, _, _, h⟩ | ⟨_, _, _, h⟩ <;> omega
theorem lead_k {b k n0 : Nat} (h : LeadB b k n0) : 2 ≤ k ∧ k ≤ 4 := by rcases h with ⟨h, _⟩ | ⟨h, _⟩ | ⟨h, _⟩ <;> omega
/-- what Next answers -/
def NxtP (l : List UInt8) (w : World) (e : Ending) (w' : World) : Prop := e = .returned (.tuple #[.int .i64 ((Lib.decodeL l).1 : Int), .int .i64 ((Lib.decodeL l).2 : Int)]) ∧ Below w.heap.size w w'
theorem NxtP.of {l : List UInt8} {w w' : World} {a b : Nat} (h : Lib.decodeL l = (a, b)) (hb : Below w.heap.size w w') : NxtP l w (.returned (.tuple #[.int .i64 (a : Int), .int .i64 (b : Int)])) w' := ⟨by rw [h], hb⟩
end Go.Proofs.YtpionddponmdmaaGreatDoor
