/- Walks: the reference's Valid of a string: some truth value. -/
import Derived.Test.YtadhblppeaamlaaGreatDoorQ23
import Derived.Test.YtadhblppeaamlaaGreatDoorQ25
import Derived.Test.YtadhblppeaamlaaGreatDoorQ18
import Derived.Deep.DeepCutAuto
import Derived.Laws.BytesString
namespace Go.Proofs.YtadhblppeaamlaaGreatDoor
open Go.RowKit
attribute [local go_sem] Ext.cell Ext.frozen
attribute [local go_sem ↓] Go.wp_at_zero Go.wp_at_succ

theorem u8_some (n : Nat) (h : n < 256) : ∃ a : UInt8, (a.toNat : Int) = (n : Int) := ⟨UInt8.ofNat n, by simp; omega⟩
theorem conv_u8_1 (x : Int) (a : UInt8) (hx : x = (a.toNat : Int)) (W : World) :
    (convert 106 9 (.slice (some ⟨W.heap.size, 0, none⟩) 1 1)).run Tryz.prog (W.alloc (.cells #[.int .u8 x] 5)) = .ok (.string (bs [a])) (W.alloc (.cells #[.int .u8 x] 5)) := by
  refine run_convert_bytes_back _ 106 9 5 ⟨W.heap.size, 0, none⟩ 1 [a] Tryz.underlying106 Tryz.underlying5 Tryz.underlying9 ?_
  intro j hj
  subst hx
  match j, hj with
  | 0, _ => simp [go_sem, Addr.add]
  | j + 1, hj => exact absurd (show j + 1 < 1 from hj) (by omega)
theorem conv_u8_2 (x y : Int) (a b : UInt8) (hx : x = (a.toNat : Int)) (hy : y = (b.toNat : Int)) (W : World) :
    (convert 106 9 (.slice (some ⟨W.heap.size, 0, none⟩) 2 2)).run Tryz.prog (W.alloc (.cells #[.int .u8 x, .int .u8 y] 5)) = .ok (.string (bs [a, b])) (W.alloc (.cells #[.int .u8 x, .int .u8 y] 5)) := by
  refine run_convert_bytes_back _ 106 9 5 ⟨W.heap.size, 0, none⟩ 2 [a, b] Tryz.underlying106 Tryz.underlying5 Tryz.underlying9 ?_
  intro j hj
  subst hx hy
  match j, hj with
  | 0, _ => simp [go_sem, Addr.add]
  | 1, _ => simp [go_sem, Addr.add]
  | j + 2, hj => exact absurd (show j + 2 < 2 from hj) (by omega)
theorem conv_u8_3 (x y z : Int) (a b c : UInt8) (hx : x = (a.toNat : Int)) (hy : y = (b.toNat : Int)) (hz : z = (c.toNat : Int)) (W : World) :
    (convert 106 9 (.slice (some ⟨W.heap.size, 0, none⟩) 3 3)).run Tryz.prog (W.alloc (.cells #[.int .u8 x, .int .u8 y, .int .u8 z] 5)) = .ok (.string (bs [a, b, c])) (W.alloc (.cells #[.int .u8 x, .int .u8 y, .int .u8 z] 5)) := by
  refine run_convert_bytes_back _ 106 9 5 ⟨W.heap.size, 0, none⟩ 3 [a, b, c] Tryz.underlying106 Tryz.underlying5 Tryz.underlying9 ?_
  intro j hj
  subst hx hy hz
  match j, hj with
  | 0, _ => simp [go_sem, Addr.add]
  | 1, _ => simp [go_sem, Addr.add]
  | 2, _ => simp [go_sem, Addr.add]
  | j + 3, hj => exact absurd (show j + 3 < 3 from hj) (by omega)
theorem conv_u8_4 (x y z t : Int) (a b c d : UInt8) (hx : x = (a.toNat : Int)) (hy : y = (b.toNat : Int)) (hz : z = (c.toNat : Int)) (ht : t = (d.toNat : Int)) (W : World) :
    (convert 106 9 (.slice (some ⟨W.heap.size, 0, none⟩) 4 4)).run Tryz.prog (W.alloc (.cells #[.int .u8 x, .int .u8 y, .int .u8 z, .int .u8 t] 5)) = .ok (.string (bs [a, b, c, d])) (W.alloc (.cells #[.int .u8 x, .int .u8 y, .int .u8 z, .int .u8 t] 5)) := by
  refine run_convert_bytes_back _ 106 9 5 ⟨W.heap.size, 0, none⟩ 4 [a, b, c, d] Tryz.underlying106 Tryz.underlying5 Tryz.underlying9 ?_
  intro j hj
  subst hx hy hz ht
  match j, hj with
  | 0, _ => simp [go_sem, Addr.add]
  | 1, _ => simp [go_sem, Addr.add]
  | 2, _ => simp [go_sem, Addr.add]
  | 3, _ => simp [go_sem, Addr.add]
  | j + 4, hj => exact absurd (show j + 4 < 4 from hj) (by omega)
set_option maxRecDepth 20000 in
set_option maxHeartbeats 4000000 in
/-- the encoding of a code point -/
theorem one_some (n : Nat) (hn : n ≤ 1114111) : ∃ s : ByteArray, s.size ≤ 4 ∧ ∀ w, Calls Tryz.prog 61 #[.int .i64 (n : Int)] w fun e w' => e = .returned (.string s) ∧ Below w.heap.size w w' := by
  rcases (by omega : n < 128 ∨ (128 ≤ n ∧ n < 2048) ∨ (2048 ≤ n ∧ n < 65536) ∨ 65536 ≤ n) with h | ⟨h0, h⟩ | ⟨h0, h⟩ | h
  · obtain ⟨a, ha⟩ := u8_some (n) (by omega)
    have hcv := conv_u8_1 ((n : Int)) a (by omega)
    have g0 : (n : Int) < 128 := by omega
    refine ⟨bs [a], (by show 1 ≤ 4; omega), fun w => ?_⟩
    clear ha
    go_enter Tryz.func61, Tryz.ntmps61
    go_wp2_with fail
    go_ret
    exact ⟨rfl, (Below.refl _ _).alloc (Nat.le_refl _) _⟩
  · obtain ⟨a, ha⟩ := u8_some (192 + n / 64) (by omega)
    obtain ⟨b, hb⟩ := u8_some (128 + n % 64) (by omega)
    have hcv := conv_u8_2 (192 + (n : Int) / 64) (128 + (n : Int) % 64) a b (by omega) (by omega)
    have g0 : ¬ (n : Int) < 128 := by omega
    have g1 : (n : Int) < 2048 := by omega
    refine ⟨bs [a, b], (by show 2 ≤ 4; omega), fun w => ?_⟩
    clear ha hb
    go_enter Tryz.func61, Tryz.ntmps61
    go_wp2_with fail
    go_ret
    exact ⟨rfl, (Below.refl _ _).alloc (Nat.le_refl _) _⟩
  · obtain ⟨a, ha⟩ := u8_some (224 + n / 4096) (by omega)
    obtain ⟨b, hb⟩ := u8_some (128 + n / 64 % 64) (by omega)
    obtain ⟨c, hc⟩ := u8_some (128 + n % 64) (by omega)
    have hcv := conv_u8_3 (224 + (n : Int) / 4096) (128 + (n : Int) / 64 % 64) (128 + (n : Int) % 64) a b c (by omega) (by omega) (by omega)
    have g0 : ¬ (n : Int) < 128 := by omega
    have g1 : ¬ (n : Int) < 2048 := by omega
    have g2 : (n : Int) < 65536 := by omega
    refine ⟨bs [a, b, c], (by show 3 ≤ 4; omega), fun w => ?_⟩
    clear ha hb hc
    go_enter Tryz.func61, Tryz.ntmps61
    go_wp2_with fail
    go_ret
    exact ⟨rfl, (Below.refl _ _).alloc (Nat.le_refl _) _⟩
  · obtain ⟨a, ha⟩ := u8_some (240 + n / 262144) (by omega)
    obtain ⟨b, hb⟩ := u8_some (128 + n / 4096 % 64) (by omega)
    obtain ⟨c, hc⟩ := u8_some (128 + n / 64 % 64) (by omega)
    obtain ⟨d, hd⟩ := u8_some (128 + n % 64) (by omega)
    have hcv := conv_u8_4 (240 + (n : Int) / 262144) (128 + (n : Int) / 4096 % 64) (128 + (n : Int) / 64 % 64) (128 + (n : Int) % 64) a b c d (by omega) (by omega) (by omega) (by omega)
    have g0 : ¬ (n : Int) < 128 := by omega
    have g1 : ¬ (n : Int) < 2048 := by omega
    have g2 : ¬ (n : Int) < 65536 := by omega
    refine ⟨bs [a, b, c, d], (by show 4 ≤ 4; omega), fun w => ?_⟩
    clear ha hb hc hd
    go_enter Tryz.func61, Tryz.ntmps61
    go_wp2_with fail
    go_ret
    exact ⟨rfl, (Below.refl _ _).alloc (Nat.le_refl _) _⟩
set_option maxRecDepth 20000 in
/-- whether a number is a code point -/
theorem point_some (z : Int) : ∃ q : Bool, (q = true → 0 ≤ z ∧ z ≤ 1114111) ∧ ∀ w, Calls Tryz.prog 60 #[.int .i64 z] w fun e w' => e = .returned (.bool q) ∧ w = w' := by
  by_cases h0 : 0 ≤ z
  · by_cases h1 : z ≤ 1114111
    · by_cases h2 : z < 55296
      · refine ⟨true, fun _ => ⟨h0, h1⟩, fun w => ?_⟩
        go_enter Tryz.func60, Tryz.ntmps60
        go_wp2_with fail
        go_ret
        exact ⟨rfl, rfl⟩
      · by_cases h3 : 57343 < z
        · refine ⟨true, fun _ => ⟨h0, h1⟩, fun w => ?_⟩
          go_enter Tryz.func60, Tryz.ntmps60
          go_wp2_with fail
          go_ret
          exact ⟨rfl, rfl⟩
        · refine ⟨false, (fun h => by cases h), fun w => ?_⟩
          go_enter Tryz.func60, Tryz.ntmps60
          go_wp2_with fail
          go_ret
          exact ⟨rfl, rfl⟩
    · refine ⟨false, (fun h => by cases h), fun w => ?_⟩
      go_enter Tryz.func60, Tryz.ntmps60
      go_wp2_with fail
      go_ret
      exact ⟨rfl, rfl⟩
  · refine ⟨false, (fun h => by cases h), fun w => ?_⟩
    go_enter Tryz.func60, Tryz.ntmps60
    go_wp2_with fail
    go_ret
    exact ⟨rfl, rfl⟩
/-- a number, and a width that fits -/
def NextP (n : Nat) (w : World) (e : Ending) (w' : World) : Prop := ∃ (z : Int) (k : Nat), e = .returned (.tuple #[.int .i64 z, .int .i64 (k : Int)]) ∧ 1 ≤ k ∧ k ≤ n ∧ Below w.heap.size w w'
set_option maxRecDepth 20000 in
set_option maxHeartbeats 4000000 in
theorem next_small (s : ByteArray) (h0 : 0 < s.size) (hl : s.size ≤ 1000) (b : UInt8) (hb0 : ∀ g : 0 < s.size, s[0]'g = b) (hs : b.toNat < 192 ∨ 248 ≤ b.toNat) (w : World) : Calls Tryz.prog 62 #[.string s] w (NextP s.size w) := by
  have hb := b.toNat_lt
  rcases (by omega : b.toNat < 128 ∨ (128 ≤ b.toNat ∧ b.toNat < 192) ∨ 248 ≤ b.toNat) with h | ⟨h, h3⟩ | h
  · have g0 : (b.toNat : Int) < 128 := by omega
    clear hs h
    go_enter Tryz.func62, Tryz.ntmps62
    go_wp2_with fail
    exact bodyPost_ret (v := .tuple #[.int .i64 (b.toNat : Int), .int .i64 ((1 : Nat) : Int)]) (by simp [results, Tryz.f62, go_sem]) rfl ⟨_, _, rfl, by omega, by omega, Below.refl _ _⟩
  · have g0 : ¬ (b.toNat : Int) < 128 := by omega
    have g1 : ¬ 192 ≤ (b.toNat : Int) := by omega
    have g2 : ¬ 224 ≤ (b.toNat : Int) := by omega
    have g3 : ¬ 240 ≤ (b.toNat : Int) := by omega
    clear hs h
    clear h3
    go_enter Tryz.func62, Tryz.ntmps62
    go_wp2_with fail
    exact bodyPost_ret (v := .tuple #[.int .i64 65533, .int .i64 ((1 : Nat) : Int)]) (by simp [results, Tryz.f62, go_sem]) rfl ⟨_, _, rfl, by omega, by omega, Below.refl _ _⟩
  · have g0 : ¬ (b.toNat : Int) < 128 := by omega
    have g1 : 192 ≤ (b.toNat : Int) := by omega
    have g2 : 224 ≤ (b.toNat : Int) := by omega
    have g3 : 240 ≤ (b.toNat : Int) := by omega
    have g4 : ¬ (b.toNat : Int) < 224 := by omega
    have g5 : ¬ (b.toNat : Int) < 240 := by omega
    have g6 : ¬ (b.toNat : Int) < 248 := by omega
    clear hs h
    go_enter Tryz.func62, Tryz.ntmps62
    go_wp2_with fail
    exact bodyPost_ret (v := .tuple #[.int .i64 65533, .int .i64 ((1 : Nat) : Int)]) (by simp [results, Tryz.f62, go_sem]) rfl ⟨_, _, rfl, by omega, by omega, Below.refl _ _⟩
set_option maxRecDepth 20000 in
set_option maxHeartbeats 8000000 in
theorem next_2 (s : ByteArray) (h0 : 0 < s.size) (hl : s.size ≤ 1000) (b : UInt8) (hb0 : ∀ g : 0 < s.size, s[0]'g = b) (hb1 : 192 ≤ b.toNat) (hb2 : b.toNat < 224) (w : World) : Calls Tryz.prog 62 #[.string s] w (NextP s.size w) := by
  have g0 : ¬ (b.toNat : Int) < 128 := by omega
  have g1 : 192 ≤ (b.toNat : Int) := by omega
  have g2 : (b.toNat : Int) < 224 := by omega
  by_cases hsh : s.size < 2
  · have g9 : (s.size : Int) < 2 := by omega
    clear hsh hb1 hb2
    go_enter Tryz.func62, Tryz.ntmps62
    go_wp2_with fail
    exact bodyPost_ret (v := .tuple #[.int .i64 65533, .int .i64 ((1 : Nat) : Int)]) (by simp [results, Tryz.f62, go_sem]) rfl ⟨_, _, rfl, by omega, by omega, Below.refl _ _⟩
  have g9 : ¬ (s.size : Int) < 2 := by omega
  have hks : 2 ≤ s.size := by omega
  have hz0 : 0 ≤ (b.toNat : Int) - 192 ∧ (b.toNat : Int) - 192 < 32 := by omega
  clear hsh
  go_enter Tryz.func62, Tryz.ntmps62
  go_wp2_with fail
  go_loopw [4, 6] (fun n i wr => ∃ (j : Nat) (z : Int), j + 1 ≤ 2 ∧ i = .int .i64 ((j : Int) + 1) ∧ n = .int .i64 z ∧ 0 ≤ z ∧ z < 32 * ((64 ^ j : Nat) : Int) ∧ wr = w) (fun _ i _ => 2 - (intOf i).toNat)
  case atStart => exact ⟨0, _, by omega, rfl, rfl, hz0.1, by simpa using hz0.2, rfl⟩
  case round =>
    obtain ⟨j, z, hj, rfl, rfl, hza, hzb, rfl⟩ := hrel
    have hpw : 64 ^ j ≤ 64 := Nat.le_trans (Nat.pow_le_pow_right (by omega) (show j ≤ 1 by omega)) (by decide)
    have hps : 64 ^ (j + 1) = 64 ^ j * 64 := Nat.pow_succ ..
    have HPS := Lib.hid hps
    have HZB := Lib.hid hzb
    have hzm : z < 2048 := by
      generalize 64 ^ j = pj at hpw hzb
      omega
    clear hpw hps hzb
    by_cases hlt : j + 1 < 2
    · have hjs : j + 1 < s.size := by omega
      have gj : (j : Int) + 1 < 2 := by omega
      obtain ⟨c, hc⟩ : ∃ c, s[j + 1]'hjs = c := ⟨_, rfl⟩
      have hat : ∀ g : j + 1 < s.size, s[j + 1]'g = c := fun g => hc
      have hcl := c.toNat_lt
      clear hc
      by_cases hc1 : (c.toNat : Int) < 128
      · go_wp2_with fail
        exact bodyPost_ret (v := .tuple #[.int .i64 65533, .int .i64 ((1 : Nat) : Int)]) (by simp [results, Tryz.f62, go_sem]) rfl ⟨_, _, rfl, by omega, by omega, Below.refl _ _⟩
      by_cases hc2 : 191 < (c.toNat : Int)
      · go_wp2_with fail
        exact bodyPost_ret (v := .tuple #[.int .i64 65533, .int .i64 ((1 : Nat) : Int)]) (by simp [results, Tryz.f62, go_sem]) rfl ⟨_, _, rfl, by omega, by omega, Below.refl _ _⟩
      go_wp2_with fail
      go_roundw
      case rel => exact ⟨j + 1, 64 * z + (c.toNat : Int) - 128, by omega, by go_num, rfl, by omega, by have := HPS.out; have := HZB.out; omega, trivial⟩
      case measure => simp [intOf]; omega
    · obtain rfl : j = 1 := by omega
      clear HZB HPS
      obtain ⟨q, hq1, hq2⟩ := point_some z
      have HPT := Lib.hid hq2
      cases q
      · clear hq1 hq2
        go_upto_region 6 with (fail)
        refine wp_region_ext (by kernel_rfl) (by kernel_rfl) ?_
        repeat (go_big_quiet_step ((go_at_call 60; exact Calls.ext_same (HPT.out _))))
        refine wpQuiet_nil ?_
        intro _ hw'
        obtain ⟨X9, hw''⟩ := hw'
        subst hw''
        have HX9 := Lib.hid X9.2
        go_wp2_with fail
        exact bodyPost_ret (v := .tuple #[.int .i64 65533, .int .i64 ((1 : Nat) : Int)]) (by simp [results, Tryz.f62, go_sem]) rfl ⟨_, _, rfl, by omega, by omega, HX9.out⟩
      · obtain ⟨n, rfl⟩ : ∃ n : Nat, z = (n : Int) := ⟨z.toNat, by omega⟩
        obtain ⟨X, _, hX⟩ := one_some n (by have := (hq1 rfl).2; omega)
        have HON := Lib.hid hX
        clear hq1 hq2 hX
        obtain ⟨Y, hY⟩ : ∃ Y, s.extract 0 2 = Y := ⟨_, rfl⟩
        by_cases he : X = Y
        · have hxe : (X.toList == Y.toList) = true := by rw [he]; simp
          have hxx : (X.toList != Y.toList) = false := by rw [he]; simp
          clear he
          go_upto_region 6 with (fail)
          refine wp_region_ext (by kernel_rfl) (by kernel_rfl) ?_
          repeat (go_big_quiet_step (first | (go_at_call 60; exact Calls.ext_same (HPT.out _)) | (go_at_call 61; exact Calls.ext (HON.out _))))
          refine wpQuiet_nil ?_
          intro _ hw'
          obtain ⟨X9, hw''⟩ := hw'
          subst hw''
          have HX9 := Lib.hid X9.2
          go_wp2_with fail
          exact bodyPost_ret (v := .tuple #[.int .i64 (n : Int), .int .i64 ((2 : Nat) : Int)]) (by simp [results, Tryz.f62, go_sem]) rfl ⟨_, _, rfl, by omega, by omega, HX9.out⟩
        · have hxe : (X.toList == Y.toList) = false := by rw [beq_eq_false_iff_ne]; exact fun e => he (ByteArray.ext (by simpa [ByteArray.toList_eq] using e))
          have hxx : (X.toList != Y.toList) = true := by unfold bne; rw [hxe]; rfl
          clear he
          go_upto_region 6 with (fail)
          refine wp_region_ext (by kernel_rfl) (by kernel_rfl) ?_
          repeat (go_big_quiet_step (first | (go_at_call 60; exact Calls.ext_same (HPT.out _)) | (go_at_call 61; exact Calls.ext (HON.out _))))
          refine wpQuiet_nil ?_
          intro _ hw'
          obtain ⟨X9, hw''⟩ := hw'
          subst hw''
          have HX9 := Lib.hid X9.2
          go_wp2_with fail
          exact bodyPost_ret (v := .tuple #[.int .i64 65533, .int .i64 ((1 : Nat) : Int)]) (by simp [results, Tryz.f62, go_sem]) rfl ⟨_, _, rfl, by omega, by omega, HX9.out⟩
set_option maxRecDepth 20000 in
set_option maxHeartbeats 8000000 in
theorem next_3 (s : ByteArray) (h0 : 0 < s.size) (hl : s.size ≤ 1000) (b : UInt8) (hb0 : ∀ g : 0 < s.size, s[0]'g = b) (hb1 : 224 ≤ b.toNat) (hb2 : b.toNat < 240) (w : World) : Calls Tryz.prog 62 #[.string s] w (NextP s.size w) := by
  have g0 : ¬ (b.toNat : Int) < 128 := by omega
  have g1 : 192 ≤ (b.toNat : Int) := by omega
  have g2 : ¬ (b.toNat : Int) < 224 := by omega
  have g3 : 224 ≤ (b.toNat : Int) := by omega
  have g4 : (b.toNat : Int) < 240 := by omega
  by_cases hsh : s.size < 3
  · have g9 : (s.size : Int) < 3 := by omega
    clear hsh hb1 hb2
    go_enter Tryz.func62, Tryz.ntmps62
    go_wp2_with fail
    exact bodyPost_ret (v := .tuple #[.int .i64 65533, .int .i64 ((1 : Nat) : Int)]) (by simp [results, Tryz.f62, go_sem]) rfl ⟨_, _, rfl, by omega, by omega, Below.refl _ _⟩
  have g9 : ¬ (s.size : Int) < 3 := by omega
  have hks : 3 ≤ s.size := by omega
  have hz0 : 0 ≤ (b.toNat : Int) - 224 ∧ (b.toNat : Int) - 224 < 32 := by omega
  clear hsh
  go_enter Tryz.func62, Tryz.ntmps62
  go_wp2_with fail
  go_loopw [4, 6] (fun n i wr => ∃ (j : Nat) (z : Int), j + 1 ≤ 3 ∧ i = .int .i64 ((j : Int) + 1) ∧ n = .int .i64 z ∧ 0 ≤ z ∧ z < 32 * ((64 ^ j : Nat) : Int) ∧ wr = w) (fun _ i _ => 3 - (intOf i).toNat)
  case atStart => exact ⟨0, _, by omega, rfl, rfl, hz0.1, by simpa using hz0.2, rfl⟩
  case round =>
    obtain ⟨j, z, hj, rfl, rfl, hza, hzb, rfl⟩ := hrel
    have hpw : 64 ^ j ≤ 4096 := Nat.le_trans (Nat.pow_le_pow_right (by omega) (show j ≤ 2 by omega)) (by decide)
    have hps : 64 ^ (j + 1) = 64 ^ j * 64 := Nat.pow_succ ..
    have HPS := Lib.hid hps
    have HZB := Lib.hid hzb
    have hzm : z < 131072 := by
      generalize 64 ^ j = pj at hpw hzb
      omega
    clear hpw hps hzb
    by_cases hlt : j + 1 < 3
    · have hjs : j + 1 < s.size := by omega
      have gj : (j : Int) + 1 < 3 := by omega
      obtain ⟨c, hc⟩ : ∃ c, s[j + 1]'hjs = c := ⟨_, rfl⟩
      have hat : ∀ g : j + 1 < s.size, s[j + 1]'g = c := fun g => hc
      have hcl := c.toNat_lt
      clear hc
      by_cases hc1 : (c.toNat : Int) < 128
      · go_wp2_with fail
        exact bodyPost_ret (v := .tuple #[.int .i64 65533, .int .i64 ((1 : Nat) : Int)]) (by simp [results, Tryz.f62, go_sem]) rfl ⟨_, _, rfl, by omega, by omega, Below.refl _ _⟩
      by_cases hc2 : 191 < (c.toNat : Int)
      · go_wp2_with fail
        exact bodyPost_ret (v := .tuple #[.int .i64 65533, .int .i64 ((1 : Nat) : Int)]) (by simp [results, Tryz.f62, go_sem]) rfl ⟨_, _, rfl, by omega, by omega, Below.refl _ _⟩
      go_wp2_with fail
      go_roundw
      case rel => exact ⟨j + 1, 64 * z + (c.toNat : Int) - 128, by omega, by go_num, rfl, by omega, by have := HPS.out; have := HZB.out; omega, trivial⟩
      case measure => simp [intOf]; omega
    · obtain rfl : j = 2 := by omega
      clear HZB HPS
      obtain ⟨q, hq1, hq2⟩ := point_some z
      have HPT := Lib.hid hq2
      cases q
      · clear hq1 hq2
        go_upto_region 6 with (fail)
        refine wp_region_ext (by kernel_rfl) (by kernel_rfl) ?_
        repeat (go_big_quiet_step ((go_at_call 60; exact Calls.ext_same (HPT.out _))))
        refine wpQuiet_nil ?_
        intro _ hw'
        obtain ⟨X9, hw''⟩ := hw'
        subst hw''
        have HX9 := Lib.hid X9.2
        go_wp2_with fail
        exact bodyPost_ret (v := .tuple #[.int .i64 65533, .int .i64 ((1 : Nat) : Int)]) (by simp [results, Tryz.f62, go_sem]) rfl ⟨_, _, rfl, by omega, by omega, HX9.out⟩
      · obtain ⟨n, rfl⟩ : ∃ n : Nat, z = (n : Int) := ⟨z.toNat, by omega⟩
        obtain ⟨X, _, hX⟩ := one_some n (by have := (hq1 rfl).2; omega)
        have HON := Lib.hid hX
        clear hq1 hq2 hX
        obtain ⟨Y, hY⟩ : ∃ Y, s.extract 0 3 = Y := ⟨_, rfl⟩
        by_cases he : X = Y
        · have hxe : (X.toList == Y.toList) = true := by rw [he]; simp
          have hxx : (X.toList != Y.toList) = false := by rw [he]; simp
          clear he
          go_upto_region 6 with (fail)
          refine wp_region_ext (by kernel_rfl) (by kernel_rfl) ?_
          repeat (go_big_quiet_step (first | (go_at_call 60; exact Calls.ext_same (HPT.out _)) | (go_at_call 61; exact Calls.ext (HON.out _))))
          refine wpQuiet_nil ?_
          intro _ hw'
          obtain ⟨X9, hw''⟩ := hw'
          subst hw''
          have HX9 := Lib.hid X9.2
          go_wp2_with fail
          exact bodyPost_ret (v := .tuple #[.int .i64 (n : Int), .int .i64 ((3 : Nat) : Int)]) (by simp [results, Tryz.f62, go_sem]) rfl ⟨_, _, rfl, by omega, by omega, HX9.out⟩
        · have hxe : (X.toList == Y.toList) = false := by rw [beq_eq_false_iff_ne]; exact fun e => he (ByteArray.ext (by simpa [ByteArray.toList_eq] using e))
          have hxx : (X.toList != Y.toList) = true := by unfold bne; rw [hxe]; rfl
          clear he
          go_upto_region 6 with (fail)
          refine wp_region_ext (by kernel_rfl) (by kernel_rfl) ?_
          repeat (go_big_quiet_step (first | (go_at_call 60; exact Calls.ext_same (HPT.out _)) | (go_at_call 61; exact Calls.ext (HON.out _))))
          refine wpQuiet_nil ?_
          intro _ hw'
          obtain ⟨X9, hw''⟩ := hw'
          subst hw''
          have HX9 := Lib.hid X9.2
          go_wp2_with fail
          exact bodyPost_ret (v := .tuple #[.int .i64 65533, .int .i64 ((1 : Nat) : Int)]) (by simp [results, Tryz.f62, go_sem]) rfl ⟨_, _, rfl, by omega, by omega, HX9.out⟩
set_option maxRecDepth 20000 in
set_option maxHeartbeats 8000000 in
theorem next_4 (s : ByteArray) (h0 : 0 < s.size) (hl : s.size ≤ 1000) (b : UInt8) (hb0 : ∀ g : 0 < s.size, s[0]'g = b) (hb1 : 240 ≤ b.toNat) (hb2 : b.toNat < 248) (w : World) : Calls Tryz.prog 62 #[.string s] w (NextP s.size w) := by
  have g0 : ¬ (b.toNat : Int) < 128 := by omega
  have g1 : 192 ≤ (b.toNat : Int) := by omega
  have g2 : ¬ (b.toNat : Int) < 224 := by omega
  have g3 : 224 ≤ (b.toNat : Int) := by omega
  have g4 : ¬ (b.toNat : Int) < 240 := by omega
  have g5 : 240 ≤ (b.toNat : Int) := by omega
  have g6 : (b.toNat : Int) < 248 := by omega
  by_cases hsh : s.size < 4
  · have g9 : (s.size : Int) < 4 := by omega
    clear hsh hb1 hb2
    go_enter Tryz.func62, Tryz.ntmps62
    go_wp2_with fail
    exact bodyPost_ret (v := .tuple #[.int .i64 65533, .int .i64 ((1 : Nat) : Int)]) (by simp [results, Tryz.f62, go_sem]) rfl ⟨_, _, rfl, by omega, by omega, Below.refl _ _⟩
  have g9 : ¬ (s.size : Int) < 4 := by omega
  have hks : 4 ≤ s.size := by omega
  have hz0 : 0 ≤ (b.toNat : Int) - 240 ∧ (b.toNat : Int) - 240 < 32 := by omega
  clear hsh
  go_enter Tryz.func62, Tryz.ntmps62
  go_wp2_with fail
  go_loopw [4, 6] (fun n i wr => ∃ (j : Nat) (z : Int), j + 1 ≤ 4 ∧ i = .int .i64 ((j : Int) + 1) ∧ n = .int .i64 z ∧ 0 ≤ z ∧ z < 32 * ((64 ^ j : Nat) : Int) ∧ wr = w) (fun _ i _ => 4 - (intOf i).toNat)
  case atStart => exact ⟨0, _, by omega, rfl, rfl, hz0.1, by simpa using hz0.2, rfl⟩
  case round =>
    obtain ⟨j, z, hj, rfl, rfl, hza, hzb, rfl⟩ := hrel
    have hpw : 64 ^ j ≤ 262144 := Nat.le_trans (Nat.pow_le_pow_right (by omega) (show j ≤ 3 by omega)) (by decide)
    have hps : 64 ^ (j + 1) = 64 ^ j * 64 := Nat.pow_succ ..
    have HPS := Lib.hid hps
    have HZB := Lib.hid hzb
    have hzm : z < 8388608 := by
      generalize 64 ^ j = pj at hpw hzb
      omega
    clear hpw hps hzb
    by_cases hlt : j + 1 < 4
    · have hjs : j + 1 < s.size := by omega
      have gj : (j : Int) + 1 < 4 := by omega
      obtain ⟨c, hc⟩ : ∃ c, s[j + 1]'hjs = c := ⟨_, rfl⟩
      have hat : ∀ g : j + 1 < s.size, s[j + 1]'g = c := fun g => hc
      have hcl := c.toNat_lt
      clear hc
      by_cases hc1 : (c.toNat : Int) < 128
      · go_wp2_with fail
        exact bodyPost_ret (v := .tuple #[.int .i64 65533, .int .i64 ((1 : Nat) : Int)]) (by simp [results, Tryz.f62, go_sem]) rfl ⟨_, _, rfl, by omega, by omega, Below.refl _ _⟩
      by_cases hc2 : 191 < (c.toNat : Int)
      · go_wp2_with fail
        exact bodyPost_ret (v := .tuple #[.int .i64 65533, .int .i64 ((1 : Nat) : Int)]) (by simp [results, Tryz.f62, go_sem]) rfl ⟨_, _, rfl, by omega, by omega, Below.refl _ _⟩
      go_wp2_with fail
      go_roundw
      case rel => exact ⟨j + 1, 64 * z + (c.toNat : Int) - 128, by omega, by go_num, rfl, by omega, by have := HPS.out; have := HZB.out; omega, trivial⟩
      case measure => simp [intOf]; omega
    · obtain rfl : j = 3 := by omega
      clear HZB HPS
      obtain ⟨q, hq1, hq2⟩ := point_some z
      have HPT := Lib.hid hq2
      cases q
      · clear hq1 hq2
        go_upto_region 6 with (fail)
        refine wp_region_ext (by kernel_rfl) (by kernel_rfl) ?_
        repeat (go_big_quiet_step ((go_at_call 60; exact Calls.ext_same (HPT.out _))))
        refine wpQuiet_nil ?_
        intro _ hw'
        obtain ⟨X9, hw''⟩ := hw'
        subst hw''
        have HX9 := Lib.hid X9.2
        go_wp2_with fail
        exact bodyPost_ret (v := .tuple #[.int .i64 65533, .int .i64 ((1 : Nat) : Int)]) (by simp [results, Tryz.f62, go_sem]) rfl ⟨_, _, rfl, by omega, by omega, HX9.out⟩
      · obtain ⟨n, rfl⟩ : ∃ n : Nat, z = (n : Int) := ⟨z.toNat, by omega⟩
        obtain ⟨X, _, hX⟩ := one_some n (by have := (hq1 rfl).2; omega)
        have HON := Lib.hid hX
        clear hq1 hq2 hX
        obtain ⟨Y, hY⟩ : ∃ Y, s.extract 0 4 = Y := ⟨_, rfl⟩
        by_cases he : X = Y
        · have hxe : (X.toList == Y.toList) = true := by rw [he]; simp
          have hxx : (X.toList != Y.toList) = false := by rw [he]; simp
          clear he
          go_upto_region 6 with (fail)
          refine wp_region_ext (by kernel_rfl) (by kernel_rfl) ?_
          repeat (go_big_quiet_step (first | (go_at_call 60; exact Calls.ext_same (HPT.out _)) | (go_at_call 61; exact Calls.ext (HON.out _))))
          refine wpQuiet_nil ?_
          intro _ hw'
          obtain ⟨X9, hw''⟩ := hw'
          subst hw''
          have HX9 := Lib.hid X9.2
          go_wp2_with fail
          exact bodyPost_ret (v := .tuple #[.int .i64 (n : Int), .int .i64 ((4 : Nat) : Int)]) (by simp [results, Tryz.f62, go_sem]) rfl ⟨_, _, rfl, by omega, by omega, HX9.out⟩
        · have hxe : (X.toList == Y.toList) = false := by rw [beq_eq_false_iff_ne]; exact fun e => he (ByteArray.ext (by simpa [ByteArray.toList_eq] using e))
          have hxx : (X.toList != Y.toList) = true := by unfold bne; rw [hxe]; rfl
          clear he
          go_upto_region 6 with (fail)
          refine wp_region_ext (by kernel_rfl) (by kernel_rfl) ?_
          repeat (go_big_quiet_step (first | (go_at_call 60; exact Calls.ext_same (HPT.out _)) | (go_at_call 61; exact Calls.ext (HON.out _))))
          refine wpQuiet_nil ?_
          intro _ hw'
          obtain ⟨X9, hw''⟩ := hw'
          subst hw''
          have HX9 := Lib.hid X9.2
          go_wp2_with fail
          exact bodyPost_ret (v := .tuple #[.int .i64 65533, .int .i64 ((1 : Nat) : Int)]) (by simp [results, Tryz.f62, go_sem]) rfl ⟨_, _, rfl, by omega, by omega, HX9.out⟩
theorem next_some (s : ByteArray) (h0 : 0 < s.size) (hl : s.size ≤ 1000) (w : World) : Calls Tryz.prog 62 #[.string s] w (NextP s.size w) := by
  obtain ⟨b, hb⟩ : ∃ b, s[0]'h0 = b := ⟨_, rfl⟩
  have hb0 : ∀ g : 0 < s.size, s[0]'g = b := fun _ => hb
  by_cases h1 : b.toNat < 192 ∨ 248 ≤ b.toNat
  · exact next_small s h0 hl b hb0 h1 w
  · by_cases h2 : b.toNat < 224
    · exact next_2 s h0 hl b hb0 (by omega) h2 w
    · by_cases h3 : b.toNat < 240
      · exact next_3 s h0 hl b hb0 (by omega) h3 w
      · exact next_4 s h0 hl b hb0 (by omega) (by omega) w
theorem infoInt : (Tryz.prog.info? 3).map (fun i => (i.zero, i.size, i.bytes)) = some (some (.int .i64 0), 1, 8) := by kernel_rfl
/-- some numbers, in a row of the call's own -/
def DecP (n : Nat) (w : World) (e : Ending) (w' : World) : Prop := ∃ (ad : Option Addr) (k c : Nat) (zs : List Int), e = .returned (.slice ad k c) ∧ w'.ownsRow w.heap.size 3 1 (.slice ad k c) k (ints zs) ∧ k ≤ n ∧ Below w.heap.size w w'
set_option maxRecDepth 20000 in
set_option maxHeartbeats 4000000 in
theorem decode_some (s : ByteArray) (hl : s.size ≤ 1000) (w : World) : Calls Tryz.prog 37 #[.string s] w (DecP s.size w) := by
  go_enter Tryz.func37, Tryz.ntmps37
  go_wp2_with fail
  go_loopw [0, 3] (fun u v wr => ∃ (t : ByteArray) (k : Nat) (ad : Option Addr) (c : Nat) (zs : List Int), u = .string t ∧ t.size + k ≤ s.size ∧ v = .slice ad k c ∧ wr.ownsRow w.heap.size 3 1 (.slice ad k c) k (ints zs) ∧ Below w.heap.size w wr) (fun u _ _ => match u with | .string t => t.size | _ => 0)
  case atStart => exact ⟨s, 0, none, 0, [], rfl, by omega, rfl, ⟨rfl, .inl ⟨rfl, rfl⟩⟩, Below.refl _ _⟩
  case round =>
    obtain ⟨t, k, ad, c, zs, rfl, htk, rfl, hown, hbl⟩ := hrel
    have HOW := Lib.hid hown
    have HBL := Lib.hid hbl
    have hzr := hbl.size
    clear hown hbl
    by_cases ht : 0 < t.size
    · have ht2 : (0 : Int) < (t.size : Int) := by omega
      have HN := Lib.hid (fun W => next_some t ht (by omega) W)
      go_wp2_with fail
      refine (HN.out _).mono ?_
      rintro e w2 ⟨z, q, rfl, hq1, hq2, hb2⟩
      have HB2 := Lib.hid hb2
      have hz2 := hb2.size
      have HOB : Hid ((w2.alloc (.cells #[.int .i64 z] 3)).ownsRow w.heap.size 3 1 (.slice ad k c) k (ints zs)) := own_below HOW.out (hb2.trans ((Below.refl _ _).alloc hb2.size _))
      have HNB : Hid (Rw (w2.alloc (.cells #[.int .i64 z] 3)) (some ⟨w2.heap.size, 0, none⟩) 1 1 (fun _ _ => .int .i64 z) w2.heap.size 0) := ⟨by omega, fun _ => rfl, fun i j hi hj => by
        obtain rfl : i = 0 := by omega
        obtain rfl : j = 0 := by omega
        simp [go_sem]⟩
      have HBS : Hid (w.heap.size ≤ (w2.alloc (.cells #[.int .i64 z] 3)).heap.size) := by unfold Hid; simp; omega
      have hq3 : (q : Int) ≤ (t.size : Int) := by omega
      have hq4 : (0 : Int) ≤ (q : Int) := by omega
      clear hb2
      go_wp2_with (at_builtin; refine wpList_app_rows rfl (.tmp 14) (.tmp 16) rfl Tryz.underlying70 infoInt rfl (by omega) w.heap.size ad k c (ints zs) rfl HOB.out (some ⟨w2.heap.size, 0, none⟩) 1 1 (fun _ _ => .int .i64 z) w2.heap.size 0 rfl HNB.out (fun h => by cases h) (fun _ _ _ _ => rfl) (by unfold maxLen; omega) (by omega) HBS.out ?_; intro ad2 c2 w3 hown3 hg3; have HO3 := Lib.hid hown3; have HG3 := Lib.hid hg3; clear hown3 hg3)
      go_roundw
      case rel =>
        refine ⟨t.extract q t.size, k + 1, ad2, c2, zs ++ [z], rfl, by simp; omega, rfl, ?_, ?_⟩
        · have := HO3.out
          rw [show flat 1 (fun _ _ => Value.int .i64 z) 1 = ints [z] from rfl] at this
          simpa [ints] using this
        · exact Below.grown (by show Bel w _; exact Bel.alloc (HBL.out.trans (HB2.out.mono hzr)) _) HG3.out HBS.out (own_base HOB.out)
      case measure => simp; omega
    · have ht2 : ¬ (0 : Int) < (t.size : Int) := by omega
      go_wp2_with fail
      go_ret
      exact ⟨ad, k, c, zs, rfl, HOW.out, by omega, HBL.out⟩
/-- some string, and nothing that was there has changed -/
def SomeStr (w : World) (e : Ending) (w' : World) : Prop := ∃ s : ByteArray, e = .returned (.string s) ∧ Below w.heap.size w w'
set_option maxRecDepth 20000 in
set_option maxHeartbeats 4000000 in
theorem encode_some (ad : Option Addr) (n c : Nat) (zs : List Int) (w : World) (hr : Sl w ad n (ints zs)) (hn1 : n ≤ 1000) : Calls Tryz.prog 36 #[.slice ad n c] w (SomeStr w) := by
  obtain ⟨b, off, hr⟩ := hr
  have hn : zs.length = n := by have := hr.len; rwa [ints_length] at this
  have HN := Lib.hid hn
  have HR := Lib.hid hr
  have hm := hr.max
  obtain ⟨X, hX4, hX⟩ := one_some 65533 (by omega)
  have HX : Hid (∀ W, Calls Tryz.prog 61 #[.int .i64 65533] W fun e w' => e = .returned (.string X) ∧ Below W.heap.size W w') := hX
  clear hr hn hX
  go_enter Tryz.func36, Tryz.ntmps36
  go_wp2_with fail
  go_loopw [3, 4] (fun u v wr => ∃ (k : Nat) (t : ByteArray), v = .int .i64 (k : Int) ∧ k ≤ n ∧ u = .string t ∧ t.size ≤ 4 * k ∧ Below w.heap.size w wr) (fun _ v _ => n - (intOf v).toNat)
  case atStart => exact ⟨0, _, rfl, Nat.zero_le _, rfl, Nat.le_refl _, Below.refl _ _⟩
  case round =>
    obtain ⟨k, t, rfl, hkn, rfl, htk, hbl⟩ := hrel
    have HBL := Lib.hid hbl
    clear hbl
    by_cases hlt : k < n
    · have hix := fun W => HR.out.ix 70 3 Tryz.underlying70 (by kernel_rfl) hlt (c := c) W
      have hc := (HR.out.below HBL.out).cell k hlt
      rw [ints_getD _ _ (by rw [HN.out]; exact hlt)] at hc
      generalize zs.getD k 0 = z at *
      obtain ⟨q, hq1, hq2⟩ := point_some z
      have HPT := Lib.hid hq2
      cases q
      · clear hq1 hq2
        go_wp2_with fail
        refine (HPT.out _).mono ?_
        rintro e _ ⟨rfl, rfl⟩
        go_wp2_with fail
        refine (HX.out _).mono ?_
        rintro e w2 ⟨rfl, hb2⟩
        have HB2 : Hid (Below w.heap.size w w2) := HBL.out.trans (hb2.mono HBL.out.size)
        clear hb2 hc
        go_wp2_with fail
        go_roundw
        case rel => exact ⟨k + 1, _, by go_num, by omega, rfl, by simp; omega, HB2.out⟩
        case measure => simp [intOf]; omega
      · obtain ⟨m, rfl⟩ : ∃ m : Nat, z = (m : Int) := ⟨z.toNat, by have := (hq1 rfl).1; omega⟩
        obtain ⟨Y, hY4, hY⟩ := one_some m (by have := (hq1 rfl).2; omega)
        have HY := Lib.hid hY
        clear hq1 hq2 hY
        go_wp2_with fail
        refine (HPT.out _).mono ?_
        rintro e _ ⟨rfl, rfl⟩
        go_wp2_with fail
        refine (HY.out _).mono ?_
        rintro e w2 ⟨rfl, hb2⟩
        have HB2 : Hid (Below w.heap.size w w2) := HBL.out.trans (hb2.mono HBL.out.size)
        clear hb2 hc
        go_wp2_with fail
        go_roundw
        case rel => exact ⟨k + 1, _, by go_num, by omega, rfl, by simp; omega, HB2.out⟩
        case measure => simp [intOf]; omega
    · obtain rfl : k = n := by omega
      go_wp2_with fail
      go_ret
      exact ⟨_, rfl, HBL.out⟩
set_option maxRecDepth 20000 in
theorem valid_some (s : ByteArray) (hl : s.size ≤ 1000) (w : World) : Calls Tryz.prog 15 #[.string s] w (SomeBool w) := by
  have HD := Lib.hid (decode_some s hl)
  go_enter Tryz.func15, Tryz.ntmps15
  go_wp2_with fail
  refine (HD.out _).mono ?_
  rintro e w1 ⟨ad, k, c, zs, rfl, hown, hkk, hb1⟩
  have HS := Lib.hid (Own.sl hown)
  have HB1 := Lib.hid hb1
  clear hown hb1
  go_wp2_with fail
  refine (encode_some ad k c zs w1 HS.out (by omega)).mono ?_
  rintro e w2 ⟨t, rfl, hb2⟩
  have HB2 : Hid (Below w.heap.size w w2) := HB1.out.trans (hb2.mono HB1.out.size)
  clear hb2
  go_wp2_with fail
  go_ret
  exact ⟨_, rfl, HB2.out⟩
end Go.Proofs.YtadhblppeaamlaaGreatDoor
