/- Walks of the small functions of layer 53. -/
import Derived.Test.YtboojpmahfjaoaaK
namespace Go.Proofs.Ytboojpmahfjaoaa
open Go.RowKit
theorem cells5 : Try.prog.cellsOf 5 = 1 := by kernel_rfl

/-- one step of the digest, as both programs reckon it -/
def dstep (h : Int) (c : UInt8) : Int :=
  bits BinOp.xor IntKind.u64 (IntKind.u64.wrap (bits BinOp.xor IntKind.u64 h (c.toNat : Int) * 11507291218515648293))
    (IntKind.u64.wrap (bits BinOp.xor IntKind.u64 h (c.toNat : Int) * 11507291218515648293) / 4294967296)
def dig (h : Int) (bs : List UInt8) : Int := bs.foldl dstep h
theorem dig_succ (h : Int) (bs : List UInt8) (k : Nat) (hk : k < bs.length) : dig h (bs.take (k + 1)) = dstep (dig h (bs.take k)) (bs.getD k 0) := foldl_take_succ _ _ _ _ hk _
theorem u8_lt (c : UInt8) : c.toNat ≤ 255 := by have := c.toNat_lt; omega


set_option maxHeartbeats 400000 in
theorem from_any (h : Int) (ad : Option Addr) (n c : Nat) (bs : List UInt8) (w : World) (hs : Sl w ad n (u8s bs)) :
    Calls Try.prog 33 #[.int .u64 h, .slice ad n c] w fun e w' => e = .returned (.int .u64 (dig h bs)) ∧ w = w' := by
  obtain ⟨b, off, hs⟩ := hs
  have hmax := hs.max
  have hl := hs.len
  rw [u8s_length] at hl
  have HL := Lib.hid hl
  clear hl
  go_enter Try.func33, Try.ntmps33
  go_wp2
  go_loop [0, 9] (fun h' i => ∃ k : Nat, k ≤ n ∧ i = .int .i64 k ∧ h' = .int .u64 (dig h (bs.take k))) (fun _ i => n - (intOf i).toNat)
  case atStart => exact ⟨0, Nat.zero_le _, rfl, rfl⟩
  case round =>
    obtain ⟨k, hk, rfl, rfl⟩ := hrel
    by_cases hlt : k < n
    · have hix := hs.ix (P := Try.prog) (c := c) 63 5 Try.underlying63 cells5 hlt
      have hcl := hs.cell k hlt
      rw [u8s_getD bs k (by rw [HL.out]; exact hlt)] at hcl
      have HD := Lib.hid (dig_succ h bs k (by rw [HL.out]; exact hlt))
      clear hs
      generalize bs.getD k 0 = z at *
      have hz := u8_lt z
      go_wp2
      go_round
      case rel => exact ⟨k + 1, by omega, by go_num, by rw [HD.out]; rfl⟩
      case measure => simp [intOf]; omega
    · clear hs
      go_wp2
      go_ret
      exact ⟨ret_int (by rw [List.take_of_length_le (by rw [HL.out]; omega)]), rfl⟩

set_option maxHeartbeats 400000 in
theorem rfrom_any (h : Int) (ad : Option Addr) (n c : Nat) (bs : List UInt8) (w : World) (hs : Sl w ad n (u8s bs)) :
    Calls Try.prog 36 #[.int .u64 h, .slice ad n c] w fun e w' => e = .returned (.int .u64 (dig h bs)) ∧ w = w' := by
  obtain ⟨b, off, hs⟩ := hs
  have hmax := hs.max
  have hl := hs.len
  rw [u8s_length] at hl
  have HL := Lib.hid hl
  clear hl
  go_enter Try.func36, Try.ntmps36
  go_wp2
  go_loop [0, 5] (fun h' i => ∃ k : Nat, k ≤ n ∧ i = .int .i64 k ∧ h' = .int .u64 (dig h (bs.take k))) (fun _ i => n - (intOf i).toNat)
  case atStart => exact ⟨0, Nat.zero_le _, rfl, rfl⟩
  case round =>
    obtain ⟨k, hk, rfl, rfl⟩ := hrel
    by_cases hlt : k < n
    · have hix := hs.ix (P := Try.prog) (c := c) 63 5 Try.underlying63 cells5 hlt
      have hcl := hs.cell k hlt
      rw [u8s_getD bs k (by rw [HL.out]; exact hlt)] at hcl
      have HD := Lib.hid (dig_succ h bs k (by rw [HL.out]; exact hlt))
      clear hs
      generalize bs.getD k 0 = z at *
      have hz := u8_lt z
      go_wp2
      go_round
      case rel => exact ⟨k + 1, by omega, by go_num, by rw [HD.out]; rfl⟩
      case measure => simp [intOf]; omega
    · clear hs
      go_wp2
      go_ret
      exact ⟨ret_int (by rw [List.take_of_length_le (by rw [HL.out]; omega)]), rfl⟩

/-- a key's value for a seed, modulo m -/
def hval (s : ByteArray) (seed : Int) (m : Nat) : Nat := (dig seed s.data.toList % (m : Int)).toNat
theorem dstep_bd (h : Int) (c : UInt8) : 0 ≤ dstep h c ∧ dstep h c ≤ 18446744073709551615 := by
  unfold dstep
  unfold bits
  exact u64_wrap_bd _
theorem dig_bd (l : List UInt8) : ∀ h : Int, 0 ≤ h → h ≤ 18446744073709551615 → 0 ≤ dig h l ∧ dig h l ≤ 18446744073709551615 := by
  induction l with
  | nil => intro h h0 h1; exact ⟨h0, h1⟩
  | cons c l ih => intro h _ _; exact ih _ (dstep_bd h c).1 (dstep_bd h c).2
theorem hval_lt (s : ByteArray) (seed : Int) (m : Nat) (hm : 0 < m) : hval s seed m < m := by
  unfold hval
  have := Int.emod_lt_of_pos (dig seed s.data.toList) (show (0 : Int) < m by omega)
  have := Int.emod_nonneg (dig seed s.data.toList) (show (m : Int) ≠ 0 by omega)
  omega
theorem hval_eq (s : ByteArray) (seed : Int) (m : Nat) (hm : 0 < m) : ((hval s seed m : Nat) : Int) = dig seed s.data.toList % (m : Int) := by
  unfold hval
  have := Int.emod_nonneg (dig seed s.data.toList) (show (m : Int) ≠ 0 by omega)
  omega


set_option maxHeartbeats 400000 in
theorem value_any (s : ByteArray) (seed : Int) (m : Nat) (w : World) (hs : s.size ≤ 9223372036854775807) (h0 : 0 ≤ seed) (h1 : seed ≤ 100000) (hm : 0 < m) (hm1 : m ≤ 100000) :
    Calls Try.prog 21 #[.string s, .int .i64 seed, .int .i64 m] w fun e w' => e = .returned (.int .i64 (hval s seed m)) ∧ Below w.heap.size w w' := by
  have HV := Lib.hid (hval_eq s seed m hm)
  have hr0 := Int.emod_nonneg (dig seed s.data.toList) (show (m : Int) ≠ 0 by omega)
  have hr1 := Int.emod_lt_of_pos (dig seed s.data.toList) (show (0 : Int) < m by omega)
  have hd := dig_bd s.data.toList seed h0 (by omega)
  obtain ⟨hd0, hd1⟩ := hd
  have hc := fun W => Lib.run_convert_string_bytes (P := Try.prog) W 9 63 5 s Try.underlying9 Try.underlying63 Try.underlying5
  have hsl := bytes_sl w 5 s hs
  have hbl := bytes_below w 5 s
  clear hs
  go_enter Try.func21, Try.ntmps21
  go_wp2_with fail
  refine (from_any _ _ _ _ _ _ hsl).mono ?_
  rintro e w' ⟨rfl, rfl⟩
  clear hc hsl
  go_wp2
  go_ret
  exact ⟨ret_int HV.out.symm, hbl⟩

set_option maxHeartbeats 400000 in
theorem mod_any (s : ByteArray) (seed : Int) (m : Nat) (w : World) (hs : s.size ≤ 9223372036854775807) (h0 : 0 ≤ seed) (h1 : seed ≤ 100000) (hm : 0 < m) (hm1 : m ≤ 100000) :
    Calls Try.prog 29 #[.string s, .int .i64 seed, .int .i64 m] w fun e w' => e = .returned (.int .i64 (hval s seed m)) ∧ Below w.heap.size w w' := by
  have HV := Lib.hid (hval_eq s seed m hm)
  have hr0 := Int.emod_nonneg (dig seed s.data.toList) (show (m : Int) ≠ 0 by omega)
  have hr1 := Int.emod_lt_of_pos (dig seed s.data.toList) (show (0 : Int) < m by omega)
  have hd := dig_bd s.data.toList seed h0 (by omega)
  obtain ⟨hd0, hd1⟩ := hd
  have hc := fun W => Lib.run_convert_string_bytes (P := Try.prog) W 9 63 5 s Try.underlying9 Try.underlying63 Try.underlying5
  have hsl := bytes_sl w 5 s hs
  have hbl := bytes_below w 5 s
  clear hs
  go_enter Try.func29, Try.ntmps29
  go_wp2_with fail
  refine (rfrom_any _ _ _ _ _ _ hsl).mono ?_
  rintro e w' ⟨rfl, rfl⟩
  clear hc hsl
  go_wp2
  go_ret
  exact ⟨ret_int HV.out.symm, hbl⟩

set_option maxHeartbeats 400000 in
theorem buckets_any (n : Int) (w : World) (h0 : 0 ≤ n) (h1 : n ≤ 1000000) :
    Calls Try.prog 20 #[.int .i64 n] w fun e w' => e = .returned (.int .i64 ((n + 3) / 4)) ∧ w = w' := by
  go_enter Try.func20, Try.ntmps20
  go_wp2
  go_ret
  exact ⟨rfl, rfl⟩

end Go.Proofs.Ytboojpmahfjaoaa
