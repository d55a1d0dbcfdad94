/- Walks: the validity of a table, the slot of a key. -/
import Derived.Test.YtboojpmahfjaoaaA2
namespace Go.Proofs.Ytboojpmahfjaoaa
open Go.RowKit
attribute [local go_sem] Ext.cell Ext.frozen
theorem cells3 : Try.prog.cellsOf 3 = 1 := by kernel_rfl
theorem cells9 : Try.prog.cellsOf 9 = 1 := by kernel_rfl

def badSeed (n : Int) : Bool := decide (n < 0) || decide (100000 < n)

set_option maxHeartbeats 400000 in
theorem valid1_bad (n : Int) (w : World) (h : badSeed n = true) :
    Calls Try.prog 28 #[.int .i64 n] w fun e w' => e = .returned (.bool true) ∧ w = w' := by
  unfold badSeed at h
  by_cases h0 : n < 0
  · go_enter Try.func28, Try.ntmps28
    go_wp2
    go_ret
    exact ⟨rfl, rfl⟩
  · have h1 : 100000 < n := by simpa [h0] using h
    go_enter Try.func28, Try.ntmps28
    go_wp2
    go_ret
    exact ⟨ret_bool (by simp), rfl⟩
set_option maxHeartbeats 400000 in
theorem valid1_good (n : Int) (w : World) (h : badSeed n = false) :
    Calls Try.prog 28 #[.int .i64 n] w fun e w' => e = .returned (.bool false) ∧ w = w' := by
  unfold badSeed at h
  simp at h
  obtain ⟨h0, h1⟩ := h
  go_enter Try.func28, Try.ntmps28
  go_wp2
  all_goals first | (exfalso; omega) | skip
  go_ret
  exact ⟨ret_bool (by simp; omega), rfl⟩

set_option maxHeartbeats 400000 in
/-- slices.IndexFunc at the literal in Valid -/
theorem index_any (ad : Option Addr) (n c : Nat) (zs : List Int) (w : World) (hs : Sl w ad n (ints zs)) :
    Calls Try.prog 35 #[.slice ad n c, .func (.func 28) #[] #[]] w fun e w' => (∃ r : Int, e = .returned (.int .i64 r) ∧ decide (0 ≤ r) = zs.any badSeed) ∧ w = w' := by
  obtain ⟨b, off, hs⟩ := hs
  have hmax := hs.max
  have hl := hs.len
  rw [ints_length] at hl
  have HL := Lib.hid hl
  clear hl
  go_enter Try.func35, Try.ntmps35
  go_wp2
  go_loop [8] (fun i => ∃ k : Nat, k ≤ n ∧ i = .int .i64 k ∧ (zs.take k).any badSeed = false) (fun i => n - (intOf i).toNat)
  case atStart => exact ⟨0, Nat.zero_le _, rfl, rfl⟩
  case round =>
    obtain ⟨k, hk, rfl, ha⟩ := hrel
    have HA := Lib.hid ha
    clear ha
    by_cases hlt : k < n
    · have hix := hs.ix (P := Try.prog) (c := c) 25 3 Try.underlying25 cells3 hlt
      have hcl := hs.cell k hlt
      rw [ints_getD zs k (by rw [HL.out]; exact hlt)] at hcl
      have HD := Lib.hid (any_take_succ badSeed zs k (by rw [HL.out]; exact hlt) 0)
      have HY := Lib.hid (any_of_getD badSeed zs k (by rw [HL.out]; exact hlt) 0)
      clear hs
      generalize zs.getD k 0 = z at *
      cases hz : badSeed z with
      | true =>
        have HZ := Lib.hid hz
        clear hz
        go_wp2_with (go_at_call 28; refine (valid1_bad _ _ HZ.out).mono ?_; rintro e w' ⟨rfl, rfl⟩)
        go_ret
        exact ⟨⟨_, rfl, by rw [HY.out HZ.out]; simp⟩, rfl⟩
      | false =>
        have HZ := Lib.hid hz
        clear hz
        go_wp2_with (go_at_call 28; refine (valid1_good _ _ HZ.out).mono ?_; rintro e w' ⟨rfl, rfl⟩)
        go_round
        case rel => exact ⟨k + 1, by omega, by go_num, by rw [HD.out, HA.out, HZ.out]; rfl⟩
        case measure => simp [intOf]; omega
    · clear hs
      go_wp2
      go_ret
      have hf := HA.out
      rw [List.take_of_length_le (by rw [HL.out]; omega)] at hf
      exact ⟨⟨_, rfl, by rw [hf]; rfl⟩, rfl⟩


set_option maxHeartbeats 400000 in
theorem contains_any (ad : Option Addr) (n c : Nat) (zs : List Int) (w : World) (hs : Sl w ad n (ints zs)) :
    Calls Try.prog 27 #[.slice ad n c, .func (.func 28) #[] #[]] w fun e w' => e = .returned (.bool (zs.any badSeed)) ∧ w = w' := by
  go_enter Try.func27, Try.ntmps27
  go_wp2_with fail
  refine (index_any _ _ _ _ _ hs).mono ?_
  rintro e w' ⟨⟨r, rfl, hr⟩, rfl⟩
  have HR := Lib.hid hr
  clear hr
  go_wp2
  go_ret
  exact ⟨ret_bool HR.out, rfl⟩

/-- a table is valid -/
def validT (size : Int) (zs : List Int) : Bool := decide (0 ≤ size) && decide (size ≤ 1000) && decide ((zs.length : Int) = (size + 3) / 4) && !zs.any badSeed


set_option maxHeartbeats 1000000 in
theorem valid_any (size : Int) (ad : Option Addr) (n c : Nat) (zs : List Int) (w : World) (hs : Sl w ad n (ints zs)) :
    Calls Try.prog 15 #[.agg #[.int .i64 size, .slice ad n c]] w fun e w' => e = .returned (.bool (validT size zs)) ∧ Below w.heap.size w w' := by
  have hmax := hs.max
  have hl := hs.len
  rw [ints_length] at hl
  have HS := Lib.hid hs
  clear hs
  by_cases h1 : 0 ≤ size
  · by_cases h2 : size ≤ 1000
    · by_cases h3 : (n : Int) = (size + 3) / 4
      · have HV : Hid (validT size zs = !zs.any badSeed) := by simp [validT, h1, h2, hl, h3, Hid]
        have h3' : ((n : Int) == (size + 3) / 4) = true := by simp [h3]
        clear hl h3
        go_enter Try.func15, Try.ntmps15
        go_wp2
        go_quiet (first
          | (go_at_call 20; exact Calls.quiet_of_same ((buckets_any _ _ (by omega) (by omega)).mono fun _ _ h => ⟨h.1, h.2.symm⟩))
          | (go_at_call 27; exact Calls.quiet_of_same ((contains_any _ _ _ zs _ ((HS.out.alloc _).drewN _)).mono fun _ _ h => ⟨h.1, h.2.symm⟩)))
        go_wp2
        go_ret
        exact ⟨ret_bool HV.out.symm, box_below _ _ _⟩
      · have HV : Hid (validT size zs = false) := by simp [validT, h1, h2, hl, h3, Hid]
        have h3' : ((n : Int) == (size + 3) / 4) = false := by simp [h3]
        clear hl h3
        go_enter Try.func15, Try.ntmps15
        go_wp2
        go_quiet ((go_at_call 20; exact Calls.quiet_of_same ((buckets_any _ _ (by omega) (by omega)).mono fun _ _ h => ⟨h.1, h.2.symm⟩)))
        go_wp2
        go_ret
        exact ⟨ret_bool HV.out.symm, box_below _ _ _⟩
    · have HV : Hid (validT size zs = false) := by simp [validT, h1, h2, Hid]
      have h2' : decide (size ≤ 1000) = false := by simp [h2]
      clear hl
      go_enter Try.func15, Try.ntmps15
      go_wp2
      go_quiet (fail)
      go_wp2
      go_ret
      exact ⟨ret_bool HV.out.symm, box_below _ _ _⟩
  · have HV : Hid (validT size zs = false) := by simp [validT, h1, Hid]
    have h1' : decide (0 ≤ size) = false := by simp [h1]
    clear hl
    go_enter Try.func15, Try.ntmps15
    go_wp2
    go_quiet (fail)
    go_wp2
    go_ret
    exact ⟨ret_bool HV.out.symm, box_below _ _ _⟩

theorem validT_size {size : Int} {zs : List Int} (h : validT size zs = true) : 0 ≤ size ∧ size ≤ 1000 ∧ (zs.length : Int) = (size + 3) / 4 ∧ ∀ z ∈ zs, 0 ≤ z ∧ z ≤ 100000 := by
  simp only [validT, Bool.and_eq_true, decide_eq_true_eq, Bool.not_eq_true', List.any_eq_false] at h
  obtain ⟨⟨⟨h1, h2⟩, h3⟩, h4⟩ := h
  refine ⟨h1, h2, h3, fun z hz => ?_⟩
  have := h4 z hz
  simp [badSeed] at this
  omega

/-- the slot of a key -/
def slotT (size : Int) (zs : List Int) (key : ByteArray) : Int :=
  if validT size zs = false ∨ size = 0 then -1
  else if zs.getD (hval key 0 zs.length) 0 = 0 then -1
  else hval key (zs.getD (hval key 0 zs.length) 0) size.toNat

set_option maxHeartbeats 1000000 in
theorem slot_any (size : Int) (ad : Option Addr) (n c : Nat) (zs : List Int) (key : ByteArray) (w : World) (hs : Sl w ad n (ints zs)) (hk : key.size ≤ 9223372036854775807) :
    Calls Try.prog 14 #[.agg #[.int .i64 size, .slice ad n c], .string key] w fun e w' => e = .returned (.int .i64 (slotT size zs key)) ∧ Below w.heap.size w w' := by
  have HS := Lib.hid hs
  cases hv : validT size zs with
  | false =>
    have HV := Lib.hid hv
    have HR : Hid (slotT size zs key = -1) := by simp [slotT, hv, Hid]
    clear hv hs
    go_enter Try.func14, Try.ntmps14
    go_wp2_with fail
    refine (valid_any _ _ _ _ zs _ (HS.out.alloc _)).mono ?_
    rintro e w1 ⟨rfl, hb⟩
    have hb' : Below w.heap.size w w1 := ((Below.refl _ w).alloc (Nat.le_refl _) _).trans (hb.mono (by simp))
    rw [HV.out]
    clear hb HV
    go_wp2
    go_ret
    exact ⟨ret_int HR.out.symm, hb'⟩
  | true =>
    obtain ⟨g1, g2, g3, g4⟩ := validT_size hv
    have hl := hs.len
    rw [ints_length] at hl
    have HV := Lib.hid hv
    by_cases h0 : size = 0
    · have HR : Hid (slotT size zs key = -1) := by simp [slotT, h0, Hid]
      have h0' : (size == 0) = true := by simp [h0]
      clear hv h0 hl hs g3
      go_enter Try.func14, Try.ntmps14
      go_wp2_with fail
      refine (valid_any _ _ _ _ zs _ (HS.out.alloc _)).mono ?_
      rintro e w1 ⟨rfl, hb⟩
      have hb' : Below w.heap.size w w1 := ((Below.refl _ w).alloc (Nat.le_refl _) _).trans (hb.mono (by simp))
      have hc := hb.cell (p := ⟨w.heap.size, 0, none⟩) (by simp)
      rw [HV.out]
      clear hb HV
      go_wp2
      go_ret
      exact ⟨ret_int HR.out.symm, hb'⟩
    · have hn : 0 < n := by omega
      have h0' : (size == 0) = false := by simp [h0]
      obtain ⟨b, off, hs⟩ := hs
      have hbl := hs.block (by omega)
      have hqlt := hval_lt key 0 n hn
      have hix := hs.ix (P := Try.prog) (c := c) 25 3 Try.underlying25 cells3 hqlt
      have hcl := hs.cell _ hqlt
      rw [ints_getD zs _ (by rw [hl]; exact hqlt)] at hcl
      have hz := g4 _ (getD_mem zs (hval key 0 n) 0 (by rw [hl]; exact hqlt))
      have HR : Hid (slotT size zs key = if zs.getD (hval key 0 n) 0 = 0 then (-1 : Int) else ((hval key (zs.getD (hval key 0 n) 0) size.toNat : Nat) : Int)) := by
        simp only [slotT, hv, h0, hl, Hid]
        simp
      have hval0 := fun W h1 h2 => value_any key 0 n W hk h1 h2 hn (by omega)
      generalize hval key 0 n = q at *
      generalize zs.getD q 0 = z at *
      have HVL := Lib.hid hval0
      clear hv h0 hl hs g3 hval0 g4
      have h1n : Int.toNat size ≤ 100000 := by omega
      obtain ⟨m, rfl⟩ : ∃ m : Nat, size = m := ⟨size.toNat, by omega⟩
      cases hz0 : (z == 0) with
      | true =>
        have HRR : Hid (slotT m zs key = -1) := by rw [HR.out]; simp at hz0; simp [hz0, Hid]
        go_enter Try.func14, Try.ntmps14
        go_wp2_with fail
        refine (valid_any _ _ _ _ zs _ (HS.out.alloc _)).mono ?_
        rintro e w1 ⟨rfl, hb⟩
        have hb' : Below w.heap.size w w1 := ((Below.refl _ w).alloc (Nat.le_refl _) _).trans (hb.mono (by simp))
        have hc0 := hb.cell (p := ⟨w.heap.size, 0, none⟩) (by simp)
        have hc1 := hb.cell (p := ⟨w.heap.size, 1, none⟩) (by simp)
        have hc2 := hb'.cell (p := ⟨b, off + q, none⟩) hbl
        rw [hcl] at hc2
        have hz1 : w.heap.size < w1.heap.size := by have := hb.size; simp at this; omega
        have hbl1 : b < w1.heap.size := by omega
        rw [HV.out]
        clear hb HV
        go_wp2_with fail
        refine wp_region_ext (by kernel_rfl) (by kernel_rfl) ?_
        repeat (go_big_quiet_step ((go_at_call 21; exact Calls.ext (HVL.out _ (by omega) (by omega)))))
        refine wpQuiet_nil ?_
        intro _ hw'
        obtain ⟨e, hw''⟩ := hw'
        subst hw''
        go_wp2
        go_ret
        exact ⟨ret_int HRR.out.symm, hb'.trans (e.2.mono (by omega))⟩
      | false =>
        have HRR : Hid (slotT m zs key = hval key z m) := by rw [HR.out]; simp at hz0; simp [hz0, Hid]
        have hm0 : 0 < m := by
          rcases Nat.eq_zero_or_pos m with e | e
          · subst e; simp at h0'
          · exact e
        go_enter Try.func14, Try.ntmps14
        go_wp2_with fail
        refine (valid_any _ _ _ _ zs _ (HS.out.alloc _)).mono ?_
        rintro e w1 ⟨rfl, hb⟩
        have hb' : Below w.heap.size w w1 := ((Below.refl _ w).alloc (Nat.le_refl _) _).trans (hb.mono (by simp))
        have hc0 := hb.cell (p := ⟨w.heap.size, 0, none⟩) (by simp)
        have hc1 := hb.cell (p := ⟨w.heap.size, 1, none⟩) (by simp)
        have hc2 := hb'.cell (p := ⟨b, off + q, none⟩) hbl
        rw [hcl] at hc2
        have hz1 : w.heap.size < w1.heap.size := by have := hb.size; simp at this; omega
        have hbl1 : b < w1.heap.size := by omega
        rw [HV.out]
        clear hb HV
        go_wp2_with fail
        refine wp_region_ext (by kernel_rfl) (by kernel_rfl) ?_
        repeat (go_big_quiet_step ((go_at_call 21; exact Calls.ext (HVL.out _ (by omega) (by omega)))))
        refine wpQuiet_nil ?_
        intro _ hw'
        obtain ⟨e, hw''⟩ := hw'
        subst hw''
        go_wp2_with fail
        refine (value_any key z m _ hk (by omega) (by omega) hm0 (by omega)).mono ?_
        rintro e2 w2 ⟨rfl, hb2⟩
        have hb3 := (hb'.trans (e.2.mono (by omega))).trans (hb2.mono (by have := e.2.size; omega))
        clear hb2
        go_wp2
        go_ret
        exact ⟨ret_int HRR.out.symm, hb3⟩

set_option maxHeartbeats 400000 in
theorem rhas_any (ad : Option Addr) (n c : Nat) (zs : List Int) (x : Int) (w : World) (hs : Sl w ad n (ints zs)) :
    Calls Try.prog 32 #[.slice ad n c, .int .i64 x] w fun e w' => e = .returned (.bool (zs.any (· == x))) ∧ w = w' := by
  obtain ⟨b, off, hs⟩ := hs
  have hmax := hs.max
  have hl := hs.len
  rw [ints_length] at hl
  have HL := Lib.hid hl
  clear hl
  go_enter Try.func32, Try.ntmps32
  go_wp2
  go_loop [5] (fun i => ∃ k : Nat, k ≤ n ∧ i = .int .i64 k ∧ (zs.take k).any (· == x) = false) (fun i => n - (intOf i).toNat)
  case atStart => exact ⟨0, Nat.zero_le _, rfl, rfl⟩
  case round =>
    obtain ⟨k, hk, rfl, ha⟩ := hrel
    have HA := Lib.hid ha
    clear ha
    by_cases hlt : k < n
    · have hix := hs.ix (P := Try.prog) (c := c) 25 3 Try.underlying25 cells3 hlt
      have hcl := hs.cell k hlt
      rw [ints_getD zs k (by rw [HL.out]; exact hlt)] at hcl
      have HD := Lib.hid (any_take_succ (· == x) zs k (by rw [HL.out]; exact hlt) 0)
      have HY := Lib.hid (any_of_getD (· == x) zs k (by rw [HL.out]; exact hlt) 0)
      clear hs
      generalize zs.getD k 0 = z at *
      cases hz : (z == x) with
      | true =>
        have HZ := Lib.hid hz
        go_wp2
        go_ret
        exact ⟨ret_bool (HY.out HZ.out).symm, rfl⟩
      | false =>
        have HZ := Lib.hid hz
        go_wp2
        go_round
        case rel => exact ⟨k + 1, by omega, by go_num, by rw [HD.out, HA.out, HZ.out]; rfl⟩
        case measure => simp [intOf]; omega
    · clear hs
      go_wp2
      go_ret
      have hf := HA.out
      rw [List.take_of_length_le (by rw [HL.out]; omega)] at hf
      exact ⟨ret_bool hf.symm, rfl⟩

set_option maxHeartbeats 400000 in
theorem few_any (ad : Option Addr) (n c : Nat) (ss : List ByteArray) (w : World) (hs : Sl w ad n (strs ss)) (hm : ∀ s ∈ ss, s.size ≤ 9223372036854775807) :
    Calls Try.prog 10 #[.slice ad n c] w fun e w' => e = .returned (.bool (ss.all (fun s => decide (s.size ≤ 60)) && decide (ss.length ≤ 60))) ∧ w = w' := by
  obtain ⟨b, off, hs⟩ := hs
  have hmax := hs.max
  have hl := hs.len
  rw [strs_length] at hl
  have HL := Lib.hid hl
  clear hl
  have HM := Lib.hid hm
  clear hm
  go_enter Try.func10, Try.ntmps10
  go_wp2
  go_loop [3] (fun i => ∃ k : Nat, k ≤ n ∧ i = .int .i64 k ∧ (ss.take k).all (fun s => decide (s.size ≤ 60)) = true) (fun i => n - (intOf i).toNat)
  case atStart => exact ⟨0, Nat.zero_le _, rfl, rfl⟩
  case round =>
    obtain ⟨k, hk, rfl, ha⟩ := hrel
    have HA := Lib.hid ha
    clear ha
    by_cases hlt : k < n
    · have hix := hs.ix (P := Try.prog) (c := c) 22 9 Try.underlying22 cells9 hlt
      have hcl := hs.cell k hlt
      have hmk := HM.out _ (getD_mem ss k .empty (by rw [HL.out]; exact hlt))
      rw [strs_getD ss k (by rw [HL.out]; exact hlt)] at hcl
      have HD := Lib.hid (all_take_succ (fun s : ByteArray => decide (s.size ≤ 60)) ss k (by rw [HL.out]; exact hlt) .empty)
      have HY := Lib.hid (all_of_getD (fun s : ByteArray => decide (s.size ≤ 60)) ss k (by rw [HL.out]; exact hlt) .empty)
      clear hs
      generalize ss.getD k .empty = z at *
      by_cases hz : 60 < z.size
      · have HZ : Hid (decide (z.size ≤ 60) = false) := by simp [Hid]; omega
        go_wp2
        go_ret
        exact ⟨ret_bool (by rw [HY.out HZ.out]; rfl), rfl⟩
      · have HZ : Hid (decide (z.size ≤ 60) = true) := by simp [Hid]; omega
        go_wp2
        go_round
        case rel => exact ⟨k + 1, by omega, by go_num, by rw [HD.out, HA.out, HZ.out]; rfl⟩
        case measure => simp [intOf]; omega
    · clear hs
      have hf := HA.out
      rw [List.take_of_length_le (by rw [HL.out]; omega)] at hf
      have HF := Lib.hid hf
      clear hf
      go_wp2
      go_ret
      refine ⟨ret_bool ?_, rfl⟩
      rw [HF.out, HL.out]
      simp
      omega

end Go.Proofs.Ytboojpmahfjaoaa
