/- Walks: the reference's validity, slots and checks. -/
import Derived.Test.YtboojpmahfjaoaaA3
namespace Go.Proofs.Ytboojpmahfjaoaa
open Go.RowKit
attribute [local go_sem] Ext.cell Ext.frozen

set_option maxHeartbeats 1000000 in
theorem rvalid_any (size : Int) (ad : Option Addr) (n c : Nat) (zs : List Int) (w : World) (hs : Sl w ad n (ints zs)) :
    Calls Try.prog 16 #[.agg #[.int .i64 size, .slice ad n c]] w fun e w' => e = .returned (.bool (validT size zs)) ∧ Below w.heap.size w w' := by
  have hmax := hs.max
  have hl := hs.len
  rw [ints_length] at hl
  by_cases h1 : 0 ≤ size
  · by_cases h2 : size ≤ 1000
    · by_cases h3 : (n : Int) = (size + 3) / 4
      · have HV : Hid (validT size zs = !zs.any badSeed) := by simp [validT, h1, h2, hl, h3, Hid]
        have h3' : ((n : Int) != (size + 3) / 4) = false := by simp [h3]
        have HL := Lib.hid hl
        clear hl h3
        obtain ⟨b, off, hs⟩ := hs
        have hbl : n ≠ 0 → b < w.heap.size := fun h => hs.block h
        go_enter Try.func16, Try.ntmps16
        go_wp2
        go_loop [3] (fun i => ∃ k : Nat, k ≤ n ∧ i = .int .i64 k ∧ (zs.take k).any badSeed = false) (fun i => n - (intOf i).toNat)
        case atStart => exact ⟨0, Nat.zero_le _, rfl, rfl⟩
        case round =>
          obtain ⟨k, hk, rfl, ha⟩ := hrel
          have HA := Lib.hid ha
          clear ha
          by_cases hlt : k < n
          · have hix := hs.ix (P := Try.prog) (c := c) 25 3 Try.underlying25 cells3 hlt
            have hcl := hs.cell k hlt
            have hbl := hs.block (by omega)
            rw [ints_getD zs k (by rw [HL.out]; exact hlt)] at hcl
            have HD := Lib.hid (any_take_succ badSeed zs k (by rw [HL.out]; exact hlt) 0)
            have HY := Lib.hid (any_of_getD badSeed zs k (by rw [HL.out]; exact hlt) 0)
            clear hs
            generalize zs.getD k 0 = z at *
            by_cases hz : z < 0
            · have HZ : Hid (badSeed z = true) := by simp [badSeed, hz, Hid]
              go_wp2
              go_ret
              exact ⟨ret_bool (by rw [HV.out, HY.out HZ.out]; rfl), (Below.refl _ _).alloc (Nat.le_refl _) _⟩
            · by_cases hz2 : 100000 < z
              · have HZ : Hid (badSeed z = true) := by simp [badSeed, hz2, Hid]
                go_wp2
                go_ret
                exact ⟨ret_bool (by rw [HV.out, HY.out HZ.out]; rfl), (Below.refl _ _).alloc (Nat.le_refl _) _⟩
              · have HZ : Hid (badSeed z = false) := by simp [badSeed, hz, hz2, Hid]
                go_wp2
                go_round
                case rel => exact ⟨k + 1, by omega, by go_num, by rw [HD.out, HA.out, HZ.out]; rfl⟩
                case measure => simp [intOf]; omega
          · clear hs
            have hf := HA.out
            rw [List.take_of_length_le (by rw [HL.out]; omega)] at hf
            have HF := Lib.hid hf
            clear hf
            go_wp2
            go_ret
            exact ⟨ret_bool (by rw [HV.out, HF.out]; rfl), (Below.refl _ _).alloc (Nat.le_refl _) _⟩
      · have HV : Hid (validT size zs = false) := by simp [validT, h1, h2, hl, h3, Hid]
        have h3' : ((n : Int) != (size + 3) / 4) = true := by simp [h3]
        clear hl h3
        go_enter Try.func16, Try.ntmps16
        go_wp2
        go_ret
        exact ⟨ret_bool HV.out.symm, (Below.refl _ _).alloc (Nat.le_refl _) _⟩
    · have HV : Hid (validT size zs = false) := by simp [validT, h1, h2, Hid]
      have h2' : 1000 < size := by omega
      clear hl
      go_enter Try.func16, Try.ntmps16
      go_wp2
      go_ret
      exact ⟨ret_bool HV.out.symm, (Below.refl _ _).alloc (Nat.le_refl _) _⟩
  · have HV : Hid (validT size zs = false) := by simp [validT, h1, Hid]
    clear hl
    go_enter Try.func16, Try.ntmps16
    go_wp2
    go_ret
    exact ⟨ret_bool HV.out.symm, (Below.refl _ _).alloc (Nat.le_refl _) _⟩

set_option maxHeartbeats 1000000 in
theorem rslot_any (size : Int) (ad : Option Addr) (n c : Nat) (zs : List Int) (key : ByteArray) (w : World) (hs : Sl w ad n (ints zs)) (hk : key.size ≤ 9223372036854775807) :
    Calls Try.prog 17 #[.agg #[.int .i64 size, .slice ad n c], .string key] w fun e w' => e = .returned (.int .i64 (slotT size zs key)) ∧ Below w.heap.size w w' := by
  have HS := Lib.hid hs
  cases hv : validT size zs with
  | false =>
    have HV := Lib.hid hv
    have HR : Hid (slotT size zs key = -1) := by simp [slotT, hv, Hid]
    clear hv hs
    go_enter Try.func17, Try.ntmps17
    go_wp2_with fail
    refine (rvalid_any _ _ _ _ zs _ (HS.out.alloc _)).mono ?_
    rintro e w1 ⟨rfl, hb⟩
    have hb' : Below w.heap.size w w1 := ((Below.refl _ w).alloc (Nat.le_refl _) _).trans (hb.mono (by simp))
    rw [HV.out]
    clear hb HV
    go_wp2
    go_ret
    exact ⟨ret_int HR.out.symm, hb'⟩
  | true =>
    obtain ⟨g1, g2, g3, g4⟩ := validT_size hv
    have hl := hs.len
    rw [ints_length] at hl
    have HV := Lib.hid hv
    by_cases h0 : size = 0
    · have HR : Hid (slotT size zs key = -1) := by simp [slotT, h0, Hid]
      have h0' : (size == 0) = true := by simp [h0]
      clear hv h0 hl hs g3
      go_enter Try.func17, Try.ntmps17
      go_wp2_with fail
      refine (rvalid_any _ _ _ _ zs _ (HS.out.alloc _)).mono ?_
      rintro e w1 ⟨rfl, hb⟩
      have hb' : Below w.heap.size w w1 := ((Below.refl _ w).alloc (Nat.le_refl _) _).trans (hb.mono (by simp))
      have hc := hb.cell (p := ⟨w.heap.size, 0, none⟩) (by simp)
      rw [HV.out]
      clear hb HV
      go_wp2
      go_ret
      exact ⟨ret_int HR.out.symm, hb'⟩
    · have hn : 0 < n := by omega
      have h0' : (size == 0) = false := by simp [h0]
      obtain ⟨b, off, hs⟩ := hs
      have hbl := hs.block (by omega)
      have hqlt := hval_lt key 0 n hn
      have hix := hs.ix (P := Try.prog) (c := c) 25 3 Try.underlying25 cells3 hqlt
      have hcl := hs.cell _ hqlt
      rw [ints_getD zs _ (by rw [hl]; exact hqlt)] at hcl
      have hz := g4 _ (getD_mem zs (hval key 0 n) 0 (by rw [hl]; exact hqlt))
      have HR : Hid (slotT size zs key = if zs.getD (hval key 0 n) 0 = 0 then (-1 : Int) else ((hval key (zs.getD (hval key 0 n) 0) size.toNat : Nat) : Int)) := by
        simp only [slotT, hv, h0, hl, Hid]
        simp
      have hval0 := fun W h1 h2 => mod_any key 0 n W hk h1 h2 hn (by omega)
      generalize hval key 0 n = q at *
      generalize zs.getD q 0 = z at *
      have HVL := Lib.hid hval0
      clear hv h0 hl hs g3 hval0 g4
      have h1n : Int.toNat size ≤ 100000 := by omega
      obtain ⟨m, rfl⟩ : ∃ m : Nat, size = m := ⟨size.toNat, by omega⟩
      cases hz0 : (z == 0) with
      | true =>
        have HRR : Hid (slotT m zs key = -1) := by rw [HR.out]; simp at hz0; simp [hz0, Hid]
        go_enter Try.func17, Try.ntmps17
        go_wp2_with fail
        refine (rvalid_any _ _ _ _ zs _ (HS.out.alloc _)).mono ?_
        rintro e w1 ⟨rfl, hb⟩
        have hb' : Below w.heap.size w w1 := ((Below.refl _ w).alloc (Nat.le_refl _) _).trans (hb.mono (by simp))
        have hc0 := hb.cell (p := ⟨w.heap.size, 0, none⟩) (by simp)
        have hc1 := hb.cell (p := ⟨w.heap.size, 1, none⟩) (by simp)
        have hc2 := hb'.cell (p := ⟨b, off + q, none⟩) hbl
        rw [hcl] at hc2
        have hz1 : w.heap.size < w1.heap.size := by have := hb.size; simp at this; omega
        have hbl1 : b < w1.heap.size := by omega
        rw [HV.out]
        clear hb HV
        go_wp2_with fail
        refine wp_region_ext (by kernel_rfl) (by kernel_rfl) ?_
        repeat (go_big_quiet_step ((go_at_call 29; exact Calls.ext (HVL.out _ (by omega) (by omega)))))
        refine wpQuiet_nil ?_
        intro _ hw'
        obtain ⟨e, hw''⟩ := hw'
        subst hw''
        go_wp2
        go_ret
        exact ⟨ret_int HRR.out.symm, hb'.trans (e.2.mono (by omega))⟩
      | false =>
        have HRR : Hid (slotT m zs key = hval key z m) := by rw [HR.out]; simp at hz0; simp [hz0, Hid]
        have hm0 : 0 < m := by
          rcases Nat.eq_zero_or_pos m with e | e
          · subst e; simp at h0'
          · exact e
        go_enter Try.func17, Try.ntmps17
        go_wp2_with fail
        refine (rvalid_any _ _ _ _ zs _ (HS.out.alloc _)).mono ?_
        rintro e w1 ⟨rfl, hb⟩
        have hb' : Below w.heap.size w w1 := ((Below.refl _ w).alloc (Nat.le_refl _) _).trans (hb.mono (by simp))
        have hc0 := hb.cell (p := ⟨w.heap.size, 0, none⟩) (by simp)
        have hc1 := hb.cell (p := ⟨w.heap.size, 1, none⟩) (by simp)
        have hc2 := hb'.cell (p := ⟨b, off + q, none⟩) hbl
        rw [hcl] at hc2
        have hz1 : w.heap.size < w1.heap.size := by have := hb.size; simp at this; omega
        have hbl1 : b < w1.heap.size := by omega
        rw [HV.out]
        clear hb HV
        go_wp2_with fail
        refine wp_region_ext (by kernel_rfl) (by kernel_rfl) ?_
        repeat (go_big_quiet_step ((go_at_call 29; exact Calls.ext (HVL.out _ (by omega) (by omega)))))
        refine wpQuiet_nil ?_
        intro _ hw'
        obtain ⟨e, hw''⟩ := hw'
        subst hw''
        go_wp2_with fail
        refine (mod_any key z m _ hk (by omega) (by omega) hm0 (by omega)).mono ?_
        rintro e2 w2 ⟨rfl, hb2⟩
        have hb3 := (hb'.trans (e.2.mono (by omega))).trans (hb2.mono (by have := e.2.size; omega))
        clear hb2
        go_wp2
        go_ret
        exact ⟨ret_int HRR.out.symm, hb3⟩



end Go.Proofs.Ytboojpmahfjaoaa
