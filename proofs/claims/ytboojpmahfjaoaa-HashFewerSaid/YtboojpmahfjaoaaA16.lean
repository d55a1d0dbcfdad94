/- Walks: the examples of the document hold. -/
import Derived.Test.YtboojpmahfjaoaaA13
namespace Go.Proofs.Ytboojpmahfjaoaa
open Go.RowKit
attribute [local go_sem] Ext.cell Ext.frozen

theorem hval_one (s : ByteArray) (seed : Int) : hval s seed 1 = 0 := by
  have := hval_lt s seed 1 (by omega)
  omega

theorem one_bucket (x : ByteArray) : bucket [x] 1 0 = [x] := by
  simp [bucket, hval_one]

theorem one_seed (x : ByteArray) : seedOf (fun _ => false) [x] 1 = some 1 :=
  seedOf_some (by omega) (by omega) (by simp [goodSeed, fitK, slots]) (fun t h1 h2 => by omega)

theorem one_built (x : ByteArray) : ∃ f, built [x] = some (f, upd (fun _ => 0) 0 1) := by
  refine ⟨addAll (fun _ => false) (slots [x] ((1 : Nat) : Int) 1), ?_⟩
  have hr : refOrd (fun b => (bucket [x] 1 b).length) 1 1 = [0] := by
    simp [refOrd, one_bucket]
  unfold built
  simp only [List.length_singleton, show nb 1 = 1 from rfl, hr]
  simp [procL, one_bucket, one_seed]

theorem one_err (x : ByteArray) : errB [x] = 0 := by
  obtain ⟨f, h⟩ := one_built x
  simp [errB, dupK, memB, h]
theorem one_size (x : ByteArray) : sizeB [x] = 1 := by simp [sizeB, one_err]
theorem one_seeds (x : ByteArray) : seedsB [x] = [1] := by
  obtain ⟨f, h⟩ := one_built x
  have hr : List.range 1 = [0] := rfl
  simp [seedsB, one_err, h, nb, hr, upd]

theorem one_valid : validT 1 [1] = true := by decide
theorem one_slot (x : ByteArray) : slotT 1 [1] x = 0 := by
  unfold slotT
  rw [one_valid]
  simp [hval_one]
theorem one_check (x : ByteArray) : checkT 1 [1] [x] = true := by
  simp [checkT, one_valid, okSl, one_slot]

theorem one_sl (w : World) (x : ByteArray) (T : TypeId) : Sl (w.alloc (.cells #[.string x] T)) (some ⟨w.heap.size, 0, none⟩) 1 (strs [x]) := by
  refine ⟨w.heap.size, 0, rfl, by omega, fun _ => rfl, fun i hi => ?_⟩
  obtain rfl : i = 0 := by omega
  simp [World.cell?, World.alloc, -World.alloc_eq, strs]

set_option maxHeartbeats 1000000 in
theorem awake_any (w : World) : Calls Try.prog 9 #[] w fun e w' => e = .returned (.bool true) ∧ Below w.heap.size w w' := by
  have ha : ∀ s ∈ [(⟨#[97]⟩ : ByteArray)], s.size ≤ 9223372036854775807 := by
    intro s hs
    simp at hs
    subst hs
    decide
  have HA := Lib.hid ha
  clear ha
  go_enter Try.func9, Try.ntmps9
  go_wp2_with fail
  refine (build_any _ 1 _ [⟨#[97]⟩] _ (one_sl w _ 9) (by omega) HA.out).mono ?_
  rintro e w1 ⟨⟨ad, c, rfl, hsl⟩, hb⟩
  rw [one_size, one_seeds, one_err]
  rw [one_seeds] at hsl
  have hb1 : Below w.heap.size w w1 := ((Below.refl _ w).alloc (Nat.le_refl _) _).trans (hb.mono (by simp))
  have HB1 := Lib.hid hb1
  have hz1 := hb1.size
  have HSL := Lib.hid hsl
  obtain ⟨b, off, hs⟩ := hsl
  have hix := hs.ix (P := Try.prog) (c := c) 25 3 Try.underlying25 cells3 (k := 0) (by decide)
  have hcl := hs.cell 0 (by decide)
  have hblk := hs.block (by decide)
  clear hb hb1 hs
  have e1 : (ints [1]).getD 0 undef = .int .i64 1 := rfl
  rw [e1] at hcl
  clear e1
  have hix0 : ∀ W, (Instr.indexAt 25 (.slice ad 1 c) (.int .i64 0)).run Try.prog W = .ok (.pointer (some ⟨b, off, none⟩)) W := fun W => hix W
  have hcl0 : w1.cell? ⟨b, off, none⟩ = some (.int .i64 1) := hcl
  clear hix hcl
  go_wp2_with fail
  refine (slot_any 1 ad 1 c [1] _ _ (HSL.out.alloc _) (HA.out _ (by simp))).mono ?_
  rintro e w2 ⟨rfl, hb2⟩
  rw [one_slot]
  have hb3 := HB1.out.trans ((((Below.refl _ w1).alloc (Nat.le_refl _) (.cells #[.int .i64 1, .slice ad 1 c] 27)).trans (hb2.mono (by simp))).mono hz1)
  have HB3 := Lib.hid hb3
  have hz3 := hb3.size
  have HSL2 := Lib.hid ((HSL.out.alloc (.cells #[.int .i64 1, .slice ad 1 c] 27)).below hb2)
  have hc0 := hb2.cell (p := ⟨w1.heap.size, 0, none⟩) (by simp)
  have hc1 := hb2.cell (p := ⟨w1.heap.size, 1, none⟩) (by simp)
  have hz4 : w1.heap.size < w2.heap.size := by have := hb2.size; simp at this; omega
  clear hb2 hb3 hcl0 hix0
  go_wp2_with fail
  refine (check_any 1 ad _ 1 c 1 _ [1] [⟨#[97]⟩] _ (HSL2.out.alloc _) (one_sl w2 _ 9) HA.out).mono ?_
  rintro e w3 ⟨rfl, hb4⟩
  rw [one_check]
  have HB5 := Lib.hid (HB3.out.trans ((((Below.refl _ w2).alloc (Nat.le_refl _) (.cells #[.string ⟨#[97]⟩] 9)).trans (hb4.mono (by simp))).mono hz3))
  clear hb4
  go_wp2_with fail
  go_ret
  exact ⟨rfl, HB5.out⟩
end Go.Proofs.Ytboojpmahfjaoaa
