/- Walks: how a byte is escaped in quotation marks, where it is no control character or a blank one. -/
import Derived.Test.YtpionddponmdmaaGreatDoorQ12
import Derived.Lib.ConvBytes
import Derived.Lib.LaidTab
import Derived.LoopN
namespace Go.Proofs.YtpionddponmdmaaGreatDoor
open Go.RowKit
attribute [local go_sem] Ext.cell Ext.frozen
attribute [local go_sem ↓] Go.wp_at_zero Go.wp_at_succ

def hexD (n : Nat) : UInt8 := if n < 10 then UInt8.ofNat (48 + n) else UInt8.ofNat (87 + n)
/-- a byte, escaped -/
def escC (c : UInt8) : List UInt8 :=
  if c = 92 then [92, 92] else if c = 10 then [92, 110] else if c = 13 then [92, 114] else if c = 9 then [92, 116] else if c = 34 then [92, 34]
  else if c.toNat < 32 ∨ c.toNat = 127 then [92, 120, hexD (c.toNat / 16), hexD (c.toNat % 16)] else [c]
theorem neU {c : UInt8} {k : Nat} [OfNat UInt8 k] (h : ¬ c = OfNat.ofNat k) (hk : (OfNat.ofNat k : UInt8).toNat = k := by rfl) : ((c.toNat : Int) == (k : Int)) = false := by
  simp only [beq_eq_false_iff_ne]
  intro e
  exact h (UInt8.toNat_inj.1 (by rw [hk]; omega))
theorem convH (z : Int) (c : UInt8) (hz : z = (c.toNat : Int)) (W : World) :
    (convert 59 9 (.slice (some ⟨W.heap.size, 0, none⟩) 1 1)).run Tryz.prog (W.alloc (.cells #[.int .u8 z] 5)) = .ok (.string (bs [c])) (W.alloc (.cells #[.int .u8 z] 5)) := by
  refine run_convert_bytes_back _ 59 9 5 ⟨W.heap.size, 0, none⟩ 1 [c] Tryz.underlying59 Tryz.underlying5 Tryz.underlying9 ?_
  intro j hj
  obtain rfl : j = 0 := by simp at hj; exact hj
  subst hz
  simp [go_sem, Addr.add]
theorem style_any (w : World) : Calls Tryz.prog 28 #[.int .i64 2] w fun e w' => e = .returned (.bool true) ∧ w = w' := by
  go_enter Tryz.func28, Tryz.ntmps28
  go_wp2_with fail
  go_ret
  exact ⟨rfl, rfl⟩
theorem control_any (c : Nat) (w : World) : Calls Tryz.prog 48 #[.int .u8 (c : Int)] w fun e w' => e = .returned (.bool (decide (c < 32) || decide (c = 127))) ∧ w = w' := by
  by_cases h : c < 32
  · have h1 : (c : Int) < 32 := by omega
    have h2 : decide (c < 32) = true := decide_eq_true h
    rw [h2]
    go_enter Tryz.func48, Tryz.ntmps48
    go_wp2_with fail
    go_ret
    exact ⟨rfl, rfl⟩
  · have h1 : ¬ (c : Int) < 32 := by omega
    have h2 : decide (c < 32) = false := decide_eq_false h
    have h3 : decide (c = 127) = ((c : Int) == 127) := by
      rw [Bool.eq_iff_iff]; simp; omega
    rw [h2, h3]
    go_enter Tryz.func48, Tryz.ntmps48
    go_wp2_with fail
    go_ret
    exact ⟨by simp, rfl⟩
set_option maxRecDepth 20000 in
set_option maxHeartbeats 4000000 in
theorem bsl_easy (c : UInt8) (b : Bool) (hc : ¬ (c.toNat < 32 ∨ c.toNat = 127) ∨ c = 10 ∨ c = 13 ∨ c = 9) (w : World) : Calls Tryz.prog 31 #[.int .i64 2, .int .u8 (c.toNat : Int), .bool b] w fun e w' => e = .returned (.string (bs (escC c))) ∧ Below w.heap.size w w' := by
  by_cases h92 : c = 92
  · subst h92
    go_enter Tryz.func31, Tryz.ntmps31
    go_wp2_with fail
    go_ret
    exact ⟨rfl, Below.refl _ _⟩
  · by_cases h10 : c = 10
    · subst h10
      go_enter Tryz.func31, Tryz.ntmps31
      go_wp2_with fail
      go_ret
      exact ⟨rfl, Below.refl _ _⟩
    · by_cases h13 : c = 13
      · subst h13
        go_enter Tryz.func31, Tryz.ntmps31
        go_wp2_with fail
        go_ret
        exact ⟨rfl, Below.refl _ _⟩
      · by_cases h9 : c = 9
        · subst h9
          go_enter Tryz.func31, Tryz.ntmps31
          go_wp2_with fail
          go_ret
          exact ⟨rfl, Below.refl _ _⟩
        · have HIB := Lib.hid (fun w => Tryz.strings_IndexByte ⟨#[34]⟩ (c.toNat : Int) w)
          by_cases h34 : c = 34
          · subst h34
            have e1 : Lib.indexByte [34] 34 = 0 := by decide
            have kc := convH 34 34 rfl
            go_enter Tryz.func31, Tryz.ntmps31
            go_wp2_with fail
            refine (HIB.out _).mono ?_
            rintro e w1 ⟨rfl, rfl⟩
            go_wp2_with fail
            go_ret
            exact ⟨rfl, (Below.refl _ _).alloc (Nat.le_refl _) _⟩
          · have hc2 : ¬ (c.toNat < 32 ∨ c.toNat = 127) := by
              rcases hc with h | h | h | h
              · exact h
              · exact absurd h h10
              · exact absurd h h13
              · exact absurd h h9
            have HO : Hid (escC c = [c]) := by unfold Hid escC; rw [if_neg h92, if_neg h10, if_neg h13, if_neg h9, if_neg h34, if_neg hc2]
            have e1 : Lib.indexByte [34] (c.toNat : Int).toNat.toUInt8 = -1 := by
              rw [Int.toNat_natCast]
              have : c.toNat.toUInt8 = c := by simp
              rw [this]
              have h34' : ¬ (34 : UInt8) = c := fun e => h34 e.symm
              simp [Lib.indexByte, h34']
            have g92 : ((c.toNat : Int) == 92) = false := neU h92
            have g10 : ((c.toNat : Int) == 10) = false := neU h10
            have g13 : ((c.toNat : Int) == 13) = false := neU h13
            have g9 : ((c.toNat : Int) == 9) = false := neU h9
            have HCT := Lib.hid (fun w => control_any c.toNat w)
            have d1 : decide (c.toNat < 32) = false := decide_eq_false (fun e => hc2 (.inl e))
            have d2 : decide (c.toNat = 127) = false := decide_eq_false (fun e => hc2 (.inr e))
            rw [d1, d2] at HCT
            have kc := convH (c.toNat : Int) c rfl
            simp only [e1] at HIB
            clear hc hc2 h92 h10 h13 h9 h34 d1 d2 e1
            generalize escC c = ec at *
            generalize (c.toNat : Int) = z at *
            go_enter Tryz.func31, Tryz.ntmps31
            go_wp2_with fail
            refine (HIB.out _).mono ?_
            rintro e w1 ⟨rfl, rfl⟩
            go_wp2_with fail
            refine (HCT.out _).mono ?_
            rintro e _ ⟨rfl, rfl⟩
            go_wp2_with fail
            refine (HCT.out _).mono ?_
            rintro e _ ⟨rfl, rfl⟩
            go_wp2_with fail
            go_ret
            exact ⟨by rw [HO.out]; rfl, (Below.refl _ _).alloc (Nat.le_refl _) _⟩
end Go.Proofs.YtpionddponmdmaaGreatDoor
/- Walks: a byte in base 16. -/
namespace Go.Proofs.YtpionddponmdmaaGreatDoor
open Go.RowKit
attribute [local go_sem ↓] Go.wp_at_zero Go.wp_at_succ
def deTab : List Int := [0, 1, 56, 2, 57, 49, 28, 3, 61, 58, 42, 50, 38, 29, 17, 4, 62, 47, 59, 36, 45, 43, 51, 22, 53, 39, 33, 30, 24, 18, 12, 5, 63, 55, 48, 27, 60, 41, 37, 16, 46, 35, 44, 21, 52, 32, 23, 11, 54, 26, 40, 15, 34, 20, 31, 10, 25, 14, 19, 9, 13, 8, 7, 6]
def TabDe (w : World) : Prop := Lib.TabIs Tryz.prog w "math/bits.deBruijn64tab" .u8 deTab
theorem trail16 (w : World) (ht : TabDe w) : Calls Tryz.prog 122 #[.int .u64 16] w fun e w' => e = .returned (.int .i64 4) ∧ w = w' := by
  have hc : w.cell? ⟨7, 15, none⟩ = some (.int .u8 4) := by
    rw [Lib.TabIs.cell ht (by kernel_rfl) 15 (by decide)]; rfl
  have e1 : bits BinOp.and IntKind.u64 16 (IntKind.u64.wrap (-16)) = 16 := by decide +kernel
  have e2 : IntKind.u64.wrap (16 * 285870213051353865) = 4573923408821661840 := by decide +kernel
  have e3 : IntKind.u64.wrap 4573923408821661840 = 4573923408821661840 := by decide +kernel
  go_enter Tryz.func122, Tryz.ntmps122
  go_wp2_with fail
  go_ret
  exact ⟨rfl, rfl⟩
theorem trail (w : World) (ht : TabDe w) : Calls Tryz.prog 117 #[.int .u64 16] w fun e w' => e = .returned (.int .i64 4) ∧ w = w' := by
  go_enter Tryz.func117, Tryz.ntmps117
  go_wp2_with fail
  refine (trail16 w ht).mono ?_
  rintro e w' ⟨rfl, rfl⟩
  go_wp2_with fail
  go_ret
  exact ⟨rfl, rfl⟩
theorem pow2_16 (w : World) : Calls Tryz.prog 116 #[.int .i64 16] w fun e w' => e = .returned (.bool true) ∧ w = w' := by
  go_enter Tryz.func116, Tryz.ntmps116
  go_wp2_with fail
  go_ret
  exact ⟨rfl, rfl⟩
end Go.Proofs.YtpionddponmdmaaGreatDoor
