/- Walks: whether a string is a date pattern, by the program. -/
import Derived.Test.YtaolbfbnjbpljaaDoorV7
import Derived.Test.YtaolbfbnjbpljaaDoorV12
namespace Go.Proofs.YtaolbfbnjbpljaaDoor
open Go.RowKit
attribute [local go_sem] Ext.cell Ext.frozen
attribute [local go_sem ↓] Go.wp_at_zero Go.wp_at_succ

/-- a kind, or none -/
def pkL (c : UInt8) (a : Nat) : List UInt8 := if a = 0 then [] else [c]
def pk (c : UInt8) (a : Nat) : ByteArray := if a = 0 then ⟨#[]⟩ else ⟨#[c]⟩
theorem pk_bs (c : UInt8) (a : Nat) : pk c a = bs (pkL c a) := by unfold pk pkL; split <;> rfl
theorem pk_size (c : UInt8) (a : Nat) : (pk c a).size ≤ 1 := by
  unfold pk
  split
  · decide
  · exact Nat.le_refl 1
/-- the skeletons that own tries, one behind the other -/
def skV (k : Nat) : List UInt8 := pkL 121 (k / 8 % 2) ++ pkL 77 (k / 4 % 2) ++ pkL 69 (k / 2 % 2) ++ pkL 100 (k % 2)
theorem skV_at {a b c d : Nat} (ha : a < 2) (hb : b < 2) (hc : c < 2) (hd : d < 2) : (pk 121 a ++ pk 77 b ++ pk 69 c ++ pk 100 d).data.toList = skV (8 * a + 4 * b + 2 * c + d) := by
  unfold skV
  rw [show (8 * a + 4 * b + 2 * c + d) / 8 % 2 = a by omega, show (8 * a + 4 * b + 2 * c + d) / 4 % 2 = b by omega, show (8 * a + 4 * b + 2 * c + d) / 2 % 2 = c by omega, show (8 * a + 4 * b + 2 * c + d) % 2 = d by omega]
  rw [pk_bs, pk_bs, pk_bs, pk_bs, bs_append, bs_append, bs_append, bs_data]
/-- what own answers -/
def ownV (p : List UInt8) : Bool := (List.range 16).any (fun k => dateV (skV k) p)
theorem ownV_yes {p : List UInt8} {k : Nat} (h : k < 16) (hd : dateV (skV k) p = true) : ownV p = true := by
  unfold ownV; rw [List.any_eq_true]; exact ⟨k, List.mem_range.2 h, hd⟩
theorem ownV_no {p : List UInt8} (h : ∀ k, k < 16 → dateV (skV k) p = false) : ownV p = false := by
  unfold ownV; rw [List.any_eq_false]; intro k hk; rw [h k (List.mem_range.1 hk)]; simp

set_option maxRecDepth 20000 in
set_option maxHeartbeats 16000000 in
theorem own_any (p : ByteArray) (w : World) (hp : p.size ≤ 1000) : Calls Tryd.prog 49 #[.string p] w fun e w' => e = .returned (.bool (ownV p.data.toList)) ∧ Below w.heap.size w w' := by
  have HD : Hid (∀ a b c d, a < 2 → b < 2 → c < 2 → d < 2 → ∀ w, Calls Tryd.prog 11 #[.string (pk 121 a ++ pk 77 b ++ pk 69 c ++ pk 100 d), .string p] w fun e w' => e = .returned (.bool (dateV (skV (8 * a + 4 * b + 2 * c + d)) p.data.toList)) ∧ Below w.heap.size w w') := fun a b c d ha hb hc hd w => by
    have s1 := pk_size 121 a
    have s2 := pk_size 77 b
    have s3 := pk_size 69 c
    have s4 := pk_size 100 d
    have := date_any (pk 121 a ++ pk 77 b ++ pk 69 c ++ pk 100 d) p w (by simp only [ByteArray.size_append]; omega) hp
    rwa [skV_at ha hb hc hd] at this
  have HO1 : Hid (∀ k, k < 16 → dateV (skV k) p.data.toList = true → ownV p.data.toList = true) := fun k h hd => ownV_yes h hd
  have HO0 : Hid ((∀ k, k < 16 → dateV (skV k) p.data.toList = false) → ownV p.data.toList = false) := fun h => ownV_no h
  generalize p.data.toList = pl at *
  generalize ownV pl = OV at *
  clear hp
  go_enter Tryd.func49, Tryd.ntmps49
  go_wp2_with fail
  refine wp_at_world ?_
  intro W1 hW
  have hk : ∀ k, k < 2 → W1.cell? ⟨w.heap.size, k, none⟩ = some (.string (pk 121 k)) := by
    intro k hk
    have : k = 0 ∨ k = 1 := by omega
    rcases this with h | h <;> subst h <;> simp [hW, go_sem, pk]
  have hW1 : W1.heap.size = w.heap.size + 1 := by rw [hW]; simp
  have HB1 : Hid (Below w.heap.size w W1) := by rw [hW]; exact (Below.refl _ _).alloc (Nat.le_refl _) _
  have HK1 := Lib.hid hk
  clear hk hW
  go_loopw [13] (fun i wr => ∃ a : Nat, a ≤ 2 ∧ i = .int .i64 (a : Int) ∧ (∀ k, k < 8 * a → dateV (skV k) pl = false) ∧ Below W1.heap.size W1 wr) (fun i _ => 2 - (intOf i).toNat)
  case atStart => exact ⟨0, by omega, rfl, fun k hk => by omega, Below.refl _ _⟩
  case round =>
    obtain ⟨a, ha2, rfl, hn, hbl⟩ := hrel
    have HN := Lib.hid hn
    have HBL := Lib.hid hbl
    have hz := hbl.size
    clear hn
    by_cases hlt : a < 2
    · have hc1 : wr.cell? ⟨w.heap.size, a, none⟩ = some (.string (pk 121 a)) := (hbl.cell (p := ⟨w.heap.size, a, none⟩) (by show w.heap.size < _; omega)).trans (HK1.out a hlt)
      have g1 : decide ((a : Int) < 2) = true := by simp; omega
      have s1 := pk_size 121 a
      clear hbl
      generalize hpa : pk 121 a = PA at *
      go_wp2_with fail
      generalize wr = w1 at *
      refine wp_at_world ?_
      intro W2 hW
      have hk : ∀ k, k < 2 → W2.cell? ⟨w1.heap.size, k, none⟩ = some (.string (pk 77 k)) := by
        intro k hk
        have : k = 0 ∨ k = 1 := by omega
        rcases this with h | h <;> subst h <;> simp [hW, go_sem, pk]
      have hW2 : W2.heap.size = w1.heap.size + 1 := by rw [hW]; simp
      have HB2 : Hid (Below w1.heap.size w1 W2) := by rw [hW]; exact (Below.refl _ _).alloc (Nat.le_refl _) _
      have HK2 := Lib.hid hk
      clear hk hW hc1
      go_loopw [19] (fun i wr => ∃ b : Nat, b ≤ 2 ∧ i = .int .i64 (b : Int) ∧ (∀ k, k < 8 * a + 4 * b → dateV (skV k) pl = false) ∧ Below W2.heap.size W2 wr) (fun i _ => 2 - (intOf i).toNat)
      case atStart => exact ⟨0, by omega, rfl, fun k hk => HN.out k (by omega), Below.refl _ _⟩
      case round =>
        obtain ⟨b, hb2, rfl, hn, hbl⟩ := hrel
        have HN2 := Lib.hid hn
        have HBL2 := Lib.hid hbl
        have hz2 := hbl.size
        clear hn
        by_cases hlt2 : b < 2
        · have hc2 : wr.cell? ⟨w1.heap.size, b, none⟩ = some (.string (pk 77 b)) := (hbl.cell (p := ⟨w1.heap.size, b, none⟩) (by show w1.heap.size < _; omega)).trans (HK2.out b hlt2)
          have g2 : decide ((b : Int) < 2) = true := by simp; omega
          have s2 := pk_size 77 b
          clear hbl
          generalize hpb : pk 77 b = PB at *
          go_wp2_with fail
          generalize wr = w2 at *
          refine wp_at_world ?_
          intro W3 hW
          have hk : ∀ k, k < 2 → W3.cell? ⟨w2.heap.size, k, none⟩ = some (.string (pk 69 k)) := by
            intro k hk
            have : k = 0 ∨ k = 1 := by omega
            rcases this with h | h <;> subst h <;> simp [hW, go_sem, pk]
          have hW3 : W3.heap.size = w2.heap.size + 1 := by rw [hW]; simp
          have HB3 : Hid (Below w2.heap.size w2 W3) := by rw [hW]; exact (Below.refl _ _).alloc (Nat.le_refl _) _
          have HK3 := Lib.hid hk
          clear hk hW hc2
          go_loopw [25] (fun i wr => ∃ c : Nat, c ≤ 2 ∧ i = .int .i64 (c : Int) ∧ (∀ k, k < 8 * a + 4 * b + 2 * c → dateV (skV k) pl = false) ∧ Below W3.heap.size W3 wr) (fun i _ => 2 - (intOf i).toNat)
          case atStart => exact ⟨0, by omega, rfl, fun k hk => HN2.out k (by omega), Below.refl _ _⟩
          case round =>
            obtain ⟨c, hc2, rfl, hn, hbl⟩ := hrel
            have HN3 := Lib.hid hn
            have HBL3 := Lib.hid hbl
            have hz3 := hbl.size
            clear hn
            by_cases hlt3 : c < 2
            · have hc3 : wr.cell? ⟨w2.heap.size, c, none⟩ = some (.string (pk 69 c)) := (hbl.cell (p := ⟨w2.heap.size, c, none⟩) (by show w2.heap.size < _; omega)).trans (HK3.out c hlt3)
              have g3 : decide ((c : Int) < 2) = true := by simp; omega
              have s3 := pk_size 69 c
              clear hbl
              generalize hpc : pk 69 c = PC at *
              go_wp2_with fail
              generalize wr = w3 at *
              refine wp_at_world ?_
              intro W4 hW
              have hk : ∀ k, k < 2 → W4.cell? ⟨w3.heap.size, k, none⟩ = some (.string (pk 100 k)) := by
                intro k hk
                have : k = 0 ∨ k = 1 := by omega
                rcases this with h | h <;> subst h <;> simp [hW, go_sem, pk]
              have hW4 : W4.heap.size = w3.heap.size + 1 := by rw [hW]; simp
              have HB4 : Hid (Below w3.heap.size w3 W4) := by rw [hW]; exact (Below.refl _ _).alloc (Nat.le_refl _) _
              have HK4 := Lib.hid hk
              clear hk hW hc3
              go_loopw [31] (fun i wr => ∃ d : Nat, d ≤ 2 ∧ i = .int .i64 (d : Int) ∧ (∀ k, k < 8 * a + 4 * b + 2 * c + d → dateV (skV k) pl = false) ∧ Below W4.heap.size W4 wr) (fun i _ => 2 - (intOf i).toNat)
              case atStart => exact ⟨0, by omega, rfl, fun k hk => HN3.out k (by omega), Below.refl _ _⟩
              case round =>
                obtain ⟨d, hd2, rfl, hn, hbl⟩ := hrel
                have HN4 := Lib.hid hn
                have HBL4 := Lib.hid hbl
                have hz4 := hbl.size
                clear hn
                by_cases hlt4 : d < 2
                · have hc4 : wr.cell? ⟨w3.heap.size, d, none⟩ = some (.string (pk 100 d)) := (hbl.cell (p := ⟨w3.heap.size, d, none⟩) (by show w3.heap.size < _; omega)).trans (HK4.out d hlt4)
                  have s4 := pk_size 100 d
                  have HDD := Lib.hid (HD.out a b c d hlt hlt2 hlt3 hlt4)
                  rw [hpa, hpb, hpc] at HDD
                  have HI : Hid (8 * a + 4 * b + 2 * c + d < 16) := by unfold Hid; omega
                  have HY1 := Lib.hid (HO1.out (8 * a + 4 * b + 2 * c + d) HI.out)
                  clear hbl
                  have HNX : Hid (dateV (skV (8 * a + 4 * b + 2 * c + d)) pl = false → ∀ k, k < 8 * a + 4 * b + 2 * c + (d + 1) → dateV (skV k) pl = false) := by
                    intro h k hk
                    by_cases hkk : k = 8 * a + 4 * b + 2 * c + d
                    · rw [hkk]; exact h
                    · exact HN4.out k (by omega)
                  cases hdv : dateV (skV (8 * a + 4 * b + 2 * c + d)) pl <;> rw [hdv] at HDD
                  · have HNX2 := Lib.hid (HNX.out hdv)
                    clear HNX HY1 hdv
                    generalize hpd : pk 100 d = PD at *
                    go_wp2_with fail
                    refine (HDD.out _).mono ?_
                    rintro e w5 ⟨rfl, hb5⟩
                    go_wp2_with fail
                    go_roundw
                    case rel => exact ⟨d + 1, by omega, by go_num, HNX2.out, HBL4.out.trans (hb5.mono hz4)⟩
                    case measure => simp [intOf]; omega
                  · have HY := Lib.hid (HY1.out hdv)
                    clear HNX HY1 hdv
                    generalize hpd : pk 100 d = PD at *
                    go_wp2_with fail
                    refine (HDD.out _).mono ?_
                    rintro e w5 ⟨rfl, hb5⟩
                    go_wp2_with fail
                    go_ret
                    refine ⟨by rw [HY.out]; rfl, ?_⟩
                    have b4 := (HB4.out.trans (HBL4.out.mono (by omega))).trans (hb5.mono (by omega))
                    have b3 := (HB3.out.trans (HBL3.out.mono (by omega))).trans (b4.mono (by omega))
                    have b2 := (HB2.out.trans (HBL2.out.mono (by omega))).trans (b3.mono (by omega))
                    exact (HB1.out.trans (HBL.out.mono (by omega))).trans (b2.mono (by omega))
                · obtain rfl : d = 2 := by omega
                  clear hbl
                  go_wp2_with fail
                  go_roundw
                  case rel => exact ⟨c + 1, by omega, by go_num, fun k hk => HN4.out k (by omega), HBL3.out.trans ((HB4.out.trans (HBL4.out.mono (by omega))).mono (by omega))⟩
                  case measure => simp [intOf]; omega
            · obtain rfl : c = 2 := by omega
              clear hbl
              go_wp2_with fail
              go_roundw
              case rel => exact ⟨b + 1, by omega, by go_num, fun k hk => HN3.out k (by omega), HBL2.out.trans ((HB3.out.trans (HBL3.out.mono (by omega))).mono (by omega))⟩
              case measure => simp [intOf]; omega
        · obtain rfl : b = 2 := by omega
          clear hbl
          go_wp2_with fail
          go_roundw
          case rel => exact ⟨a + 1, by omega, by go_num, fun k hk => HN2.out k (by omega), HBL.out.trans ((HB2.out.trans (HBL2.out.mono (by omega))).mono (by omega))⟩
          case measure => simp [intOf]; omega
    · obtain rfl : a = 2 := by omega
      have HZ := Lib.hid (HO0.out (fun k hk => HN.out k (by omega)))
      clear hbl
      go_wp2_with fail
      go_ret
      exact ⟨by rw [HZ.out]; rfl, HB1.out.trans (HBL.out.mono (by omega))⟩
end Go.Proofs.YtaolbfbnjbpljaaDoor
