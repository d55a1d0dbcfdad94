/- Walks: a byte in base 16, by internal/strconv's formatBits. -/
import Derived.Test.YtpionddponmdmaaGreatDoorQ13
namespace Go.Proofs.YtpionddponmdmaaGreatDoor
open Go.RowKit
attribute [local go_sem ↓] Go.wp_at_zero Go.wp_at_succ
def TabDeB (w : World) : Prop := ∀ w', Below w.heap.size w w' → TabDe w'
theorem dig_at {u : Nat} (hu : u < 16) (h : u < (⟨#[48, 49, 50, 51, 52, 53, 54, 55, 56, 57, 97, 98, 99, 100, 101, 102, 103, 104, 105, 106, 107, 108, 109, 110, 111, 112, 113, 114, 115, 116, 117, 118, 119, 120, 121, 122]⟩ : ByteArray).size) :
    (⟨#[48, 49, 50, 51, 52, 53, 54, 55, 56, 57, 97, 98, 99, 100, 101, 102, 103, 104, 105, 106, 107, 108, 109, 110, 111, 112, 113, 114, 115, 116, 117, 118, 119, 120, 121, 122]⟩ : ByteArray)[u] = hexD u := by
  have k : ∀ v : Fin 16, (⟨#[48, 49, 50, 51, 52, 53, 54, 55, 56, 57, 97, 98, 99, 100, 101, 102, 103, 104, 105, 106, 107, 108, 109, 110, 111, 112, 113, 114, 115, 116, 117, 118, 119, 120, 121, 122]⟩ : ByteArray)[v.1]'(Nat.lt_of_lt_of_le v.2 (by decide)) = hexD v.1 := by decide +kernel
  exact k ⟨u, hu⟩
theorem zero_size : (Tryz.zeroCells150).size = 65 := by kernel_rfl
theorem conv_one (c : UInt8) (w : World) (T : TypeId) :
    (convert 59 9 (.slice (some ⟨w.heap.size, 64, none⟩) 1 1)).run Tryz.prog (w.alloc (.cells (Tryz.zeroCells150.setIfInBounds 64 (.int .u8 (c.toNat : Int))) T)) = .ok (.string (bs [c])) (w.alloc (.cells (Tryz.zeroCells150.setIfInBounds 64 (.int .u8 (c.toNat : Int))) T)) := by
  refine run_convert_bytes_back _ 59 9 5 ⟨w.heap.size, 64, none⟩ 1 [c] Tryz.underlying59 Tryz.underlying5 Tryz.underlying9 ?_
  intro j hj
  obtain rfl : j = 0 := by simp at hj; exact hj
  refine (row_cells (row_new _ _ _) 64).trans ?_
  rw [Array.getElem?_setIfInBounds_self_of_lt (by rw [zero_size]; omega)]
  rfl
theorem conv_two (a b : UInt8) (w : World) (T : TypeId) :
    (convert 59 9 (.slice (some ⟨w.heap.size, 63, none⟩) 2 2)).run Tryz.prog (w.alloc (.cells ((Tryz.zeroCells150.setIfInBounds 64 (.int .u8 (b.toNat : Int))).setIfInBounds 63 (.int .u8 (a.toNat : Int))) T)) = .ok (.string (bs [a, b])) (w.alloc (.cells ((Tryz.zeroCells150.setIfInBounds 64 (.int .u8 (b.toNat : Int))).setIfInBounds 63 (.int .u8 (a.toNat : Int))) T)) := by
  refine run_convert_bytes_back _ 59 9 5 ⟨w.heap.size, 63, none⟩ 2 [a, b] Tryz.underlying59 Tryz.underlying5 Tryz.underlying9 ?_
  intro j hj
  have : j = 0 ∨ j = 1 := by simp at hj; omega
  rcases this with rfl | rfl
  · refine (row_cells (row_new _ _ _) 63).trans ?_
    rw [Array.getElem?_setIfInBounds_self_of_lt (by rw [Array.size_setIfInBounds, zero_size]; omega)]
    rfl
  · refine (row_cells (row_new _ _ _) 64).trans ?_
    rw [Array.getElem?_setIfInBounds_ne (by omega), Array.getElem?_setIfInBounds_self_of_lt (by rw [zero_size]; omega)]
    rfl
set_option maxRecDepth 20000 in
set_option maxHeartbeats 4000000 in
theorem fmt16_lo (u : Nat) (hu : u < 16) (w : World) (ht : TabDeB w) : Calls Tryz.prog 102 #[.slice none 0 0, .int .u64 (u : Int), .int .i64 16, .bool false, .bool false] w fun e w' => e = .returned (.tuple #[.slice none 0 0, .string (bs [hexD u])]) ∧ Below w.heap.size w w' := by
  have h1 : ¬ (16 : Int) ≤ (u : Int) := by omega
  have hd := dig_at hu
  have kc := conv_one (hexD u) w
  go_enter Tryz.func102, Tryz.ntmps102
  go_wp2_with fail
  refine (pow2_16 _).mono ?_
  rintro e w' ⟨rfl, rfl⟩
  go_wp2_with fail
  refine (trail _ (ht _ ((Below.refl _ _).alloc (Nat.le_refl _) _))).mono ?_
  rintro e w' ⟨rfl, rfl⟩
  go_wp2_with fail
  refine wp_loop_rounds 1 ?_
  rw [rounds_succ]
  go_wp2_with fail
  go_ret2
  exact ⟨rfl, (Below.refl _ _).alloc (Nat.le_refl _) _⟩
theorem and15 {u : Nat} (hu : u < 256) : bits BinOp.and IntKind.u64 (u : Int) 15 = ((u % 16 : Nat) : Int) := by
  have k : ∀ v : Fin 256, bits BinOp.and IntKind.u64 (v.1 : Int) 15 = ((v.1 % 16 : Nat) : Int) := by decide +kernel
  exact k ⟨u, hu⟩
set_option maxRecDepth 20000 in
set_option maxHeartbeats 4000000 in
theorem fmt16_hi (u : Nat) (h0 : 16 ≤ u) (hu : u < 256) (w : World) (ht : TabDeB w) : Calls Tryz.prog 102 #[.slice none 0 0, .int .u64 (u : Int), .int .i64 16, .bool false, .bool false] w fun e w' => e = .returned (.tuple #[.slice none 0 0, .string (bs [hexD (u / 16), hexD (u % 16)])]) ∧ Below w.heap.size w w' := by
  have h1 : (16 : Int) ≤ (u : Int) := by omega
  have h2 : ¬ (16 : Int) ≤ (u : Int) / 16 := by omega
  have hd := dig_at (u := u / 16) (by omega)
  have hd2 := dig_at (u := u % 16) (by omega)
  have ha := and15 hu
  have hto : ((u : Int) / 16).toNat = u / 16 := by omega
  have kc := conv_two (hexD (u / 16)) (hexD (u % 16)) w
  go_enter Tryz.func102, Tryz.ntmps102
  go_wp2_with fail
  refine (pow2_16 _).mono ?_
  rintro e w' ⟨rfl, rfl⟩
  go_wp2_with fail
  refine (trail _ (ht _ ((Below.refl _ _).alloc (Nat.le_refl _) _))).mono ?_
  rintro e w' ⟨rfl, rfl⟩
  go_wp2_with fail
  refine wp_loop_rounds 2 ?_
  rw [rounds_succ]
  go_wp2_with fail
  rw [rounds_succ]
  go_wp2_with fail
  go_ret2
  exact ⟨rfl, (Below.refl _ _).alloc (Nat.le_refl _) _⟩
end Go.Proofs.YtpionddponmdmaaGreatDoor
/- Walks: the escaped form of a string, given that of its bytes. -/
namespace Go.Proofs.YtpionddponmdmaaGreatDoor
open Go.RowKit
attribute [local go_sem] Ext.cell Ext.frozen
attribute [local go_sem ↓] Go.wp_at_zero Go.wp_at_succ

def escS (l : List UInt8) : List UInt8 := l.flatMap escC
theorem escC_len (c : UInt8) : (escC c).length ≤ 4 := by unfold escC; (repeat' split) <;> simp
theorem escS_len (l : List UInt8) : (escS l).length ≤ 4 * l.length := by
  induction l with
  | nil => exact Nat.le_refl _
  | cons c l ih =>
    have : escS (c :: l) = escC c ++ escS l := rfl
    rw [this, List.length_append, List.length_cons]
    have := escC_len c
    omega
theorem escS_take (l : List UInt8) (k : Nat) (h : k < l.length) : escS (l.take (k + 1)) = escS (l.take k) ++ escC (l.getD k 0) := by
  unfold escS
  rw [List.take_succ_eq_append_getElem h, List.flatMap_append]
  congr 1
  simp [List.getD, List.getElem?_eq_getElem h]
/-- a byte's contract -/
def BslOk (c : UInt8) (w : World) : Prop := ∀ (b : Bool) w', Below w.heap.size w w' → Calls Tryz.prog 31 #[.int .i64 2, .int .u8 (c.toNat : Int), .bool b] w' fun e w'' => e = .returned (.string (bs (escC c))) ∧ Below w'.heap.size w' w''
theorem BslOk.easy {c : UInt8} (hc : ¬ (c.toNat < 32 ∨ c.toNat = 127) ∨ c = 10 ∨ c = 13 ∨ c = 9) (w : World) : BslOk c w := fun b w' _ => bsl_easy c b hc w'
set_option maxRecDepth 20000 in
set_option maxHeartbeats 4000000 in
theorem esc_any (s : ByteArray) (w : World) (hs : s.size ≤ 1000000) (hb : ∀ c ∈ s.data.toList, BslOk c w) :
    Calls Tryz.prog 17 #[.int .i64 2, .string s] w fun e w' => e = .returned (.string (bs (escS s.data.toList))) ∧ Below w.heap.size w w' := by
  have HST := Lib.hid style_any
  have HBS := Lib.hid hb
  have hsl : s.data.toList.length = s.size := ba_len s
  clear hb
  go_enter Tryz.func17, Tryz.ntmps17
  go_wp2_with fail
  refine (HST.out _).mono ?_
  rintro e _ ⟨rfl, rfl⟩
  go_wp2_with fail
  refine wp_at_worldH ?_
  intro W hW
  have b1 : Lib.IsBuilder 61 5 w.heap.size w.heap.size (Lib.byteCells []) W := by
    refine .inl ⟨Nat.le_refl _, .slice none 0 0, ?_, World.ownsRow_nil _ _ _ _, by simp [Value.ownBlock]⟩
    rw [hW]
    exact row_new _ _ _
  have HB0 : Hid (Below w.heap.size w W) := by rw [hW]; exact (Below.refl _ _).alloc (Nat.le_refl _) _
  have HB1 := Lib.hid b1
  clear b1 hW
  go_loopw [12] (fun i wr => ∃ k : Nat, i = .int .i64 (k : Int) ∧ k ≤ s.size ∧ Lib.IsBuilder 61 5 w.heap.size w.heap.size (Lib.byteCells (escS (s.data.toList.take k))) wr ∧ Below w.heap.size w wr) (fun i _ => s.size - (intOf i).toNat)
  case atStart => exact ⟨0, rfl, Nat.zero_le _, HB1.out, HB0.out⟩
  case round =>
    obtain ⟨k, rfl, hk, hbu, hbl⟩ := hrel
    have HBU := Lib.hid hbu
    have HBL := Lib.hid hbl
    have hzr := hbl.size
    clear hbu hbl
    by_cases hlt : k < s.size
    · have hkl : k < s.data.toList.length := by rw [hsl]; exact hlt
      have hmem : s.data.toList.getD k 0 ∈ s.data.toList := getD_mem _ k _ hkl
      have hget : s[k] = s.data.toList.getD k 0 := by
        simp [List.getD, List.getElem?_eq_getElem hkl]; rfl
      have HBC := Lib.hid (HBS.out _ hmem)
      have HTK := Lib.hid (escS_take s.data.toList k hkl)
      have hl4 := escS_len (s.data.toList.take k)
      have hl5 : (escS (s.data.toList.take k)).length ≤ 4000000 := by rw [List.length_take] at hl4; omega
      have hl6 : (bs (escC (s.data.toList.getD k 0))).size ≤ 4 := by rw [bs_size]; exact escC_len _
      rw [← hget] at HBC HTK hl6
      clear hget hl4
      go_wp2_with fail
      refine (Calls.toExt (HBC.out _ _ HBL.out)).mono ?_
      rintro e _ ⟨rfl, x, rfl⟩
      have hb5 : Lib.IsBuilder 61 5 w.heap.size w.heap.size (Lib.byteCells (escS (s.data.toList.take k))) x.1 := by
        have key : ∀ p, Lib.BuilderAt 61 5 w.heap.size w.heap.size p (Lib.byteCells (escS (s.data.toList.take k))) wr → Lib.BuilderAt 61 5 w.heap.size w.heap.size p (Lib.byteCells (escS (s.data.toList.take k))) x.1 := by
          rintro p ⟨h1, v, h2, h3, h4⟩
          exact ⟨h1, v, (x.2.block _ (Array.getElem?_eq_some_iff.1 h2).1).trans h2, own_below2 h3 x.2, h4⟩
        exact HBU.out.elim (fun h => .inl (key _ h)) (fun h => .inr (key _ h))
      have hzx : w.heap.size ≤ x.1.heap.size := by have := x.2.size; omega
      have HW := Lib.hid (wstring_any w.heap.size w.heap.size _ (bs (escC s[k])) x.1 hb5 (by rw [Lib.byteCells_length]; omega) hzx)
      have HBX : Hid (Below w.heap.size w x.1) := HBL.out.trans (x.2.mono hzr)
      obtain ⟨X, hX⟩ := x
      simp only at HW HBX hzx ⊢
      clear hb5 hX
      go_wp2_with fail
      refine HW.out.mono ?_
      rintro e w3 ⟨rfl, hb6, hbl6, _⟩
      have HB6 : Hid (Below w.heap.size w w3) := HBX.out.trans hbl6
      have HU6 : Hid (Lib.IsBuilder 61 5 w.heap.size w.heap.size (Lib.byteCells (escS (s.data.toList.take (k + 1)))) w3) := by
        unfold Hid
        rw [HTK.out, show Lib.byteCells (escS (s.data.toList.take k) ++ escC s[k]) = Lib.byteCells (escS (s.data.toList.take k)) ++ Lib.strCells (bs (escC s[k])) by rw [Lib.strCells_eq, bs_data]; simp [Lib.byteCells]]
        exact .inr hb6
      clear hb6 hbl6
      go_wp2_with fail
      go_roundw
      case rel => exact ⟨k + 1, by go_num, by omega, HU6.out, HB6.out⟩
      case measure => simp [intOf]; omega
    · obtain rfl : k = s.size := by omega
      have HS := Lib.hid (Tryz.Builder_String_any_k w.heap.size w.heap.size (escS s.data.toList) wr (Lib.IsBuilderF.of (by have := HBU.out; rwa [List.take_of_length_le (by rw [hsl]; exact Nat.le_refl _)] at this)) hzr)
      go_wp2_with fail
      refine HS.out.mono ?_
      rintro e w3 ⟨rfl, _, hbl6, _⟩
      have HB6 : Hid (Below w.heap.size w w3) := HBL.out.trans hbl6
      clear hbl6
      go_wp2_with fail
      go_ret
      exact ⟨rfl, HB6.out⟩
end Go.Proofs.YtpionddponmdmaaGreatDoor
