/- Walks: the escaped form of a string, given that of its bytes. -/
import Derived.Test.YtkkggpahanddnaaDoorH19
namespace Go.Proofs.YtkkggpahanddnaaDoor
open Go.RowKit
attribute [local go_sem] Ext.cell Ext.frozen
attribute [local go_sem ↓] Go.wp_at_zero Go.wp_at_succ

def escS (l : List UInt8) : List UInt8 := l.flatMap escC
theorem escC_len (c : UInt8) : (escC c).length ≤ 4 := by unfold escC; (repeat' split) <;> simp
theorem escS_len (l : List UInt8) : (escS l).length ≤ 4 * l.length := by
  induction l with
  | nil => exact Nat.le_refl _
  | cons c l ih =>
    have : escS (c :: l) = escC c ++ escS l := rfl
    rw [this, List.length_append, List.length_cons]
    have := escC_len c
    omega
theorem escS_take (l : List UInt8) (k : Nat) (h : k < l.length) : escS (l.take (k + 1)) = escS (l.take k) ++ escC (l.getD k 0) := by
  unfold escS
  rw [List.take_succ_eq_append_getElem h, List.flatMap_append]
  congr 1
  simp [List.getD, List.getElem?_eq_getElem h]
/-- a byte's contract -/
def BslOk (c : UInt8) (w : World) : Prop := ∀ (b : Bool) w', Below w.heap.size w w' → Calls Tryd.prog 50 #[.int .i64 2, .int .u8 (c.toNat : Int), .bool b] w' fun e w'' => e = .returned (.string (bs (escC c))) ∧ Below w'.heap.size w' w''
theorem BslOk.easy {c : UInt8} (hc : ¬ (c.toNat < 32 ∨ c.toNat = 127) ∨ c = 10 ∨ c = 13 ∨ c = 9) (w : World) : BslOk c w := fun b w' _ => bsl_easy c b hc w'
set_option maxRecDepth 20000 in
set_option maxHeartbeats 4000000 in
theorem esc_any (s : ByteArray) (w : World) (hs : s.size ≤ 1000000) (hb : ∀ c ∈ s.data.toList, BslOk c w) :
    Calls Tryd.prog 41 #[.int .i64 2, .string s] w fun e w' => e = .returned (.string (bs (escS s.data.toList))) ∧ Below w.heap.size w w' := by
  have HST := Lib.hid style_any
  have HBS := Lib.hid hb
  have hsl : s.data.toList.length = s.size := ba_len s
  clear hb
  go_enter Tryd.func41, Tryd.ntmps41
  go_wp2_with fail
  refine (HST.out _).mono ?_
  rintro e _ ⟨rfl, rfl⟩
  go_wp2_with fail
  refine wp_at_worldH ?_
  intro W hW
  have b1 : Lib.IsBuilder 73 5 w.heap.size w.heap.size (Lib.byteCells []) W := by
    refine .inl ⟨Nat.le_refl _, .slice none 0 0, ?_, World.ownsRow_nil _ _ _ _, by simp [Value.ownBlock]⟩
    rw [hW]
    exact row_new _ _ _
  have HB0 : Hid (Below w.heap.size w W) := by rw [hW]; exact (Below.refl _ _).alloc (Nat.le_refl _) _
  have HB1 := Lib.hid b1
  clear b1 hW
  go_loopw [12] (fun i wr => ∃ k : Nat, i = .int .i64 (k : Int) ∧ k ≤ s.size ∧ Lib.IsBuilder 73 5 w.heap.size w.heap.size (Lib.byteCells (escS (s.data.toList.take k))) wr ∧ Below w.heap.size w wr) (fun i _ => s.size - (intOf i).toNat)
  case atStart => exact ⟨0, rfl, Nat.zero_le _, HB1.out, HB0.out⟩
  case round =>
    obtain ⟨k, rfl, hk, hbu, hbl⟩ := hrel
    have HBU := Lib.hid hbu
    have HBL := Lib.hid hbl
    have hzr := hbl.size
    clear hbu hbl
    by_cases hlt : k < s.size
    · have hkl : k < s.data.toList.length := by rw [hsl]; exact hlt
      have hmem : s.data.toList.getD k 0 ∈ s.data.toList := getD_mem _ k _ hkl
      have hget : s[k] = s.data.toList.getD k 0 := by
        simp [List.getD, List.getElem?_eq_getElem hkl]; rfl
      have HBC := Lib.hid (HBS.out _ hmem)
      have HTK := Lib.hid (escS_take s.data.toList k hkl)
      have hl4 := escS_len (s.data.toList.take k)
      have hl5 : (escS (s.data.toList.take k)).length ≤ 4000000 := by rw [List.length_take] at hl4; omega
      have hl6 : (bs (escC (s.data.toList.getD k 0))).size ≤ 4 := by rw [bs_size]; exact escC_len _
      rw [← hget] at HBC HTK hl6
      clear hget hl4
      go_wp2_with fail
      refine (Calls.toExt (HBC.out _ _ HBL.out)).mono ?_
      rintro e _ ⟨rfl, x, rfl⟩
      have hb5 : Lib.IsBuilder 73 5 w.heap.size w.heap.size (Lib.byteCells (escS (s.data.toList.take k))) x.1 := by
        have key : ∀ p, Lib.BuilderAt 73 5 w.heap.size w.heap.size p (Lib.byteCells (escS (s.data.toList.take k))) wr → Lib.BuilderAt 73 5 w.heap.size w.heap.size p (Lib.byteCells (escS (s.data.toList.take k))) x.1 := by
          rintro p ⟨h1, v, h2, h3, h4⟩
          exact ⟨h1, v, (x.2.block _ (Array.getElem?_eq_some_iff.1 h2).1).trans h2, own_below2 h3 x.2, h4⟩
        exact HBU.out.elim (fun h => .inl (key _ h)) (fun h => .inr (key _ h))
      have hzx : w.heap.size ≤ x.1.heap.size := by have := x.2.size; omega
      have HW := Lib.hid (wstring_any w.heap.size w.heap.size _ (bs (escC s[k])) x.1 hb5 (by rw [Lib.byteCells_length]; omega) hzx)
      have HBX : Hid (Below w.heap.size w x.1) := HBL.out.trans (x.2.mono hzr)
      obtain ⟨X, hX⟩ := x
      simp only at HW HBX hzx ⊢
      clear hb5 hX
      go_wp2_with fail
      refine HW.out.mono ?_
      rintro e w3 ⟨rfl, hb6, hbl6, _⟩
      have HB6 : Hid (Below w.heap.size w w3) := HBX.out.trans hbl6
      have HU6 : Hid (Lib.IsBuilder 73 5 w.heap.size w.heap.size (Lib.byteCells (escS (s.data.toList.take (k + 1)))) w3) := by
        unfold Hid
        rw [HTK.out, show Lib.byteCells (escS (s.data.toList.take k) ++ escC s[k]) = Lib.byteCells (escS (s.data.toList.take k)) ++ Lib.strCells (bs (escC s[k])) by rw [Lib.strCells_eq, bs_data]; simp [Lib.byteCells]]
        exact .inr hb6
      clear hb6 hbl6
      go_wp2_with fail
      go_roundw
      case rel => exact ⟨k + 1, by go_num, by omega, HU6.out, HB6.out⟩
      case measure => simp [intOf]; omega
    · obtain rfl : k = s.size := by omega
      have HS := Lib.hid (Tryd.Builder_String_any_k w.heap.size w.heap.size (escS s.data.toList) wr (Lib.IsBuilderF.of (by have := HBU.out; rwa [List.take_of_length_le (by rw [hsl]; exact Nat.le_refl _)] at this)) hzr)
      go_wp2_with fail
      refine HS.out.mono ?_
      rintro e w3 ⟨rfl, _, hbl6, _⟩
      have HB6 : Hid (Below w.heap.size w w3) := HBL.out.trans hbl6
      clear hbl6
      go_wp2_with fail
      go_ret
      exact ⟨rfl, HB6.out⟩
end Go.Proofs.YtkkggpahanddnaaDoor
