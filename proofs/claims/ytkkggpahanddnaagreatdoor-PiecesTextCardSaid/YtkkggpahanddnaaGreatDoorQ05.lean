/- Walks: a byte in base 16, by internal/strconv's formatBits. -/
import Derived.Test.YtkkggpahanddnaaGreatDoorQ04
import Derived.Test.YtkkggpahanddnaaGreatDoorRows
import Derived.Test.YtkkggpahanddnaaGreatDoorCards
import Derived.Test.YtkkggpahanddnaaGreatDoorTie
import Derived.Test.YtkkggpahanddnaaGreatDoorQ01
import Derived.ProofKit
import Derived.OpenShut
import Derived.ShutString
import Derived.ChangeOld
import Derived.Lib.SmallJoins
import Derived.LaidMore
import Derived.Lay
import Derived.SevenTiedAt
import Derived.Stop.Joined
import Derived.Lib.AppendIntMem
import Derived.Lib.ItoaLen
namespace Go.Proofs.YtkkggpahanddnaaGreatDoor
open Go.RowKit
attribute [local go_sem ↓] Go.wp_at_zero Go.wp_at_succ
def TabDeB (w : World) : Prop := ∀ w', Below w.heap.size w w' → TabDe w'
theorem dig_at {u : Nat} (hu : u < 16) (h : u < (⟨#[48, 49, 50, 51, 52, 53, 54, 55, 56, 57, 97, 98, 99, 100, 101, 102, 103, 104, 105, 106, 107, 108, 109, 110, 111, 112, 113, 114, 115, 116, 117, 118, 119, 120, 121, 122]⟩ : ByteArray).size) :
    (⟨#[48, 49, 50, 51, 52, 53, 54, 55, 56, 57, 97, 98, 99, 100, 101, 102, 103, 104, 105, 106, 107, 108, 109, 110, 111, 112, 113, 114, 115, 116, 117, 118, 119, 120, 121, 122]⟩ : ByteArray)[u] = hexD u := by
  have k : ∀ v : Fin 16, (⟨#[48, 49, 50, 51, 52, 53, 54, 55, 56, 57, 97, 98, 99, 100, 101, 102, 103, 104, 105, 106, 107, 108, 109, 110, 111, 112, 113, 114, 115, 116, 117, 118, 119, 120, 121, 122]⟩ : ByteArray)[v.1]'(Nat.lt_of_lt_of_le v.2 (by decide)) = hexD v.1 := by decide +kernel
  exact k ⟨u, hu⟩
theorem zero_size : (Tryz.zeroCells126).size = 65 := by kernel_rfl
theorem conv_one (c : UInt8) (w : World) (T : TypeId) :
    (convert 70 9 (.slice (some ⟨w.heap.size, 64, none⟩) 1 1)).run Tryz.prog (w.alloc (.cells (Tryz.zeroCells126.setIfInBounds 64 (.int .u8 (c.toNat : Int))) T)) = .ok (.string (bs [c])) (w.alloc (.cells (Tryz.zeroCells126.setIfInBounds 64 (.int .u8 (c.toNat : Int))) T)) := by
  refine run_convert_bytes_back _ 70 9 5 ⟨w.heap.size, 64, none⟩ 1 [c] Tryz.underlying70 Tryz.underlying5 Tryz.underlying9 ?_
  intro j hj
  obtain rfl : j = 0 := by simp at hj; exact hj
  refine (row_cells (row_new _ _ _) 64).trans ?_
  rw [Array.getElem?_setIfInBounds_self_of_lt (by rw [zero_size]; omega)]
  rfl
theorem conv_two (a b : UInt8) (w : World) (T : TypeId) :
    (convert 70 9 (.slice (some ⟨w.heap.size, 63, none⟩) 2 2)).run Tryz.prog (w.alloc (.cells ((Tryz.zeroCells126.setIfInBounds 64 (.int .u8 (b.toNat : Int))).setIfInBounds 63 (.int .u8 (a.toNat : Int))) T)) = .ok (.string (bs [a, b])) (w.alloc (.cells ((Tryz.zeroCells126.setIfInBounds 64 (.int .u8 (b.toNat : Int))).setIfInBounds 63 (.int .u8 (a.toNat : Int))) T)) := by
  refine run_convert_bytes_back _ 70 9 5 ⟨w.heap.size, 63, none⟩ 2 [a, b] Tryz.underlying70 Tryz.underlying5 Tryz.underlying9 ?_
  intro j hj
  have : j = 0 ∨ j = 1 := by simp at hj; omega
  rcases this with rfl | rfl
  · refine (row_cells (row_new _ _ _) 63).trans ?_
    rw [Array.getElem?_setIfInBounds_self_of_lt (by rw [Array.size_setIfInBounds, zero_size]; omega)]
    rfl
  · refine (row_cells (row_new _ _ _) 64).trans ?_
    rw [Array.getElem?_setIfInBounds_ne (by omega), Array.getElem?_setIfInBounds_self_of_lt (by rw [zero_size]; omega)]
    rfl
set_option maxRecDepth 20000 in
set_option maxHeartbeats 4000000 in
theorem fmt16_lo (u : Nat) (hu : u < 16) (w : World) (ht : TabDeB w) : Calls Tryz.prog 77 #[.slice none 0 0, .int .u64 (u : Int), .int .i64 16, .bool false, .bool false] w fun e w' => e = .returned (.tuple #[.slice none 0 0, .string (bs [hexD u])]) ∧ Below w.heap.size w w' := by
  have h1 : ¬ (16 : Int) ≤ (u : Int) := by omega
  have hd := dig_at hu
  have kc := conv_one (hexD u) w
  go_enter Tryz.func77, Tryz.ntmps77
  go_wp2_with fail
  refine (pow2_16 _).mono ?_
  rintro e w' ⟨rfl, rfl⟩
  go_wp2_with fail
  refine (trail _ (ht _ ((Below.refl _ _).alloc (Nat.le_refl _) _))).mono ?_
  rintro e w' ⟨rfl, rfl⟩
  go_wp2_with fail
  refine wp_loop_rounds 1 ?_
  rw [rounds_succ]
  go_wp2_with fail
  go_ret2
  exact ⟨rfl, (Below.refl _ _).alloc (Nat.le_refl _) _⟩
theorem and15 {u : Nat} (hu : u < 256) : bits BinOp.and IntKind.u64 (u : Int) 15 = ((u % 16 : Nat) : Int) := by
  have k : ∀ v : Fin 256, bits BinOp.and IntKind.u64 (v.1 : Int) 15 = ((v.1 % 16 : Nat) : Int) := by decide +kernel
  exact k ⟨u, hu⟩
set_option maxRecDepth 20000 in
set_option maxHeartbeats 4000000 in
theorem fmt16_hi (u : Nat) (h0 : 16 ≤ u) (hu : u < 256) (w : World) (ht : TabDeB w) : Calls Tryz.prog 77 #[.slice none 0 0, .int .u64 (u : Int), .int .i64 16, .bool false, .bool false] w fun e w' => e = .returned (.tuple #[.slice none 0 0, .string (bs [hexD (u / 16), hexD (u % 16)])]) ∧ Below w.heap.size w w' := by
  have h1 : (16 : Int) ≤ (u : Int) := by omega
  have h2 : ¬ (16 : Int) ≤ (u : Int) / 16 := by omega
  have hd := dig_at (u := u / 16) (by omega)
  have hd2 := dig_at (u := u % 16) (by omega)
  have ha := and15 hu
  have hto : ((u : Int) / 16).toNat = u / 16 := by omega
  have kc := conv_two (hexD (u / 16)) (hexD (u % 16)) w
  go_enter Tryz.func77, Tryz.ntmps77
  go_wp2_with fail
  refine (pow2_16 _).mono ?_
  rintro e w' ⟨rfl, rfl⟩
  go_wp2_with fail
  refine (trail _ (ht _ ((Below.refl _ _).alloc (Nat.le_refl _) _))).mono ?_
  rintro e w' ⟨rfl, rfl⟩
  go_wp2_with fail
  refine wp_loop_rounds 2 ?_
  rw [rounds_succ]
  go_wp2_with fail
  rw [rounds_succ]
  go_wp2_with fail
  go_ret2
  exact ⟨rfl, (Below.refl _ _).alloc (Nat.le_refl _) _⟩
end Go.Proofs.YtkkggpahanddnaaGreatDoor
/- Walks: the escaped form of a string, given that of its bytes. -/
namespace Go.Proofs.YtkkggpahanddnaaGreatDoor
open Go.RowKit
attribute [local go_sem] Ext.cell Ext.frozen
attribute [local go_sem ↓] Go.wp_at_zero Go.wp_at_succ

def escS (l : List UInt8) : List UInt8 := l.flatMap escC
theorem escC_len (c : UInt8) : (escC c).length ≤ 4 := by unfold escC; (repeat' split) <;> simp
theorem escS_len (l : List UInt8) : (escS l).length ≤ 4 * l.length := by
  induction l with
  | nil => exact Nat.le_refl _
  | cons c l ih =>
    have : escS (c :: l) = escC c ++ escS l := rfl
    rw [this, List.length_append, List.length_cons]
    have := escC_len c
    omega
theorem escS_take (l : List UInt8) (k : Nat) (h : k < l.length) : escS (l.take (k + 1)) = escS (l.take k) ++ escC (l.getD k 0) := by
  unfold escS
  rw [List.take_succ_eq_append_getElem h, List.flatMap_append]
  congr 1
  simp [List.getD, List.getElem?_eq_getElem h]
/-- a byte's contract -/
def BslOk (c : UInt8) (w : World) : Prop := ∀ (b : Bool) w', Below w.heap.size w w' → Calls Tryz.prog 37 #[.int .i64 2, .int .u8 (c.toNat : Int), .bool b] w' fun e w'' => e = .returned (.string (bs (escC c))) ∧ Below w'.heap.size w' w''
theorem BslOk.easy {c : UInt8} (hc : ¬ (c.toNat < 32 ∨ c.toNat = 127) ∨ c = 10 ∨ c = 13 ∨ c = 9) (w : World) : BslOk c w := fun b w' _ => bsl_easy c b hc w'
set_option maxRecDepth 20000 in
set_option maxHeartbeats 4000000 in
theorem esc_any (s : ByteArray) (w : World) (hs : s.size ≤ 1000000) (hb : ∀ c ∈ s.data.toList, BslOk c w) :
    Calls Tryz.prog 20 #[.int .i64 2, .string s] w fun e w' => e = .returned (.string (bs (escS s.data.toList))) ∧ Below w.heap.size w w' := by
  have HST := Lib.hid style_any
  have HBS := Lib.hid hb
  have hsl : s.data.toList.length = s.size := ba_len s
  clear hb
  go_enter Tryz.func20, Tryz.ntmps20
  go_wp2_with fail
  refine (HST.out _).mono ?_
  rintro e _ ⟨rfl, rfl⟩
  go_wp2_with fail
  refine wp_at_worldH ?_
  intro W hW
  have b1 : Lib.IsBuilder 72 5 w.heap.size w.heap.size (Lib.byteCells []) W := by
    refine .inl ⟨Nat.le_refl _, .slice none 0 0, ?_, World.ownsRow_nil _ _ _ _, by simp [Value.ownBlock]⟩
    rw [hW]
    exact row_new _ _ _
  have HB0 : Hid (Below w.heap.size w W) := by rw [hW]; exact (Below.refl _ _).alloc (Nat.le_refl _) _
  have HB1 := Lib.hid b1
  clear b1 hW
  go_loopw [12] (fun i wr => ∃ k : Nat, i = .int .i64 (k : Int) ∧ k ≤ s.size ∧ Lib.IsBuilder 72 5 w.heap.size w.heap.size (Lib.byteCells (escS (s.data.toList.take k))) wr ∧ Below w.heap.size w wr) (fun i _ => s.size - (intOf i).toNat)
  case atStart => exact ⟨0, rfl, Nat.zero_le _, HB1.out, HB0.out⟩
  case round =>
    obtain ⟨k, rfl, hk, hbu, hbl⟩ := hrel
    have HBU := Lib.hid hbu
    have HBL := Lib.hid hbl
    have hzr := hbl.size
    clear hbu hbl
    by_cases hlt : k < s.size
    · have hkl : k < s.data.toList.length := by rw [hsl]; exact hlt
      have hmem : s.data.toList.getD k 0 ∈ s.data.toList := getD_mem _ k _ hkl
      have hget : s[k] = s.data.toList.getD k 0 := by
        simp [List.getD, List.getElem?_eq_getElem hkl]; rfl
      have HBC := Lib.hid (HBS.out _ hmem)
      have HTK := Lib.hid (escS_take s.data.toList k hkl)
      have hl4 := escS_len (s.data.toList.take k)
      have hl5 : (escS (s.data.toList.take k)).length ≤ 4000000 := by rw [List.length_take] at hl4; omega
      have hl6 : (bs (escC (s.data.toList.getD k 0))).size ≤ 4 := by rw [bs_size]; exact escC_len _
      rw [← hget] at HBC HTK hl6
      clear hget hl4
      go_wp2_with fail
      refine (Calls.toExt (HBC.out _ _ HBL.out)).mono ?_
      rintro e _ ⟨rfl, x, rfl⟩
      have hb5 : Lib.IsBuilder 72 5 w.heap.size w.heap.size (Lib.byteCells (escS (s.data.toList.take k))) x.1 := by
        have key : ∀ p, Lib.BuilderAt 72 5 w.heap.size w.heap.size p (Lib.byteCells (escS (s.data.toList.take k))) wr → Lib.BuilderAt 72 5 w.heap.size w.heap.size p (Lib.byteCells (escS (s.data.toList.take k))) x.1 := by
          rintro p ⟨h1, v, h2, h3, h4⟩
          exact ⟨h1, v, (x.2.block _ (Array.getElem?_eq_some_iff.1 h2).1).trans h2, own_below2 h3 x.2, h4⟩
        exact HBU.out.elim (fun h => .inl (key _ h)) (fun h => .inr (key _ h))
      have hzx : w.heap.size ≤ x.1.heap.size := by have := x.2.size; omega
      have HW := Lib.hid (wstring_any w.heap.size w.heap.size _ (bs (escC s[k])) x.1 hb5 (by rw [Lib.byteCells_length]; omega) hzx)
      have HBX : Hid (Below w.heap.size w x.1) := HBL.out.trans (x.2.mono hzr)
      obtain ⟨X, hX⟩ := x
      simp only at HW HBX hzx ⊢
      clear hb5 hX
      go_wp2_with fail
      refine HW.out.mono ?_
      rintro e w3 ⟨rfl, hb6, hbl6, _⟩
      have HB6 : Hid (Below w.heap.size w w3) := HBX.out.trans hbl6
      have HU6 : Hid (Lib.IsBuilder 72 5 w.heap.size w.heap.size (Lib.byteCells (escS (s.data.toList.take (k + 1)))) w3) := by
        unfold Hid
        rw [HTK.out, show Lib.byteCells (escS (s.data.toList.take k) ++ escC s[k]) = Lib.byteCells (escS (s.data.toList.take k)) ++ Lib.strCells (bs (escC s[k])) by rw [Lib.strCells_eq, bs_data]; simp [Lib.byteCells]]
        exact .inr hb6
      clear hb6 hbl6
      go_wp2_with fail
      go_roundw
      case rel => exact ⟨k + 1, by go_num, by omega, HU6.out, HB6.out⟩
      case measure => simp [intOf]; omega
    · obtain rfl : k = s.size := by omega
      have HS := Lib.hid (Tryz.Builder_String_any_k w.heap.size w.heap.size (escS s.data.toList) wr (Lib.IsBuilderF.of (by have := HBU.out; rwa [List.take_of_length_le (by rw [hsl]; exact Nat.le_refl _)] at this)) hzr)
      go_wp2_with fail
      refine HS.out.mono ?_
      rintro e w3 ⟨rfl, _, hbl6, _⟩
      have HB6 : Hid (Below w.heap.size w w3) := HBL.out.trans hbl6
      clear hbl6
      go_wp2_with fail
      go_ret
      exact ⟨rfl, HB6.out⟩
end Go.Proofs.YtkkggpahanddnaaGreatDoor
/- Walks: the text of a layout, given the texts of its numbers and its bytes. -/
namespace Go.Proofs.YtkkggpahanddnaaGreatDoor
open Go.RowKit
attribute [local go_sem] Ext.cell Ext.frozen
attribute [local go_sem ↓] Go.wp_at_zero Go.wp_at_succ

def txtP (p : Int × ByteArray) : List UInt8 := Lib.itoa p.1 ++ [32, 34] ++ escS p.2.data.toList ++ [34]
def textV (ps : List (Int × ByteArray)) : List UInt8 := Lib.join (ps.map txtP) [32]
def ItoaOk (i : Int) (w : World) : Prop := (Lib.itoa i).length ≤ 100 ∧ ∀ w', Below w.heap.size w w' → Calls Tryz.prog 19 #[.int .i64 i] w' fun e w'' => e = .returned (.string (bs (Lib.itoa i))) ∧ Below w'.heap.size w' w''
theorem ItoaOk.below {i : Int} {w w' : World} (h : ItoaOk i w) (hb : Below w.heap.size w w') : ItoaOk i w' := ⟨h.1, fun w2 h2 => h.2 w2 (hb.trans (h2.mono hb.size))⟩
theorem BslOk.below {c : UInt8} {w w' : World} (h : BslOk c w) (hb : Below w.heap.size w w') : BslOk c w' := fun b w2 h2 => h b w2 (hb.trans (h2.mono hb.size))
theorem ItoaOk.small (n : Nat) (hn : n < 100) (w : World) : ItoaOk (n : Int) w := by
  have e : Lib.itoa (n : Int) = Lib.decDigits n := by unfold Lib.itoa; rw [if_neg (by omega), Int.toNat_natCast]
  refine ⟨?_, fun w' _ => ?_⟩
  · rw [e]
    by_cases h : n < 10
    · rw [Lib.decDigits, dif_pos h]; simp
    · rw [Lib.decDigits, dif_neg h, Lib.decDigits, dif_pos (by omega)]; simp
  · rw [e]
    exact (Tryz.strconv_Itoa_small n hn w').mono fun _ _ ⟨he, hw⟩ => ⟨he, by rw [hw]; exact Below.refl _ _⟩
theorem join_len (l : List (List UInt8)) (m : Nat) (h : ∀ x ∈ l, x.length ≤ m) : (Lib.join l [32]).length ≤ l.length * (m + 1) := by
  induction l with
  | nil => simp [Lib.join]
  | cons a l ih =>
    have h1 := ih (fun x hx => h x (List.mem_cons_of_mem _ hx))
    have h2 := h a (List.mem_cons_self ..)
    cases l with
    | nil => simp [Lib.join]; omega
    | cons b l =>
      have e : Lib.join (a :: b :: l) [32] = a ++ [32] ++ Lib.join (b :: l) [32] := by simp [Lib.join, List.intercalate]
      rw [e, List.length_append, List.length_append, List.length_cons (a := a), Nat.succ_mul]
      simp only [List.length_cons, List.length_nil] at h1 ⊢
      omega
set_option maxRecDepth 20000 in
set_option maxHeartbeats 8000000 in
theorem text_any3 (ad : Option Addr) (n c : Nat) (ps : List (Int × ByteArray)) (w : World) (hp : Pc w ad n ps) (hn : n ≤ 100000) (hs : ∀ p ∈ ps, p.2.size ≤ 3000) (hi : ∀ p ∈ ps, ItoaOk p.1 w) (he : ∀ p ∈ ps, ∀ c ∈ p.2.data.toList, BslOk c w) :
    Calls Tryz.prog 8 #[.slice ad n c] w fun e w' => e = .returned (.string (bs (textV ps))) ∧ Below w.heap.size w w' := by
  obtain ⟨b, off, hp⟩ := hp
  have HP := Lib.hid hp
  have HLN := Lib.hid hp.len
  have HSZ := Lib.hid hs
  have HIO := Lib.hid hi
  have HEO := Lib.hid he
  obtain ⟨i0, hi0, hz0, hz1, hz2⟩ := info_parts infoS
  have HI := Lib.hid hi0
  have HZ0 := Lib.hid hz0
  have HZ1 := Lib.hid hz1
  have HZ2 := Lib.hid hz2
  clear hp hs hi he hi0 hz0 hz1 hz2
  go_enter Tryz.func8, Tryz.ntmps8
  go_wp2_with fail
  go_loopw [3, 8] (fun v i wr => ∃ (k : Nat) (ad' : Option Addr) (c' : Nat), i = .int .i64 (k : Int) ∧ k ≤ n ∧ v = .slice ad' k c' ∧ wr.ownsRow w.heap.size 9 1 (.slice ad' k c') k (strs ((ps.take k).map (fun p => bs (txtP p)))) ∧ Below w.heap.size w wr) (fun _ i _ => n - (intOf i).toNat)
  case atStart => exact ⟨0, none, 0, rfl, Nat.zero_le _, rfl, World.ownsRow_nil _ _ _ _, Below.refl _ _⟩
  case round =>
    obtain ⟨k, ad', c', rfl, hkn, rfl, hown, hbl⟩ := hrel
    have HOWN := Lib.hid hown
    have HBL := Lib.hid hbl
    have hzr := hbl.size
    clear hown hbl
    by_cases hlt : k < n
    · have HPR := Lib.hid (HP.out.below HBL.out)
      have hix := fun W => HPR.out.ix 25 43 Tryz.underlying25 cellsPc hlt c W
      have h0 := HPR.out.c0 k hlt
      have h1 := HPR.out.c1 k hlt
      have hkl : k < ps.length := by rw [HLN.out]; exact hlt
      have hmem : ps.getD k (0, .empty) ∈ ps := getD_mem _ _ _ hkl
      have HTS : Hid ((ps.take (k + 1)).map (fun p => bs (txtP p)) = (ps.take k).map (fun p => bs (txtP p)) ++ [bs (txtP (ps.getD k (0, .empty)))]) := by
        unfold Hid
        rw [List.take_succ_eq_append_getElem hkl, List.map_append]
        simp [List.getD, List.getElem?_eq_getElem hkl]
      have hsz := HSZ.out _ hmem
      have HIT := Lib.hid (HIO.out _ hmem)
      have HES := Lib.hid (HEO.out _ hmem)
      clear hkl hmem
      generalize ps.getD k (0, .empty) = p at *
      obtain ⟨p0, p1⟩ := p
      simp only at h0 h1 hsz
      have HTX : Hid (bs (txtP (p0, p1)) = bs (Lib.itoa p0) ++ ⟨#[32, 34]⟩ ++ bs (escS p1.data.toList) ++ ⟨#[34]⟩) := by
        unfold Hid txtP
        rw [show (⟨#[32, 34]⟩ : ByteArray) = bs [32, 34] from rfl, show (⟨#[34]⟩ : ByteArray) = bs [34] from rfl, bs_append, bs_append, bs_append]
      have s1 : (bs (Lib.itoa p0)).size ≤ 100 := by rw [bs_size]; exact HIT.out.1
      have s2 : (bs (escS p1.data.toList)).size ≤ 12000 := by rw [bs_size]; have := escS_len p1.data.toList; rw [ba_len] at this; omega
      have HIC : Hid (∀ w', Below w.heap.size w w' → Calls Tryz.prog 19 #[.int .i64 p0] w' fun e w'' => e = .returned (.string (bs (Lib.itoa p0))) ∧ Below w'.heap.size w' w'') := HIT.out.2
      have HEC : Hid (∀ w', Below w.heap.size w w' → Calls Tryz.prog 20 #[.int .i64 2, .string p1] w' fun e w'' => e = .returned (.string (bs (escS p1.data.toList))) ∧ Below w'.heap.size w' w'') := fun w' g => esc_any p1 w' (by omega) (fun c hc => (HES.out c hc).below g)
      generalize bs (Lib.itoa p0) = T0 at *
      generalize bs (escS p1.data.toList) = T1 at *
      clear HIT HES
      have z1 : (⟨#[32, 34]⟩ : ByteArray).size = 2 := rfl
      have z2 : (⟨#[34]⟩ : ByteArray).size = 1 := rfl
      have a1 := fun w => run_string_add_sum (P := Tryz.prog) (w := w) T0 ⟨#[32, 34]⟩ (by omega)
      have a2 := fun w => run_string_add_sum (P := Tryz.prog) (w := w) (T0 ++ ⟨#[32, 34]⟩) T1 (by rw [ByteArray.size_append]; omega)
      have a3 := fun w => run_string_add_sum (P := Tryz.prog) (w := w) (T0 ++ ⟨#[32, 34]⟩ ++ T1) ⟨#[34]⟩ (by rw [ByteArray.size_append, ByteArray.size_append]; omega)
      clear z1 z2
      go_wp2_with fail
      refine wp_at_worldH ?_
      intro W hW
      have k0 : W.cell? ⟨wr.heap.size, 0, none⟩ = some (.int .i64 p0) := by rw [hW]; simp [go_sem]
      have k1 : W.cell? ⟨wr.heap.size, 1, none⟩ = some (.string p1) := by rw [hW]; simp [go_sem]
      have KB : Hid (W.heap[wr.heap.size]? = some (.cells #[.int .i64 p0, .string p1] 43 (0, 0))) := by rw [hW]; exact row_new _ _ _
      have hz : wr.heap.size < W.heap.size := by rw [hW]; simp
      have HBW : Hid (Below wr.heap.size wr W) := by rw [hW]; exact (Below.refl _ _).alloc (Nat.le_refl _) _
      have HBWW : Hid (Below w.heap.size w W) := HBL.out.trans (HBW.out.mono hzr)
      clear hW h0 h1 hix
      go_region_held3 (fun w' => w'.cell? ⟨wr.heap.size, 0, none⟩ = some (.int .i64 p0) ∧ w'.cell? ⟨wr.heap.size, 1, none⟩ = some (.string p1)) (go_keep)
        (first
          | (go_at_call 19; (with_reducible refine (HIC.out _ ?_).mono ?_); (exact (show Bel w _ from Bel.drew HBWW.out)); rintro e w1 ⟨rfl, hb1⟩; have hb1' : Below W.heap.size W w1 := (below_drew1 W).trans hb1; have q0 := (hb1'.cell (p := ⟨wr.heap.size, 0, none⟩) hz).trans k0; have q1 := (hb1'.cell (p := ⟨wr.heap.size, 1, none⟩) hz).trans k1; have hz1 : wr.heap.size < w1.heap.size := Nat.lt_of_lt_of_le hz hb1'.size; have KB1 := Lib.hid ((hb1'.block wr.heap.size hz).trans KB.out); have HB1 := Lib.hid (show Below wr.heap.size wr w1 from HBW.out.trans (hb1'.mono (by omega))); have HW1 := Lib.hid (show Below w.heap.size w w1 from HBWW.out.trans (hb1'.mono (by omega))); clear hb1 hb1')
          | (go_at_call 20; (with_reducible refine (HEC.out _ HW1.out).mono ?_); rintro e w2 ⟨rfl, hb2⟩; have q0 := (hb2.cell (p := ⟨wr.heap.size, 0, none⟩) hz1).trans q0; have q1 := (hb2.cell (p := ⟨wr.heap.size, 1, none⟩) hz1).trans q1; have hz2 : w.heap.size ≤ w2.heap.size := (by have := hb2.size; omega); have HOY := Lib.hid (own_below2 HOWN.out (HB1.out.trans (hb2.mono (by omega)))); have HBY := Lib.hid (show Below w.heap.size w w2 from HW1.out.trans (hb2.mono (by omega))); have hz3 : wr.heap.size < w2.heap.size := (by have := hb2.size; omega); have KB2 := Lib.hid ((hb2.block wr.heap.size hz1).trans KB1.out); clear hb2)
          | (refine step_app_strs (by rfl) (.tmp 12) (.tmp 22) (by rfl) w.heap.size ad' k c' _ (by rfl) (World.ownsRow.alloc HOY.out _) _ 1 1 [_] (by rfl) (sl_one (row_new _ _ _)) (fun h => by cases h) (by omega) (by simp; omega) ?_; intro ad6 c6 w3 hown3 hg3 hnn3; have hb3 := ((Below.refl w.heap.size w2).alloc hz2 _).grown hg3 (by simp; omega) (fun q hq => (World.ownsRow.lt HOY.out q hq).1); have q0 := (hg3.cell_far ⟨wr.heap.size, 0, none⟩ (by simp; omega) (fun e => (own_other HOY.out KB2.out (by decide)) e.symm)).trans ((World.cell?_of_block (Below.heap_alloc _ _ _ hz3)).trans q0); have q1 := (hg3.cell_far ⟨wr.heap.size, 1, none⟩ (by simp; omega) (fun e => (own_other HOY.out KB2.out (by decide)) e.symm)).trans ((World.cell?_of_block (Below.heap_alloc _ _ _ hz3)).trans q1); have HOWN3 := Lib.hid hown3; have HB3 := Lib.hid hb3; clear hown3 hb3 hg3))
      go_wp2_with fail
      go_roundw
      case rel => exact ⟨k + 1, ad6, c6, by go_num, by omega, rfl, by rw [HTS.out, strs_app, HTX.out]; exact HOWN3.out, HBY.out.trans HB3.out⟩
      case measure => simp [intOf]; omega
    · obtain rfl : k = n := by omega
      have HOE : Hid (wr.ownsRow w.heap.size 9 1 (.slice ad' k c') k (strs (ps.map (fun p => bs (txtP p))))) := by
        have := HOWN.out
        rwa [List.take_of_length_le (by rw [HLN.out]; exact Nat.le_refl _)] at this
      by_cases hk0 : k = 0
      · subst hk0
        have hps : ps = [] := List.eq_nil_of_length_eq_zero HLN.out
        go_wp2_with fail
        refine (Tryz.strings_Join_none ad' c' ⟨#[32]⟩ wr).mono ?_
        rintro e w3 ⟨rfl, rfl⟩
        go_wp2_with fail
        go_ret
        exact ⟨by rw [hps]; rfl, HBL.out⟩
      · obtain ⟨g, rfl, hg1, hg2, hg3, hg4, hsl, _⟩ := own_parts HOE.out (by omega)
        have hlen : (ps.map (fun p => bs (txtP p))).length = k := by rw [List.length_map]; exact HLN.out
        have hJ := Tryz.strings_Join g 0 c' (ps.map (fun p => bs (txtP p))) ⟨#[32]⟩ wr (fun j x hx => by
            have hj : j < k := by have := (List.getElem?_eq_some_iff.1 hx).1; omega
            rw [hsl.cell j hj, strs_getD _ _ (by omega), List.getD, hx]; rfl) hg2 (by omega) (by omega) (by
            have e1 : (ps.map (fun p => bs (txtP p))).map (·.data.toList) = ps.map txtP := by rw [List.map_map]; rfl
            rw [e1]
            have := join_len (ps.map txtP) 12200 (fun x hx => by
              obtain ⟨p, hp, rfl⟩ := List.mem_map.1 hx
              have h1 := (HIO.out p hp).1
              have h2 := escS_len p.2.data.toList
              rw [ba_len] at h2
              have h3 := HSZ.out p hp
              simp only [txtP, List.length_append, List.length_cons, List.length_nil]
              omega)
            rw [List.length_map, HLN.out] at this
            have h5 := Nat.mul_le_mul_right 12201 hn
            show (Lib.join (ps.map txtP) [32]).length ≤ _
            omega)
        rw [hlen] at hJ
        have e1 : (ps.map (fun p => bs (txtP p))).map (·.data.toList) = ps.map txtP := by rw [List.map_map]; rfl
        rw [e1] at hJ
        have HJ := Lib.hid hJ
        clear hJ e1 hsl hlen
        go_wp2_with fail
        (with_reducible refine HJ.out.mono ?_)
        rintro e w3 ⟨rfl, hb3⟩
        go_wp2_with fail
        go_ret
        exact ⟨rfl, HBL.out.trans (hb3.mono hzr)⟩
theorem text_any (ad : Option Addr) (n c : Nat) (ps : List (Int × ByteArray)) (w : World) (hp : Pc w ad n ps) (hn : n ≤ 100000) (hs : ∀ p ∈ ps, p.2.size ≤ 2000) (hi : ∀ p ∈ ps, ItoaOk p.1 w) (he : ∀ p ∈ ps, ∀ c ∈ p.2.data.toList, BslOk c w) :
    Calls Tryz.prog 8 #[.slice ad n c] w fun e w' => e = .returned (.string (bs (textV ps))) ∧ Below w.heap.size w w' :=
  text_any3 ad n c ps w hp hn (fun p h => Nat.le_trans (hs p h) (by decide)) hi he
end Go.Proofs.YtkkggpahanddnaaGreatDoor
/- Walks: how a control character is escaped in quotation marks; every byte. -/
namespace Go.Proofs.YtkkggpahanddnaaGreatDoor
open Go.RowKit
attribute [local go_sem ↓] Go.wp_at_zero Go.wp_at_succ
theorem TabDeB.below {w w' : World} (h : TabDeB w) (hb : Below w.heap.size w w') : TabDeB w' := fun w2 h2 => h w2 (hb.trans (h2.mono hb.size))
/-- the digits of a byte -/
def hexS (u : Nat) : List UInt8 := if u < 16 then [hexD u] else [hexD (u / 16), hexD (u % 16)]
theorem fmt16 (u : Nat) (hu : u < 256) (w : World) (ht : TabDeB w) : Calls Tryz.prog 77 #[.slice none 0 0, .int .u64 (u : Int), .int .i64 16, .bool false, .bool false] w fun e w' => e = .returned (.tuple #[.slice none 0 0, .string (bs (hexS u))]) ∧ Below w.heap.size w w' := by
  unfold hexS
  by_cases h : u < 16
  · rw [if_pos h]; exact fmt16_lo u h w ht
  · rw [if_neg h]; exact fmt16_hi u (by omega) hu w ht
set_option maxRecDepth 20000 in
theorem formatint16 (u : Nat) (hu : u < 256) (w : World) (ht : TabDeB w) : Calls Tryz.prog 54 #[.int .i64 (u : Int), .int .i64 16] w fun e w' => e = .returned (.string (bs (hexS u))) ∧ Below w.heap.size w w' := by
  have h1 : ¬ (u : Int) < 0 := by omega
  have h2 : (u : Int) < 18446744073709551616 := by omega
  go_enter Tryz.func54, Tryz.ntmps54
  go_wp2_with fail
  refine (fmt16 u hu _ ht).mono ?_
  rintro e w' ⟨rfl, hb⟩
  go_wp2_with fail
  go_ret
  exact ⟨rfl, hb⟩
theorem formatint16p (u : Nat) (hu : u < 256) (w : World) (ht : TabDeB w) : Calls Tryz.prog 80 #[.int .i64 (u : Int), .int .i64 16] w fun e w' => e = .returned (.string (bs (hexS u))) ∧ Below w.heap.size w w' := by
  go_enter Tryz.func80, Tryz.ntmps80
  go_wp2_with fail
  refine (formatint16 u hu _ ht).mono ?_
  rintro e w' ⟨rfl, hb⟩
  go_wp2_with fail
  go_ret
  exact ⟨rfl, hb⟩
set_option maxRecDepth 20000 in
theorem repeat_0 (w : World) : Calls Tryz.prog 81 #[.string ⟨#[48]⟩, .int .i64 0] w fun e w' => e = .returned (.string ⟨#[]⟩) ∧ w = w' := by
  go_enter Tryz.func81, Tryz.ntmps81
  go_wp2_with fail
  go_ret
  exact ⟨rfl, rfl⟩
set_option maxRecDepth 20000 in
theorem repeat_1 (w : World) : Calls Tryz.prog 81 #[.string ⟨#[48]⟩, .int .i64 1] w fun e w' => e = .returned (.string ⟨#[48]⟩) ∧ w = w' := by
  go_enter Tryz.func81, Tryz.ntmps81
  go_wp2_with fail
  go_ret
  exact ⟨rfl, rfl⟩
theorem hex_any (u : Nat) (hu : u < 256) (w : World) (ht : TabDeB w) : Calls Tryz.prog 58 #[.int .u8 (u : Int), .int .i64 2] w fun e w' => e = .returned (.string (bs [hexD (u / 16), hexD (u % 16)])) ∧ Below w.heap.size w w' := by
  have HF := Lib.hid (formatint16p u hu w ht)
  have h0 : (0 : Int) ≤ (u : Int) := by omega
  have h2 : (u : Int) < 9223372036854775808 := by omega
  unfold hexS at HF
  by_cases h : u < 16
  · rw [if_pos h] at HF
    have e1 : u / 16 = 0 := by omega
    have e2 : u % 16 = u := by omega
    rw [e1, e2]
    have hs : (bs [hexD u]).size = 1 := by rw [bs_size]; rfl
    have ha := fun w => run_string_add_sum (P := Tryz.prog) (w := w) ⟨#[48]⟩ (bs [hexD u]) (by rw [hs]; decide)
    have HE : Hid ((⟨#[48]⟩ : ByteArray) ++ bs [hexD u] = bs [hexD 0, hexD u]) := by
      rw [show (⟨#[48]⟩ : ByteArray) = bs [48] from rfl, Hid, bs_append]; rfl
    generalize bs [hexD u] = D at *
    clear e1 e2
    go_enter Tryz.func58, Tryz.ntmps58
    go_wp2_with fail
    refine (HF.out).mono ?_
    rintro e w' ⟨rfl, hb⟩
    go_wp2_with fail
    refine (repeat_1 _).mono ?_
    rintro e w2 ⟨rfl, rfl⟩
    go_wp2_with fail
    go_ret
    exact ⟨by rw [← HE.out]; rfl, hb⟩
  · rw [if_neg h] at HF
    have hs : (bs [hexD (u / 16), hexD (u % 16)]).size = 2 := by rw [bs_size]; rfl
    have ha := fun w => run_string_add_sum (P := Tryz.prog) (w := w) ⟨#[]⟩ (bs [hexD (u / 16), hexD (u % 16)]) (by rw [hs]; decide)
    have HE : Hid ((⟨#[]⟩ : ByteArray) ++ bs [hexD (u / 16), hexD (u % 16)] = bs [hexD (u / 16), hexD (u % 16)]) := by
      rw [show (⟨#[]⟩ : ByteArray) = bs [] from rfl, Hid, bs_append]; rfl
    generalize bs [hexD (u / 16), hexD (u % 16)] = D at *
    go_enter Tryz.func58, Tryz.ntmps58
    go_wp2_with fail
    refine (HF.out).mono ?_
    rintro e w' ⟨rfl, hb⟩
    go_wp2_with fail
    refine (repeat_0 _).mono ?_
    rintro e w2 ⟨rfl, rfl⟩
    go_wp2_with fail
    go_ret
    exact ⟨by first | (rw [HE.out]; rfl) | rfl, hb⟩
set_option maxRecDepth 20000 in
set_option maxHeartbeats 4000000 in
theorem bsl_hard (c : UInt8) (b : Bool) (hc : c.toNat < 32 ∨ c.toNat = 127) (h10 : c ≠ 10) (h13 : c ≠ 13) (h9 : c ≠ 9) (w : World) (ht : TabDeB w) : Calls Tryz.prog 37 #[.int .i64 2, .int .u8 (c.toNat : Int), .bool b] w fun e w' => e = .returned (.string (bs (escC c))) ∧ Below w.heap.size w w' := by
  have h92 : ¬ c = 92 := fun e => by subst e; revert hc; decide
  have h34 : ¬ c = 34 := fun e => by subst e; revert hc; decide
  have HIB := Lib.hid (fun w => Tryz.strings_IndexByte ⟨#[34]⟩ (c.toNat : Int) w)
  have e1 : Lib.indexByte [34] (c.toNat : Int).toNat.toUInt8 = -1 := by
    rw [Int.toNat_natCast]
    have : c.toNat.toUInt8 = c := by simp
    rw [this]
    have h34' : ¬ (34 : UInt8) = c := fun e => h34 e.symm
    simp [Lib.indexByte, h34']
  have g92 : ((c.toNat : Int) == 92) = false := neU h92
  have g10 : ((c.toNat : Int) == 10) = false := neU h10
  have g13 : ((c.toNat : Int) == 13) = false := neU h13
  have g9 : ((c.toNat : Int) == 9) = false := neU h9
  have HCT := Lib.hid (fun w => control_any c.toNat w)
  have d1 : (decide (c.toNat < 32) || decide (c.toNat = 127)) = true := by
    rw [Bool.or_eq_true, decide_eq_true_eq, decide_eq_true_eq]; exact hc
  rw [d1] at HCT
  have HX := Lib.hid (fun w' (h : TabDeB w') => hex_any c.toNat c.toNat_lt w' h)
  have he : escC c = [92, 120, hexD (c.toNat / 16), hexD (c.toNat % 16)] := by
    unfold escC
    rw [if_neg h92, if_neg h10, if_neg h13, if_neg h9, if_neg h34, if_pos hc]
  have hs : (bs [hexD (c.toNat / 16), hexD (c.toNat % 16)]).size = 2 := by rw [bs_size]; rfl
  have ha := fun w => run_string_add_sum (P := Tryz.prog) (w := w) ⟨#[92, 120]⟩ (bs [hexD (c.toNat / 16), hexD (c.toNat % 16)]) (by rw [hs]; decide)
  have HE : Hid ((⟨#[92, 120]⟩ : ByteArray) ++ bs [hexD (c.toNat / 16), hexD (c.toNat % 16)] = bs (escC c)) := by
    rw [show (⟨#[92, 120]⟩ : ByteArray) = bs [92, 120] from rfl, Hid, bs_append, he]; rfl
  simp only [e1] at HIB
  clear hc h92 h10 h13 h9 h34 d1 e1 he hs
  generalize escC c = ec at *
  generalize bs [hexD (c.toNat / 16), hexD (c.toNat % 16)] = D at *
  generalize (c.toNat : Int) = z at *
  have HTD := Lib.hid ht
  clear ht
  go_enter Tryz.func37, Tryz.ntmps37
  go_wp2_with fail
  refine (HIB.out _).mono ?_
  rintro e w1 ⟨rfl, rfl⟩
  go_wp2_with fail
  refine (HCT.out _).mono ?_
  rintro e _ ⟨rfl, rfl⟩
  go_wp2_with fail
  refine (HCT.out _).mono ?_
  rintro e _ ⟨rfl, rfl⟩
  go_wp2_with fail
  refine (HX.out _ HTD.out).mono ?_
  rintro e w2 ⟨rfl, hb⟩
  go_wp2_with fail
  go_ret
  exact ⟨by rw [← HE.out]; rfl, hb⟩
theorem bsl_ok (c : UInt8) {w : World} (ht : TabDeB w) : BslOk c w := fun b w' g => by
  by_cases hc : ¬ (c.toNat < 32 ∨ c.toNat = 127) ∨ c = 10 ∨ c = 13 ∨ c = 9
  · exact bsl_easy c b hc w'
  · have h1 : ¬ (c = 10 ∨ c = 13 ∨ c = 9) := fun e => hc (.inr e)
    exact bsl_hard c b (Classical.byContradiction fun e => hc (.inl e)) (fun e => h1 (.inl e)) (fun e => h1 (.inr (.inl e))) (fun e => h1 (.inr (.inr e))) w' (ht.below g)
end Go.Proofs.YtkkggpahanddnaaGreatDoor
/- How the arguments of the laws are read. -/
namespace Go.Proofs.YtkkggpahanddnaaGreatDoor
open Go.ChangeShapes Go.WideShapes Go.ChangeAt Go.RowKit Go.Joins
theorem own : ownKnob Tryz.prog.godebug = none := by kernel_rfl
theorem laidOut : laidOutB Tryz.prog = true := by kernel_rfl
end Go.Proofs.YtkkggpahanddnaaGreatDoor
/- Any number's digits; the laid tables. -/
namespace Go.Proofs.YtkkggpahanddnaaGreatDoor
open Go.RowKit
def TabTen (w : World) : Prop := Lib.TabBelow Tryz.prog w.heap.size w "internal/strconv.uint64pow10" .u64 Lib.pow10Tab
theorem TabTen.below {w w' : World} (h : TabTen w) (hb : Below w.heap.size w w') : TabTen w' := fun w2 h2 => h w2 (hb.trans (h2.mono hb.size))
theorem ItoaOk.any {n : Int} (h0 : -9223372036854775808 ≤ n) (h1 : n ≤ 9223372036854775807) {w : World} (ht : TabTen w) : ItoaOk n w :=
  ⟨Nat.le_trans (Lib.itoa_length_le n h0 h1) (by omega), fun w' g => (Tryz.strconv_Itoa n h0 h1 w' (ht w' g)).mono fun _ _ ⟨he, k, os, hw⟩ => ⟨he, by rw [hw]; exact Lib.below_grow _ w' (Nat.le_refl _) k os⟩⟩
theorem text_all (ad : Option Addr) (n c : Nat) (ps : List (Int × ByteArray)) (w : World) (hp : Pc w ad n ps) (hn : n ≤ 100000) (hs : ∀ p ∈ ps, p.2.size ≤ 2000) (hi : ∀ p ∈ ps, -9223372036854775808 ≤ p.1 ∧ p.1 ≤ 9223372036854775807) (ht : TabTen w) (hd : TabDeB w) :
    Calls Tryz.prog 8 #[.slice ad n c] w fun e w' => e = .returned (.string (bs (textV ps))) ∧ Below w.heap.size w w' :=
  text_any ad n c ps w hp hn hs (fun p hp => ItoaOk.any (hi p hp).1 (hi p hp).2 ht) (fun _ _ c _ => bsl_ok c hd)
theorem text_all3 (ad : Option Addr) (n c : Nat) (ps : List (Int × ByteArray)) (w : World) (hp : Pc w ad n ps) (hn : n ≤ 100000) (hs : ∀ p ∈ ps, p.2.size ≤ 3000) (hi : ∀ p ∈ ps, -9223372036854775808 ≤ p.1 ∧ p.1 ≤ 9223372036854775807) (ht : TabTen w) (hd : TabDeB w) :
    Calls Tryz.prog 8 #[.slice ad n c] w fun e w' => e = .returned (.string (bs (textV ps))) ∧ Below w.heap.size w w' :=
  text_any3 ad n c ps w hp hn hs (fun p hp => ItoaOk.any (hi p hp).1 (hi p hp).2 ht) (fun _ _ c _ => bsl_ok c hd)
end Go.Proofs.YtkkggpahanddnaaGreatDoor
