/- Walks inside a fence: the program's Get. -/
import Derived.Test.YtmleeodfmmpdgaaGreatDoorQ03
import Derived.Test.YtmleeodfmmpdgaaGreatDoorQ01
import Derived.Lib.ConvBytes
import Derived.Lib.LaidTab
import Derived.LoopN
import Derived.Lib.Join
namespace Go.Proofs.YtmleeodfmmpdgaaGreatDoor
open Go.RowKit Go.Shelf
attribute [local go_sem] Oper.semAt_some

/-- the blocks of a document that is iterated over -/
def SDoc (Bd b m : Nat) (k : Nat) : Prop := k = Bd ∨ (k = b ∧ m ≠ 0)
theorem SDoc.lt {Bd b m B : Nat} (h1 : Bd < B) (h2 : m ≠ 0 → b < B) : ∀ k, SDoc Bd b m k → k < B := fun k h => by
  rcases h with rfl | ⟨rfl, h⟩
  · exact h1
  · exact h2 h
theorem wpIn_at_world {F : Fence} {n : Nat} {P : Program} {c : Code} {Q : Exit → Act → World → Prop} {a : Act} {w : World} (h : ∀ W, W = w → c.wpIn F n P Q a W) : c.wpIn F n P Q a w := h w rfl
theorem box_kept {W W' : World} {row : Option Nat} {B : Nat} {t : TypeId} {v : Value} (h : Boxed W B t v) (hg : W.grownBy W' row) (hr : ∀ r, row = some r → ∃ o : Obj, W.heap[r]? = some o ∧ o.isCells = false) : Boxed W' B t v :=
  (boxed_own (β := Unit) B t (fun _ => v)) () W W' row h hg hr
end Go.Proofs.YtmleeodfmmpdgaaGreatDoor
/- Walks: what writes into a strings.Builder, and what else stays as it was. -/
namespace Go.Proofs.YtmleeodfmmpdgaaGreatDoor
open Go.RowKit

/-- whatever is no bytes lies as it lay, but for block b -/
structure KeepT (b : Nat) (w w' : World) : Prop where
  size : w.heap.size ≤ w'.heap.size
  same : ∀ (k : Nat) (o : Obj), w.heap[k]? = some o → k ≠ b → (∀ cs fr, o ≠ .cells cs 5 fr) → w'.heap[k]? = some o
theorem KeepT.refl (b : Nat) (w : World) : KeepT b w w := ⟨Nat.le_refl _, fun _ _ h _ _ => h⟩
theorem KeepT.trans {b : Nat} {A B C : World} (h : KeepT b A B) (k : KeepT b B C) : KeepT b A C := ⟨Nat.le_trans h.size k.size, fun i o h0 h1 h2 => k.same i o (h.same i o h0 h1 h2) h1 h2⟩
theorem KeepT.set (b : Nat) (w : World) (o : Nat) (v : Value) : KeepT b w (w.setCell ⟨b, o, none⟩ v) := ⟨by rw [World.size_setCell]; exact Nat.le_refl _, fun k _ h h1 _ => (Below.heap_setCell w ⟨b, o, none⟩ v k h1).trans h⟩
theorem KeepT.grown (b : Nat) {w w' : World} {base : Nat} {v : Value} {n : Nat} {xs : List Value} (hown : w.ownsRow base 5 1 v n xs) (hg : w.grownBy w' v.ownBlock) : KeepT b w w' :=
  ⟨hg.size, fun k o h _ h2 => (hg.block k (Array.getElem?_eq_some_iff.1 h).1 (fun e => by
    rcases hown.2 with ⟨rfl, _⟩ | ⟨g, cap, cur, rfl, _, hgb, _⟩
    · simp [Value.ownBlock] at e
    · simp only [Value.ownBlock, Option.some.injEq] at e
      subst e
      rw [h] at hgb
      injection hgb with hgb
      exact h2 _ _ hgb)).trans h⟩
theorem KeepT.others {b : Nat} {w w' : World} (h : KeepT b w w') (hb : ∀ o, w.heap[b]? = some o → o.isCells = true) : KeepsOthers w w' :=
  ⟨h.size, fun k o hk ho => h.same k o hk (fun e => by subst e; rw [hb o hk] at ho; cases ho) (fun cs fr e => by subst e; cases ho)⟩
theorem infoSB : ∃ j, Tryz.prog.info? 82 = some j ∧ j.size ≠ 0 := by
  obtain ⟨j, hj, hjs⟩ := Option.map_eq_some_iff.1 Tryz.Builder_Extra_169.sizeBuilder
  exact ⟨j, hj, by rw [hjs]; decide⟩
set_option maxHeartbeats 1000000 in
set_option maxRecDepth 100000 in
theorem check_used (b : Nat) (w : World) (h0 : w.cell? ⟨b, 0, none⟩ = some (.pointer (some ⟨b, 0, none⟩))) :
    Calls Tryz.prog 134 #[.pointer (some ⟨b, 0, none⟩)] w fun e w' => e = .returned (.tuple #[]) ∧ w' = w := by
  obtain ⟨j, hj, _⟩ := infoSB
  go_enter Tryz.func134, Tryz.ntmps134
  go_wp2_with fail
  rw [Lib.run_neq_ptr_same w _ Tryz.underlying79 hj]
  go_wp2_with fail
  go_end0
  exact ⟨rfl, rfl⟩
set_option maxHeartbeats 1000000 in
set_option maxRecDepth 100000 in
theorem check_fresh (b : Nat) (w : World) (h0 : w.cell? ⟨b, 0, none⟩ = some (.pointer none)) (hsh : w.shape? b = some (82, 2)) (hfz : w.frozen? ⟨b, 0, none⟩ = false) :
    Calls Tryz.prog 134 #[.pointer (some ⟨b, 0, none⟩)] w fun e w' => e = .returned (.tuple #[]) ∧ w' = w.setCell ⟨b, 0, none⟩ (.pointer (some ⟨b, 0, none⟩)) := by
  obtain ⟨j, hj, hjs⟩ := infoSB
  go_enter Tryz.func134, Tryz.ntmps134
  go_wp2_with fail
  rw [Lib.run_to_unsafe w ⟨b, 0, none⟩ Tryz.underlying79 Tryz.underlying224 hj hjs hsh (Nat.zero_lt_succ 1)]
  simp only [Result.andThen]
  rw [Oper.upon_value]
  go_wp2_with fail
  rw [run_callFunc_extern Tryz.func187 (by kernel_rfl) (by kernel_rfl) (by kernel_rfl) (e := Extern.AbiNoEscape.same) (by kernel_rfl)]
  rw [Lib.run_noEscape]
  simp only [Result.andThen]
  rw [Oper.upon_value]
  go_wp2_with fail
  rw [Lib.run_from_unsafe w ⟨b, 0, none⟩ Tryz.underlying224 Tryz.underlying79 hj hsh Tryz.Builder_Extra_169.liesBuilder]
  simp only [Result.andThen]
  rw [Oper.upon_value]
  go_wp2_with fail
  go_end0
  exact ⟨rfl, rfl⟩
theorem check_any (B b : Nat) (bs : List Value) (w : World) (h : Lib.IsBuilder 82 5 B b bs w) :
    Calls Tryz.prog 134 #[.pointer (some ⟨b, 0, none⟩)] w fun e w' => e = .returned (.tuple #[]) ∧ (Lib.BuilderAt 82 5 B b (.pointer (some ⟨b, 0, none⟩)) bs w' ∧ Below B w w' ∧ KeepT b w w') := by
  rcases h with h | h
  · refine (check_fresh b w h.cell0 h.shape h.frozen0).mono ?_
    rintro e w' ⟨rfl, rfl⟩
    exact ⟨rfl, h.used _, (Below.refl B w).setCell (p := ⟨b, 0, none⟩) h.1 _, KeepT.set b w 0 _⟩
  · refine (check_used b w h.cell0).mono ?_
    rintro e w' ⟨rfl, rfl⟩
    exact ⟨rfl, h, Below.refl B _, KeepT.refl b _⟩
set_option maxHeartbeats 2000000 in
set_option maxRecDepth 100000 in
theorem wstring_any (B b : Nat) (bs : List Value) (s : ByteArray) (w : World) (h : Lib.IsBuilder 82 5 B b bs w) (hlen : bs.length + s.size ≤ 140737488355328) (hBw : B ≤ w.heap.size) :
    Calls Tryz.prog 79 #[.pointer (some ⟨b, 0, none⟩), .string s] w fun e w' => e = .returned (.tuple #[.int .i64 s.size, .nilIface]) ∧ (Lib.BuilderAt 82 5 B b (.pointer (some ⟨b, 0, none⟩)) (bs ++ Lib.strCells s) w' ∧ Below B w w' ∧ KeepT b w w') := by
  obtain ⟨i0, hi, hz0, hz1, hz2⟩ := info_parts Tryz.Builder_Extra_169.infoByte
  have HC := Lib.hid (check_any B b bs w h)
  clear h
  go_enter Tryz.func79, Tryz.ntmps79
  go_wp2_with fail
  refine HC.out.mono ?_
  rintro e w1 ⟨rfl, h1, hb1, hkt1⟩
  have HKT := Lib.hid hkt1
  clear hkt1
  obtain ⟨hB, v, hbk, hown, hne⟩ := h1
  have c0 : w1.cell? ⟨b, 0, none⟩ = some (.pointer (some ⟨b, 0, none⟩)) := by rw [Lib.cell_of_heap hbk]; rfl
  have c1 : w1.cell? ⟨b, 1, none⟩ = some v := by rw [Lib.cell_of_heap hbk]; rfl
  go_wp2_with (at_builtin; refine Lib.wpList_append_own_string _ rfl _ _ 80 9 rfl B 5 i0 Tryz.underlying80 Tryz.underlying9 hi hz0 hz1 hz2 _ _ _ rfl hown s rfl ?c3 ?c4 ?c5 ?_)
  case c3 => unfold maxLen; omega
  case c4 => omega
  case c5 => have := hb1.size; omega
  intro v' w2 hown' hgrow _
  have hlt : b < w1.heap.size := by
    rcases Nat.lt_or_ge b w1.heap.size with h' | h'
    · exact h'
    · simp [Array.getElem?_eq_none h'] at hbk
  have hb2 : w2.heap[b]? = some (.cells #[.pointer (some ⟨b, 0, none⟩), v] 82 (0, 0)) := by
    rw [hgrow.block b hlt (fun e => hne e.symm)]
    exact hbk
  have d0 : w2.cell? ⟨b, 0, none⟩ = some (.pointer (some ⟨b, 0, none⟩)) := by rw [Lib.cell_of_heap hb2]; rfl
  have d1 : w2.cell? ⟨b, 1, none⟩ = some v := by rw [Lib.cell_of_heap hb2]; rfl
  have f1 : w2.frozen? ⟨b, 1, none⟩ = false := Lib.frozen_of_heap hb2 1
  obtain ⟨ao, n', cap, rfl⟩ : ∃ ao n' cap, v' = .slice ao n' cap := by
    rcases hown'.2 with ⟨hv, _⟩ | ⟨g, cap, cur, hv, _⟩
    · exact ⟨_, _, _, hv⟩
    · exact ⟨_, _, _, hv⟩
  go_wp2_with fail
  go_ret2
  refine ⟨rfl, ?_, ?_, (HKT.out.trans (KeepT.grown b hown hgrow)).trans (KeepT.set b _ 1 _)⟩
  · exact Lib.BuilderAt.put (T := 82) (e := 5) hB hb2 (bs' := bs ++ Lib.strCells s) (by simpa [Lib.strCells_length] using hown') (by decide)
  · exact (hb1.grown hgrow (by have := hb1.size; omega) (fun k hk => (hown.lt k hk).1)).setCell (p := ⟨b, 1, none⟩) hB _
end Go.Proofs.YtmleeodfmmpdgaaGreatDoor
/- Walks: how a byte is escaped in quotation marks, where it is no control character or a blank one. -/
namespace Go.Proofs.YtmleeodfmmpdgaaGreatDoor
open Go.RowKit
attribute [local go_sem] Ext.cell Ext.frozen
attribute [local go_sem ↓] Go.wp_at_zero Go.wp_at_succ

def hexD (n : Nat) : UInt8 := if n < 10 then UInt8.ofNat (48 + n) else UInt8.ofNat (87 + n)
/-- a byte, escaped -/
def escC (c : UInt8) : List UInt8 :=
  if c = 92 then [92, 92] else if c = 10 then [92, 110] else if c = 13 then [92, 114] else if c = 9 then [92, 116] else if c = 34 then [92, 34]
  else if c.toNat < 32 ∨ c.toNat = 127 then [92, 120, hexD (c.toNat / 16), hexD (c.toNat % 16)] else [c]
theorem neU {c : UInt8} {k : Nat} [OfNat UInt8 k] (h : ¬ c = OfNat.ofNat k) (hk : (OfNat.ofNat k : UInt8).toNat = k := by rfl) : ((c.toNat : Int) == (k : Int)) = false := by
  simp only [beq_eq_false_iff_ne]
  intro e
  exact h (UInt8.toNat_inj.1 (by rw [hk]; omega))
theorem convH (z : Int) (c : UInt8) (hz : z = (c.toNat : Int)) (W : World) :
    (convert 80 9 (.slice (some ⟨W.heap.size, 0, none⟩) 1 1)).run Tryz.prog (W.alloc (.cells #[.int .u8 z] 5)) = .ok (.string (bs [c])) (W.alloc (.cells #[.int .u8 z] 5)) := by
  refine run_convert_bytes_back _ 80 9 5 ⟨W.heap.size, 0, none⟩ 1 [c] Tryz.underlying80 Tryz.underlying5 Tryz.underlying9 ?_
  intro j hj
  obtain rfl : j = 0 := by simp at hj; exact hj
  subst hz
  simp [go_sem, Addr.add]
theorem style_any (w : World) : Calls Tryz.prog 189 #[.int .i64 2] w fun e w' => e = .returned (.bool true) ∧ w = w' := by
  go_enter Tryz.func189, Tryz.ntmps189
  go_wp2_with fail
  go_ret
  exact ⟨rfl, rfl⟩
end Go.Proofs.YtmleeodfmmpdgaaGreatDoor
/- Walks: a byte in base 16. -/
namespace Go.Proofs.YtmleeodfmmpdgaaGreatDoor
open Go.RowKit
attribute [local go_sem ↓] Go.wp_at_zero Go.wp_at_succ
def deTab : List Int := [0, 1, 56, 2, 57, 49, 28, 3, 61, 58, 42, 50, 38, 29, 17, 4, 62, 47, 59, 36, 45, 43, 51, 22, 53, 39, 33, 30, 24, 18, 12, 5, 63, 55, 48, 27, 60, 41, 37, 16, 46, 35, 44, 21, 52, 32, 23, 11, 54, 26, 40, 15, 34, 20, 31, 10, 25, 14, 19, 9, 13, 8, 7, 6]
def TabDe (w : World) : Prop := Lib.TabIs Tryz.prog w "math/bits.deBruijn64tab" .u8 deTab
end Go.Proofs.YtmleeodfmmpdgaaGreatDoor
/- Walks: a byte in base 16, by internal/strconv's formatBits. -/
namespace Go.Proofs.YtmleeodfmmpdgaaGreatDoor
open Go.RowKit
attribute [local go_sem ↓] Go.wp_at_zero Go.wp_at_succ
def TabDeB (w : World) : Prop := ∀ w', Below w.heap.size w w' → TabDe w'
end Go.Proofs.YtmleeodfmmpdgaaGreatDoor
/- Walks: the escaped form of a string, given that of its bytes. -/
namespace Go.Proofs.YtmleeodfmmpdgaaGreatDoor
open Go.RowKit
attribute [local go_sem] Ext.cell Ext.frozen
attribute [local go_sem ↓] Go.wp_at_zero Go.wp_at_succ

/-- a byte's contract -/
def BslOk (c : UInt8) (w : World) : Prop := ∀ (b : Bool) w', Below w.heap.size w w' → Calls Tryz.prog 191 #[.int .i64 2, .int .u8 (c.toNat : Int), .bool b] w' fun e w'' => e = .returned (.string (bs (escC c))) ∧ Below w'.heap.size w' w''
end Go.Proofs.YtmleeodfmmpdgaaGreatDoor
/- Walks: the text of a layout, given the texts of its numbers and its bytes. -/
namespace Go.Proofs.YtmleeodfmmpdgaaGreatDoor
open Go.RowKit
attribute [local go_sem] Ext.cell Ext.frozen
attribute [local go_sem ↓] Go.wp_at_zero Go.wp_at_succ

def ItoaOk (i : Int) (w : World) : Prop := (Lib.itoa i).length ≤ 100 ∧ ∀ w', Below w.heap.size w w' → Calls Tryz.prog 34 #[.int .i64 i] w' fun e w'' => e = .returned (.string (bs (Lib.itoa i))) ∧ Below w'.heap.size w' w''
theorem ItoaOk.below {i : Int} {w w' : World} (h : ItoaOk i w) (hb : Below w.heap.size w w') : ItoaOk i w' := ⟨h.1, fun w2 h2 => h.2 w2 (hb.trans (h2.mono hb.size))⟩
theorem BslOk.below {c : UInt8} {w w' : World} (h : BslOk c w) (hb : Below w.heap.size w w') : BslOk c w' := fun b w2 h2 => h b w2 (hb.trans (h2.mono hb.size))
theorem ItoaOk.small (n : Nat) (hn : n < 100) (w : World) : ItoaOk (n : Int) w := by
  have e : Lib.itoa (n : Int) = Lib.decDigits n := by unfold Lib.itoa; rw [if_neg (by omega), Int.toNat_natCast]
  refine ⟨?_, fun w' _ => ?_⟩
  · rw [e]
    by_cases h : n < 10
    · rw [Lib.decDigits, dif_pos h]; simp
    · rw [Lib.decDigits, dif_neg h, Lib.decDigits, dif_pos (by omega)]; simp
  · rw [e]
    exact (Tryz.strconv_Itoa_small n hn w').mono fun _ _ ⟨he, hw⟩ => ⟨he, by rw [hw]; exact Below.refl _ _⟩
end Go.Proofs.YtmleeodfmmpdgaaGreatDoor
/- Walks: how a control character is escaped in quotation marks; every byte. -/
namespace Go.Proofs.YtmleeodfmmpdgaaGreatDoor
open Go.RowKit
attribute [local go_sem ↓] Go.wp_at_zero Go.wp_at_succ
theorem TabDeB.below {w w' : World} (h : TabDeB w) (hb : Below w.heap.size w w') : TabDeB w' := fun w2 h2 => h w2 (hb.trans (h2.mono hb.size))
end Go.Proofs.YtmleeodfmmpdgaaGreatDoor
