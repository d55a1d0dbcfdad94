/- Walks inside a fence: the program's Get. -/
import Derived.Test.YtmleeodfmmpdgaaGreatDoorQ03
import Derived.Test.YtmleeodfmmpdgaaGreatDoorQ01
import Derived.Lib.ConvBytes
import Derived.Lib.LaidTab
import Derived.LoopN
import Derived.Lib.Join
namespace Go.Proofs.YtmleeodfmmpdgaaGreatDoor
open Go.RowKit Go.Shelf
attribute [local go_sem] Oper.semAt_some

theorem wpIn_at_world {F : Fence} {n : Nat} {P : Program} {c : Code} {Q : Exit → Act → World → Prop} {a : Act} {w : World} (h : ∀ W, W = w → c.wpIn F n P Q a W) : c.wpIn F n P Q a w := h w rfl
theorem box_kept {W W' : World} {row : Option Nat} {B : Nat} {t : TypeId} {v : Value} (h : Boxed W B t v) (hg : W.grownBy W' row) (hr : ∀ r, row = some r → ∃ o : Obj, W.heap[r]? = some o ∧ o.isCells = false) : Boxed W' B t v :=
  (boxed_own (β := Unit) B t (fun _ => v)) () W W' row h hg hr
end Go.Proofs.YtmleeodfmmpdgaaGreatDoor
namespace Go.Proofs.YtmleeodfmmpdgaaGreatDoor
open Go.RowKit

structure KeepT (b : Nat) (w w' : World) : Prop where
  size : w.heap.size ≤ w'.heap.size
  same : ∀ (k : Nat) (o : Obj), w.heap[k]? = some o → k ≠ b → (∀ cs fr, o ≠ .cells cs 5 fr) → w'.heap[k]? = some o
theorem KeepT.refl (b : Nat) (w : World) : KeepT b w w := ⟨Nat.le_refl _, fun _ _ h _ _ => h⟩
theorem KeepT.trans {b : Nat} {A B C : World} (h : KeepT b A B) (k : KeepT b B C) : KeepT b A C := ⟨Nat.le_trans h.size k.size, fun i o h0 h1 h2 => k.same i o (h.same i o h0 h1 h2) h1 h2⟩
theorem KeepT.set (b : Nat) (w : World) (o : Nat) (v : Value) : KeepT b w (w.setCell ⟨b, o, none⟩ v) := ⟨by rw [World.size_setCell]; exact Nat.le_refl _, fun k _ h h1 _ => (Below.heap_setCell w ⟨b, o, none⟩ v k h1).trans h⟩
theorem KeepT.grown (b : Nat) {w w' : World} {base : Nat} {v : Value} {n : Nat} {xs : List Value} (hown : w.ownsRow base 5 1 v n xs) (hg : w.grownBy w' v.ownBlock) : KeepT b w w' :=
  ⟨hg.size, fun k o h _ h2 => (hg.block k (Array.getElem?_eq_some_iff.1 h).1 (fun e => by
    rcases hown.2 with ⟨rfl, _⟩ | ⟨g, cap, cur, rfl, _, hgb, _⟩
    · simp [Value.ownBlock] at e
    · simp only [Value.ownBlock, Option.some.injEq] at e
      subst e
      rw [h] at hgb
      injection hgb with hgb
      exact h2 _ _ hgb)).trans h⟩
theorem infoSB : ∃ j, Tryz.prog.info? 82 = some j ∧ j.size ≠ 0 := by
  obtain ⟨j, hj, hjs⟩ := Option.map_eq_some_iff.1 Tryz.Builder_Extra_169.sizeBuilder
  exact ⟨j, hj, by rw [hjs]; decide⟩
set_option maxHeartbeats 1000000 in
set_option maxRecDepth 100000 in
theorem check_used (b : Nat) (w : World) (h0 : w.cell? ⟨b, 0, none⟩ = some (.pointer (some ⟨b, 0, none⟩))) :
    Calls Tryz.prog 134 #[.pointer (some ⟨b, 0, none⟩)] w fun e w' => e = .returned (.tuple #[]) ∧ w' = w := by
  obtain ⟨j, hj, _⟩ := infoSB
  go_enter Tryz.func134, Tryz.ntmps134
  go_wp2_with fail
  rw [Lib.run_neq_ptr_same w _ Tryz.underlying79 hj]
  go_wp2_with fail
  go_end0
  exact ⟨rfl, rfl⟩
set_option maxHeartbeats 1000000 in
set_option maxRecDepth 100000 in
theorem check_fresh (b : Nat) (w : World) (h0 : w.cell? ⟨b, 0, none⟩ = some (.pointer none)) (hsh : w.shape? b = some (82, 2)) (hfz : w.frozen? ⟨b, 0, none⟩ = false) :
    Calls Tryz.prog 134 #[.pointer (some ⟨b, 0, none⟩)] w fun e w' => e = .returned (.tuple #[]) ∧ w' = w.setCell ⟨b, 0, none⟩ (.pointer (some ⟨b, 0, none⟩)) := by
  obtain ⟨j, hj, hjs⟩ := infoSB
  go_enter Tryz.func134, Tryz.ntmps134
  go_wp2_with fail
  rw [Lib.run_to_unsafe w ⟨b, 0, none⟩ Tryz.underlying79 Tryz.underlying224 hj hjs hsh (Nat.zero_lt_succ 1)]
  simp only [Result.andThen]
  rw [Oper.upon_value]
  go_wp2_with fail
  rw [run_callFunc_extern Tryz.func187 (by kernel_rfl) (by kernel_rfl) (by kernel_rfl) (e := Extern.AbiNoEscape.same) (by kernel_rfl)]
  rw [Lib.run_noEscape]
  simp only [Result.andThen]
  rw [Oper.upon_value]
  go_wp2_with fail
  rw [Lib.run_from_unsafe w ⟨b, 0, none⟩ Tryz.underlying224 Tryz.underlying79 hj hsh Tryz.Builder_Extra_169.liesBuilder]
  simp only [Result.andThen]
  rw [Oper.upon_value]
  go_wp2_with fail
  go_end0
  exact ⟨rfl, rfl⟩
theorem check_any (B b : Nat) (bs : List Value) (w : World) (h : Lib.IsBuilder 82 5 B b bs w) :
    Calls Tryz.prog 134 #[.pointer (some ⟨b, 0, none⟩)] w fun e w' => e = .returned (.tuple #[]) ∧ (Lib.BuilderAt 82 5 B b (.pointer (some ⟨b, 0, none⟩)) bs w' ∧ Below B w w' ∧ KeepT b w w') := by
  rcases h with h | h
  · refine (check_fresh b w h.cell0 h.shape h.frozen0).mono ?_
    rintro e w' ⟨rfl, rfl⟩
    exact ⟨rfl, h.used _, (Below.refl B w).setCell (p := ⟨b, 0, none⟩) h.1 _, KeepT.set b w 0 _⟩
  · refine (check_used b w h.cell0).mono ?_
    rintro e w' ⟨rfl, rfl⟩
    exact ⟨rfl, h, Below.refl B _, KeepT.refl b _⟩
set_option maxHeartbeats 2000000 in
set_option maxRecDepth 100000 in
theorem wstring_any (B b : Nat) (bs : List Value) (s : ByteArray) (w : World) (h : Lib.IsBuilder 82 5 B b bs w) (hlen : bs.length + s.size ≤ 140737488355328) (hBw : B ≤ w.heap.size) :
    Calls Tryz.prog 79 #[.pointer (some ⟨b, 0, none⟩), .string s] w fun e w' => e = .returned (.tuple #[.int .i64 s.size, .nilIface]) ∧ (Lib.BuilderAt 82 5 B b (.pointer (some ⟨b, 0, none⟩)) (bs ++ Lib.strCells s) w' ∧ Below B w w' ∧ KeepT b w w') := by
  obtain ⟨i0, hi, hz0, hz1, hz2⟩ := info_parts Tryz.Builder_Extra_169.infoByte
  have HC := Lib.hid (check_any B b bs w h)
  clear h
  go_enter Tryz.func79, Tryz.ntmps79
  go_wp2_with fail
  refine HC.out.mono ?_
  rintro e w1 ⟨rfl, h1, hb1, hkt1⟩
  have HKT := Lib.hid hkt1
  clear hkt1
  obtain ⟨hB, v, hbk, hown, hne⟩ := h1
  have c0 : w1.cell? ⟨b, 0, none⟩ = some (.pointer (some ⟨b, 0, none⟩)) := by rw [Lib.cell_of_heap hbk]; rfl
  have c1 : w1.cell? ⟨b, 1, none⟩ = some v := by rw [Lib.cell_of_heap hbk]; rfl
  go_wp2_with (at_builtin; refine Lib.wpList_append_own_string _ rfl _ _ 80 9 rfl B 5 i0 Tryz.underlying80 Tryz.underlying9 hi hz0 hz1 hz2 _ _ _ rfl hown s rfl ?c3 ?c4 ?c5 ?_)
  case c3 => unfold maxLen; omega
  case c4 => omega
  case c5 => have := hb1.size; omega
  intro v' w2 hown' hgrow _
  have hlt : b < w1.heap.size := by
    rcases Nat.lt_or_ge b w1.heap.size with h' | h'
    · exact h'
    · simp [Array.getElem?_eq_none h'] at hbk
  have hb2 : w2.heap[b]? = some (.cells #[.pointer (some ⟨b, 0, none⟩), v] 82 (0, 0)) := by
    rw [hgrow.block b hlt (fun e => hne e.symm)]
    exact hbk
  have d0 : w2.cell? ⟨b, 0, none⟩ = some (.pointer (some ⟨b, 0, none⟩)) := by rw [Lib.cell_of_heap hb2]; rfl
  have d1 : w2.cell? ⟨b, 1, none⟩ = some v := by rw [Lib.cell_of_heap hb2]; rfl
  have f1 : w2.frozen? ⟨b, 1, none⟩ = false := Lib.frozen_of_heap hb2 1
  obtain ⟨ao, n', cap, rfl⟩ : ∃ ao n' cap, v' = .slice ao n' cap := by
    rcases hown'.2 with ⟨hv, _⟩ | ⟨g, cap, cur, hv, _⟩
    · exact ⟨_, _, _, hv⟩
    · exact ⟨_, _, _, hv⟩
  go_wp2_with fail
  go_ret2
  refine ⟨rfl, ?_, ?_, (HKT.out.trans (KeepT.grown b hown hgrow)).trans (KeepT.set b _ 1 _)⟩
  · exact Lib.BuilderAt.put (T := 82) (e := 5) hB hb2 (bs' := bs ++ Lib.strCells s) (by simpa [Lib.strCells_length] using hown') (by decide)
  · exact (hb1.grown hgrow (by have := hb1.size; omega) (fun k hk => (hown.lt k hk).1)).setCell (p := ⟨b, 1, none⟩) hB _
end Go.Proofs.YtmleeodfmmpdgaaGreatDoor
namespace Go.Proofs.YtmleeodfmmpdgaaGreatDoor
open Go.RowKit
attribute [local go_sem] Ext.cell Ext.frozen
attribute [local go_sem ↓] Go.wp_at_zero Go.wp_at_succ

def hexD (n : Nat) : UInt8 := if n < 10 then UInt8.ofNat (48 + n) else UInt8.ofNat (87 + n)
def escC (c : UInt8) : List UInt8 :=
  if c = 92 then [92, 92] else if c = 10 then [92, 110] else if c = 13 then [92, 114] else if c = 9 then [92, 116] else if c = 34 then [92, 34]
  else if c.toNat < 32 ∨ c.toNat = 127 then [92, 120, hexD (c.toNat / 16), hexD (c.toNat % 16)] else [c]
theorem neU {c : UInt8} {k : Nat} [OfNat UInt8 k] (h : ¬ c = OfNat.ofNat k) (hk : (OfNat.ofNat k : UInt8).toNat = k := by rfl) : ((c.toNat : Int) == (k : Int)) = false := by
  simp only [beq_eq_false_iff_ne]
  intro e
  exact h (UInt8.toNat_inj.1 (by rw [hk]; omega))
theorem convH (z : Int) (c : UInt8) (hz : z = (c.toNat : Int)) (W : World) :
    (convert 80 9 (.slice (some ⟨W.heap.size, 0, none⟩) 1 1)).run Tryz.prog (W.alloc (.cells #[.int .u8 z] 5)) = .ok (.string (bs [c])) (W.alloc (.cells #[.int .u8 z] 5)) := by
  refine run_convert_bytes_back _ 80 9 5 ⟨W.heap.size, 0, none⟩ 1 [c] Tryz.underlying80 Tryz.underlying5 Tryz.underlying9 ?_
  intro j hj
  obtain rfl : j = 0 := by simp at hj; exact hj
  subst hz
  simp [go_sem, Addr.add]
theorem style_any (w : World) : Calls Tryz.prog 189 #[.int .i64 2] w fun e w' => e = .returned (.bool true) ∧ w = w' := by
  go_enter Tryz.func189, Tryz.ntmps189
  go_wp2_with fail
  go_ret
  exact ⟨rfl, rfl⟩
theorem control_any (c : Nat) (w : World) : Calls Tryz.prog 241 #[.int .u8 (c : Int)] w fun e w' => e = .returned (.bool (decide (c < 32) || decide (c = 127))) ∧ w = w' := by
  by_cases h : c < 32
  · have h1 : (c : Int) < 32 := by omega
    have h2 : decide (c < 32) = true := decide_eq_true h
    rw [h2]
    go_enter Tryz.func241, Tryz.ntmps241
    go_wp2_with fail
    go_ret
    exact ⟨rfl, rfl⟩
  · have h1 : ¬ (c : Int) < 32 := by omega
    have h2 : decide (c < 32) = false := decide_eq_false h
    have h3 : decide (c = 127) = ((c : Int) == 127) := by
      rw [Bool.eq_iff_iff]; simp; omega
    rw [h2, h3]
    go_enter Tryz.func241, Tryz.ntmps241
    go_wp2_with fail
    go_ret
    exact ⟨by simp, rfl⟩
set_option maxRecDepth 20000 in
set_option maxHeartbeats 4000000 in
theorem bsl_easy (c : UInt8) (b : Bool) (hc : ¬ (c.toNat < 32 ∨ c.toNat = 127) ∨ c = 10 ∨ c = 13 ∨ c = 9) (w : World) : Calls Tryz.prog 191 #[.int .i64 2, .int .u8 (c.toNat : Int), .bool b] w fun e w' => e = .returned (.string (bs (escC c))) ∧ Below w.heap.size w w' := by
  by_cases h92 : c = 92
  · subst h92
    go_enter Tryz.func191, Tryz.ntmps191
    go_wp2_with fail
    go_ret
    exact ⟨rfl, Below.refl _ _⟩
  · by_cases h10 : c = 10
    · subst h10
      go_enter Tryz.func191, Tryz.ntmps191
      go_wp2_with fail
      go_ret
      exact ⟨rfl, Below.refl _ _⟩
    · by_cases h13 : c = 13
      · subst h13
        go_enter Tryz.func191, Tryz.ntmps191
        go_wp2_with fail
        go_ret
        exact ⟨rfl, Below.refl _ _⟩
      · by_cases h9 : c = 9
        · subst h9
          go_enter Tryz.func191, Tryz.ntmps191
          go_wp2_with fail
          go_ret
          exact ⟨rfl, Below.refl _ _⟩
        · have HIB := Lib.hid (fun w => Tryz.strings_IndexByte ⟨#[34]⟩ (c.toNat : Int) w)
          by_cases h34 : c = 34
          · subst h34
            have e1 : Lib.indexByte [34] 34 = 0 := by decide
            have kc := convH 34 34 rfl
            go_enter Tryz.func191, Tryz.ntmps191
            go_wp2_with fail
            refine (HIB.out _).mono ?_
            rintro e w1 ⟨rfl, rfl⟩
            go_wp2_with fail
            go_ret
            exact ⟨rfl, (Below.refl _ _).alloc (Nat.le_refl _) _⟩
          · have hc2 : ¬ (c.toNat < 32 ∨ c.toNat = 127) := by
              rcases hc with h | h | h | h
              · exact h
              · exact absurd h h10
              · exact absurd h h13
              · exact absurd h h9
            have HO : Hid (escC c = [c]) := by unfold Hid escC; rw [if_neg h92, if_neg h10, if_neg h13, if_neg h9, if_neg h34, if_neg hc2]
            have e1 : Lib.indexByte [34] (c.toNat : Int).toNat.toUInt8 = -1 := by
              rw [Int.toNat_natCast]
              have : c.toNat.toUInt8 = c := by simp
              rw [this]
              have h34' : ¬ (34 : UInt8) = c := fun e => h34 e.symm
              simp [Lib.indexByte, h34']
            have g92 : ((c.toNat : Int) == 92) = false := neU h92
            have g10 : ((c.toNat : Int) == 10) = false := neU h10
            have g13 : ((c.toNat : Int) == 13) = false := neU h13
            have g9 : ((c.toNat : Int) == 9) = false := neU h9
            have HCT := Lib.hid (fun w => control_any c.toNat w)
            have d1 : decide (c.toNat < 32) = false := decide_eq_false (fun e => hc2 (.inl e))
            have d2 : decide (c.toNat = 127) = false := decide_eq_false (fun e => hc2 (.inr e))
            rw [d1, d2] at HCT
            have kc := convH (c.toNat : Int) c rfl
            simp only [e1] at HIB
            clear hc hc2 h92 h10 h13 h9 h34 d1 d2 e1
            generalize escC c = ec at *
            generalize (c.toNat : Int) = z at *
            go_enter Tryz.func191, Tryz.ntmps191
            go_wp2_with fail
            refine (HIB.out _).mono ?_
            rintro e w1 ⟨rfl, rfl⟩
            go_wp2_with fail
            refine (HCT.out _).mono ?_
            rintro e _ ⟨rfl, rfl⟩
            go_wp2_with fail
            refine (HCT.out _).mono ?_
            rintro e _ ⟨rfl, rfl⟩
            go_wp2_with fail
            go_ret
            exact ⟨by rw [HO.out]; rfl, (Below.refl _ _).alloc (Nat.le_refl _) _⟩
end Go.Proofs.YtmleeodfmmpdgaaGreatDoor
namespace Go.Proofs.YtmleeodfmmpdgaaGreatDoor
open Go.RowKit
attribute [local go_sem ↓] Go.wp_at_zero Go.wp_at_succ
def deTab : List Int := [0, 1, 56, 2, 57, 49, 28, 3, 61, 58, 42, 50, 38, 29, 17, 4, 62, 47, 59, 36, 45, 43, 51, 22, 53, 39, 33, 30, 24, 18, 12, 5, 63, 55, 48, 27, 60, 41, 37, 16, 46, 35, 44, 21, 52, 32, 23, 11, 54, 26, 40, 15, 34, 20, 31, 10, 25, 14, 19, 9, 13, 8, 7, 6]
def TabDe (w : World) : Prop := Lib.TabIs Tryz.prog w "math/bits.deBruijn64tab" .u8 deTab
theorem trail16 (w : World) (ht : TabDe w) : Calls Tryz.prog 292 #[.int .u64 16] w fun e w' => e = .returned (.int .i64 4) ∧ w = w' := by
  have hc : w.cell? ⟨7, 15, none⟩ = some (.int .u8 4) := by
    rw [Lib.TabIs.cell ht (by kernel_rfl) 15 (by decide)]; rfl
  have e1 : bits BinOp.and IntKind.u64 16 (IntKind.u64.wrap (-16)) = 16 := by decide +kernel
  have e2 : IntKind.u64.wrap (16 * 285870213051353865) = 4573923408821661840 := by decide +kernel
  have e3 : IntKind.u64.wrap 4573923408821661840 = 4573923408821661840 := by decide +kernel
  go_enter Tryz.func292, Tryz.ntmps292
  go_wp2_with fail
  go_ret
  exact ⟨rfl, rfl⟩
theorem trail (w : World) (ht : TabDe w) : Calls Tryz.prog 248 #[.int .u64 16] w fun e w' => e = .returned (.int .i64 4) ∧ w = w' := by
  go_enter Tryz.func248, Tryz.ntmps248
  go_wp2_with fail
  refine (trail16 w ht).mono ?_
  rintro e w' ⟨rfl, rfl⟩
  go_wp2_with fail
  go_ret
  exact ⟨rfl, rfl⟩
theorem pow2_16 (w : World) : Calls Tryz.prog 247 #[.int .i64 16] w fun e w' => e = .returned (.bool true) ∧ w = w' := by
  go_enter Tryz.func247, Tryz.ntmps247
  go_wp2_with fail
  go_ret
  exact ⟨rfl, rfl⟩
def TabDeB (w : World) : Prop := ∀ w', Below w.heap.size w w' → TabDe w'
theorem dig_at {u : Nat} (hu : u < 16) (h : u < (⟨#[48, 49, 50, 51, 52, 53, 54, 55, 56, 57, 97, 98, 99, 100, 101, 102, 103, 104, 105, 106, 107, 108, 109, 110, 111, 112, 113, 114, 115, 116, 117, 118, 119, 120, 121, 122]⟩ : ByteArray).size) :
    (⟨#[48, 49, 50, 51, 52, 53, 54, 55, 56, 57, 97, 98, 99, 100, 101, 102, 103, 104, 105, 106, 107, 108, 109, 110, 111, 112, 113, 114, 115, 116, 117, 118, 119, 120, 121, 122]⟩ : ByteArray)[u] = hexD u := by
  have k : ∀ v : Fin 16, (⟨#[48, 49, 50, 51, 52, 53, 54, 55, 56, 57, 97, 98, 99, 100, 101, 102, 103, 104, 105, 106, 107, 108, 109, 110, 111, 112, 113, 114, 115, 116, 117, 118, 119, 120, 121, 122]⟩ : ByteArray)[v.1]'(Nat.lt_of_lt_of_le v.2 (by decide)) = hexD v.1 := by decide +kernel
  exact k ⟨u, hu⟩
theorem zero_size : (Tryz.zeroCells258).size = 65 := by kernel_rfl
theorem conv_one (c : UInt8) (w : World) (T : TypeId) :
    (convert 80 9 (.slice (some ⟨w.heap.size, 64, none⟩) 1 1)).run Tryz.prog (w.alloc (.cells (Tryz.zeroCells258.setIfInBounds 64 (.int .u8 (c.toNat : Int))) T)) = .ok (.string (bs [c])) (w.alloc (.cells (Tryz.zeroCells258.setIfInBounds 64 (.int .u8 (c.toNat : Int))) T)) := by
  refine run_convert_bytes_back _ 80 9 5 ⟨w.heap.size, 64, none⟩ 1 [c] Tryz.underlying80 Tryz.underlying5 Tryz.underlying9 ?_
  intro j hj
  obtain rfl : j = 0 := by simp at hj; exact hj
  refine (row_cells (row_new _ _ _) 64).trans ?_
  rw [Array.getElem?_setIfInBounds_self_of_lt (by rw [zero_size]; omega)]
  rfl
theorem conv_two (a b : UInt8) (w : World) (T : TypeId) :
    (convert 80 9 (.slice (some ⟨w.heap.size, 63, none⟩) 2 2)).run Tryz.prog (w.alloc (.cells ((Tryz.zeroCells258.setIfInBounds 64 (.int .u8 (b.toNat : Int))).setIfInBounds 63 (.int .u8 (a.toNat : Int))) T)) = .ok (.string (bs [a, b])) (w.alloc (.cells ((Tryz.zeroCells258.setIfInBounds 64 (.int .u8 (b.toNat : Int))).setIfInBounds 63 (.int .u8 (a.toNat : Int))) T)) := by
  refine run_convert_bytes_back _ 80 9 5 ⟨w.heap.size, 63, none⟩ 2 [a, b] Tryz.underlying80 Tryz.underlying5 Tryz.underlying9 ?_
  intro j hj
  have : j = 0 ∨ j = 1 := by simp at hj; omega
  rcases this with rfl | rfl
  · refine (row_cells (row_new _ _ _) 63).trans ?_
    rw [Array.getElem?_setIfInBounds_self_of_lt (by rw [Array.size_setIfInBounds, zero_size]; omega)]
    rfl
  · refine (row_cells (row_new _ _ _) 64).trans ?_
    rw [Array.getElem?_setIfInBounds_ne (by omega), Array.getElem?_setIfInBounds_self_of_lt (by rw [zero_size]; omega)]
    rfl
set_option maxRecDepth 20000 in
set_option maxHeartbeats 4000000 in
theorem fmt16_lo (u : Nat) (hu : u < 16) (w : World) (ht : TabDeB w) : Calls Tryz.prog 196 #[.slice none 0 0, .int .u64 (u : Int), .int .i64 16, .bool false, .bool false] w fun e w' => e = .returned (.tuple #[.slice none 0 0, .string (bs [hexD u])]) ∧ Below w.heap.size w w' := by
  have h1 : ¬ (16 : Int) ≤ (u : Int) := by omega
  have hd := dig_at hu
  have kc := conv_one (hexD u) w
  go_enter Tryz.func196, Tryz.ntmps196
  go_wp2_with fail
  refine (pow2_16 _).mono ?_
  rintro e w' ⟨rfl, rfl⟩
  go_wp2_with fail
  refine (trail _ (ht _ ((Below.refl _ _).alloc (Nat.le_refl _) _))).mono ?_
  rintro e w' ⟨rfl, rfl⟩
  go_wp2_with fail
  refine wp_loop_rounds 1 ?_
  rw [rounds_succ]
  go_wp2_with fail
  go_ret2
  exact ⟨rfl, (Below.refl _ _).alloc (Nat.le_refl _) _⟩
theorem and15 {u : Nat} (hu : u < 256) : bits BinOp.and IntKind.u64 (u : Int) 15 = ((u % 16 : Nat) : Int) := by
  have k : ∀ v : Fin 256, bits BinOp.and IntKind.u64 (v.1 : Int) 15 = ((v.1 % 16 : Nat) : Int) := by decide +kernel
  exact k ⟨u, hu⟩
set_option maxRecDepth 20000 in
set_option maxHeartbeats 4000000 in
theorem fmt16_hi (u : Nat) (h0 : 16 ≤ u) (hu : u < 256) (w : World) (ht : TabDeB w) : Calls Tryz.prog 196 #[.slice none 0 0, .int .u64 (u : Int), .int .i64 16, .bool false, .bool false] w fun e w' => e = .returned (.tuple #[.slice none 0 0, .string (bs [hexD (u / 16), hexD (u % 16)])]) ∧ Below w.heap.size w w' := by
  have h1 : (16 : Int) ≤ (u : Int) := by omega
  have h2 : ¬ (16 : Int) ≤ (u : Int) / 16 := by omega
  have hd := dig_at (u := u / 16) (by omega)
  have hd2 := dig_at (u := u % 16) (by omega)
  have ha := and15 hu
  have hto : ((u : Int) / 16).toNat = u / 16 := by omega
  have kc := conv_two (hexD (u / 16)) (hexD (u % 16)) w
  go_enter Tryz.func196, Tryz.ntmps196
  go_wp2_with fail
  refine (pow2_16 _).mono ?_
  rintro e w' ⟨rfl, rfl⟩
  go_wp2_with fail
  refine (trail _ (ht _ ((Below.refl _ _).alloc (Nat.le_refl _) _))).mono ?_
  rintro e w' ⟨rfl, rfl⟩
  go_wp2_with fail
  refine wp_loop_rounds 2 ?_
  rw [rounds_succ]
  go_wp2_with fail
  rw [rounds_succ]
  go_wp2_with fail
  go_ret2
  exact ⟨rfl, (Below.refl _ _).alloc (Nat.le_refl _) _⟩
end Go.Proofs.YtmleeodfmmpdgaaGreatDoor
namespace Go.Proofs.YtmleeodfmmpdgaaGreatDoor
open Go.RowKit
attribute [local go_sem] Ext.cell Ext.frozen
attribute [local go_sem ↓] Go.wp_at_zero Go.wp_at_succ

def escS (l : List UInt8) : List UInt8 := l.flatMap escC
theorem escC_len (c : UInt8) : (escC c).length ≤ 4 := by unfold escC; (repeat' split) <;> simp
theorem escS_len (l : List UInt8) : (escS l).length ≤ 4 * l.length := by
  induction l with
  | nil => exact Nat.le_refl _
  | cons c l ih =>
    have : escS (c :: l) = escC c ++ escS l := rfl
    rw [this, List.length_append, List.length_cons]
    have := escC_len c
    omega
theorem escS_take (l : List UInt8) (k : Nat) (h : k < l.length) : escS (l.take (k + 1)) = escS (l.take k) ++ escC (l.getD k 0) := by
  unfold escS
  rw [List.take_succ_eq_append_getElem h, List.flatMap_append]
  congr 1
  simp [List.getD, List.getElem?_eq_getElem h]
def BslOk (c : UInt8) (w : World) : Prop := ∀ (b : Bool) w', Below w.heap.size w w' → Calls Tryz.prog 191 #[.int .i64 2, .int .u8 (c.toNat : Int), .bool b] w' fun e w'' => e = .returned (.string (bs (escC c))) ∧ Below w'.heap.size w' w''
set_option maxRecDepth 20000 in
set_option maxHeartbeats 4000000 in
theorem esc_any (s : ByteArray) (w : World) (hs : s.size ≤ 1000000) (hb : ∀ c ∈ s.data.toList, BslOk c w) :
    Calls Tryz.prog 136 #[.int .i64 2, .string s] w fun e w' => e = .returned (.string (bs (escS s.data.toList))) ∧ Below w.heap.size w w' := by
  have HST := Lib.hid style_any
  have HBS := Lib.hid hb
  have hsl : s.data.toList.length = s.size := ba_len s
  clear hb
  go_enter Tryz.func136, Tryz.ntmps136
  go_wp2_with fail
  refine (HST.out _).mono ?_
  rintro e _ ⟨rfl, rfl⟩
  go_wp2_with fail
  refine wp_at_worldH ?_
  intro W hW
  have b1 : Lib.IsBuilder 82 5 w.heap.size w.heap.size (Lib.byteCells []) W := by
    refine .inl ⟨Nat.le_refl _, .slice none 0 0, ?_, World.ownsRow_nil _ _ _ _, by simp [Value.ownBlock]⟩
    rw [hW]
    exact row_new _ _ _
  have HB0 : Hid (Below w.heap.size w W) := by rw [hW]; exact (Below.refl _ _).alloc (Nat.le_refl _) _
  have HB1 := Lib.hid b1
  clear b1 hW
  go_loopw [12] (fun i wr => ∃ k : Nat, i = .int .i64 (k : Int) ∧ k ≤ s.size ∧ Lib.IsBuilder 82 5 w.heap.size w.heap.size (Lib.byteCells (escS (s.data.toList.take k))) wr ∧ Below w.heap.size w wr) (fun i _ => s.size - (intOf i).toNat)
  case atStart => exact ⟨0, rfl, Nat.zero_le _, HB1.out, HB0.out⟩
  case round =>
    obtain ⟨k, rfl, hk, hbu, hbl⟩ := hrel
    have HBU := Lib.hid hbu
    have HBL := Lib.hid hbl
    have hzr := hbl.size
    clear hbu hbl
    by_cases hlt : k < s.size
    · have hkl : k < s.data.toList.length := by rw [hsl]; exact hlt
      have hmem : s.data.toList.getD k 0 ∈ s.data.toList := getD_mem _ k _ hkl
      have hget : s[k] = s.data.toList.getD k 0 := by
        simp [List.getD, List.getElem?_eq_getElem hkl]; rfl
      have HBC := Lib.hid (HBS.out _ hmem)
      have HTK := Lib.hid (escS_take s.data.toList k hkl)
      have hl4 := escS_len (s.data.toList.take k)
      have hl5 : (escS (s.data.toList.take k)).length ≤ 4000000 := by rw [List.length_take] at hl4; omega
      have hl6 : (bs (escC (s.data.toList.getD k 0))).size ≤ 4 := by rw [bs_size]; exact escC_len _
      rw [← hget] at HBC HTK hl6
      clear hget hl4
      go_wp2_with fail
      refine (Calls.toExt (HBC.out _ _ HBL.out)).mono ?_
      rintro e _ ⟨rfl, x, rfl⟩
      have hb5 : Lib.IsBuilder 82 5 w.heap.size w.heap.size (Lib.byteCells (escS (s.data.toList.take k))) x.1 := by
        have key : ∀ p, Lib.BuilderAt 82 5 w.heap.size w.heap.size p (Lib.byteCells (escS (s.data.toList.take k))) wr → Lib.BuilderAt 82 5 w.heap.size w.heap.size p (Lib.byteCells (escS (s.data.toList.take k))) x.1 := by
          rintro p ⟨h1, v, h2, h3, h4⟩
          exact ⟨h1, v, (x.2.block _ (Array.getElem?_eq_some_iff.1 h2).1).trans h2, own_below2 h3 x.2, h4⟩
        exact HBU.out.elim (fun h => .inl (key _ h)) (fun h => .inr (key _ h))
      have hzx : w.heap.size ≤ x.1.heap.size := by have := x.2.size; omega
      have HW := Lib.hid (wstring_any w.heap.size w.heap.size _ (bs (escC s[k])) x.1 hb5 (by rw [Lib.byteCells_length]; omega) hzx)
      have HBX : Hid (Below w.heap.size w x.1) := HBL.out.trans (x.2.mono hzr)
      obtain ⟨X, hX⟩ := x
      simp only at HW HBX hzx ⊢
      clear hb5 hX
      go_wp2_with fail
      refine HW.out.mono ?_
      rintro e w3 ⟨rfl, hb6, hbl6, _⟩
      have HB6 : Hid (Below w.heap.size w w3) := HBX.out.trans hbl6
      have HU6 : Hid (Lib.IsBuilder 82 5 w.heap.size w.heap.size (Lib.byteCells (escS (s.data.toList.take (k + 1)))) w3) := by
        unfold Hid
        rw [HTK.out, show Lib.byteCells (escS (s.data.toList.take k) ++ escC s[k]) = Lib.byteCells (escS (s.data.toList.take k)) ++ Lib.strCells (bs (escC s[k])) by rw [Lib.strCells_eq, bs_data]; simp [Lib.byteCells]]
        exact .inr hb6
      clear hb6 hbl6
      go_wp2_with fail
      go_roundw
      case rel => exact ⟨k + 1, by go_num, by omega, HU6.out, HB6.out⟩
      case measure => simp [intOf]; omega
    · obtain rfl : k = s.size := by omega
      have HS := Lib.hid (Tryz.Builder_String_any_k w.heap.size w.heap.size (escS s.data.toList) wr (Lib.IsBuilderF.of (by have := HBU.out; rwa [List.take_of_length_le (by rw [hsl]; exact Nat.le_refl _)] at this)) hzr)
      go_wp2_with fail
      refine HS.out.mono ?_
      rintro e w3 ⟨rfl, _, hbl6, _⟩
      have HB6 : Hid (Below w.heap.size w w3) := HBL.out.trans hbl6
      clear hbl6
      go_wp2_with fail
      go_ret
      exact ⟨rfl, HB6.out⟩

def ItoaOk (i : Int) (w : World) : Prop := (Lib.itoa i).length ≤ 100 ∧ ∀ w', Below w.heap.size w w' → Calls Tryz.prog 34 #[.int .i64 i] w' fun e w'' => e = .returned (.string (bs (Lib.itoa i))) ∧ Below w'.heap.size w' w''
theorem BslOk.below {c : UInt8} {w w' : World} (h : BslOk c w) (hb : Below w.heap.size w w') : BslOk c w' := fun b w2 h2 => h b w2 (hb.trans (h2.mono hb.size))
end Go.Proofs.YtmleeodfmmpdgaaGreatDoor
namespace Go.Proofs.YtmleeodfmmpdgaaGreatDoor
open Go.RowKit
attribute [local go_sem ↓] Go.wp_at_zero Go.wp_at_succ
theorem TabDeB.below {w w' : World} (h : TabDeB w) (hb : Below w.heap.size w w') : TabDeB w' := fun w2 h2 => h w2 (hb.trans (h2.mono hb.size))
def hexS (u : Nat) : List UInt8 := if u < 16 then [hexD u] else [hexD (u / 16), hexD (u % 16)]
theorem fmt16 (u : Nat) (hu : u < 256) (w : World) (ht : TabDeB w) : Calls Tryz.prog 196 #[.slice none 0 0, .int .u64 (u : Int), .int .i64 16, .bool false, .bool false] w fun e w' => e = .returned (.tuple #[.slice none 0 0, .string (bs (hexS u))]) ∧ Below w.heap.size w w' := by
  unfold hexS
  by_cases h : u < 16
  · rw [if_pos h]; exact fmt16_lo u h w ht
  · rw [if_neg h]; exact fmt16_hi u (by omega) hu w ht
set_option maxRecDepth 20000 in
theorem formatint16 (u : Nat) (hu : u < 256) (w : World) (ht : TabDeB w) : Calls Tryz.prog 138 #[.int .i64 (u : Int), .int .i64 16] w fun e w' => e = .returned (.string (bs (hexS u))) ∧ Below w.heap.size w w' := by
  have h1 : ¬ (u : Int) < 0 := by omega
  have h2 : (u : Int) < 18446744073709551616 := by omega
  go_enter Tryz.func138, Tryz.ntmps138
  go_wp2_with fail
  refine (fmt16 u hu _ ht).mono ?_
  rintro e w' ⟨rfl, hb⟩
  go_wp2_with fail
  go_ret
  exact ⟨rfl, hb⟩
theorem formatint16p (u : Nat) (hu : u < 256) (w : World) (ht : TabDeB w) : Calls Tryz.prog 289 #[.int .i64 (u : Int), .int .i64 16] w fun e w' => e = .returned (.string (bs (hexS u))) ∧ Below w.heap.size w w' := by
  go_enter Tryz.func289, Tryz.ntmps289
  go_wp2_with fail
  refine (formatint16 u hu _ ht).mono ?_
  rintro e w' ⟨rfl, hb⟩
  go_wp2_with fail
  go_ret
  exact ⟨rfl, hb⟩
set_option maxRecDepth 20000 in
theorem repeat_0 (w : World) : Calls Tryz.prog 290 #[.string ⟨#[48]⟩, .int .i64 0] w fun e w' => e = .returned (.string ⟨#[]⟩) ∧ w = w' := by
  go_enter Tryz.func290, Tryz.ntmps290
  go_wp2_with fail
  go_ret
  exact ⟨rfl, rfl⟩
set_option maxRecDepth 20000 in
theorem repeat_1 (w : World) : Calls Tryz.prog 290 #[.string ⟨#[48]⟩, .int .i64 1] w fun e w' => e = .returned (.string ⟨#[48]⟩) ∧ w = w' := by
  go_enter Tryz.func290, Tryz.ntmps290
  go_wp2_with fail
  go_ret
  exact ⟨rfl, rfl⟩
theorem hex_any (u : Nat) (hu : u < 256) (w : World) (ht : TabDeB w) : Calls Tryz.prog 242 #[.int .u8 (u : Int), .int .i64 2] w fun e w' => e = .returned (.string (bs [hexD (u / 16), hexD (u % 16)])) ∧ Below w.heap.size w w' := by
  have HF := Lib.hid (formatint16p u hu w ht)
  have h0 : (0 : Int) ≤ (u : Int) := by omega
  have h2 : (u : Int) < 9223372036854775808 := by omega
  unfold hexS at HF
  by_cases h : u < 16
  · rw [if_pos h] at HF
    have e1 : u / 16 = 0 := by omega
    have e2 : u % 16 = u := by omega
    rw [e1, e2]
    have hs : (bs [hexD u]).size = 1 := by rw [bs_size]; rfl
    have ha := fun w => run_string_add_sum (P := Tryz.prog) (w := w) ⟨#[48]⟩ (bs [hexD u]) (by rw [hs]; decide)
    have HE : Hid ((⟨#[48]⟩ : ByteArray) ++ bs [hexD u] = bs [hexD 0, hexD u]) := by
      rw [show (⟨#[48]⟩ : ByteArray) = bs [48] from rfl, Hid, bs_append]; rfl
    generalize bs [hexD u] = D at *
    clear e1 e2
    go_enter Tryz.func242, Tryz.ntmps242
    go_wp2_with fail
    refine (HF.out).mono ?_
    rintro e w' ⟨rfl, hb⟩
    go_wp2_with fail
    refine (repeat_1 _).mono ?_
    rintro e w2 ⟨rfl, rfl⟩
    go_wp2_with fail
    go_ret
    exact ⟨by rw [← HE.out]; rfl, hb⟩
  · rw [if_neg h] at HF
    have hs : (bs [hexD (u / 16), hexD (u % 16)]).size = 2 := by rw [bs_size]; rfl
    have ha := fun w => run_string_add_sum (P := Tryz.prog) (w := w) ⟨#[]⟩ (bs [hexD (u / 16), hexD (u % 16)]) (by rw [hs]; decide)
    have HE : Hid ((⟨#[]⟩ : ByteArray) ++ bs [hexD (u / 16), hexD (u % 16)] = bs [hexD (u / 16), hexD (u % 16)]) := by
      rw [show (⟨#[]⟩ : ByteArray) = bs [] from rfl, Hid, bs_append]; rfl
    generalize bs [hexD (u / 16), hexD (u % 16)] = D at *
    go_enter Tryz.func242, Tryz.ntmps242
    go_wp2_with fail
    refine (HF.out).mono ?_
    rintro e w' ⟨rfl, hb⟩
    go_wp2_with fail
    refine (repeat_0 _).mono ?_
    rintro e w2 ⟨rfl, rfl⟩
    go_wp2_with fail
    go_ret
    exact ⟨by first | (rw [HE.out]; rfl) | rfl, hb⟩
set_option maxRecDepth 20000 in
set_option maxHeartbeats 4000000 in
theorem bsl_hard (c : UInt8) (b : Bool) (hc : c.toNat < 32 ∨ c.toNat = 127) (h10 : c ≠ 10) (h13 : c ≠ 13) (h9 : c ≠ 9) (w : World) (ht : TabDeB w) : Calls Tryz.prog 191 #[.int .i64 2, .int .u8 (c.toNat : Int), .bool b] w fun e w' => e = .returned (.string (bs (escC c))) ∧ Below w.heap.size w w' := by
  have h92 : ¬ c = 92 := fun e => by subst e; revert hc; decide
  have h34 : ¬ c = 34 := fun e => by subst e; revert hc; decide
  have HIB := Lib.hid (fun w => Tryz.strings_IndexByte ⟨#[34]⟩ (c.toNat : Int) w)
  have e1 : Lib.indexByte [34] (c.toNat : Int).toNat.toUInt8 = -1 := by
    rw [Int.toNat_natCast]
    have : c.toNat.toUInt8 = c := by simp
    rw [this]
    have h34' : ¬ (34 : UInt8) = c := fun e => h34 e.symm
    simp [Lib.indexByte, h34']
  have g92 : ((c.toNat : Int) == 92) = false := neU h92
  have g10 : ((c.toNat : Int) == 10) = false := neU h10
  have g13 : ((c.toNat : Int) == 13) = false := neU h13
  have g9 : ((c.toNat : Int) == 9) = false := neU h9
  have HCT := Lib.hid (fun w => control_any c.toNat w)
  have d1 : (decide (c.toNat < 32) || decide (c.toNat = 127)) = true := by
    rw [Bool.or_eq_true, decide_eq_true_eq, decide_eq_true_eq]; exact hc
  rw [d1] at HCT
  have HX := Lib.hid (fun w' (h : TabDeB w') => hex_any c.toNat c.toNat_lt w' h)
  have he : escC c = [92, 120, hexD (c.toNat / 16), hexD (c.toNat % 16)] := by
    unfold escC
    rw [if_neg h92, if_neg h10, if_neg h13, if_neg h9, if_neg h34, if_pos hc]
  have hs : (bs [hexD (c.toNat / 16), hexD (c.toNat % 16)]).size = 2 := by rw [bs_size]; rfl
  have ha := fun w => run_string_add_sum (P := Tryz.prog) (w := w) ⟨#[92, 120]⟩ (bs [hexD (c.toNat / 16), hexD (c.toNat % 16)]) (by rw [hs]; decide)
  have HE : Hid ((⟨#[92, 120]⟩ : ByteArray) ++ bs [hexD (c.toNat / 16), hexD (c.toNat % 16)] = bs (escC c)) := by
    rw [show (⟨#[92, 120]⟩ : ByteArray) = bs [92, 120] from rfl, Hid, bs_append, he]; rfl
  simp only [e1] at HIB
  clear hc h92 h10 h13 h9 h34 d1 e1 he hs
  generalize escC c = ec at *
  generalize bs [hexD (c.toNat / 16), hexD (c.toNat % 16)] = D at *
  generalize (c.toNat : Int) = z at *
  have HTD := Lib.hid ht
  clear ht
  go_enter Tryz.func191, Tryz.ntmps191
  go_wp2_with fail
  refine (HIB.out _).mono ?_
  rintro e w1 ⟨rfl, rfl⟩
  go_wp2_with fail
  refine (HCT.out _).mono ?_
  rintro e _ ⟨rfl, rfl⟩
  go_wp2_with fail
  refine (HCT.out _).mono ?_
  rintro e _ ⟨rfl, rfl⟩
  go_wp2_with fail
  refine (HX.out _ HTD.out).mono ?_
  rintro e w2 ⟨rfl, hb⟩
  go_wp2_with fail
  go_ret
  exact ⟨by rw [← HE.out]; rfl, hb⟩
theorem bsl_ok (c : UInt8) {w : World} (ht : TabDeB w) : BslOk c w := fun b w' g => by
  by_cases hc : ¬ (c.toNat < 32 ∨ c.toNat = 127) ∨ c = 10 ∨ c = 13 ∨ c = 9
  · exact bsl_easy c b hc w'
  · have h1 : ¬ (c = 10 ∨ c = 13 ∨ c = 9) := fun e => hc (.inr e)
    exact bsl_hard c b (Classical.byContradiction fun e => hc (.inl e)) (fun e => h1 (.inl e)) (fun e => h1 (.inr (.inl e))) (fun e => h1 (.inr (.inr e))) w' (ht.below g)
end Go.Proofs.YtmleeodfmmpdgaaGreatDoor
