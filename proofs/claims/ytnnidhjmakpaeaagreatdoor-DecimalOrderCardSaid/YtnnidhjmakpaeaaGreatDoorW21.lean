/- Walks: comparing two integers, two strings; filling up; the first that is not 0. -/
import Derived.Test.YtnnidhjmakpaeaaGreatDoorP7
import Derived.WalkLawsBesides
import Derived.Test.YtnnidhjmakpaeaaGreatDoorW5
namespace Go.Proofs.YtnnidhjmakpaeaaGreatDoor
open Go.RowKit
attribute [local go_sem] Ext.cell Ext.frozen
attribute [local go_sem ↓] Go.wp_at_zero Go.wp_at_succ

theorem nanI (a : Int) (w : World) : Calls Tryz.prog 54 #[.int .i64 a] w fun e w' => e = .returned (.bool false) ∧ w = w' := by
  go_enter Tryz.func54, Tryz.ntmps54
  go_wp2_with fail
  go_ret
  exact ⟨by simp, rfl⟩
theorem nanS (a : ByteArray) (w : World) : Calls Tryz.prog 55 #[.string a] w fun e w' => e = .returned (.bool false) ∧ w = w' := by
  go_enter Tryz.func55, Tryz.ntmps55
  go_wp2_with fail
  go_ret
  exact ⟨by simp, rfl⟩
theorem cmpInt_any (a b : Int) (w : World) : Calls Tryz.prog 33 #[.int .i64 a, .int .i64 b] w fun e w' => e = .returned (.int .i64 (cmpI a b)) ∧ w = w' := by
  have HA := Lib.hid (fun w => nanI a w)
  have HB := Lib.hid (fun w => nanI b w)
  rcases Int.lt_trichotomy a b with h | h | h
  · have HO : Hid (cmpI a b = -1) := by unfold Hid cmpI; rw [if_pos h]
    go_enter Tryz.func33, Tryz.ntmps33
    go_wp2_with fail
    refine (HA.out _).mono ?_
    rintro e _ ⟨rfl, rfl⟩
    go_wp2_with fail
    refine (HB.out _).mono ?_
    rintro e _ ⟨rfl, rfl⟩
    go_wp2_with fail
    go_ret
    exact ⟨ret_int HO.out.symm, rfl⟩
  · have HO : Hid (cmpI a b = 0) := by unfold Hid cmpI; rw [if_neg (by omega), if_pos h]
    have h1 : ¬ a < b := by omega
    have h2 : ¬ b < a := by omega
    clear h
    go_enter Tryz.func33, Tryz.ntmps33
    go_wp2_with fail
    refine (HA.out _).mono ?_
    rintro e _ ⟨rfl, rfl⟩
    go_wp2_with fail
    refine (HB.out _).mono ?_
    rintro e _ ⟨rfl, rfl⟩
    go_wp2_with fail
    go_ret
    exact ⟨ret_int HO.out.symm, rfl⟩
  · have HO : Hid (cmpI a b = 1) := by unfold Hid cmpI; rw [if_neg (by omega), if_neg (by omega)]
    have h1 : ¬ a < b := by omega
    go_enter Tryz.func33, Tryz.ntmps33
    go_wp2_with fail
    refine (HA.out _).mono ?_
    rintro e _ ⟨rfl, rfl⟩
    go_wp2_with fail
    refine (HB.out _).mono ?_
    rintro e _ ⟨rfl, rfl⟩
    go_wp2_with fail
    go_ret
    exact ⟨ret_int HO.out.symm, rfl⟩

theorem less_irr : ∀ l : List UInt8, Op.bytesLess l l = false
  | [] => rfl
  | c :: l => by rw [Op.bytesLess, less_irr l]; simp
theorem less_tri : ∀ {a b : List UInt8}, Op.bytesLess a b = false → a ≠ b → Op.bytesLess b a = true
  | [], [], _, h => absurd rfl h
  | [], _ :: _, h, _ => by simp [Op.bytesLess] at h
  | _ :: _, [], _, _ => rfl
  | c :: a, d :: b, h, hne => by
    rw [Op.bytesLess] at h ⊢
    simp only [Bool.or_eq_false_iff, Bool.and_eq_false_iff, decide_eq_false_iff_not, beq_eq_false_iff_ne] at h
    simp only [Bool.or_eq_true, Bool.and_eq_true, decide_eq_true_eq, beq_iff_eq]
    obtain ⟨h1, h2⟩ := h
    by_cases e : c = d
    · subst e
      refine .inr ⟨rfl, less_tri (h2.resolve_left (by simp)) (fun e => hne (by rw [e]))⟩
    · left
      rw [UInt8.lt_iff_toNat_lt] at h1 ⊢
      have : c.toNat ≠ d.toNat := fun e2 => e (UInt8.toNat_inj.1 e2)
      omega
theorem cmpStr_any (a b : ByteArray) (w : World) : Calls Tryz.prog 34 #[.string a, .string b] w fun e w' => e = .returned (.int .i64 (cmpL a.data.toList b.data.toList)) ∧ w = w' := by
  have HA := Lib.hid (fun w => nanS a w)
  have HB := Lib.hid (fun w => nanS b w)
  have ea : a.data.toList = a.toList := by rw [ByteArray.toList_eq]
  have eb : b.data.toList = b.toList := by rw [ByteArray.toList_eq]
  rw [ea, eb]
  clear ea eb
  cases hl : Op.bytesLess a.toList b.toList with
  | true =>
    have HO : Hid (cmpL a.toList b.toList = -1) := by unfold Hid cmpL; rw [hl]; rfl
    go_enter Tryz.func34, Tryz.ntmps34
    go_wp2_with fail
    refine (HA.out _).mono ?_
    rintro e _ ⟨rfl, rfl⟩
    go_wp2_with fail
    refine (HB.out _).mono ?_
    rintro e _ ⟨rfl, rfl⟩
    go_wp2_with fail
    go_ret
    exact ⟨ret_int HO.out.symm, rfl⟩
  | false =>
    by_cases he : a.toList = b.toList
    · have HO : Hid (cmpL a.toList b.toList = 0) := by unfold Hid cmpL; rw [he, less_irr]; rfl
      have he2 : (a.toList == b.toList) = true := by rw [he]; simp
      clear he
      go_enter Tryz.func34, Tryz.ntmps34
      go_wp2_with fail
      refine (HA.out _).mono ?_
      rintro e _ ⟨rfl, rfl⟩
      go_wp2_with fail
      refine (HB.out _).mono ?_
      rintro e _ ⟨rfl, rfl⟩
      go_wp2_with fail
      go_ret
      exact ⟨ret_int HO.out.symm, rfl⟩
    · have HO : Hid (cmpL a.toList b.toList = 1) := by unfold Hid cmpL; rw [hl, less_tri hl he]; rfl
      have he2 : (a.toList == b.toList) = false := by simpa using he
      go_enter Tryz.func34, Tryz.ntmps34
      go_wp2_with fail
      refine (HA.out _).mono ?_
      rintro e _ ⟨rfl, rfl⟩
      go_wp2_with fail
      refine (HB.out _).mono ?_
      rintro e _ ⟨rfl, rfl⟩
      go_wp2_with fail
      go_ret
      exact ⟨ret_int HO.out.symm, rfl⟩

theorem repeat_any' (n : Nat) (w : World) (hn : n ≤ 1000) :
    Calls Tryz.prog 20 #[.string ⟨#[48]⟩, .int .i64 (n : Nat)] w fun e w' => e = .returned (.string (bs (List.replicate n 48))) ∧ Below w.heap.size w w' :=
  (Tryz.strings_Repeat ⟨#[48]⟩ n w (by omega) (by show 1 * n ≤ _; omega)).mono fun e w' ⟨he, hb⟩ => ⟨by
    rw [he]
    show Ending.returned (.string ⟨(Lib.repeatL [48] n).toArray⟩) = _
    rw [repeat_zeros]; rfl, hb⟩

theorem fill_any (f : ByteArray) (n : Nat) (p : Addr) (w : World) (hp : w.cell? p = some (.int .i64 (n : Nat))) (hf : f.size ≤ n) (hn : n ≤ 1000) :
    Calls Tryz.prog 31 #[.string f, .pointer (some p)] w fun e w' => e = .returned (.string (bs (fillD f.data.toList n))) ∧ Below w.heap.size w w' := by
  obtain ⟨j, hj⟩ : ∃ j, n = f.size + j := ⟨n - f.size, by omega⟩
  have HR := Lib.hid (fun w => repeat_any' j w (by omega))
  have HO : Hid (bs (fillD f.data.toList n) = f ++ bs (List.replicate j 48)) := by
    unfold Hid fillD
    rw [← bs_append, bs_self, size_len, show n - f.size = j by omega]
  have hz := bs_size (List.replicate j (48 : UInt8))
  rw [List.length_replicate] at hz
  generalize bs (List.replicate j 48) = z at *
  generalize bs (fillD f.data.toList n) = zz at *
  have hsub : (n : Int) - (f.size : Int) = (j : Int) := by omega
  have hwr : IntKind.i64.wrap (j : Int) = (j : Int) := by rw [IntKind.wrap_i64]; omega
  have hj1 : j ≤ 1000 := by omega
  have hf1 : f.size ≤ 1000 := by omega
  have hz1 : z.size ≤ 1000 := by omega
  clear hj hz hf
  go_enter Tryz.func31, Tryz.ntmps31
  go_wp2_with fail
  refine (Calls.toExt (HR.out _)).mono ?_
  rintro e _ ⟨rfl, x, rfl⟩
  go_wp2_with fail
  go_ret
  exact ⟨ret_string HO.out.symm, by (show Bel w _; (repeat (first | exact Bel.refl _ | refine Bel.ext ?_ _ | refine Bel.alloc ?_ _ | refine Bel.drewN ?_ _ | refine Bel.drew ?_ | refine Bel.setCell ?_ _ _ ?_ | exact Nat.le_refl _ | (simp; done) | omega)))⟩

/-- the first that is not 0 -/
def orI (a b c : Int) : Int := if a ≠ 0 then a else if b ≠ 0 then b else c
theorem or_any (a b c : Int) (D : Nat) (w : World) (h0 : w.cell? ⟨D, 0, none⟩ = some (.int .i64 a)) (h1 : w.cell? ⟨D, 1, none⟩ = some (.int .i64 b)) (h2 : w.cell? ⟨D, 2, none⟩ = some (.int .i64 c)) :
    Calls Tryz.prog 32 #[.slice (some ⟨D, 0, none⟩) 3 3] w fun e w' => e = .returned (.int .i64 (orI a b c)) ∧ w = w' := by
  by_cases ha : a = 0
  · by_cases hb : b = 0
    · have HO : Hid (orI a b c = c) := by unfold Hid orI; rw [if_neg (by simpa using ha), if_neg (by simpa using hb)]
      subst ha hb
      by_cases hc : c = 0
      · subst hc
        go_enter Tryz.func32, Tryz.ntmps32
        go_wp2_with fail
        refine wp_loop_rounds 4 ?_
        rw [rounds_succ]
        go_wp2_with fail
        rw [rounds_succ]
        go_wp2_with fail
        rw [rounds_succ]
        go_wp2_with fail
        rw [rounds_succ]
        go_wp2_with fail
        go_ret
        exact ⟨ret_int HO.out.symm, rfl⟩
      · have hc2 : (c != 0) = true := by simpa using hc
        clear hc
        go_enter Tryz.func32, Tryz.ntmps32
        go_wp2_with fail
        refine wp_loop_rounds 3 ?_
        rw [rounds_succ]
        go_wp2_with fail
        rw [rounds_succ]
        go_wp2_with fail
        rw [rounds_succ]
        go_wp2_with fail
        go_ret
        exact ⟨ret_int HO.out.symm, rfl⟩
    · have HO : Hid (orI a b c = b) := by unfold Hid orI; rw [if_neg (by simpa using ha), if_pos hb]
      have hb2 : (b != 0) = true := by simpa using hb
      subst ha
      clear hb
      go_enter Tryz.func32, Tryz.ntmps32
      go_wp2_with fail
      refine wp_loop_rounds 2 ?_
      rw [rounds_succ]
      go_wp2_with fail
      rw [rounds_succ]
      go_wp2_with fail
      go_ret
      exact ⟨ret_int HO.out.symm, rfl⟩
  · have HO : Hid (orI a b c = a) := by unfold Hid orI; rw [if_pos ha]
    have ha2 : (a != 0) = true := by simpa using ha
    clear ha
    go_enter Tryz.func32, Tryz.ntmps32
    go_wp2_with fail
    refine wp_loop_rounds 1 ?_
    rw [rounds_succ]
    go_wp2_with fail
    go_ret
    exact ⟨ret_int HO.out.symm, rfl⟩
end Go.Proofs.YtnnidhjmakpaeaaGreatDoor
