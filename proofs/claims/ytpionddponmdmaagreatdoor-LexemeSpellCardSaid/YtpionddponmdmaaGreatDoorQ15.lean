/- Walks: the text of a layout, given the texts of its numbers and its bytes. -/
import Derived.Lib.Join
import Derived.Test.YtpionddponmdmaaGreatDoorQ14
namespace Go.Proofs.YtpionddponmdmaaGreatDoor
open Go.RowKit
attribute [local go_sem] Ext.cell Ext.frozen
attribute [local go_sem ↓] Go.wp_at_zero Go.wp_at_succ

def txtP (p : Int × ByteArray) : List UInt8 := Lib.itoa p.1 ++ [32, 34] ++ escS p.2.data.toList ++ [34]
def textV (ps : List (Int × ByteArray)) : List UInt8 := Lib.join (ps.map txtP) [32]
def ItoaOk (i : Int) (w : World) : Prop := (Lib.itoa i).length ≤ 100 ∧ ∀ w', Below w.heap.size w w' → Calls Tryz.prog 49 #[.int .i64 i] w' fun e w'' => e = .returned (.string (bs (Lib.itoa i))) ∧ Below w'.heap.size w' w''
theorem ItoaOk.below {i : Int} {w w' : World} (h : ItoaOk i w) (hb : Below w.heap.size w w') : ItoaOk i w' := ⟨h.1, fun w2 h2 => h.2 w2 (hb.trans (h2.mono hb.size))⟩
theorem BslOk.below {c : UInt8} {w w' : World} (h : BslOk c w) (hb : Below w.heap.size w w') : BslOk c w' := fun b w2 h2 => h b w2 (hb.trans (h2.mono hb.size))
theorem ItoaOk.small (n : Nat) (hn : n < 100) (w : World) : ItoaOk (n : Int) w := by
  have e : Lib.itoa (n : Int) = Lib.decDigits n := by unfold Lib.itoa; rw [if_neg (by omega), Int.toNat_natCast]
  refine ⟨?_, fun w' _ => ?_⟩
  · rw [e]
    by_cases h : n < 10
    · rw [Lib.decDigits, dif_pos h]; simp
    · rw [Lib.decDigits, dif_neg h, Lib.decDigits, dif_pos (by omega)]; simp
  · rw [e]
    exact (Tryz.strconv_Itoa_small n hn w').mono fun _ _ ⟨he, hw⟩ => ⟨he, by rw [hw]; exact Below.refl _ _⟩
theorem join_len (l : List (List UInt8)) (m : Nat) (h : ∀ x ∈ l, x.length ≤ m) : (Lib.join l [32]).length ≤ l.length * (m + 1) := by
  induction l with
  | nil => simp [Lib.join]
  | cons a l ih =>
    have h1 := ih (fun x hx => h x (List.mem_cons_of_mem _ hx))
    have h2 := h a (List.mem_cons_self ..)
    cases l with
    | nil => simp [Lib.join]; omega
    | cons b l =>
      have e : Lib.join (a :: b :: l) [32] = a ++ [32] ++ Lib.join (b :: l) [32] := by simp [Lib.join, List.intercalate]
      rw [e, List.length_append, List.length_append, List.length_cons (a := a), Nat.succ_mul]
      simp only [List.length_cons, List.length_nil] at h1 ⊢
      omega
end Go.Proofs.YtpionddponmdmaaGreatDoor
/- Walks: how a control character is escaped in quotation marks; every byte. -/
namespace Go.Proofs.YtpionddponmdmaaGreatDoor
open Go.RowKit
attribute [local go_sem ↓] Go.wp_at_zero Go.wp_at_succ
theorem TabDeB.below {w w' : World} (h : TabDeB w) (hb : Below w.heap.size w w') : TabDeB w' := fun w2 h2 => h w2 (hb.trans (h2.mono hb.size))
/-- the digits of a byte -/
def hexS (u : Nat) : List UInt8 := if u < 16 then [hexD u] else [hexD (u / 16), hexD (u % 16)]
theorem fmt16 (u : Nat) (hu : u < 256) (w : World) (ht : TabDeB w) : Calls Tryz.prog 102 #[.slice none 0 0, .int .u64 (u : Int), .int .i64 16, .bool false, .bool false] w fun e w' => e = .returned (.tuple #[.slice none 0 0, .string (bs (hexS u))]) ∧ Below w.heap.size w w' := by
  unfold hexS
  by_cases h : u < 16
  · rw [if_pos h]; exact fmt16_lo u h w ht
  · rw [if_neg h]; exact fmt16_hi u (by omega) hu w ht
set_option maxRecDepth 20000 in
theorem formatint16 (u : Nat) (hu : u < 256) (w : World) (ht : TabDeB w) : Calls Tryz.prog 86 #[.int .i64 (u : Int), .int .i64 16] w fun e w' => e = .returned (.string (bs (hexS u))) ∧ Below w.heap.size w w' := by
  have h1 : ¬ (u : Int) < 0 := by omega
  have h2 : (u : Int) < 18446744073709551616 := by omega
  go_enter Tryz.func86, Tryz.ntmps86
  go_wp2_with fail
  refine (fmt16 u hu _ ht).mono ?_
  rintro e w' ⟨rfl, hb⟩
  go_wp2_with fail
  go_ret
  exact ⟨rfl, hb⟩
theorem formatint16p (u : Nat) (hu : u < 256) (w : World) (ht : TabDeB w) : Calls Tryz.prog 73 #[.int .i64 (u : Int), .int .i64 16] w fun e w' => e = .returned (.string (bs (hexS u))) ∧ Below w.heap.size w w' := by
  go_enter Tryz.func73, Tryz.ntmps73
  go_wp2_with fail
  refine (formatint16 u hu _ ht).mono ?_
  rintro e w' ⟨rfl, hb⟩
  go_wp2_with fail
  go_ret
  exact ⟨rfl, hb⟩
set_option maxRecDepth 20000 in
theorem repeat_0 (w : World) : Calls Tryz.prog 74 #[.string ⟨#[48]⟩, .int .i64 0] w fun e w' => e = .returned (.string ⟨#[]⟩) ∧ w = w' := by
  go_enter Tryz.func74, Tryz.ntmps74
  go_wp2_with fail
  go_ret
  exact ⟨rfl, rfl⟩
set_option maxRecDepth 20000 in
theorem repeat_1 (w : World) : Calls Tryz.prog 74 #[.string ⟨#[48]⟩, .int .i64 1] w fun e w' => e = .returned (.string ⟨#[48]⟩) ∧ w = w' := by
  go_enter Tryz.func74, Tryz.ntmps74
  go_wp2_with fail
  go_ret
  exact ⟨rfl, rfl⟩
theorem hex_any (u : Nat) (hu : u < 256) (w : World) (ht : TabDeB w) : Calls Tryz.prog 50 #[.int .u8 (u : Int), .int .i64 2] w fun e w' => e = .returned (.string (bs [hexD (u / 16), hexD (u % 16)])) ∧ Below w.heap.size w w' := by
  have HF := Lib.hid (formatint16p u hu w ht)
  have h0 : (0 : Int) ≤ (u : Int) := by omega
  have h2 : (u : Int) < 9223372036854775808 := by omega
  unfold hexS at HF
  by_cases h : u < 16
  · rw [if_pos h] at HF
    have e1 : u / 16 = 0 := by omega
    have e2 : u % 16 = u := by omega
    rw [e1, e2]
    have hs : (bs [hexD u]).size = 1 := by rw [bs_size]; rfl
    have ha := fun w => run_string_add_sum (P := Tryz.prog) (w := w) ⟨#[48]⟩ (bs [hexD u]) (by rw [hs]; decide)
    have HE : Hid ((⟨#[48]⟩ : ByteArray) ++ bs [hexD u] = bs [hexD 0, hexD u]) := by
      rw [show (⟨#[48]⟩ : ByteArray) = bs [48] from rfl, Hid, bs_append]; rfl
    generalize bs [hexD u] = D at *
    clear e1 e2
    go_enter Tryz.func50, Tryz.ntmps50
    go_wp2_with fail
    refine (HF.out).mono ?_
    rintro e w' ⟨rfl, hb⟩
    go_wp2_with fail
    refine (repeat_1 _).mono ?_
    rintro e w2 ⟨rfl, rfl⟩
    go_wp2_with fail
    go_ret
    exact ⟨by rw [← HE.out]; rfl, hb⟩
  · rw [if_neg h] at HF
    have hs : (bs [hexD (u / 16), hexD (u % 16)]).size = 2 := by rw [bs_size]; rfl
    have ha := fun w => run_string_add_sum (P := Tryz.prog) (w := w) ⟨#[]⟩ (bs [hexD (u / 16), hexD (u % 16)]) (by rw [hs]; decide)
    have HE : Hid ((⟨#[]⟩ : ByteArray) ++ bs [hexD (u / 16), hexD (u % 16)] = bs [hexD (u / 16), hexD (u % 16)]) := by
      rw [show (⟨#[]⟩ : ByteArray) = bs [] from rfl, Hid, bs_append]; rfl
    generalize bs [hexD (u / 16), hexD (u % 16)] = D at *
    go_enter Tryz.func50, Tryz.ntmps50
    go_wp2_with fail
    refine (HF.out).mono ?_
    rintro e w' ⟨rfl, hb⟩
    go_wp2_with fail
    refine (repeat_0 _).mono ?_
    rintro e w2 ⟨rfl, rfl⟩
    go_wp2_with fail
    go_ret
    exact ⟨by first | (rw [HE.out]; rfl) | rfl, hb⟩
set_option maxRecDepth 20000 in
set_option maxHeartbeats 4000000 in
theorem bsl_hard (c : UInt8) (b : Bool) (hc : c.toNat < 32 ∨ c.toNat = 127) (h10 : c ≠ 10) (h13 : c ≠ 13) (h9 : c ≠ 9) (w : World) (ht : TabDeB w) : Calls Tryz.prog 31 #[.int .i64 2, .int .u8 (c.toNat : Int), .bool b] w fun e w' => e = .returned (.string (bs (escC c))) ∧ Below w.heap.size w w' := by
  have h92 : ¬ c = 92 := fun e => by subst e; revert hc; decide
  have h34 : ¬ c = 34 := fun e => by subst e; revert hc; decide
  have HIB := Lib.hid (fun w => Tryz.strings_IndexByte ⟨#[34]⟩ (c.toNat : Int) w)
  have e1 : Lib.indexByte [34] (c.toNat : Int).toNat.toUInt8 = -1 := by
    rw [Int.toNat_natCast]
    have : c.toNat.toUInt8 = c := by simp
    rw [this]
    have h34' : ¬ (34 : UInt8) = c := fun e => h34 e.symm
    simp [Lib.indexByte, h34']
  have g92 : ((c.toNat : Int) == 92) = false := neU h92
  have g10 : ((c.toNat : Int) == 10) = false := neU h10
  have g13 : ((c.toNat : Int) == 13) = false := neU h13
  have g9 : ((c.toNat : Int) == 9) = false := neU h9
  have HCT := Lib.hid (fun w => control_any c.toNat w)
  have d1 : (decide (c.toNat < 32) || decide (c.toNat = 127)) = true := by
    rw [Bool.or_eq_true, decide_eq_true_eq, decide_eq_true_eq]; exact hc
  rw [d1] at HCT
  have HX := Lib.hid (fun w' (h : TabDeB w') => hex_any c.toNat c.toNat_lt w' h)
  have he : escC c = [92, 120, hexD (c.toNat / 16), hexD (c.toNat % 16)] := by
    unfold escC
    rw [if_neg h92, if_neg h10, if_neg h13, if_neg h9, if_neg h34, if_pos hc]
  have hs : (bs [hexD (c.toNat / 16), hexD (c.toNat % 16)]).size = 2 := by rw [bs_size]; rfl
  have ha := fun w => run_string_add_sum (P := Tryz.prog) (w := w) ⟨#[92, 120]⟩ (bs [hexD (c.toNat / 16), hexD (c.toNat % 16)]) (by rw [hs]; decide)
  have HE : Hid ((⟨#[92, 120]⟩ : ByteArray) ++ bs [hexD (c.toNat / 16), hexD (c.toNat % 16)] = bs (escC c)) := by
    rw [show (⟨#[92, 120]⟩ : ByteArray) = bs [92, 120] from rfl, Hid, bs_append, he]; rfl
  simp only [e1] at HIB
  clear hc h92 h10 h13 h9 h34 d1 e1 he hs
  generalize escC c = ec at *
  generalize bs [hexD (c.toNat / 16), hexD (c.toNat % 16)] = D at *
  generalize (c.toNat : Int) = z at *
  have HTD := Lib.hid ht
  clear ht
  go_enter Tryz.func31, Tryz.ntmps31
  go_wp2_with fail
  refine (HIB.out _).mono ?_
  rintro e w1 ⟨rfl, rfl⟩
  go_wp2_with fail
  refine (HCT.out _).mono ?_
  rintro e _ ⟨rfl, rfl⟩
  go_wp2_with fail
  refine (HCT.out _).mono ?_
  rintro e _ ⟨rfl, rfl⟩
  go_wp2_with fail
  refine (HX.out _ HTD.out).mono ?_
  rintro e w2 ⟨rfl, hb⟩
  go_wp2_with fail
  go_ret
  exact ⟨by rw [← HE.out]; rfl, hb⟩
theorem bsl_ok (c : UInt8) {w : World} (ht : TabDeB w) : BslOk c w := fun b w' g => by
  by_cases hc : ¬ (c.toNat < 32 ∨ c.toNat = 127) ∨ c = 10 ∨ c = 13 ∨ c = 9
  · exact bsl_easy c b hc w'
  · have h1 : ¬ (c = 10 ∨ c = 13 ∨ c = 9) := fun e => hc (.inr e)
    exact bsl_hard c b (Classical.byContradiction fun e => hc (.inl e)) (fun e => h1 (.inl e)) (fun e => h1 (.inr (.inl e))) (fun e => h1 (.inr (.inr e))) w' (ht.below g)
end Go.Proofs.YtpionddponmdmaaGreatDoor
