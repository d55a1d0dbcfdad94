/- Walks: Unescape of any string. -/
import Derived.Test.YtpionddponmdmaaDoorQ18
import Derived.Test.YtpionddponmdmaaDoorQ16
namespace Go.Proofs.YtpionddponmdmaaDoor
open Go.RowKit
attribute [local go_sem] Ext.cell Ext.frozen
attribute [local go_sem ↓] Go.wp_at_zero Go.wp_at_succ
def unescN (l : List UInt8) : Nat → Nat → List UInt8 → List UInt8 × Nat × Nat
  | 0, _, acc => (acc, 0, 0)
  | f + 1, i, acc =>
    if i < l.length then
      if l.getD i 0 = 92 then (if (rbV (l.drop i)).2 = 0 then ([], i, 3) else unescN l f (i + (rbV (l.drop i)).2) (acc ++ (rbV (l.drop i)).1))
      else if l.getD i 0 = 10 ∨ l.getD i 0 = 34 then ([], i, 3) else unescN l f (i + 1) (acc ++ [l.getD i 0])
    else (acc, 0, 0)
/-- the string that is read; the offset of what is wrong, and the error -/
def unescV (l : List UInt8) : List UInt8 × Nat × Nat := unescN l (l.length + 1) 0 []
theorem unescN_end {l : List UInt8} {i : Nat} (h : ¬ i < l.length) (f : Nat) (acc : List UInt8) : unescN l f i acc = (acc, 0, 0) := by
  cases f with
  | zero => rfl
  | succ f => rw [unescN, if_neg h]
theorem unescN_esc {l : List UInt8} {i : Nat} (h : i < l.length) (hc : l.getD i 0 = 92) (hk : (rbV (l.drop i)).2 ≠ 0) (f : Nat) (acc : List UInt8) :
    unescN l (f + 1) i acc = unescN l f (i + (rbV (l.drop i)).2) (acc ++ (rbV (l.drop i)).1) := by rw [unescN, if_pos h, if_pos hc, if_neg hk]
theorem unescN_bad {l : List UInt8} {i : Nat} (h : i < l.length) (hc : l.getD i 0 = 92) (hk : (rbV (l.drop i)).2 = 0) (f : Nat) (acc : List UInt8) :
    unescN l (f + 1) i acc = ([], i, 3) := by rw [unescN, if_pos h, if_pos hc, if_pos hk]
theorem unescN_forb {l : List UInt8} {i : Nat} (h : i < l.length) (hc : l.getD i 0 ≠ 92) (hk : l.getD i 0 = 10 ∨ l.getD i 0 = 34) (f : Nat) (acc : List UInt8) :
    unescN l (f + 1) i acc = ([], i, 3) := by rw [unescN, if_pos h, if_neg hc, if_pos hk]
theorem unescN_one {l : List UInt8} {i : Nat} (h : i < l.length) (hc : l.getD i 0 ≠ 92) (h1 : l.getD i 0 ≠ 10) (h2 : l.getD i 0 ≠ 34) (f : Nat) (acc : List UInt8) :
    unescN l (f + 1) i acc = unescN l f (i + 1) (acc ++ [l.getD i 0]) := by rw [unescN, if_pos h, if_neg hc, if_neg (fun e => e.elim h1 h2)]
theorem ext_drop (l : List UInt8) (i : Nat) : (bs l).extract i (bs l).size = bs (l.drop i) := by rw [bs_extract, bs_size, List.take_length]
theorem forbid_any (c : UInt8) (w : World) : Calls Tryd.prog 78 #[.int .i64 2, .int .u8 (c.toNat : Int)] w fun e w' => e = .returned (.bool (decide (c = 10 ∨ c = 34))) ∧ w = w' := by
  by_cases h1 : c = 10
  · subst h1
    go_enter Tryd.func78, Tryd.ntmps78
    go_wp2_with fail
    go_ret
    exact ⟨rfl, rfl⟩
  · by_cases h2 : c = 34
    · subst h2
      go_enter Tryd.func78, Tryd.ntmps78
      go_wp2_with fail
      go_ret
      exact ⟨rfl, rfl⟩
    · rw [decide_eq_false (fun e => e.elim h1 h2)]
      exact forbid_no c h1 h2 w
def UnP (x : List UInt8 × Nat × Nat) (w : World) (e : Ending) (w' : World) : Prop := e = .returned (.tuple #[.string (bs x.1), .int .i64 (x.2.1 : Int), .int .i64 (x.2.2 : Int)]) ∧ Below w.heap.size w w'
theorem below_builder {w wr w2 : World} {l : List UInt8} (h : Lib.IsBuilder 68 5 w.heap.size w.heap.size (Lib.byteCells l) wr) (hb : Below wr.heap.size wr w2) : Lib.IsBuilder 68 5 w.heap.size w.heap.size (Lib.byteCells l) w2 := by
  have key : ∀ p, Lib.BuilderAt 68 5 w.heap.size w.heap.size p (Lib.byteCells l) wr → Lib.BuilderAt 68 5 w.heap.size w.heap.size p (Lib.byteCells l) w2 := by
    rintro p ⟨h1, v, h2, h3, h4⟩
    exact ⟨h1, v, (hb.block _ (Array.getElem?_eq_some_iff.1 h2).1).trans h2, own_below2 h3 hb, h4⟩
  exact h.elim (fun h => .inl (key _ h)) (fun h => .inr (key _ h))
set_option maxRecDepth 20000 in
set_option maxHeartbeats 4000000 in
theorem unescape_any (l : List UInt8) (w : World) (hl : l.length ≤ 100000) : Calls Tryd.prog 59 #[.int .i64 2, .string (bs l)] w (UnP (unescV l) w) := by
  have HST := Lib.hid style_any
  have hsz : (bs l).size = l.length := bs_size _
  have HSZ := Lib.hid hsz
  have hle : (bs l).size ≤ 100000 := by omega
  have HAT : Hid (∀ (i : Nat) (g : i < (bs l).size), (bs l)[i]'g = l.getD i 0) := fun i g => ba_at l g
  have HEX := Lib.hid (ext_drop l)
  generalize hS : bs l = S at *
  generalize hX : unescV l = X at *
  have HX0 := Lib.hid hX
  clear hsz hS hX
  go_enter Tryd.func59, Tryd.ntmps59
  go_wp2_with fail
  refine (HST.out _).mono ?_
  rintro e _ ⟨rfl, rfl⟩
  go_wp2_with fail
  refine wp_at_worldH ?_
  intro W hW
  have b1 : Lib.IsBuilder 68 5 w.heap.size w.heap.size (Lib.byteCells []) W := by
    refine .inl ⟨Nat.le_refl _, .slice none 0 0, ?_, World.ownsRow_nil _ _ _ _, by simp [Value.ownBlock]⟩
    rw [hW]
    exact row_new _ _ _
  have HB0 : Hid (Below w.heap.size w W) := by rw [hW]; exact (Below.refl _ _).alloc (Nat.le_refl _) _
  have HB1 := Lib.hid b1
  clear b1 hW
  go_loopw [10] (fun i wr => ∃ (j f : Nat) (acc : List UInt8), j ≤ l.length ∧ acc.length ≤ j ∧ l.length - j < f ∧ unescN l f j acc = X ∧ i = .int .i64 (j : Int) ∧ Lib.IsBuilder 68 5 w.heap.size w.heap.size (Lib.byteCells acc) wr ∧ Below w.heap.size w wr) (fun i _ => l.length - (intOf i).toNat)
  case atStart => exact ⟨0, l.length + 1, [], Nat.zero_le _, Nat.le_refl _, by omega, HX0.out, rfl, HB1.out, HB0.out⟩
  case round =>
    obtain ⟨j, f, acc, hj, hal, hf, hun, rfl, hbu, hbl⟩ := hrel
    obtain ⟨g, rfl⟩ : ∃ g, f = g + 1 := ⟨f - 1, by omega⟩
    have HUN := Lib.hid hun
    have HBU := Lib.hid hbu
    have HBL := Lib.hid hbl
    have HAL := Lib.hid hal
    have HF := Lib.hid hf
    have hzr := hbl.size
    have halS : acc.length ≤ 100000 := by have := HSZ.out; omega
    clear hbu hbl hun hal hf HX0 HB0 HB1
    by_cases hlt : j < l.length
    · have hN : j < S.size := by rw [HSZ.out]; exact hlt
      have hix : ∀ g : j < S.size, S[j]'g = l.getD j 0 := fun g => HAT.out j g
      have HJ := Lib.hid hlt
      by_cases h92 : l.getD j 0 = 92
      · rw [h92] at hix
        have hcut : S.extract j S.size = bs (l.drop j) := HEX.out j
        have hdl : (l.drop j).length = l.length - j := List.length_drop ..
        have HRC := Lib.hid (fun w => rb_any (l.drop j) (by have := HSZ.out; omega) w)
        obtain ⟨q1, q2, q3⟩ := rbV_len (l.drop j)
        rw [hdl] at q2
        by_cases hk : (rbV (l.drop j)).2 = 0
        · have HBAD : Hid (X = ([], j, 3)) := by unfold Hid; rw [← HUN.out]; exact unescN_bad hlt h92 hk g acc
          have hki : ((rbV (l.drop j)).2 : Int) = 0 := by omega
          clear q1 q2 q3 hdl hk h92
          generalize rbV (l.drop j) = R at *
          generalize bs (l.drop j) = E at *
          go_wp2_with fail
          refine (HRC.out _).mono ?_
          rintro e w2 ⟨rfl, hb2⟩
          have HB2 : Hid (Below w.heap.size w w2) := HBL.out.trans (hb2.mono hzr)
          clear hb2
          go_wp2_with fail
          exact bodyPost_ret (v := .tuple #[.string (bs []), .int .i64 (j : Int), .int .i64 3]) (by simp [results, Tryd.f59, go_sem]; rfl) rfl ⟨by rw [HBAD.out]; rfl, HB2.out⟩
        · have HNX : Hid (unescN l g (j + (rbV (l.drop j)).2) (acc ++ (rbV (l.drop j)).1) = X) := by unfold Hid; rw [← HUN.out]; exact (unescN_esc hlt h92 hk g acc).symm
          have hki : (((rbV (l.drop j)).2 : Int) == 0) = false := by simp only [beq_eq_false_iff_ne]; omega
          have hkb : ((rbV (l.drop j)).2 : Int) ≤ 100000 := by have := HSZ.out; omega
          have HQ : Hid (0 < (rbV (l.drop j)).2 ∧ (rbV (l.drop j)).1.length ≤ (rbV (l.drop j)).2 ∧ j + (rbV (l.drop j)).2 ≤ l.length) := ⟨by omega, q3, by omega⟩
          have HST : Hid ((bs (rbV (l.drop j)).1).size = (rbV (l.drop j)).1.length) := bs_size _
          clear q2 q3 hdl hk h92 hlt
          generalize rbV (l.drop j) = R at *
          obtain ⟨Rt, Rk⟩ := R
          simp only at HRC HQ HNX HST hki hkb q1
          generalize bs (l.drop j) = E at *
          go_wp2_with fail
          refine (HRC.out _).mono ?_
          rintro e w2 ⟨rfl, hb2⟩
          have hzx : w.heap.size ≤ w2.heap.size := Nat.le_trans hzr hb2.size
          have HW := Lib.hid (wstring_any w.heap.size w.heap.size _ (bs Rt) w2 (below_builder HBU.out hb2) (by rw [Lib.byteCells_length, HST.out]; omega) hzx)
          have HBX : Hid (Below w.heap.size w w2) := HBL.out.trans (hb2.mono hzr)
          clear hb2
          go_wp2_with fail
          refine HW.out.mono ?_
          rintro e w3 ⟨rfl, hb6, hbl6, _⟩
          have HB6 : Hid (Below w.heap.size w w3) := HBX.out.trans hbl6
          have HU6 : Hid (Lib.IsBuilder 68 5 w.heap.size w.heap.size (Lib.byteCells (acc ++ Rt)) w3) := by
            unfold Hid
            rw [show Lib.byteCells (acc ++ Rt) = Lib.byteCells acc ++ Lib.strCells (bs Rt) by rw [Lib.strCells_eq, bs_data]; simp [Lib.byteCells]]
            exact .inr hb6
          clear hb6 hbl6
          go_wp2_with fail
          go_roundw
          case rel => exact ⟨j + Rk, g, acc ++ Rt, HQ.out.2.2, by have := HAL.out; have := HQ.out.2.1; rw [List.length_append]; omega, by have := HF.out; have := HQ.out; omega, HNX.out, by go_num, HU6.out, HB6.out⟩
          case measure => have := HQ.out; have := HJ.out; simp [intOf]; omega
      · by_cases hfb : l.getD j 0 = 10 ∨ l.getD j 0 = 34
        · have HBAD : Hid (X = ([], j, 3)) := by unfold Hid; rw [← HUN.out]; exact unescN_forb hlt h92 hfb g acc
          have HFB := Lib.hid (fun w => forbid_any (l.getD j 0) w)
          rw [decide_eq_true hfb] at HFB
          have g92 : (((l.getD j 0).toNat : Int) == 92) = false := neU h92
          clear hfb h92 hlt
          generalize l.getD j 0 = c at *
          go_wp2_with fail
          refine (HFB.out _).mono ?_
          rintro e _ ⟨rfl, rfl⟩
          go_wp2_with fail
          exact bodyPost_ret (v := .tuple #[.string (bs []), .int .i64 (j : Int), .int .i64 3]) (by simp [results, Tryd.f59, go_sem]; rfl) rfl ⟨by rw [HBAD.out]; rfl, HBL.out⟩
        · have HNX : Hid (unescN l g (j + 1) (acc ++ [l.getD j 0]) = X) := by unfold Hid; rw [← HUN.out]; exact (unescN_one hlt h92 (fun e => hfb (.inl e)) (fun e => hfb (.inr e)) g acc).symm
          have HFB := Lib.hid (fun w => forbid_any (l.getD j 0) w)
          rw [decide_eq_false hfb] at HFB
          have g92 : (((l.getD j 0).toNat : Int) == 92) = false := neU h92
          have HWB := Lib.hid (wbyte_any w.heap.size w.heap.size (Lib.byteCells acc) ((l.getD j 0).toNat : Int) wr HBU.out (by rw [Lib.byteCells_length]; omega) hzr)
          clear hfb h92
          generalize l.getD j 0 = c at *
          go_wp2_with fail
          refine (HFB.out _).mono ?_
          rintro e _ ⟨rfl, rfl⟩
          go_wp2_with fail
          refine HWB.out.mono ?_
          rintro e w3 ⟨rfl, hb6, hbl6⟩
          have HB6 : Hid (Below w.heap.size w w3) := HBL.out.trans hbl6
          have HU6 : Hid (Lib.IsBuilder 68 5 w.heap.size w.heap.size (Lib.byteCells (acc ++ [c])) w3) := by
            unfold Hid
            rw [show Lib.byteCells (acc ++ [c]) = Lib.byteCells acc ++ [.int .u8 (c.toNat : Int)] by simp [Lib.byteCells]]
            exact .inr hb6
          clear hb6 hbl6
          go_wp2_with fail
          go_roundw
          case rel => exact ⟨j + 1, g, acc ++ [c], hlt, by have := HAL.out; simp; omega, by have := HF.out; omega, HNX.out, by go_num, HU6.out, HB6.out⟩
          case measure => simp [intOf]; omega
    · have HEND : Hid (X = (acc, 0, 0)) := by unfold Hid; rw [← HUN.out]; exact unescN_end hlt (g + 1) acc
      have hN : ¬ j < S.size := by rw [HSZ.out]; exact hlt
      have HS := Lib.hid (Tryd.Builder_String_any_k w.heap.size w.heap.size acc wr (Lib.IsBuilderF.of HBU.out) hzr)
      go_wp2_with fail
      refine HS.out.mono ?_
      rintro e w3 ⟨rfl, _, hbl6, _⟩
      have HB6 : Hid (Below w.heap.size w w3) := HBL.out.trans hbl6
      clear hbl6
      go_wp2_with fail
      exact bodyPost_ret (v := .tuple #[.string (bs acc), .int .i64 0, .int .i64 0]) (by simp [results, Tryd.f59, go_sem]; rfl) rfl ⟨by rw [HEND.out]; rfl, HB6.out⟩
theorem unescN_len (l : List UInt8) : ∀ (f i : Nat) (acc : List UInt8), acc.length ≤ i → i ≤ l.length → (unescN l f i acc).1.length ≤ l.length ∧ (unescN l f i acc).2.1 ≤ l.length
  | 0, i, acc, h1, h2 => ⟨by show acc.length ≤ _; omega, Nat.zero_le _⟩
  | f + 1, i, acc, h1, h2 => by
    by_cases h : i < l.length
    · by_cases hc : l.getD i 0 = 92
      · by_cases hk : (rbV (l.drop i)).2 = 0
        · rw [unescN_bad h hc hk]; exact ⟨Nat.zero_le _, by show i ≤ _; omega⟩
        · rw [unescN_esc h hc hk]
          obtain ⟨_, q2, q3⟩ := rbV_len (l.drop i)
          rw [List.length_drop] at q2
          exact unescN_len l f _ _ (by rw [List.length_append]; omega) (by omega)
      · by_cases hk : l.getD i 0 = 10 ∨ l.getD i 0 = 34
        · rw [unescN_forb h hc hk]; exact ⟨Nat.zero_le _, by show i ≤ _; omega⟩
        · rw [unescN_one h hc (fun e => hk (.inl e)) (fun e => hk (.inr e))]
          exact unescN_len l f _ _ (by simp; omega) (by omega)
    · rw [unescN_end h]; exact ⟨by show acc.length ≤ _; omega, Nat.zero_le _⟩
theorem unescV_len (l : List UInt8) : (unescV l).1.length ≤ l.length ∧ (unescV l).2.1 ≤ l.length := unescN_len l _ 0 [] (Nat.le_refl _) (Nat.zero_le _)
end Go.Proofs.YtpionddponmdmaaDoor
/- What an escaped text is made of; each sequence is read. -/
namespace Go.Proofs.YtpionddponmdmaaDoor
open Go.RowKit
theorem esc_cases (c : UInt8) : (escC c = [c] ∧ c ≠ 92 ∧ c ≠ 34 ∧ c ≠ 10) ∨ (∃ tl, escC c = 92 :: tl ∧ ∀ R : List UInt8, R.length ≤ 100000 → ∀ w, Calls Tryd.prog 76 #[.string (bs (escC c ++ R))] w (RbPost c (escC c).length w)) := by
  unfold escC
  split
  · rename_i h; subst h; exact .inr ⟨_, rfl, fun R hR w => rb_self 92 (.inl rfl) R hR w⟩
  · split
    · rename_i h; subst h; exact .inr ⟨_, rfl, fun R hR w => rb_letter 110 10 (.inl ⟨rfl, rfl⟩) R hR w⟩
    · split
      · rename_i h; subst h; exact .inr ⟨_, rfl, fun R hR w => rb_letter 114 13 (.inr (.inl ⟨rfl, rfl⟩)) R hR w⟩
      · split
        · rename_i h; subst h; exact .inr ⟨_, rfl, fun R hR w => rb_letter 116 9 (.inr (.inr ⟨rfl, rfl⟩)) R hR w⟩
        · split
          · rename_i h; subst h; exact .inr ⟨_, rfl, fun R hR w => rb_self 34 (.inr rfl) R hR w⟩
          · split
            · rename_i h; exact .inr ⟨_, rfl, fun R hR w => rb_hex c (by omega) R hR w⟩
            · rename_i h1 h2 _ _ h3 _; exact .inl ⟨rfl, h1, h3, h2⟩
theorem escS_split (x : List UInt8) {j : Nat} (h : j < x.length) : escS x = escS (x.take j) ++ (escC (x.getD j 0) ++ escS (x.drop (j + 1))) := by
  have e : x = x.take j ++ (x.getD j 0 :: x.drop (j + 1)) := by rw [← drop_at h, List.take_append_drop]
  have k : ∀ a b : List UInt8, escS (a ++ b) = escS a ++ escS b := fun a b => by simp [escS]
  have k2 : ∀ (c : UInt8) (b : List UInt8), escS (c :: b) = escC c ++ escS b := fun c b => by simp [escS]
  conv => lhs; rw [e, k, k2]
theorem at_split (A T : List UInt8) (h : UInt8) (g : A.length < (bs (A ++ h :: T)).size) : (bs (A ++ h :: T))[A.length]'g = h := by
  have e : (bs (A ++ h :: T))[A.length]'g = (A ++ h :: T)[A.length]'(by simp) := rfl
  rw [e]
  simp
theorem cut_split (A B : List UInt8) : (bs (A ++ B)).extract A.length (bs (A ++ B)).size = bs B := by
  rw [bs_extract, bs_size, List.take_length, List.drop_left]
end Go.Proofs.YtpionddponmdmaaDoor
