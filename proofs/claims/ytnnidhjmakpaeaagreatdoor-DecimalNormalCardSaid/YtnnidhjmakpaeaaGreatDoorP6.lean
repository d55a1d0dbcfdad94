/- Plain: the parts of a number's text, and a number's value in millionths. -/
import Derived.Test.YtnnidhjmakpaeaaGreatDoorP5
namespace Go.Proofs.YtnnidhjmakpaeaaGreatDoor

theorem isD_ne {c : UInt8} (h : isD c = true) : (c != 46) = true ∧ c ≠ 45 := by
  have h1 := (isD_iff c).1 h
  constructor
  · rw [bne_iff_ne]; intro e; rw [e] at h1; exact absurd h1.1 (by decide)
  · intro e; rw [e] at h1; exact absurd h1.1 (by decide)
theorem takeWhile_point : ∀ {w : List UInt8} (r : List UInt8), allD w = true → (w ++ 46 :: r).takeWhile (· != 46) = w
  | [], r, _ => by simp
  | c :: w, r, h => by
    simp only [allD, List.all_cons, Bool.and_eq_true] at h
    rw [List.cons_append, List.takeWhile_cons, (isD_ne h.1).1, takeWhile_point r h.2]
    rfl
theorem takeWhile_digits : ∀ {w : List UInt8}, allD w = true → w.takeWhile (· != 46) = w
  | [], _ => rfl
  | c :: w, h => by
    simp only [allD, List.all_cons, Bool.and_eq_true] at h
    rw [List.takeWhile_cons, (isD_ne h.1).1, takeWhile_digits h.2]
    rfl

/-- what stands behind the sign -/
def tailD (w f : List UInt8) : List UInt8 := w ++ (if f.isEmpty then [] else 46 :: f)
theorem textD_eq (n : Bool) (w f : List UInt8) : textD n w f = if n && !(allZ w && allZ f) then 45 :: tailD w f else tailD w f := by
  unfold textD tailD
  split <;> simp
theorem tail_head {w f : List UInt8} (hw : okW w = true) : (tailD w f).head? ≠ some 45 := by
  have hp := okW_pos hw
  have hd := okW_allD hw
  cases w with
  | nil => simp at hp
  | cons c w =>
    simp only [allD, List.all_cons, Bool.and_eq_true] at hd
    intro e
    have : some c = some (45 : UInt8) := e
    injection this with this
    exact (isD_ne hd.1).2 this
theorem text_neg {n : Bool} {w f : List UInt8} (hw : okW w = true) : dNeg (textD n w f) = (n && !(allZ w && allZ f)) := by
  rw [textD_eq]
  cases h : (n && !(allZ w && allZ f)) with
  | true => rfl
  | false =>
    rw [if_neg (by simp)]
    unfold dNeg
    rw [beq_eq_false_iff_ne]
    exact tail_head hw
theorem text_rest {n : Bool} {w f : List UInt8} (hw : okW w = true) : dRest (textD n w f) = tailD w f := by
  unfold dRest
  rw [text_neg hw, textD_eq]
  cases h : (n && !(allZ w && allZ f)) with
  | true => rfl
  | false => rfl
theorem text_whole {n : Bool} {w f : List UInt8} (hw : okW w = true) : dWhole (textD n w f) = w := by
  unfold dWhole
  rw [text_rest hw]
  unfold tailD
  cases f with
  | nil => rw [List.isEmpty_nil, if_pos rfl, List.append_nil, takeWhile_digits (okW_allD hw)]
  | cons c f => rw [List.isEmpty_cons, if_neg (by simp), takeWhile_point _ (okW_allD hw)]
theorem text_frac {n : Bool} {w f : List UInt8} (hw : okW w = true) : dFrac (textD n w f) = f := by
  unfold dFrac
  rw [text_whole hw, text_rest hw]
  unfold tailD
  cases f with
  | nil => rw [List.isEmpty_nil, if_pos rfl, List.append_nil, List.drop_of_length_le (by omega)]
  | cons c f => rw [List.isEmpty_cons, if_neg (by simp), ← List.drop_drop, List.drop_left]; rfl
theorem text_point {n : Bool} {w f : List UInt8} (hw : okW w = true) : dPoint (textD n w f) = !f.isEmpty := by
  unfold dPoint
  rw [text_whole hw, text_rest hw]
  unfold tailD
  cases f with
  | nil => simp
  | cons c f => simp
theorem text_ok {n : Bool} {w f : List UInt8} (hw : okW w = true) (hf : allD f = true) (h6 : f.length ≤ 6) : dOk (textD n w f) = true := by
  unfold dOk
  rw [text_whole hw, text_frac hw, text_point hw, text_neg hw, hw]
  unfold okF
  rw [hf, decide_eq_true h6]
  cases f.isEmpty <;> cases n <;> cases (allZ w && allZ f) <;> rfl

theorem dOk_parts {l : List UInt8} (h : dOk l = true) : okW (dWhole l) = true ∧ okF (dPoint l) (dFrac l) = true ∧ (dNeg l && (allZ (dWhole l) && allZ (dFrac l))) = false := by
  unfold dOk at h
  simp only [Bool.and_eq_true, Bool.not_eq_true'] at h
  exact ⟨h.1.1, h.1.2, h.2⟩
theorem okF_parts {p : Bool} {f : List UInt8} (h : okF p f = true) : (p && f.isEmpty) = false ∧ f.length ≤ 6 ∧ allD f = true := by
  unfold okF at h
  simp only [Bool.and_eq_true, Bool.not_eq_true', decide_eq_true_eq] at h
  exact ⟨h.1.1, h.1.2, h.2⟩
theorem dOk_F {l : List UInt8} (h : dOk l = true) : (dFrac l).length ≤ 6 ∧ allD (dFrac l) = true := (okF_parts (dOk_parts h).2.1).2
theorem rest_tail {l : List UInt8} (h : dOk l = true) : dRest l = tailD (dWhole l) (dFrac l) := by
  obtain ⟨h1, h2, _⟩ := dOk_parts h
  obtain ⟨h3, _, _⟩ := okF_parts h2
  have hw : dRest l = dWhole l ++ (dRest l).drop (dWhole l).length := by
    unfold dWhole
    have e : (dRest l).takeWhile (· != 46) ++ (dRest l).dropWhile (· != 46) = dRest l := List.takeWhile_append_dropWhile ..
    have e2 : (dRest l).drop ((dRest l).takeWhile (· != 46)).length = (dRest l).dropWhile (· != 46) := by
      conv => lhs; arg 2; rw [← e]
      rw [List.drop_left]
    rw [e2, e]
  have hd : (dRest l).drop (dWhole l).length = (dRest l).dropWhile (· != 46) := by
    unfold dWhole
    have e : (dRest l).takeWhile (· != 46) ++ (dRest l).dropWhile (· != 46) = dRest l := List.takeWhile_append_dropWhile ..
    conv => lhs; arg 2; rw [← e]
    rw [List.drop_left]
  unfold tailD
  unfold dPoint at h3
  have hfr : dFrac l = ((dRest l).drop (dWhole l).length).drop 1 := by unfold dFrac; rw [List.drop_drop]
  by_cases hp : (dWhole l).length < (dRest l).length
  · rw [decide_eq_true hp, Bool.true_and] at h3
    rw [h3, if_neg (by simp)]
    conv => lhs; rw [hw]
    congr 1
    rw [hfr]
    rw [hd]
    cases hx : (dRest l).dropWhile (· != 46) with
    | nil => rw [← hd] at hx; have := congrArg List.length hx; rw [List.length_drop, List.length_nil] at this; omega
    | cons c r =>
      have := List.head_dropWhile_not (· != 46) (l := dRest l) (by rw [hx]; simp)
      simp only [hx, List.head_cons] at this
      have hc : c = 46 := by simpa using this
      rw [hc]; rfl
  · have hx : (dRest l).drop (dWhole l).length = [] := List.drop_of_length_le (by omega)
    rw [hfr, hx]
    conv => lhs; rw [hw, hx]
    rfl
/-- a number's text is the number -/
theorem text_self {l : List UInt8} (h : dOk l = true) : textD (dNeg l) (dWhole l) (dFrac l) = l := by
  obtain ⟨_, _, h3⟩ := dOk_parts h
  rw [textD_eq, ← rest_tail h]
  cases hn : dNeg l with
  | true =>
    rw [hn, Bool.true_and] at h3
    rw [h3]
    unfold dRest
    rw [hn]
    unfold dNeg at hn
    cases l with
    | nil => simp at hn
    | cons c l =>
      have : c = 45 := by simpa using hn
      rw [this]; rfl
  | false =>
    unfold dRest
    rw [hn]; rfl
theorem dOk_size {l : List UInt8} (h : dOk l = true) : l.length ≤ 23 := by
  obtain ⟨h1, h2, _⟩ := dOk_parts h
  obtain ⟨_, h4, _⟩ := okF_parts h2
  have h5 : (dWhole l).length ≤ 15 := by
    unfold okW at h1
    simp only [Bool.and_eq_true, decide_eq_true_eq] at h1
    exact h1.1.1.2
  have e := text_self h
  rw [← e, textD_eq]
  have h6 : (tailD (dWhole l) (dFrac l)).length ≤ 22 := by
    unfold tailD
    rw [List.length_append]
    split
    · simp; omega
    · rw [List.length_cons]; omega
  split
  · rw [List.length_cons]; omega
  · omega

/-- the fraction with six digits -/
def pad6 (f : List UInt8) : List UInt8 := f ++ List.replicate (6 - f.length) 48
def magW (w f : List UInt8) : Nat := valD w * 1000000 + valD (pad6 f)
def mag (l : List UInt8) : Nat := magW (dWhole l) (dFrac l)
/-- the value of a number, in millionths -/
def mv (l : List UInt8) : Int := if dNeg l then -(mag l : Int) else (mag l : Int)
theorem valD_zeros (k : Nat) : valD (List.replicate k 48) = 0 := allZ_val (by simp [allZ])
theorem valD_pad (f : List UInt8) (k : Nat) : valD (f ++ List.replicate k 48) = valD f * 10 ^ k := by
  rw [valD_append, valD_zeros, List.length_replicate, Nat.add_zero]
theorem pad6_eq {f : List UInt8} : valD (pad6 f) = valD f * 10 ^ (6 - f.length) := valD_pad f _
theorem pad6_lt {f : List UInt8} (hf : allD f = true) (h6 : f.length ≤ 6) : valD (pad6 f) < 1000000 := by
  have h := valD_lt (pad6 f) (by unfold pad6; rw [allD_append, hf]; simp [allD, isD])
  have e : (pad6 f).length = 6 := by unfold pad6; rw [List.length_append, List.length_replicate]; omega
  rw [e] at h
  exact h
theorem magW_eq {w f : List UInt8} (h6 : f.length ≤ 6) : magW w f = valD (w ++ f) * 10 ^ (6 - f.length) := by
  unfold magW
  rw [valD_append, Nat.add_mul, pad6_eq, Nat.mul_assoc, ← Nat.pow_add, show f.length + (6 - f.length) = 6 by omega]
theorem allZ_mag {w f : List UInt8} (h : (allZ w && allZ f) = true) : magW w f = 0 := by
  rw [Bool.and_eq_true] at h
  unfold magW
  rw [pad6_eq, allZ_val h.1, allZ_val h.2]; simp
theorem mag_allZ {w f : List UInt8} (hw : allD w = true) (hf : allD f = true) (h : magW w f = 0) : (allZ w && allZ f) = true := by
  unfold magW at h
  rw [pad6_eq] at h
  have h1 : valD w = 0 := by omega
  have h2 : valD f = 0 := by
    have : valD f * 10 ^ (6 - f.length) = 0 := by omega
    rcases Nat.mul_eq_zero.1 this with h | h
    · exact h
    · have := Nat.pos_of_ne_zero (n := 10 ^ (6 - f.length)) (by simp); omega
  rw [val_allZ hw h1, val_allZ hf h2]; rfl
/-- the value of a text -/
theorem mv_text {n : Bool} {w f : List UInt8} (hw : okW w = true) : mv (textD n w f) = if n then -(magW w f : Int) else (magW w f : Int) := by
  unfold mv mag
  rw [text_neg hw, text_whole hw, text_frac hw]
  cases n with
  | false => rfl
  | true =>
    cases hz : (allZ w && allZ f) with
    | false => rfl
    | true => rw [allZ_mag hz]; rfl
end Go.Proofs.YtnnidhjmakpaeaaGreatDoor
