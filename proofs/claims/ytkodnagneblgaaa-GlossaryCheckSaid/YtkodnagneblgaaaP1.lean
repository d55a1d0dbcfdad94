/- Plain: decimal numbers as lists of bytes. -/
import Derived.Test.YtkodnagneblgaaaRows
import Derived.Lib.SlTrimSet
import Derived.Lib.Repeat
import Derived.Lib.Atoi
namespace Go.Proofs.Ytkodnagneblgaaa

/-- the string of a list of bytes -/
def bs (l : List UInt8) : ByteArray := ⟨l.toArray⟩
theorem bs_data (l : List UInt8) : (bs l).data.toList = l := rfl
theorem bs_size (l : List UInt8) : (bs l).size = l.length := by simp [bs, ByteArray.size]
theorem bs_of (s : ByteArray) : s = bs s.data.toList := rfl
theorem bs_inj {a b : List UInt8} (h : bs a = bs b) : a = b := by
  have := congrArg (fun s : ByteArray => s.data.toList) h
  simpa [bs] using this
theorem bs_toList (l : List UInt8) : (bs l).toList = l := by rw [ByteArray.toList_eq]; rfl
theorem bs_append (a b : List UInt8) : bs a ++ bs b = bs (a ++ b) := by
  apply ByteArray.ext
  simp [bs]
theorem bs_extract (l : List UInt8) (i j : Nat) : (bs l).extract i j = bs ((l.take j).drop i) := by
  apply ByteArray.ext
  have e : List.drop i (List.take (i + (j - i)) l) = List.drop i (List.take j l) := by
    by_cases h : i ≤ j
    · rw [show i + (j - i) = j by omega]
    · rw [List.drop_eq_nil_of_le (by rw [List.length_take]; omega), List.drop_eq_nil_of_le (by rw [List.length_take]; omega)]
  simp [bs, ByteArray.data_extract, List.take_drop, e]
theorem dropWhile_nil {p : UInt8 → Bool} : ∀ {l : List UInt8}, l.dropWhile p = [] ↔ ∀ x ∈ l, p x = true
  | [] => by simp
  | a :: l => by
    rw [List.dropWhile_cons]
    cases h : p a with
    | true => simp [h, dropWhile_nil (l := l)]
    | false => simp [h]

def isD (c : UInt8) : Bool := decide (48 ≤ c.toNat) && decide (c.toNat ≤ 57)
def allD (l : List UInt8) : Bool := l.all isD
def allZ (l : List UInt8) : Bool := l.all (· == 48)
def dNeg (l : List UInt8) : Bool := l.head? == some 45
def dRest (l : List UInt8) : List UInt8 := if dNeg l then l.tail else l
def dWhole (l : List UInt8) : List UInt8 := (dRest l).takeWhile (· != 46)
def dPoint (l : List UInt8) : Bool := decide ((dWhole l).length < (dRest l).length)
def dFrac (l : List UInt8) : List UInt8 := (dRest l).drop ((dWhole l).length + 1)
def okW (w : List UInt8) : Bool := decide (1 ≤ w.length) && decide (w.length ≤ 15) && allD w && !(decide (1 < w.length) && w.head? == some 48)
def okF (p : Bool) (f : List UInt8) : Bool := !(p && f.isEmpty) && decide (f.length ≤ 6) && allD f
def dOk (l : List UInt8) : Bool := okW (dWhole l) && okF (dPoint l) (dFrac l) && !(dNeg l && (allZ (dWhole l) && allZ (dFrac l)))
/-- the integer that digits stand for -/
def valD (l : List UInt8) : Nat := l.foldl (fun n c => 10 * n + (c.toNat - 48)) 0
/-- a number as a string -/
def textD (neg : Bool) (w f : List UInt8) : List UInt8 :=
  (if neg && !(allZ w && allZ f) then [45] else []) ++ w ++ (if f.isEmpty then [] else 46 :: f)
/-- digits without the zeros at the end -/
def trimZ (l : List UInt8) : List UInt8 := Lib.trimRightS l [48]

theorem trimZ_nil {l : List UInt8} : trimZ l = [] ↔ allZ l = true := by
  unfold trimZ Lib.trimRightS allZ
  rw [List.reverse_eq_nil_iff, dropWhile_nil, List.all_eq_true]
  simp
theorem trimS_nil {l cs : List UInt8} : Lib.trimS l cs = [] ↔ l.all (fun c => cs.contains c) = true := by
  unfold Lib.trimS Lib.trimLeftS Lib.trimRightS
  rw [dropWhile_nil, List.all_eq_true]
  constructor
  · intro h x hx
    refine Classical.byContradiction fun hc => ?_
    have : x ∈ (l.reverse.dropWhile (cs.contains ·)).reverse := by
      rw [List.mem_reverse]
      have hl : l.reverse = l.reverse.takeWhile (cs.contains ·) ++ l.reverse.dropWhile (cs.contains ·) := (List.takeWhile_append_dropWhile ..).symm
      have hx' : x ∈ l.reverse := List.mem_reverse.2 hx
      rw [hl, List.mem_append] at hx'
      rcases hx' with h1 | h1
      · exact absurd (List.all_eq_true.1 List.all_takeWhile x h1) hc
      · exact h1
    exact hc (h x this)
  · intro h x hx
    rw [List.mem_reverse] at hx
    exact h x (List.mem_reverse.1 ((List.dropWhile_sublist _).subset hx))
theorem digit_mem (c : UInt8) : [48, 49, 50, 51, 52, 53, 54, 55, 56, 57].contains c = isD c := by
  have h : ∀ n : Fin 256, [48, 49, 50, 51, 52, 53, 54, 55, 56, 57].contains (UInt8.ofNat n.1) = isD (UInt8.ofNat n.1) := by decide +kernel
  have := h ⟨c.toNat, c.toNat_lt⟩
  simpa using this

theorem fold_val (l : List UInt8) : ∀ acc : Nat, l.foldl (fun n c => 10 * n + (c.toNat - 48)) acc = acc * 10 ^ l.length + valD l := by
  unfold valD
  induction l with
  | nil => intro acc; simp
  | cons c l ih =>
    intro acc
    simp only [List.foldl_cons, List.length_cons]
    rw [ih, ih (10 * 0 + (c.toNat - 48)), Nat.pow_succ, Nat.mul_zero, Nat.zero_add, Nat.add_mul]
    rw [show 10 * acc * 10 ^ l.length = acc * (10 ^ l.length * 10) by rw [Nat.mul_comm 10 acc, Nat.mul_assoc, Nat.mul_comm 10]]
    omega
theorem valD_cons (c : UInt8) (l : List UInt8) : valD (c :: l) = (c.toNat - 48) * 10 ^ l.length + valD l := by
  unfold valD
  rw [List.foldl_cons, fold_val]
  simp [valD]
theorem valD_snoc (l : List UInt8) (c : UInt8) : valD (l ++ [c]) = 10 * valD l + (c.toNat - 48) := by
  simp [valD, List.foldl_append]
theorem valD_append (a b : List UInt8) : valD (a ++ b) = valD a * 10 ^ b.length + valD b := by
  unfold valD
  rw [List.foldl_append, fold_val]
  rfl
theorem isD_iff (c : UInt8) : isD c = true ↔ 48 ≤ c.toNat ∧ c.toNat ≤ 57 := by simp [isD]
theorem valD_lt (l : List UInt8) (h : allD l = true) : valD l < 10 ^ l.length := by
  induction l with
  | nil => simp [valD]
  | cons c l ih =>
    simp only [allD, List.all_cons, Bool.and_eq_true] at h
    have h1 := ih h.2
    have h2 := (isD_iff c).1 h.1
    rw [valD_cons, List.length_cons, Nat.pow_succ]
    have h3 : (c.toNat - 48) * 10 ^ l.length ≤ 9 * 10 ^ l.length := Nat.mul_le_mul_right _ (by omega)
    omega
theorem decFrom_val (l : List UInt8) : ∀ acc, allD l = true → Lib.decFrom acc l = some (l.foldl (fun n c => 10 * n + (c.toNat - 48)) acc) := by
  induction l with
  | nil => intro acc _; rfl
  | cons c l ih =>
    intro acc h
    simp only [allD, List.all_cons, Bool.and_eq_true] at h
    have h2 := (isD_iff c).1 h.1
    simp only [Lib.decFrom, Lib.digitVal, h2, and_self, if_true, List.foldl_cons]
    rw [ih _ h.2, Nat.mul_comm]
theorem atoi_val (l : List UInt8) (h : allD l = true) : Lib.atoi (48 :: l) = some (valD l : Int) := by
  simp only [Lib.atoi, Lib.decNat]
  have h1 : ((48 : UInt8) == 45) = false := by decide
  have h2 : ((48 : UInt8) == 43) = false := by decide
  rw [h1, h2]
  simp only [Bool.false_eq_true, if_false, List.isEmpty_cons]
  have : allD (48 :: l) = true := by
    have e : isD 48 = true := by decide
    unfold allD at h ⊢
    rw [List.all_cons, e, h]; rfl
  rw [decFrom_val _ _ this]
  simp [valD]
theorem allD_append (a b : List UInt8) : allD (a ++ b) = (allD a && allD b) := by simp [allD]
theorem allZ_append (a b : List UInt8) : allZ (a ++ b) = (allZ a && allZ b) := by simp [allZ]
theorem allZ_val {l : List UInt8} (h : allZ l = true) : valD l = 0 := by
  induction l with
  | nil => rfl
  | cons c l ih =>
    simp only [allZ, List.all_cons, Bool.and_eq_true, beq_iff_eq] at h
    rw [valD_cons, h.1, ih h.2]
    simp
theorem val_allZ {l : List UInt8} (hd : allD l = true) (h : valD l = 0) : allZ l = true := by
  induction l with
  | nil => rfl
  | cons c l ih =>
    simp only [allD, List.all_cons, Bool.and_eq_true] at hd
    rw [valD_cons] at h
    have h1 := (isD_iff c).1 hd.1
    have h2 : (c.toNat - 48) * 10 ^ l.length = 0 := by omega
    have h3 : c.toNat - 48 = 0 := by
      rcases Nat.mul_eq_zero.1 h2 with h | h
      · exact h
      · have := Nat.pos_of_ne_zero (n := 10 ^ l.length) (by simp); omega
    simp only [allZ, List.all_cons, Bool.and_eq_true, beq_iff_eq]
    exact ⟨UInt8.toNat_inj.1 (by show c.toNat = 48; omega), ih hd.2 (by omega)⟩
theorem ba_eq {a b : ByteArray} (h : a.data.toList = b.data.toList) : a = b := by
  apply ByteArray.ext
  exact Array.toList_inj.1 h
theorem bs_self (s : ByteArray) : bs s.data.toList = s := rfl
theorem app_data (a b : ByteArray) : (a ++ b).data.toList = a.data.toList ++ b.data.toList := by
  rw [ByteArray.data_append, Array.toList_append]
theorem ext_data (s : ByteArray) (i j : Nat) : (s.extract i j).data.toList = (s.data.toList.take j).drop i := by
  have := congrArg (fun s : ByteArray => s.data.toList) (bs_extract s.data.toList i j)
  exact this
theorem size_len (s : ByteArray) : s.data.toList.length = s.size := by rw [Array.length_toList]; rfl

theorem trimZ_snoc (l : List UInt8) (c : UInt8) : trimZ (l ++ [c]) = if c = 48 then trimZ l else l ++ [c] := by
  unfold trimZ Lib.trimRightS
  rw [List.reverse_append]
  simp only [List.reverse_cons, List.reverse_nil, List.nil_append, List.singleton_append, List.dropWhile_cons]
  have e : [(48 : UInt8)].contains c = (c == 48) := Lib.contains_one 48 c
  rw [e]
  by_cases h : c = 48
  · simp [h]
  · simp [h]
theorem trimZ_empty : trimZ [] = [] := rfl
theorem snoc_of {l : List UInt8} (h : 0 < l.length) : l = l.take (l.length - 1) ++ [l[l.length - 1]] := by
  have h1 := List.take_succ_eq_append_getElem (l := l) (i := l.length - 1) (by omega)
  rw [show l.length - 1 + 1 = l.length by omega, List.take_length] at h1
  exact h1
theorem trimZ_len (l : List UInt8) : (trimZ l).length ≤ l.length := by
  unfold trimZ Lib.trimRightS
  rw [List.length_reverse]
  have := (List.dropWhile_sublist (fun x => [48].contains x) (l := l.reverse)).length_le
  simpa using this
theorem trimZ_prefix (l : List UInt8) : ∃ k, l = trimZ l ++ List.replicate k 48 := by
  unfold trimZ Lib.trimRightS
  have h : l.reverse = l.reverse.takeWhile (fun x => [48].contains x) ++ l.reverse.dropWhile (fun x => [48].contains x) := (List.takeWhile_append_dropWhile ..).symm
  have h2 := congrArg List.reverse h
  rw [List.reverse_reverse, List.reverse_append] at h2
  refine ⟨(l.reverse.takeWhile (fun x => [48].contains x)).length, ?_⟩
  have h3 : (l.reverse.takeWhile (fun x => [48].contains x)).reverse = List.replicate (l.reverse.takeWhile (fun x => [48].contains x)).length 48 := by
    rw [List.eq_replicate_iff]
    refine ⟨by simp, fun b hb => ?_⟩
    rw [List.mem_reverse] at hb
    have := List.all_eq_true.1 List.all_takeWhile b hb
    simpa using this
  rw [h3] at h2
  exact h2
theorem trimZ_allD {l : List UInt8} (h : allD l = true) : allD (trimZ l) = true := by
  obtain ⟨k, hk⟩ := trimZ_prefix l
  rw [hk, allD_append] at h
  simp only [Bool.and_eq_true] at h
  exact h.1

/-- digits without needless zeros at the beginning, as the reference has it -/
def leadD : List UInt8 → List UInt8
  | [] => []
  | [c] => [c]
  | c :: d :: r => if c = 48 then leadD (d :: r) else c :: d :: r
/-- .. and as the program has it -/
def trimmedD (l : List UInt8) : List UInt8 := if (Lib.trimLeftS l [48]).isEmpty then [48] else Lib.trimLeftS l [48]
theorem lead_trimmed : ∀ {l : List UInt8}, l ≠ [] → leadD l = trimmedD l
  | [], h => absurd rfl h
  | [c], _ => by
    unfold leadD trimmedD Lib.trimLeftS
    by_cases h : c = 48
    · subst h; rfl
    · have e : [(48 : UInt8)].contains c = false := by rw [Lib.contains_one]; simpa using h
      simp [h]
  | c :: d :: r, _ => by
    by_cases h : c = 48
    · subst h
      have ih := lead_trimmed (l := d :: r) (by simp)
      have e : Lib.trimLeftS (48 :: d :: r) [48] = Lib.trimLeftS (d :: r) [48] := by simp [Lib.trimLeftS, List.dropWhile_cons]
      unfold trimmedD
      rw [e]
      simpa [leadD, trimmedD] using ih
    · unfold leadD trimmedD Lib.trimLeftS
      simp [h]
theorem lead_zeros (k : Nat) {l : List UInt8} (h : l ≠ []) : leadD (List.replicate k 48 ++ l) = leadD l := by
  induction k with
  | zero => rfl
  | succ k ih =>
    rw [List.replicate_succ, List.cons_append]
    cases hx : List.replicate k 48 ++ l with
    | nil => simp at hx; exact absurd hx.2 h
    | cons d r => rw [← ih, hx]; simp [leadD]
theorem leadD_len (l : List UInt8) : (leadD l).length ≤ l.length := by
  induction l with
  | nil => simp [leadD]
  | cons c l ih =>
    cases l with
    | nil => simp [leadD]
    | cons d r =>
      unfold leadD
      split
      · simp at ih ⊢; omega
      · simp
theorem repeat_zeros (n : Nat) : Lib.repeatL [48] n = List.replicate n 48 := by
  induction n with
  | zero => rfl
  | succ n ih => simp [Lib.repeatL, ih, List.replicate_succ]
end Go.Proofs.Ytkodnagneblgaaa
