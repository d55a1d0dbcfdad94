/- Plain: what Build computes. -/
import Derived.Test.YtboojpmahfjaoaaB2
namespace Go.Proofs.Ytboojpmahfjaoaa

def goodSeed (f : Nat → Bool) (ks : List ByteArray) (N : Nat) (s : Nat) : Bool := fitK f (slots ks (s : Int) N) ks.length
/-- the least seed that fits -/
def seedOf (f : Nat → Bool) (ks : List ByteArray) (N : Nat) : Option Nat := (List.range' 1 100000).find? (goodSeed f ks N)
theorem seedOf_some {f : Nat → Bool} {ks : List ByteArray} {N s : Nat} (h1 : 1 ≤ s) (h2 : s ≤ 100000) (hg : goodSeed f ks N s = true) (hl : ∀ t, 1 ≤ t → t < s → goodSeed f ks N t = false) : seedOf f ks N = some s := by
  unfold seedOf
  generalize hM : 100000 = M at *
  rw [List.find?_range'_eq_some]
  exact ⟨hg, by rw [List.mem_range'_1]; omega, fun j hj hlt => by simp [hl j hj hlt]⟩
theorem seedOf_none {f : Nat → Bool} {ks : List ByteArray} {N : Nat} (hl : ∀ t, 1 ≤ t → t ≤ 100000 → goodSeed f ks N t = false) : seedOf f ks N = none := by
  unfold seedOf
  generalize hM : 100000 = M at *
  rw [List.find?_eq_none]
  intro x hx
  rw [List.mem_range'_1] at hx
  simp [hl x hx.1 (by omega)]
theorem seedOf_spec {f : Nat → Bool} {ks : List ByteArray} {N s : Nat} (h : seedOf f ks N = some s) : 1 ≤ s ∧ s ≤ 100000 ∧ goodSeed f ks N s = true := by
  unfold seedOf at h
  generalize hM : 100000 = M at *
  rw [List.find?_range'_eq_some] at h
  have := h.2.1
  rw [List.mem_range'_1] at this
  exact ⟨by omega, by omega, h.1⟩

/-- the buckets of a list, one after the other -/
def procL (N : Nat) (L : Nat → List ByteArray) : List Nat → (Nat → Bool) → (Nat → Nat) → Option ((Nat → Bool) × (Nat → Nat))
  | [], f, sd => some (f, sd)
  | b :: r, f, sd => if (L b).length = 0 then procL N L r f sd else
    match seedOf f (L b) N with
    | none => none
    | some s => procL N L r (addAll f (slots (L b) (s : Int) N)) (upd sd b s)

theorem procL_append (N : Nat) (L : Nat → List ByteArray) : ∀ (l k : List Nat) (f : Nat → Bool) (sd : Nat → Nat),
    procL N L (l ++ k) f sd = (procL N L l f sd).bind fun x => procL N L k x.1 x.2
  | [], k, f, sd => rfl
  | b :: l, k, f, sd => by
    simp only [List.cons_append, procL]
    split
    · exact procL_append N L l k f sd
    · split
      · rfl
      · exact procL_append N L l k _ _

theorem procL_filter (N : Nat) (L : Nat → List ByteArray) : ∀ (l : List Nat) (f : Nat → Bool) (sd : Nat → Nat), procL N L l f sd = procL N L (l.filter fun b => (L b).length != 0) f sd
  | [], f, sd => rfl
  | b :: l, f, sd => by
    by_cases h : (L b).length = 0
    · simp only [procL, h, if_true, List.filter_cons]
      simp only [bne_self_eq_false, Bool.false_eq_true, if_false]
      exact procL_filter N L l f sd
    · have hb : ((L b).length != 0) = true := by simp; exact fun e => h (by simp [e])
      rw [List.filter_cons, if_pos hb]
      simp only [procL, h, if_false]
      split
      · rfl
      · exact procL_filter N L l _ _

/-- the order of the reference: by the number of keys, then by index -/
def refOrd (ln : Nat → Nat) (n m : Nat) : List Nat := (List.range n).flatMap fun t => (List.range m).filter fun b => ln b == n - t

theorem mem_refOrd {ln : Nat → Nat} {n m b : Nat} : b ∈ refOrd ln n m ↔ b < m ∧ 1 ≤ ln b ∧ ln b ≤ n := by
  simp only [refOrd, List.mem_flatMap, List.mem_range, List.mem_filter, beq_iff_eq]
  constructor
  · rintro ⟨t, h1, h2, h3⟩; omega
  · rintro ⟨h1, h2, h3⟩; exact ⟨n - ln b, by omega, h1, by omega⟩

theorem range_pairwise_lt (m : Nat) : (List.range m).Pairwise (· < ·) := List.pairwise_lt_range

theorem refOrd_sorted (ln : Nat → Nat) (n m : Nat) : (refOrd ln n m).Pairwise (Ins.R ln) := by
  unfold refOrd
  rw [List.pairwise_flatMap]
  refine ⟨fun t _ => ?_, ?_⟩
  · refine List.Pairwise.imp_of_mem ?_ (List.Pairwise.filter _ (range_pairwise_lt m))
    intro x y hx hy hxy
    simp only [List.mem_filter, beq_iff_eq] at hx hy
    exact .inr ⟨by omega, hxy⟩
  · refine List.Pairwise.imp_of_mem ?_ (range_pairwise_lt n)
    intro s t hs ht hst x hx y hy
    simp only [List.mem_filter, beq_iff_eq, List.mem_range] at hx hy hs ht
    exact .inl (by omega)

theorem out_ord {ln : Nat → Nat} {m n : Nat} {a : Nat → Nat} (h : Ins.Out ln m m a) (hn : ∀ b, b < m → ln b ≤ n) :
    ((List.range m).map a).filter (fun b => ln b != 0) = refOrd ln n m := by
  apply Ins.sorted_eq ln
  · refine List.Pairwise.filter _ ?_
    rw [List.pairwise_map]
    refine List.Pairwise.imp_of_mem ?_ (range_pairwise_lt m)
    intro p q hp hq hpq
    rw [List.mem_range] at hp hq
    exact h.sorted p q hpq hq
  · exact refOrd_sorted ln n m
  · intro x
    rw [mem_refOrd]
    simp only [List.mem_filter, List.mem_map, List.mem_range, bne_iff_ne, ne_eq]
    constructor
    · rintro ⟨⟨p, h1, rfl⟩, h2⟩
      have := h.lt p h1
      exact ⟨this, by omega, hn _ this⟩
    · rintro ⟨h1, h2, h3⟩
      exact ⟨h.onto x h1, by omega⟩

/-- is one of the first k keys there twice -/
def dupK (keys : List ByteArray) : Nat → Bool
  | 0 => false
  | k + 1 => dupK keys k || memB (keys.getD k .empty) (keys.take k)
theorem dupK_true {keys : List ByteArray} {k n : Nat} (h : dupK keys k = true) (hk : k ≤ n) : dupK keys n = true := by
  induction n with
  | zero => obtain rfl : k = 0 := by omega
            exact h
  | succ n ih =>
    rcases Nat.lt_or_eq_of_le hk with h1 | h1
    · simp [dupK, ih (by omega)]
    · subst h1; exact h

/-- the buckets of all keys -/
def nb (n : Nat) : Nat := (n + 3) / 4
def built (keys : List ByteArray) : Option ((Nat → Bool) × (Nat → Nat)) :=
  procL keys.length (bucket keys (nb keys.length)) (refOrd (fun b => (bucket keys (nb keys.length) b).length) keys.length (nb keys.length)) (fun _ => false) (fun _ => 0)
/-- the error of Build -/
def errB (keys : List ByteArray) : Nat := if dupK keys keys.length then 9 else if (built keys).isSome then 0 else 6
/-- the size and the seeds that Build returns -/
def sizeB (keys : List ByteArray) : Nat := if errB keys = 0 then keys.length else 0
def seedsB (keys : List ByteArray) : List Int := if errB keys = 0 then (List.range (nb keys.length)).map (fun b => (((built keys).getD ((fun _ => false), (fun _ => 0))).2 b : Int)) else []
end Go.Proofs.Ytboojpmahfjaoaa
