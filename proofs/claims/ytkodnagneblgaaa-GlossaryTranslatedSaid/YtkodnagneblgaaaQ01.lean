/- Tables in memory: slices of structs, whatever the number of their cells. -/
import Derived.Test.YtkodnagneblgaaaQ00
import Derived.Deep.RegionHeld3
import Derived.Laws.AppendOwn
import Derived.Laws.AppendOwnNone
import Derived.Deep.AppendLies
import Derived.Deep.DrawnRows
import Derived.Deep.CutBlock
import Derived.Deep.DeepCutAuto
import Derived.Maps.Own
import Derived.Maps.OwnOps
import Derived.Maps.Views
namespace Go.Proofs.Ytkodnagneblgaaa
open Go.RowKit

/-- a slice of n elements of k cells each, from block b, offset off on: cell j of element i holds f i j -/
structure Rw (w : World) (ad : Option Addr) (n k : Nat) (f : Nat → Nat → Value) (b off : Nat) : Prop where
  max : n ≤ 9223372036854775807
  adr : n ≠ 0 → ad = some ⟨b, off, none⟩
  cell : ∀ i j, i < n → j < k → w.cell? ⟨b, off + i * k + j, none⟩ = some (f i j)
theorem Rw.block {w : World} {ad : Option Addr} {n k : Nat} {f b off} (h : Rw w ad n k f b off) (hn : n ≠ 0) (hk : k ≠ 0) : b < w.heap.size :=
  World.block_lt_of_cell? w _ (h.cell 0 0 (by omega) (by omega))
theorem Rw.below {w w' : World} {ad : Option Addr} {n k : Nat} {f b off} (h : Rw w ad n k f b off) (hb : Below w.heap.size w w') : Rw w' ad n k f b off :=
  ⟨h.max, h.adr, fun i j hi hj => by rw [hb.cell (p := ⟨b, off + i * k + j, none⟩) (h.block (by omega) (by omega))]; exact h.cell i j hi hj⟩
theorem Rw.ix {P : Program} {w : World} {ad : Option Addr} {n k : Nat} {f b off} (h : Rw w ad n k f b off) (T E : TypeId) (hT : P.underlying T = some (.slice E)) (hE : P.cellsOf E = k) (hk : 0 < k) {i : Nat} (hi : i < n) (c : Nat) (W : World) :
    (Instr.indexAt T (.slice ad n c) (.int .i64 (i : Int))).run P W = .ok (.pointer (some ⟨b, off + i * k, none⟩)) W := by
  rw [h.adr (by omega)]
  have hel : P.elem T = E := by simp [Program.elem, hT]
  rw [run_indexAt_slice W T _ n c .i64 i (by rw [hel]; exact hT), hel, if_pos (by omega)]
  have hs : (sizeOf E).run P W = .ok k W := by
    unfold Program.cellsOf at hE
    cases hi' : P.info? E with
    | none => simp [hi'] at hE; omega
    | some q => simp [hi'] at hE; simp [sizeOf, typeInfo, hi', hE]
  rw [hs]
  simp only [Result.andThen, Addr.add]
  by_cases h0 : i * k = 0
  · simp [h0]
  · simp [h0]
/-- a slice of structs of k strings -/
def StrRows (w : World) (k : Nat) (v : Value) : Prop := ∃ ad n c, ∃ g : Nat → Nat → ByteArray, ∃ b off, v = .slice ad n c ∧ Rw w ad n k (fun i j => .string (g i j)) b off
/-- a slice of relations: its fourth field is a slice -/
def RelRows (w : World) (v : Value) : Prop := ∃ ad n c f b off, v = .slice ad n c ∧ Rw w ad n 4 f b off ∧ ∀ i, i < n → ∃ a m c', f i 3 = .slice a m c' ∧ m ≤ 9223372036854775807
/-- a condition -/
def CondOk (w : World) (v : Value) : Prop := ∃ ad n c f b off, v = .slice ad n c ∧ Rw w ad n 1 f b off ∧ ∀ i, i < n → RelRows w (f i 0)
/-- a slice of rules -/
def RuleRows (w : World) (v : Value) : Prop := ∃ ad n c f b off, v = .slice ad n c ∧ Rw w ad n 2 f b off ∧ (ad = none → c = 0) ∧ ∀ i, i < n → (∃ s, f i 0 = .string s) ∧ CondOk w (f i 1)
theorem StrRows.below {w w' : World} {k : Nat} {v : Value} (h : StrRows w k v) (hb : Below w.heap.size w w') : StrRows w' k v := by
  obtain ⟨ad, n, c, g, b, off, h1, h2⟩ := h
  exact ⟨ad, n, c, g, b, off, h1, h2.below hb⟩
theorem RelRows.below {w w' : World} {v : Value} (h : RelRows w v) (hb : Below w.heap.size w w') : RelRows w' v := by
  obtain ⟨ad, n, c, f, b, off, h1, h2, h3⟩ := h
  exact ⟨ad, n, c, f, b, off, h1, h2.below hb, h3⟩
theorem CondOk.below {w w' : World} {v : Value} (h : CondOk w v) (hb : Below w.heap.size w w') : CondOk w' v := by
  obtain ⟨ad, n, c, f, b, off, h1, h2, h3⟩ := h
  exact ⟨ad, n, c, f, b, off, h1, h2.below hb, fun i hi => (h3 i hi).below hb⟩
theorem RuleRows.below {w w' : World} {v : Value} (h : RuleRows w v) (hb : Below w.heap.size w w') : RuleRows w' v := by
  obtain ⟨ad, n, c, f, b, off, h1, h2, h3, h4⟩ := h
  exact ⟨ad, n, c, f, b, off, h1, h2.below hb, h3, fun i hi => ⟨(h4 i hi).1, (h4 i hi).2.below hb⟩⟩
/-- a locale's sixteen cells -/
structure LocOk (w : World) (x : Nat → Value) : Prop where
  s0 : ∃ s, x 0 = .string s
  s1 : ∃ s, x 1 = .string s
  s2 : ∃ s, x 2 = .string s
  r3 : RuleRows w (x 3)
  r4 : RuleRows w (x 4)
  s5 : ∃ s, x 5 = .string s
  s6 : ∃ s, x 6 = .string s
  s7 : ∃ s, x 7 = .string s
  s8 : ∃ s, x 8 = .string s
  i9 : ∃ z, x 9 = .int .i64 z
  i10 : ∃ z, x 10 = .int .i64 z
  l11 : StrRows w 5 (x 11)
  u12 : StrRows w 3 (x 12)
  d13 : StrRows w 2 (x 13)
  m14 : StrRows w 1 (x 14)
  m15 : StrRows w 1 (x 15)
theorem LocOk.below {w w' : World} {x : Nat → Value} (h : LocOk w x) (hb : Below w.heap.size w w') : LocOk w' x :=
  ⟨h.s0, h.s1, h.s2, h.r3.below hb, h.r4.below hb, h.s5, h.s6, h.s7, h.s8, h.i9, h.i10, h.l11.below hb, h.u12.below hb, h.d13.below hb, h.m14.below hb, h.m15.below hb⟩
/-- a table: its locales, aliases and near entries -/
structure TabOk (w : World) (v0 v1 v2 : Value) : Prop where
  locs : ∃ ad n c f b off, v0 = .slice ad n c ∧ Rw w ad n 16 f b off ∧ ∀ i, i < n → LocOk w (f i)
  als : StrRows w 2 v1
  nears : ∃ ad n c f b off, v2 = .slice ad n c ∧ Rw w ad n 3 f b off ∧ ∀ i, i < n → (∃ s, f i 0 = .string s) ∧ (∃ s, f i 1 = .string s)
theorem TabOk.below {w w' : World} {v0 v1 v2 : Value} (h : TabOk w v0 v1 v2) (hb : Below w.heap.size w w') : TabOk w' v0 v1 v2 := by
  obtain ⟨⟨ad, n, c, f, b, off, h1, h2, h3⟩, h4, ⟨ad', n', c', f', b', off', h5, h6, h7⟩⟩ := h
  exact ⟨⟨ad, n, c, f, b, off, h1, h2.below hb, fun i hi => (h3 i hi).below hb⟩, h4.below hb, ⟨ad', n', c', f', b', off', h5, h6.below hb, h7⟩⟩
/-- some integer, and nothing that was there has changed -/
def SomeInt (w : World) (e : Ending) (w' : World) : Prop := ∃ z : Int, e = .returned (.int .i64 z) ∧ Below w.heap.size w w'
/-- some integer, the world as it was -/
def QInt (w : World) (e : Ending) (w' : World) : Prop := ∃ z : Int, e = .returned (.int .i64 z) ∧ w = w'
/-- some truth value, the world as it was -/
def QBool (w : World) (e : Ending) (w' : World) : Prop := ∃ b : Bool, e = .returned (.bool b) ∧ w = w'
/-- some truth value, and nothing that was there has changed -/
def SomeBool (w : World) (e : Ending) (w' : World) : Prop := ∃ b : Bool, e = .returned (.bool b) ∧ Below w.heap.size w w'
end Go.Proofs.Ytkodnagneblgaaa
/- A region that draws its order and whose last store may hit what it loads: a condition on the world that asks which operations have come up. -/
namespace Go.Proofs.Ytkodnagneblgaaa
open Go.RowKit

section
variable {P : Program} {ops : Array Oper} {Q : Exit → Act → World → Prop} {md : Region.Mode} {S : Array Bool → World → Prop}

/-- whatever order is picked from here on; behind each operation the condition holds of what has come up by then -/
def wpAnyG (P : Program) (md : Region.Mode) (ops : Array Oper) (Q : Exit → Act → World → Prop) (S : Array Bool → World → Prop) : Nat → Array Bool → Act → World → Prop
  | 0, L, a, w => Region.ready md ops L = [] ∧ Q .normal a w
  | g + 1, L, a, w => (Region.ready md ops L = [] → Q .normal a w) ∧ ∀ i ∈ Region.ready md ops L, wpOp P ops Q i (fun a' w' => S (L.setIfInBounds i true) w' ∧ wpAnyG P md ops Q S g (L.setIfInBounds i true) a' w') a w
theorem wpAny_of_G : ∀ (g : Nat) (L : Array Bool) (a : Act) (w : World), wpAnyG P md ops Q S g L a w → wpAny P md ops Q g L a w
  | 0, _, _, _, h => h
  | g + 1, _, _, _, h => ⟨h.1, fun i hi => wpOp_mono (fun a' w' h' => wpAny_of_G g _ a' w' h'.2) (h.2 i hi)⟩
/-- a condition that is asked until number k has come up -/
def Until (k : Nat) (S : World → Prop) (L : Array Bool) (w : World) : Prop := L.getD k true = false → S w
/-- number k waits for number i -/
def waitsB (md : Region.Mode) (ops : Array Oper) (k i : Nat) : Bool := match ops[k]? with | some o => o.after.any fun e => Region.binds md e && e.on == i | none => false
theorem wpAnyG_first {k i : Nat} {oi : Oper} {v : Value} {S : World → Prop} (hi : ops[i]? = some oi) (hsel : ∀ (j : Nat) (o : Oper) cs b, ops[j]? = some o → o.op ≠ .select cs b)
    (hQ : ∀ c a w, Q (.panic c) (a.put oi.dst v) w → Q (.panic c) a w) (hki : i ≠ k) (hw : waitsB md ops k i = true) :
    ∀ (g : Nat) (L : Array Bool) (a : Act) (w : World),
      (∀ j oj, ops[j]? = some oj → j ≠ i → L.getD j true = false → (∀ e ∈ oj.after, Region.binds md e = true → e.on ≠ i) → oi.apart ops oj = true) →
      i ∈ Region.ready md ops L → YieldsIf P ops S oi v a → L.getD k true = false → S w →
      wpAnyG P md ops Q (Until k S) g (L.setIfInBounds i true) (a.put oi.dst v) w → wpAnyG P md ops Q (Until k S) (g + 1) L a w := by
  intro g
  induction g with
  | zero =>
    intro L a w _ hr hy _ hS H
    refine ⟨fun h => (by rw [h] at hr; cases hr), fun j hj => ?_⟩
    by_cases hji : j = i
    · subst hji; exact hy.wpOp hi hS ⟨fun _ => hS, H⟩
    · have := ready_mono hj hji
      rw [H.1] at this
      cases this
  | succ g ih =>
    intro L a w hfree hr hy hkL hS H
    refine ⟨fun h => (by rw [h] at hr; cases hr), fun j hj => ?_⟩
    by_cases hji : j = i
    · subst hji; exact hy.wpOp hi hS ⟨fun _ => hS, H⟩
    · have h1 := H.2 j (ready_mono hj hji)
      obtain ⟨hjun, oj, hoj, hall⟩ := mem_ready.1 hj
      have hun := (mem_ready.1 hr).1
      have hnot : ∀ e ∈ oj.after, Region.binds md e = true → e.on ≠ i := fun e he hb heq => by
        have h1 := hall e he hb
        rw [heq] at h1
        rcases Nat.lt_or_ge i L.size with h' | h'
        · simp [h'] at hun h1; rw [hun] at h1; cases h1
        · simp [Array.getElem?_eq_none h'] at h1
      have hjk : j ≠ k := fun e => by
        subst e
        unfold waitsB at hw
        rw [hoj] at hw
        simp only [Array.any_eq_true, Bool.and_eq_true, beq_iff_eq] at hw
        obtain ⟨x, hx, hb, ho⟩ := hw
        exact hnot _ (Array.getElem_mem hx) hb ho
      have hkL' : (L.setIfInBounds j true).getD k true = false := by rw [getD_set_ne true hjk]; exact hkL
      have hkL2 : ((L.setIfInBounds i true).setIfInBounds j true).getD k true = false := by rw [getD_set_ne true hjk, getD_set_ne true hki]; exact hkL
      have h2 := wpOp_putIf hoj (hfree j oj hoj hji hjun hnot) (fun cs b => hsel i oi cs b hi) (fun cs b => hsel j oj cs b hoj) hQ hy h1
      have hfree' : ∀ m ok, ops[m]? = some ok → m ≠ i → (L.setIfInBounds j true).getD m true = false →
          (∀ e ∈ ok.after, Region.binds md e = true → e.on ≠ i) → oi.apart ops ok = true := fun m ok hm hmi hun hno => by
        refine hfree m ok hm hmi ?_ hno
        by_cases hjm : j = m
        · subst hjm; exact hjun
        · rw [getD_set_ne true hjm] at hun; exact hun
      refine wpOp_mono (fun a' w' h3 => ?_) h2
      have hS' : S w' := h3.2.1 hkL2
      refine ⟨fun _ => hS', ih (L.setIfInBounds j true) a' w' hfree' (ready_mono hr (Ne.symm hji)) h3.1 hkL' hS' ?_⟩
      rw [Array.setIfInBounds_comm _ _ hji]
      exact h3.2.2
/-- number i is taken first -/
theorem wpAnyG_take {k i : Nat} {oi : Oper} {v : Value} {g : Nat} {L : Array Bool} {a : Act} {w : World} {S : World → Prop} (hi : ops[i]? = some oi)
    (hs : Region.noSelect ops = true) (hf : Region.free md ops L i = true) (hr : (Region.ready md ops L).contains i = true)
    (hQ : ∀ c a w, Q (.panic c) (a.put oi.dst v) w → Q (.panic c) a w) (hw : waitsB md ops k i = true) (hki : i ≠ k) (hk : L.getD k true = false) (hy : YieldsIf P ops S oi v a) (hS : S w)
    (h : wpAnyG P md ops Q (Until k S) g (L.setIfInBounds i true) (a.put oi.dst v) w) : wpAnyG P md ops Q (Until k S) (g + 1) L a w :=
  wpAnyG_first hi (Region.noSelect_spec hs) hQ hki hw g L a w (Region.free_spec hi hf) (by simpa using hr) hy hk hS h
/-- each of the operations rs comes up next -/
def AllReadyG (P : Program) (md : Region.Mode) (ops : Array Oper) (Q : Exit → Act → World → Prop) (S : Array Bool → World → Prop) (g : Nat) (L : Array Bool) (a : Act) (w : World) (rs : List Nat) : Prop :=
  ∀ i ∈ rs, wpOp P ops Q i (fun a' w' => S (L.setIfInBounds i true) w' ∧ wpAnyG P md ops Q S g (L.setIfInBounds i true) a' w') a w
theorem AllReadyG.nil {g : Nat} {L : Array Bool} {a : Act} {w : World} : AllReadyG P md ops Q S g L a w [] := fun _ h => by cases h
theorem AllReadyG.cons {g : Nat} {L : Array Bool} {a : Act} {w : World} {i : Nat} {o : Oper} {rs : List Nat} (ho : ops[i]? = some o)
    (h : ∀ K' : Act → World → Prop, Shut (∀ a w, S (L.setIfInBounds i true) w → (S (L.setIfInBounds i true) w → wpAnyG P md ops Q S g (L.setIfInBounds i true) a w) → K' a w) → if Region.wanted o (yielded ops a.tmps) = true then Oper.wp P o a w K' Q else K' (a.put o.dst undef) w)
    (hs : AllReadyG P md ops Q S g L a w rs) : AllReadyG P md ops Q S g L a w (i :: rs) := fun j hj => by
  rcases List.mem_cons.1 hj with rfl | hj
  · exact wpOp_step ho (fun K' hK => h K' (fun a w hS hW => hK a w ⟨hS, hW hS⟩))
  · exact hs j hj
theorem wpAnyG_ready {rs : List Nat} {g : Nat} {L : Array Bool} {a : Act} {w : World} (hr : Region.ready md ops L = rs) (hne : rs ≠ [])
    (h : AllReadyG P md ops Q S g L a w rs) : wpAnyG P md ops Q S (g + 1) L a w := ⟨fun h0 => absurd (hr ▸ h0) hne, hr ▸ h⟩
theorem wpAnyG_done {L : Array Bool} {a : Act} {w : World} (hr : Region.ready md ops L = []) (h : Q .normal a w) : ∀ g, wpAnyG P md ops Q S g L a w
  | 0 => ⟨hr, h⟩
  | _ + 1 => ⟨fun _ => h, by rw [hr]; simp⟩
/-- the beginning -/
theorem wp_region_until {id : Nat} {a : Act} {w : World} (k : Nat) (S : World → Prop) (hm : P.follows .mixedOrders = true) (hS : S w.drew)
    (h : S w.drew → wpAnyG P .any ops Q (Until k S) ops.size (Array.replicate ops.size false) a w.drew) : (Code.region id ops true).wp P Q a w :=
  wp_region_any hm (wpAny_of_G _ _ _ _ (h hS))
end
end Go.Proofs.Ytkodnagneblgaaa
/- Rows of structs of the call's own: what they hold, and one row behind another; whatever the struct. -/
namespace Go.Proofs.Ytkodnagneblgaaa
open Go.RowKit

/-- the cells of n structs of sz cells each -/
def flat (sz : Nat) (f : Nat → Nat → Value) (n : Nat) : List Value := (List.range n).flatMap fun i => (List.range sz).map (f i)
theorem flat_succ (sz : Nat) (f : Nat → Nat → Value) (n : Nat) : flat sz f (n + 1) = flat sz f n ++ (List.range sz).map (f n) := by simp [flat, List.range_succ]
theorem flat_length (sz : Nat) (f : Nat → Nat → Value) : ∀ n, (flat sz f n).length = n * sz
  | 0 => by simp [flat]
  | n + 1 => by rw [flat_succ, List.length_append, flat_length sz f n, List.length_map, List.length_range, Nat.succ_mul]
theorem flat_get (sz : Nat) (f : Nat → Nat → Value) : ∀ {n i j : Nat}, i < n → j < sz → (flat sz f n)[i * sz + j]? = some (f i j)
  | 0, _, _, hi, _ => absurd hi (Nat.not_lt_zero _)
  | n + 1, i, j, hi, hj => by
    rw [flat_succ]
    by_cases h : i < n
    · have : i * sz + j < (flat sz f n).length := by
        rw [flat_length]
        have := Nat.mul_le_mul_right sz (show i + 1 ≤ n by omega)
        rw [Nat.succ_mul] at this
        omega
      rw [List.getElem?_append_left this]
      exact flat_get sz f h hj
    · obtain rfl : i = n := by omega
      rw [List.getElem?_append_right (by rw [flat_length]; omega), flat_length, Nat.add_sub_cancel_left]
      simp [hj]
theorem flat_mem {sz : Nat} {f : Nat → Nat → Value} {n : Nat} {u : Value} (h : u ∈ flat sz f n) : ∃ i j, i < n ∧ j < sz ∧ u = f i j := by
  obtain ⟨i, hi, hu⟩ := List.mem_flatMap.1 h
  obtain ⟨j, hj, e⟩ := List.mem_map.1 hu
  exact ⟨i, j, List.mem_range.1 hi, List.mem_range.1 hj, e.symm⟩
theorem flat_get_inv {sz : Nat} {f : Nat → Nat → Value} {n q : Nat} {u : Value} (hs : 0 < sz) (h : (flat sz f n)[q]? = some u) : ∃ i j, q = i * sz + j ∧ i < n ∧ j < sz ∧ u = f i j := by
  have hq : q < n * sz := by rw [← flat_length sz f n]; exact (List.getElem?_eq_some_iff.1 h).1
  have h1 : q / sz < n := by rw [Nat.div_lt_iff_lt_mul hs]; exact hq
  have h2 : q % sz < sz := Nat.mod_lt _ hs
  have h3 : q = q / sz * sz + q % sz := by rw [Nat.mul_comm]; exact (Nat.div_add_mod q sz).symm
  refine ⟨q / sz, q % sz, h3, h1, h2, ?_⟩
  rw [h3, flat_get sz f h1 h2] at h
  injection h with h
  rw [← h]
theorem flat_append (sz : Nat) (f g : Nat → Nat → Value) (k n : Nat) : flat sz f k ++ flat sz g n = flat sz (fun i j => if i < k then f i j else g (i - k) j) (k + n) := by
  have h1 : flat sz f k = flat sz (fun i j => if i < k then f i j else g (i - k) j) k := by
    unfold flat
    refine congrArg List.flatten (List.map_congr_left fun i hi => List.map_congr_left fun j _ => ?_)
    show f i j = if i < k then f i j else g (i - k) j
    rw [if_pos (List.mem_range.1 hi)]
  induction n with
  | zero => simpa [flat] using h1
  | succ n ih =>
    rw [flat_succ, ← List.append_assoc, ih, ← Nat.add_assoc, flat_succ]
    congr 1
    refine List.map_congr_left fun j _ => ?_
    show g n j = if k + n < k then f (k + n) j else g (k + n - k) j
    rw [if_neg (by omega), Nat.add_sub_cancel_left]
theorem own_shape {w : World} {base : Nat} {E : TypeId} {size : Nat} {v : Value} {n : Nat} {xs : List Value} (h : w.ownsRow base E size v n xs) : ∃ ad c, v = .slice ad n c := by
  obtain ⟨_, ⟨rfl, rfl⟩ | ⟨g, cap, cur, rfl, _⟩⟩ := h
  · exact ⟨_, _, rfl⟩
  · exact ⟨_, _, rfl⟩
theorem own_below {w w' : World} {base sz : Nat} {E : TypeId} {v : Value} {n : Nat} {xs : List Value} (h : w.ownsRow base E sz v n xs) (hb : Below w.heap.size w w') : w'.ownsRow base E sz v n xs := by
  refine ⟨h.1, ?_⟩
  rcases h.2 with h2 | ⟨g, cap, cur, h1, h2, h3, h4⟩
  · exact .inl h2
  · have hg : g < w.heap.size := by
      rcases Nat.lt_or_ge g w.heap.size with h' | h'
      · exact h'
      · simp [Array.getElem?_eq_none h'] at h3
    exact .inr ⟨g, cap, cur, h1, h2, (hb.block g hg).trans h3, h4⟩
/-- a store into another block -/
theorem own_store {w : World} {base sz : Nat} {E : TypeId} {v : Value} {n : Nat} {xs : List Value} (h : w.ownsRow base E sz v n xs) {B j : Nat} (x : Value) (hB : B < base) : (w.setCell ⟨B, j, none⟩ x).ownsRow base E sz v n xs := by
  refine ⟨h.1, ?_⟩
  rcases h.2 with h2 | ⟨g, cap, cur, h1, h2, h3, h4⟩
  · exact .inl h2
  · have hne : B ≠ g := by omega
    exact .inr ⟨g, cap, cur, h1, h2, by simp [World.setCell, Array.getElem?_modify, h3, hne], h4⟩
theorem own_rebase {w : World} {base base' : Nat} {E : TypeId} {sz : Nat} {v : Value} {n : Nat} {xs : List Value} (h : w.ownsRow base E sz v n xs) (hb : base' ≤ base) : w.ownsRow base' E sz v n xs := by
  refine ⟨h.1, ?_⟩
  rcases h.2 with h2 | ⟨g, cap, cur, h1, h2, h3⟩
  · exact .inl h2
  · exact .inr ⟨g, cap, cur, h1, by omega, h3⟩
/-- what a row of the call's own holds -/
theorem own_rw {w : World} {base : Nat} {E : TypeId} {sz : Nat} {ad : Option Addr} {n c : Nat} {f : Nat → Nat → Value} (h : w.ownsRow base E sz (.slice ad n c) n (flat sz f n)) :
    ∃ b, Rw w ad n sz f b 0 ∧ (ad = none → c = 0) ∧ n ≤ c ∧ (n ≠ 0 → base ≤ b) := by
  obtain ⟨hl, ⟨h1, h2⟩ | ⟨g, cap, cur, h1, h2, h3, h4, h5, h6, h7⟩⟩ := h
  · subst h2
    injection h1 with e1 e2 e3
    subst e1 e3
    exact ⟨0, ⟨Nat.zero_le _, fun h => absurd rfl h, fun i j hi => absurd hi (Nat.not_lt_zero _)⟩, fun _ => rfl, Nat.le_refl _, fun h => absurd rfl h⟩
  · injection h1 with e1 e2 e3
    subst e1 e3
    refine ⟨g, ⟨by unfold maxLen at h5; omega, fun _ => rfl, fun i j hi hj => ?_⟩, (fun h => by cases h), h4, fun _ => h2⟩
    have hf := flat_get sz f hi hj
    have hlt : i * sz + j < n * sz := by
      have := (List.getElem?_eq_some_iff.1 hf).1
      rwa [flat_length] at this
    rw [← h7, List.getElem?_take, if_pos hlt, Array.getElem?_toList] at hf
    rw [Nat.zero_add]
    simp only [World.cell?, h3]
    simpa using hf
/-- a literal of one struct -/
theorem own_literal (w : World) (E : TypeId) (sz n : Nat) (cs : Array Value) (base : Nat) (hb : base ≤ w.heap.size) (hn : n ≤ maxLen) (hs : cs.size = n * sz) : (w.alloc (.cells cs E)).ownsRow base E sz (.slice (some ⟨w.heap.size, 0, none⟩) n n) n cs.toList :=
  ⟨by simpa using hs, .inr ⟨w.heap.size, n, cs, rfl, hb, heap_alloc_new w _, Nat.le_refl _, hn, hs, by rw [List.take_of_length_le (by simp [hs])]⟩⟩
section
variable {P : Program} {T E : TypeId} {z : Value} {sz bytes : Nat}
/-- one row behind another, which may be nil -/
theorem run_app_rows {w : World} (ty : TypeId) (hT : P.underlying T = some (.slice E)) (info : (P.info? E).map (fun i => (i.zero, i.size, i.bytes)) = some (some z, sz, bytes)) (hzs : z.cells.size = sz) (hsz : 0 < sz)
    (base : Nat) (ad : Option Addr) (k c : Nat) (ys : List Value) (hown : w.ownsRow base E sz (.slice ad k c) k ys) (ad2 : Option Addr) (n c2 : Nat) (f : Nat → Nat → Value) (b off : Nat)
    (hx : Rw w ad2 n sz f b off) (hc : ad2 = none → c2 = 0) (h1 : ∀ i j, i < n → j < sz → (f i j).oneCell' = true) (h63 : k + n ≤ maxLen) (hr : (k + n) * bytes ≤ 140737488355328) (hb : base ≤ w.heap.size) :
    ∃ ad' c' w', (Builtin.append_ #[T, T] ty #[.slice ad k c, .slice ad2 n c2]).run P w = .ok (.slice ad' (k + n) c') w' ∧
      w'.ownsRow base E sz (.slice ad' (k + n) c') (k + n) (ys ++ flat sz f n) ∧ w.grownBy w' (Value.ownBlock (.slice ad k c)) := by
  obtain ⟨i0, hi, hz0, hz1, hz2⟩ := info_parts info
  by_cases h0 : n = 0
  · subst h0
    cases ad2 with
    | none =>
      obtain rfl := hc rfl
      exact ⟨ad, c, w, run_append_owned_none w base T ty E i0 sz hT hi (.slice ad k c) k ys hown, by simpa [flat] using hown, World.grownBy.refl _ _⟩
    | some A2 =>
      obtain ⟨v', w', k1, k2, k3, k4⟩ := run_append_own (P := P) (w := w) base T ty E i0 z sz bytes hT hi hz0 hz1 hz2 hzs hsz (.slice ad k c) k ys hown A2 0 c2 [] (by simp) (fun j u h => by simp at h) (fun u h => by cases h) h63 hr hb
      obtain ⟨ad', c', rfl⟩ := own_shape k2
      exact ⟨ad', c', w', k1, by simpa [flat] using k2, k3⟩
  · have ha := hx.adr h0
    subst ha
    have news : ∀ q u, (flat sz f n)[q]? = some u → w.cell? ((⟨b, off, none⟩ : Addr).add q) = some u := by
      intro q u hu
      obtain ⟨i, j, rfl, hi, hj, rfl⟩ := flat_get_inv hsz hu
      have := hx.cell i j hi hj
      rw [Nat.add_assoc] at this
      unfold Addr.add
      split
      · rename_i h
        rw [h, Nat.add_zero] at this
        exact this
      · exact this
    obtain ⟨v', w', k1, k2, k3, k4⟩ := run_append_own (P := P) (w := w) base T ty E i0 z sz bytes hT hi hz0 hz1 hz2 hzs hsz (.slice ad k c) k ys hown ⟨b, off, none⟩ n c2 (flat sz f n)
      (flat_length _ _ _) news (fun u hu => by obtain ⟨i, j, hi, hj, rfl⟩ := flat_mem hu; exact h1 i j hi hj) h63 hr hb
    obtain ⟨ad', c', rfl⟩ := own_shape k2
    exact ⟨ad', c', w', k1, k2, k3⟩
/-- at an operation -/
theorem wp_app_rows {w : World} {o : Oper} {a : Act} {K : Act → World → Prop} {Q : Exit → Act → World → Prop} (s x : Operand) (ho : o.op = .call { callee := .builtin .append, args := #[s, x], argTypes := #[T, T] })
    (hT : P.underlying T = some (.slice E)) (info : (P.info? E).map (fun i => (i.zero, i.size, i.bytes)) = some (some z, sz, bytes)) (hzs : z.cells.size = sz) (hsz : 0 < sz)
    (base : Nat) (ad : Option Addr) (k c : Nat) (ys : List Value) (hs : a.eval s = .slice ad k c) (hown : w.ownsRow base E sz (.slice ad k c) k ys) (ad2 : Option Addr) (n c2 : Nat) (f : Nat → Nat → Value) (b off : Nat) (hxe : a.eval x = .slice ad2 n c2)
    (hx : Rw w ad2 n sz f b off) (hc : ad2 = none → c2 = 0) (h1 : ∀ i j, i < n → j < sz → (f i j).oneCell' = true) (h63 : k + n ≤ maxLen) (hr : (k + n) * bytes ≤ 140737488355328) (hb : base ≤ w.heap.size)
    (h : ∀ ad' c' w', w'.ownsRow base E sz (.slice ad' (k + n) c') (k + n) (ys ++ flat sz f n) → w.grownBy w' (Value.ownBlock (.slice ad k c)) → K (a.put o.dst (.slice ad' (k + n) c')) w') : o.wp P a w K Q := by
  obtain ⟨ad', c', w', g1, g2, g3⟩ := run_app_rows o.type hT info hzs hsz base ad k c ys hown ad2 n c2 f b off hx hc h1 h63 hr hb
  unfold Oper.wp execOp
  simp only [ho, resolve, invoke, builtin, Sem.run_bind, Sem.run_pure, Result.andThen_ok, List.map_toArray, List.map_cons, List.map_nil, hs, hxe, g1]
  exact h ad' c' w' g2 g3
/-- in a list of operations -/
theorem wpList_app_rows {w : World} {ops : Array Oper} {rest : List Oper} {o : Oper} {a : Act} {Q : Exit → Act → World → Prop} (hgd : o.guard = none) (s x : Operand) (ho : o.op = .call { callee := .builtin .append, args := #[s, x], argTypes := #[T, T] })
    (hT : P.underlying T = some (.slice E)) (info : (P.info? E).map (fun i => (i.zero, i.size, i.bytes)) = some (some z, sz, bytes)) (hzs : z.cells.size = sz) (hsz : 0 < sz)
    (base : Nat) (ad : Option Addr) (k c : Nat) (ys : List Value) (hs : a.eval s = .slice ad k c) (hown : w.ownsRow base E sz (.slice ad k c) k ys) (ad2 : Option Addr) (n c2 : Nat) (f : Nat → Nat → Value) (b off : Nat) (hxe : a.eval x = .slice ad2 n c2)
    (hx : Rw w ad2 n sz f b off) (hc : ad2 = none → c2 = 0) (h1 : ∀ i j, i < n → j < sz → (f i j).oneCell' = true) (h63 : k + n ≤ maxLen) (hr : (k + n) * bytes ≤ 140737488355328) (hb : base ≤ w.heap.size)
    (h : ∀ ad' c' w', w'.ownsRow base E sz (.slice ad' (k + n) c') (k + n) (ys ++ flat sz f n) → w.grownBy w' (Value.ownBlock (.slice ad k c)) → wpList P ops Q rest (a.put o.dst (.slice ad' (k + n) c')) w') : wpList P ops Q (o :: rest) a w :=
  wpList_plain hgd fun _ hK => wp_app_rows s x ho hT info hzs hsz base ad k c ys hs hown ad2 n c2 f b off hxe hx hc h1 h63 hr hb fun ad' c' w' h2 h3 => hK _ _ (h ad' c' w' h2 h3)
/-- at a step of a region that draws its order -/
theorem step_app_rows {w : World} {ops : Array Oper} {o : Oper} {a : Act} {K : Act → World → Prop} {Q : Exit → Act → World → Prop} {R : Prop} (hgd : o.guard = none) (s x : Operand) (ho : o.op = .call { callee := .builtin .append, args := #[s, x], argTypes := #[T, T] })
    (hT : P.underlying T = some (.slice E)) (info : (P.info? E).map (fun i => (i.zero, i.size, i.bytes)) = some (some z, sz, bytes)) (hzs : z.cells.size = sz) (hsz : 0 < sz)
    (base : Nat) (ad : Option Addr) (k c : Nat) (ys : List Value) (hs : a.eval s = .slice ad k c) (hown : w.ownsRow base E sz (.slice ad k c) k ys) (ad2 : Option Addr) (n c2 : Nat) (f : Nat → Nat → Value) (b off : Nat) (hxe : a.eval x = .slice ad2 n c2)
    (hx : Rw w ad2 n sz f b off) (hc : ad2 = none → c2 = 0) (h1 : ∀ i j, i < n → j < sz → (f i j).oneCell' = true) (h63 : k + n ≤ maxLen) (hr : (k + n) * bytes ≤ 140737488355328) (hb : base ≤ w.heap.size)
    (h : ∀ ad' c' w', w'.ownsRow base E sz (.slice ad' (k + n) c') (k + n) (ys ++ flat sz f n) → w.grownBy w' (Value.ownBlock (.slice ad k c)) → K (a.put o.dst (.slice ad' (k + n) c')) w') :
    if Region.wanted o (yielded ops a.tmps) = true then Oper.wp P o a w K Q else R := by
  have hw : Region.wanted o (yielded ops a.tmps) = true := by simp [Region.wanted, hgd]
  rw [if_pos hw]
  exact wp_app_rows s x ho hT info hzs hsz base ad k c ys hs hown ad2 n c2 f b off hxe hx hc h1 h63 hr hb h
end
end Go.Proofs.Ytkodnagneblgaaa
/- Small laws: appends, conversions, rows of different types lie apart. -/
namespace Go.Proofs.Ytkodnagneblgaaa
open Go.RowKit

theorem infoStr : (Try.prog.info? 9).map (fun i => (i.zero, i.size, i.bytes)) = some (some (.string .empty), 1, 16) := by kernel_rfl
theorem infoU8 : (Try.prog.info? 5).map (fun i => (i.zero, i.size, i.bytes)) = some (some (.int .u8 0), 1, 1) := by kernel_rfl
theorem infoInt : (Try.prog.info? 3).map (fun i => (i.zero, i.size, i.bytes)) = some (some (.int .i64 0), 1, 8) := by kernel_rfl
theorem infoStrs : (Try.prog.info? 39).map (fun i => (i.zero, i.size, i.bytes)) = some (some (.slice none 0 0), 1, 24) := by kernel_rfl
theorem cellsStr : Try.prog.cellsOf 9 = 1 := by kernel_rfl
theorem cellsStrs : Try.prog.cellsOf 39 = 1 := by kernel_rfl
theorem cellsInt : Try.prog.cellsOf 3 = 1 := by kernel_rfl
theorem strs_snoc (l : List ByteArray) (x : ByteArray) : strs (l ++ [x]) = strs l ++ [.string x] := by simp [strs]
theorem byteCells_one1 (l : List UInt8) (c : UInt8) : Lib.byteCells (l ++ [c]) = Lib.byteCells l ++ [.int .u8 (c.toNat : Int)] := by simp [Lib.byteCells]
section
variable {ops : Array Oper} {rest : List Oper} {o : Oper} {a : Act} {Q : Exit → Act → World → Prop} {w : World}
theorem appStr (hgd : o.guard = none) (s x : Operand) (ho : o.op = .call { callee := .builtin .append, args := #[s, x], argTypes := #[39, 39] })
    (base : Nat) (ad : Option Addr) (n c : Nat) (xs : List Value) (hs : a.eval s = .slice ad n c) (hown : w.ownsRow base 9 1 (.slice ad n c) n xs)
    (y : Value) (E' : TypeId) (hx : a.eval x = .slice (some ⟨w.heap.size, 0, none⟩) 1 1) (hy : y.oneCell' = true)
    (h63 : n + 1 ≤ maxLen) (hbytes : (n + 1) * 16 ≤ 140737488355328) (hbase : base ≤ w.heap.size)
    (h : ∀ ad' c' w', w'.ownsRow base 9 1 (.slice ad' (n + 1) c') (n + 1) (xs ++ [y]) → Below base w w' → w.grownBy w' (Value.ownBlock (.slice ad n c)) → w.heap.size < w'.heap.size →
      wpList Try.prog ops Q rest (a.put o.dst (.slice ad' (n + 1) c')) w') : wpList Try.prog ops Q (o :: rest) a (w.alloc (.cells #[y] E')) := by
  obtain ⟨i0, hi, hz0, hz1, hz2⟩ := info_parts infoStr
  exact wpList_app 39 9 16 Try.underlying39 i0 _ hi hz0 hz1 hz2 rfl hgd s x ho base ad n c xs hs hown y E' hx hy h63 hbytes hbase h
theorem appU8 (hgd : o.guard = none) (s x : Operand) (ho : o.op = .call { callee := .builtin .append, args := #[s, x], argTypes := #[67, 67] })
    (base : Nat) (ad : Option Addr) (n c : Nat) (xs : List Value) (hs : a.eval s = .slice ad n c) (hown : w.ownsRow base 5 1 (.slice ad n c) n xs)
    (y : Value) (E' : TypeId) (hx : a.eval x = .slice (some ⟨w.heap.size, 0, none⟩) 1 1) (hy : y.oneCell' = true)
    (h63 : n + 1 ≤ maxLen) (hbytes : (n + 1) * 1 ≤ 140737488355328) (hbase : base ≤ w.heap.size)
    (h : ∀ ad' c' w', w'.ownsRow base 5 1 (.slice ad' (n + 1) c') (n + 1) (xs ++ [y]) → Below base w w' → w.grownBy w' (Value.ownBlock (.slice ad n c)) → w.heap.size < w'.heap.size →
      wpList Try.prog ops Q rest (a.put o.dst (.slice ad' (n + 1) c')) w') : wpList Try.prog ops Q (o :: rest) a (w.alloc (.cells #[y] E')) := by
  obtain ⟨i0, hi, hz0, hz1, hz2⟩ := info_parts infoU8
  exact wpList_app 67 5 1 Try.underlying67 i0 _ hi hz0 hz1 hz2 rfl hgd s x ho base ad n c xs hs hown y E' hx hy h63 hbytes hbase h
theorem appStrs (hgd : o.guard = none) (s x : Operand) (ho : o.op = .call { callee := .builtin .append, args := #[s, x], argTypes := #[74, 74] })
    (base : Nat) (ad : Option Addr) (n c : Nat) (xs : List Value) (hs : a.eval s = .slice ad n c) (hown : w.ownsRow base 39 1 (.slice ad n c) n xs)
    (y : Value) (E' : TypeId) (hx : a.eval x = .slice (some ⟨w.heap.size, 0, none⟩) 1 1) (hy : y.oneCell' = true)
    (h63 : n + 1 ≤ maxLen) (hbytes : (n + 1) * 24 ≤ 140737488355328) (hbase : base ≤ w.heap.size)
    (h : ∀ ad' c' w', w'.ownsRow base 39 1 (.slice ad' (n + 1) c') (n + 1) (xs ++ [y]) → Below base w w' → w.grownBy w' (Value.ownBlock (.slice ad n c)) → w.heap.size < w'.heap.size →
      wpList Try.prog ops Q rest (a.put o.dst (.slice ad' (n + 1) c')) w') : wpList Try.prog ops Q (o :: rest) a (w.alloc (.cells #[y] E')) := by
  obtain ⟨i0, hi, hz0, hz1, hz2⟩ := info_parts infoStrs
  exact wpList_app 74 39 24 Try.underlying74 i0 _ hi hz0 hz1 hz2 rfl hgd s x ho base ad n c xs hs hown y E' hx hy h63 hbytes hbase h
end
theorem conv_own {w : World} {base n c : Nat} {ad : Option Addr} {l : List UInt8} (h : w.ownsRow base 5 1 (.slice ad n c) n (Lib.byteCells l)) :
    (convert 67 9 (.slice ad n c)).run Try.prog w = .ok (.string (bs l)) w := by
  have hl : l.length = n := by have := h.1; rw [Lib.byteCells_length] at this; omega
  obtain ⟨b, off, hs⟩ := Own.sl h
  rcases h.2 with ⟨h1, h2⟩ | ⟨g, cap, cur, h1, _⟩
  · obtain ⟨e1, -, e3⟩ := Value.slice.inj h1
    subst e1 e3
    subst h2
    obtain rfl := List.eq_nil_of_length_eq_zero hl
    rw [run_convert_bytes_string _ 67 9 5 _ _ _ Try.underlying67 Try.underlying5 Try.underlying9]
    rfl
  · obtain ⟨e1, -, e3⟩ := Value.slice.inj h1
    subst e1
    subst hl
    refine run_convert_bytes_back _ 67 9 5 ⟨g, 0, none⟩ c l Try.underlying67 Try.underlying5 Try.underlying9 ?_
    intro j hj
    have ha := hs.adr (by omega)
    injection ha with ha
    injection ha with ha1 ha2
    subst ha1 ha2
    have := hs.cell j hj
    rw [show (⟨g, 0, none⟩ : Addr).add j = ⟨g, 0 + j, none⟩ by (simp [Addr.add]; exact fun e => e.symm), this]
    simp [Lib.byteCells, List.getD, List.getElem?_eq_getElem hj]
/-- rows of different types lie apart -/
theorem own_apart {w : World} {b1 b2 : Nat} {E1 E2 : TypeId} {s1 s2 : Nat} {v1 v2 : Value} {n1 n2 : Nat} {x1 x2 : List Value} (h1 : w.ownsRow b1 E1 s1 v1 n1 x1) (h2 : w.ownsRow b2 E2 s2 v2 n2 x2) (hE : E1 ≠ E2) :
    v1.ownBlock = none ∨ v1.ownBlock ≠ v2.ownBlock := by
  rcases h1.2 with ⟨rfl, _⟩ | ⟨g, cap, cur, rfl, _, h3, _⟩
  · exact .inl rfl
  · refine .inr (fun e => ?_)
    rcases h2.2 with ⟨rfl, _⟩ | ⟨g', cap', cur', rfl, _, h3', _⟩
    · cases e
    · injection e with e
      have e : g = g' := e
      subst e
      rw [h3] at h3'
      injection h3' with h3'
      injection h3' with _ h4
      exact hE h4
/-- a row stays while a row of another type grows -/
theorem own_other {w w' : World} {b1 b2 : Nat} {E1 E2 : TypeId} {s1 s2 : Nat} {v1 v2 : Value} {n1 n2 : Nat} {x1 x2 : List Value} (h1 : w.ownsRow b1 E1 s1 v1 n1 x1) (h2 : w.ownsRow b2 E2 s2 v2 n2 x2) (hE : E1 ≠ E2) (hg : w.grownBy w' v2.ownBlock) :
    w'.ownsRow b1 E1 s1 v1 n1 x1 := h1.kept hg (own_apart h1 h2 hE)
/-- another row of the same type, at another block -/
theorem own_kept {w w' : World} {b1 : Nat} {E1 : TypeId} {s1 : Nat} {v1 v2 : Value} {n1 : Nat} {x1 : List Value} (h1 : w.ownsRow b1 E1 s1 v1 n1 x1) (hE : v1.ownBlock = none ∨ v1.ownBlock ≠ v2.ownBlock) (hg : w.grownBy w' v2.ownBlock) :
    w'.ownsRow b1 E1 s1 v1 n1 x1 := h1.kept hg hE
end Go.Proofs.Ytkodnagneblgaaa
