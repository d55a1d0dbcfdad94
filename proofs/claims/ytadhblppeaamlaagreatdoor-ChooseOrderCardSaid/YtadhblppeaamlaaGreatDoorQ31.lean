/- A region that draws its order and whose last store may hit what it loads: a condition on the world that asks which operations have come up. -/
import Derived.Test.YtadhblppeaamlaaGreatDoorQ00
import Derived.Deep.RegionHeld3
import Derived.Laws.AppendOwn
import Derived.Laws.AppendOwnNone
import Derived.Deep.AppendLies
import Derived.Test.YtadhblppeaamlaaGreatDoorQ23
namespace Go.Proofs.YtadhblppeaamlaaGreatDoor
open Go.RowKit

section
variable {P : Program} {ops : Array Oper} {Q : Exit → Act → World → Prop} {md : Region.Mode} {S : Array Bool → World → Prop}

/-- whatever order is picked from here on; behind each operation the condition holds of what has come up by then -/
def wpAnyG (P : Program) (md : Region.Mode) (ops : Array Oper) (Q : Exit → Act → World → Prop) (S : Array Bool → World → Prop) : Nat → Array Bool → Act → World → Prop
  | 0, L, a, w => Region.ready md ops L = [] ∧ Q .normal a w
  | g + 1, L, a, w => (Region.ready md ops L = [] → Q .normal a w) ∧ ∀ i ∈ Region.ready md ops L, wpOp P ops Q i (fun a' w' => S (L.setIfInBounds i true) w' ∧ wpAnyG P md ops Q S g (L.setIfInBounds i true) a' w') a w
theorem wpAny_of_G : ∀ (g : Nat) (L : Array Bool) (a : Act) (w : World), wpAnyG P md ops Q S g L a w → wpAny P md ops Q g L a w
  | 0, _, _, _, h => h
  | g + 1, _, _, _, h => ⟨h.1, fun i hi => wpOp_mono (fun a' w' h' => wpAny_of_G g _ a' w' h'.2) (h.2 i hi)⟩
/-- a condition that is asked until number k has come up -/
def Until (k : Nat) (S : World → Prop) (L : Array Bool) (w : World) : Prop := L.getD k true = false → S w
/-- number k waits for number i -/
def waitsB (md : Region.Mode) (ops : Array Oper) (k i : Nat) : Bool := match ops[k]? with | some o => o.after.any fun e => Region.binds md e && e.on == i | none => false
theorem wpAnyG_first {k i : Nat} {oi : Oper} {v : Value} {S : World → Prop} (hi : ops[i]? = some oi) (hsel : ∀ (j : Nat) (o : Oper) cs b, ops[j]? = some o → o.op ≠ .select cs b)
    (hQ : ∀ c a w, Q (.panic c) (a.put oi.dst v) w → Q (.panic c) a w) (hki : i ≠ k) (hw : waitsB md ops k i = true) :
    ∀ (g : Nat) (L : Array Bool) (a : Act) (w : World),
      (∀ j oj, ops[j]? = some oj → j ≠ i → L.getD j true = false → (∀ e ∈ oj.after, Region.binds md e = true → e.on ≠ i) → oi.apart ops oj = true) →
      i ∈ Region.ready md ops L → YieldsIf P ops S oi v a → L.getD k true = false → S w →
      wpAnyG P md ops Q (Until k S) g (L.setIfInBounds i true) (a.put oi.dst v) w → wpAnyG P md ops Q (Until k S) (g + 1) L a w := by
  intro g
  induction g with
  | zero =>
    intro L a w _ hr hy _ hS H
    refine ⟨fun h => (by rw [h] at hr; cases hr), fun j hj => ?_⟩
    by_cases hji : j = i
    · subst hji; exact hy.wpOp hi hS ⟨fun _ => hS, H⟩
    · have := ready_mono hj hji
      rw [H.1] at this
      cases this
  | succ g ih =>
    intro L a w hfree hr hy hkL hS H
    refine ⟨fun h => (by rw [h] at hr; cases hr), fun j hj => ?_⟩
    by_cases hji : j = i
    · subst hji; exact hy.wpOp hi hS ⟨fun _ => hS, H⟩
    · have h1 := H.2 j (ready_mono hj hji)
      obtain ⟨hjun, oj, hoj, hall⟩ := mem_ready.1 hj
      have hun := (mem_ready.1 hr).1
      have hnot : ∀ e ∈ oj.after, Region.binds md e = true → e.on ≠ i := fun e he hb heq => by
        have h1 := hall e he hb
        rw [heq] at h1
        rcases Nat.lt_or_ge i L.size with h' | h'
        · simp [h'] at hun h1; rw [hun] at h1; cases h1
        · simp [Array.getElem?_eq_none h'] at h1
      have hjk : j ≠ k := fun e => by
        subst e
        unfold waitsB at hw
        rw [hoj] at hw
        simp only [Array.any_eq_true, Bool.and_eq_true, beq_iff_eq] at hw
        obtain ⟨x, hx, hb, ho⟩ := hw
        exact hnot _ (Array.getElem_mem hx) hb ho
      have hkL' : (L.setIfInBounds j true).getD k true = false := by rw [getD_set_ne true hjk]; exact hkL
      have hkL2 : ((L.setIfInBounds i true).setIfInBounds j true).getD k true = false := by rw [getD_set_ne true hjk, getD_set_ne true hki]; exact hkL
      have h2 := wpOp_putIf hoj (hfree j oj hoj hji hjun hnot) (fun cs b => hsel i oi cs b hi) (fun cs b => hsel j oj cs b hoj) hQ hy h1
      have hfree' : ∀ m ok, ops[m]? = some ok → m ≠ i → (L.setIfInBounds j true).getD m true = false →
          (∀ e ∈ ok.after, Region.binds md e = true → e.on ≠ i) → oi.apart ops ok = true := fun m ok hm hmi hun hno => by
        refine hfree m ok hm hmi ?_ hno
        by_cases hjm : j = m
        · subst hjm; exact hjun
        · rw [getD_set_ne true hjm] at hun; exact hun
      refine wpOp_mono (fun a' w' h3 => ?_) h2
      have hS' : S w' := h3.2.1 hkL2
      refine ⟨fun _ => hS', ih (L.setIfInBounds j true) a' w' hfree' (ready_mono hr (Ne.symm hji)) h3.1 hkL' hS' ?_⟩
      rw [Array.setIfInBounds_comm _ _ hji]
      exact h3.2.2
/-- number i is taken first -/
theorem wpAnyG_take {k i : Nat} {oi : Oper} {v : Value} {g : Nat} {L : Array Bool} {a : Act} {w : World} {S : World → Prop} (hi : ops[i]? = some oi)
    (hs : Region.noSelect ops = true) (hf : Region.free md ops L i = true) (hr : (Region.ready md ops L).contains i = true)
    (hQ : ∀ c a w, Q (.panic c) (a.put oi.dst v) w → Q (.panic c) a w) (hw : waitsB md ops k i = true) (hki : i ≠ k) (hk : L.getD k true = false) (hy : YieldsIf P ops S oi v a) (hS : S w)
    (h : wpAnyG P md ops Q (Until k S) g (L.setIfInBounds i true) (a.put oi.dst v) w) : wpAnyG P md ops Q (Until k S) (g + 1) L a w :=
  wpAnyG_first hi (Region.noSelect_spec hs) hQ hki hw g L a w (Region.free_spec hi hf) (by simpa using hr) hy hk hS h
/-- each of the operations rs comes up next -/
def AllReadyG (P : Program) (md : Region.Mode) (ops : Array Oper) (Q : Exit → Act → World → Prop) (S : Array Bool → World → Prop) (g : Nat) (L : Array Bool) (a : Act) (w : World) (rs : List Nat) : Prop :=
  ∀ i ∈ rs, wpOp P ops Q i (fun a' w' => S (L.setIfInBounds i true) w' ∧ wpAnyG P md ops Q S g (L.setIfInBounds i true) a' w') a w
theorem AllReadyG.nil {g : Nat} {L : Array Bool} {a : Act} {w : World} : AllReadyG P md ops Q S g L a w [] := fun _ h => by cases h
theorem AllReadyG.cons {g : Nat} {L : Array Bool} {a : Act} {w : World} {i : Nat} {o : Oper} {rs : List Nat} (ho : ops[i]? = some o)
    (h : ∀ K' : Act → World → Prop, Shut (∀ a w, S (L.setIfInBounds i true) w → (S (L.setIfInBounds i true) w → wpAnyG P md ops Q S g (L.setIfInBounds i true) a w) → K' a w) → if Region.wanted o (yielded ops a.tmps) = true then Oper.wp P o a w K' Q else K' (a.put o.dst undef) w)
    (hs : AllReadyG P md ops Q S g L a w rs) : AllReadyG P md ops Q S g L a w (i :: rs) := fun j hj => by
  rcases List.mem_cons.1 hj with rfl | hj
  · exact wpOp_step ho (fun K' hK => h K' (fun a w hS hW => hK a w ⟨hS, hW hS⟩))
  · exact hs j hj
theorem wpAnyG_ready {rs : List Nat} {g : Nat} {L : Array Bool} {a : Act} {w : World} (hr : Region.ready md ops L = rs) (hne : rs ≠ [])
    (h : AllReadyG P md ops Q S g L a w rs) : wpAnyG P md ops Q S (g + 1) L a w := ⟨fun h0 => absurd (hr ▸ h0) hne, hr ▸ h⟩
theorem wpAnyG_done {L : Array Bool} {a : Act} {w : World} (hr : Region.ready md ops L = []) (h : Q .normal a w) : ∀ g, wpAnyG P md ops Q S g L a w
  | 0 => ⟨hr, h⟩
  | _ + 1 => ⟨fun _ => h, by rw [hr]; simp⟩
/-- the beginning -/
theorem wp_region_until {id : Nat} {a : Act} {w : World} (k : Nat) (S : World → Prop) (hm : P.follows .mixedOrders = true) (hS : S w.drew)
    (h : S w.drew → wpAnyG P .any ops Q (Until k S) ops.size (Array.replicate ops.size false) a w.drew) : (Code.region id ops true).wp P Q a w :=
  wp_region_any hm (wpAny_of_G _ _ _ _ (h hS))
end
end Go.Proofs.YtadhblppeaamlaaGreatDoor
/- Rows of structs of the call's own: what they hold, and one row behind another; whatever the struct. -/
namespace Go.Proofs.YtadhblppeaamlaaGreatDoor
open Go.RowKit

/-- the cells of n structs of sz cells each -/
def flat (sz : Nat) (f : Nat → Nat → Value) (n : Nat) : List Value := (List.range n).flatMap fun i => (List.range sz).map (f i)
theorem flat_succ (sz : Nat) (f : Nat → Nat → Value) (n : Nat) : flat sz f (n + 1) = flat sz f n ++ (List.range sz).map (f n) := by simp [flat, List.range_succ]
theorem flat_length (sz : Nat) (f : Nat → Nat → Value) : ∀ n, (flat sz f n).length = n * sz
  | 0 => by simp [flat]
  | n + 1 => by rw [flat_succ, List.length_append, flat_length sz f n, List.length_map, List.length_range, Nat.succ_mul]
theorem flat_get (sz : Nat) (f : Nat → Nat → Value) : ∀ {n i j : Nat}, i < n → j < sz → (flat sz f n)[i * sz + j]? = some (f i j)
  | 0, _, _, hi, _ => absurd hi (Nat.not_lt_zero _)
  | n + 1, i, j, hi, hj => by
    rw [flat_succ]
    by_cases h : i < n
    · have : i * sz + j < (flat sz f n).length := by
        rw [flat_length]
        have := Nat.mul_le_mul_right sz (show i + 1 ≤ n by omega)
        rw [Nat.succ_mul] at this
        omega
      rw [List.getElem?_append_left this]
      exact flat_get sz f h hj
    · obtain rfl : i = n := by omega
      rw [List.getElem?_append_right (by rw [flat_length]; omega), flat_length, Nat.add_sub_cancel_left]
      simp [hj]
theorem flat_mem {sz : Nat} {f : Nat → Nat → Value} {n : Nat} {u : Value} (h : u ∈ flat sz f n) : ∃ i j, i < n ∧ j < sz ∧ u = f i j := by
  obtain ⟨i, hi, hu⟩ := List.mem_flatMap.1 h
  obtain ⟨j, hj, e⟩ := List.mem_map.1 hu
  exact ⟨i, j, List.mem_range.1 hi, List.mem_range.1 hj, e.symm⟩
theorem flat_get_inv {sz : Nat} {f : Nat → Nat → Value} {n q : Nat} {u : Value} (hs : 0 < sz) (h : (flat sz f n)[q]? = some u) : ∃ i j, q = i * sz + j ∧ i < n ∧ j < sz ∧ u = f i j := by
  have hq : q < n * sz := by rw [← flat_length sz f n]; exact (List.getElem?_eq_some_iff.1 h).1
  have h1 : q / sz < n := by rw [Nat.div_lt_iff_lt_mul hs]; exact hq
  have h2 : q % sz < sz := Nat.mod_lt _ hs
  have h3 : q = q / sz * sz + q % sz := by rw [Nat.mul_comm]; exact (Nat.div_add_mod q sz).symm
  refine ⟨q / sz, q % sz, h3, h1, h2, ?_⟩
  rw [h3, flat_get sz f h1 h2] at h
  injection h with h
  rw [← h]
theorem flat_append (sz : Nat) (f g : Nat → Nat → Value) (k n : Nat) : flat sz f k ++ flat sz g n = flat sz (fun i j => if i < k then f i j else g (i - k) j) (k + n) := by
  have h1 : flat sz f k = flat sz (fun i j => if i < k then f i j else g (i - k) j) k := by
    unfold flat
    refine congrArg List.flatten (List.map_congr_left fun i hi => List.map_congr_left fun j _ => ?_)
    show f i j = if i < k then f i j else g (i - k) j
    rw [if_pos (List.mem_range.1 hi)]
  induction n with
  | zero => simpa [flat] using h1
  | succ n ih =>
    rw [flat_succ, ← List.append_assoc, ih, ← Nat.add_assoc, flat_succ]
    congr 1
    refine List.map_congr_left fun j _ => ?_
    show g n j = if k + n < k then f (k + n) j else g (k + n - k) j
    rw [if_neg (by omega), Nat.add_sub_cancel_left]
theorem own_shape {w : World} {base : Nat} {E : TypeId} {size : Nat} {v : Value} {n : Nat} {xs : List Value} (h : w.ownsRow base E size v n xs) : ∃ ad c, v = .slice ad n c := by
  obtain ⟨_, ⟨rfl, rfl⟩ | ⟨g, cap, cur, rfl, _⟩⟩ := h
  · exact ⟨_, _, rfl⟩
  · exact ⟨_, _, rfl⟩
theorem own_below {w w' : World} {base sz : Nat} {E : TypeId} {v : Value} {n : Nat} {xs : List Value} (h : w.ownsRow base E sz v n xs) (hb : Below w.heap.size w w') : w'.ownsRow base E sz v n xs := by
  refine ⟨h.1, ?_⟩
  rcases h.2 with h2 | ⟨g, cap, cur, h1, h2, h3, h4⟩
  · exact .inl h2
  · have hg : g < w.heap.size := by
      rcases Nat.lt_or_ge g w.heap.size with h' | h'
      · exact h'
      · simp [Array.getElem?_eq_none h'] at h3
    exact .inr ⟨g, cap, cur, h1, h2, (hb.block g hg).trans h3, h4⟩
/-- a store into another block -/
theorem own_store {w : World} {base sz : Nat} {E : TypeId} {v : Value} {n : Nat} {xs : List Value} (h : w.ownsRow base E sz v n xs) {B j : Nat} (x : Value) (hB : B < base) : (w.setCell ⟨B, j, none⟩ x).ownsRow base E sz v n xs := by
  refine ⟨h.1, ?_⟩
  rcases h.2 with h2 | ⟨g, cap, cur, h1, h2, h3, h4⟩
  · exact .inl h2
  · have hne : B ≠ g := by omega
    exact .inr ⟨g, cap, cur, h1, h2, by simp [World.setCell, Array.getElem?_modify, h3, hne], h4⟩
theorem own_rebase {w : World} {base base' : Nat} {E : TypeId} {sz : Nat} {v : Value} {n : Nat} {xs : List Value} (h : w.ownsRow base E sz v n xs) (hb : base' ≤ base) : w.ownsRow base' E sz v n xs := by
  refine ⟨h.1, ?_⟩
  rcases h.2 with h2 | ⟨g, cap, cur, h1, h2, h3⟩
  · exact .inl h2
  · exact .inr ⟨g, cap, cur, h1, by omega, h3⟩
/-- what a row of the call's own holds -/
theorem own_rw {w : World} {base : Nat} {E : TypeId} {sz : Nat} {ad : Option Addr} {n c : Nat} {f : Nat → Nat → Value} (h : w.ownsRow base E sz (.slice ad n c) n (flat sz f n)) :
    ∃ b, Rw w ad n sz f b 0 ∧ (ad = none → c = 0) ∧ n ≤ c ∧ (n ≠ 0 → base ≤ b) := by
  obtain ⟨hl, ⟨h1, h2⟩ | ⟨g, cap, cur, h1, h2, h3, h4, h5, h6, h7⟩⟩ := h
  · subst h2
    injection h1 with e1 e2 e3
    subst e1 e3
    exact ⟨0, ⟨Nat.zero_le _, fun h => absurd rfl h, fun i j hi => absurd hi (Nat.not_lt_zero _)⟩, fun _ => rfl, Nat.le_refl _, fun h => absurd rfl h⟩
  · injection h1 with e1 e2 e3
    subst e1 e3
    refine ⟨g, ⟨by unfold maxLen at h5; omega, fun _ => rfl, fun i j hi hj => ?_⟩, (fun h => by cases h), h4, fun _ => h2⟩
    have hf := flat_get sz f hi hj
    have hlt : i * sz + j < n * sz := by
      have := (List.getElem?_eq_some_iff.1 hf).1
      rwa [flat_length] at this
    rw [← h7, List.getElem?_take, if_pos hlt, Array.getElem?_toList] at hf
    rw [Nat.zero_add]
    simp only [World.cell?, h3]
    simpa using hf
/-- a literal of one struct -/
theorem own_literal (w : World) (E : TypeId) (sz n : Nat) (cs : Array Value) (base : Nat) (hb : base ≤ w.heap.size) (hn : n ≤ maxLen) (hs : cs.size = n * sz) : (w.alloc (.cells cs E)).ownsRow base E sz (.slice (some ⟨w.heap.size, 0, none⟩) n n) n cs.toList :=
  ⟨by simpa using hs, .inr ⟨w.heap.size, n, cs, rfl, hb, heap_alloc_new w _, Nat.le_refl _, hn, hs, by rw [List.take_of_length_le (by simp [hs])]⟩⟩
theorem infoCase : (Tryz.prog.info? 44).map (fun i => (i.zero, i.size, i.bytes)) = some (some (.agg #[.string .empty, .slice none 0 0]), 2, 40) := by kernel_rfl
theorem infoVal : (Tryz.prog.info? 46).map (fun i => (i.zero, i.size, i.bytes)) = some (some (.agg #[.string .empty, .int .i64 0, .string .empty, .int .i64 0, .slice none 0 0]), 5, 72) := by kernel_rfl
section
variable {P : Program} {T E : TypeId} {z : Value} {sz bytes : Nat}
/-- one row behind another, which may be nil -/
theorem run_app_rows {w : World} (ty : TypeId) (hT : P.underlying T = some (.slice E)) (info : (P.info? E).map (fun i => (i.zero, i.size, i.bytes)) = some (some z, sz, bytes)) (hzs : z.cells.size = sz) (hsz : 0 < sz)
    (base : Nat) (ad : Option Addr) (k c : Nat) (ys : List Value) (hown : w.ownsRow base E sz (.slice ad k c) k ys) (ad2 : Option Addr) (n c2 : Nat) (f : Nat → Nat → Value) (b off : Nat)
    (hx : Rw w ad2 n sz f b off) (hc : ad2 = none → c2 = 0) (h1 : ∀ i j, i < n → j < sz → (f i j).oneCell' = true) (h63 : k + n ≤ maxLen) (hr : (k + n) * bytes ≤ 140737488355328) (hb : base ≤ w.heap.size) :
    ∃ ad' c' w', (Builtin.append_ #[T, T] ty #[.slice ad k c, .slice ad2 n c2]).run P w = .ok (.slice ad' (k + n) c') w' ∧
      w'.ownsRow base E sz (.slice ad' (k + n) c') (k + n) (ys ++ flat sz f n) ∧ w.grownBy w' (Value.ownBlock (.slice ad k c)) := by
  obtain ⟨i0, hi, hz0, hz1, hz2⟩ := info_parts info
  by_cases h0 : n = 0
  · subst h0
    cases ad2 with
    | none =>
      obtain rfl := hc rfl
      exact ⟨ad, c, w, run_append_owned_none w base T ty E i0 sz hT hi (.slice ad k c) k ys hown, by simpa [flat] using hown, World.grownBy.refl _ _⟩
    | some A2 =>
      obtain ⟨v', w', k1, k2, k3, k4⟩ := run_append_own (P := P) (w := w) base T ty E i0 z sz bytes hT hi hz0 hz1 hz2 hzs hsz (.slice ad k c) k ys hown A2 0 c2 [] (by simp) (fun j u h => by simp at h) (fun u h => by cases h) h63 hr hb
      obtain ⟨ad', c', rfl⟩ := own_shape k2
      exact ⟨ad', c', w', k1, by simpa [flat] using k2, k3⟩
  · have ha := hx.adr h0
    subst ha
    have news : ∀ q u, (flat sz f n)[q]? = some u → w.cell? ((⟨b, off, none⟩ : Addr).add q) = some u := by
      intro q u hu
      obtain ⟨i, j, rfl, hi, hj, rfl⟩ := flat_get_inv hsz hu
      have := hx.cell i j hi hj
      rw [Nat.add_assoc] at this
      unfold Addr.add
      split
      · rename_i h
        rw [h, Nat.add_zero] at this
        exact this
      · exact this
    obtain ⟨v', w', k1, k2, k3, k4⟩ := run_append_own (P := P) (w := w) base T ty E i0 z sz bytes hT hi hz0 hz1 hz2 hzs hsz (.slice ad k c) k ys hown ⟨b, off, none⟩ n c2 (flat sz f n)
      (flat_length _ _ _) news (fun u hu => by obtain ⟨i, j, hi, hj, rfl⟩ := flat_mem hu; exact h1 i j hi hj) h63 hr hb
    obtain ⟨ad', c', rfl⟩ := own_shape k2
    exact ⟨ad', c', w', k1, k2, k3⟩
/-- at an operation -/
theorem wp_app_rows {w : World} {o : Oper} {a : Act} {K : Act → World → Prop} {Q : Exit → Act → World → Prop} (s x : Operand) (ho : o.op = .call { callee := .builtin .append, args := #[s, x], argTypes := #[T, T] })
    (hT : P.underlying T = some (.slice E)) (info : (P.info? E).map (fun i => (i.zero, i.size, i.bytes)) = some (some z, sz, bytes)) (hzs : z.cells.size = sz) (hsz : 0 < sz)
    (base : Nat) (ad : Option Addr) (k c : Nat) (ys : List Value) (hs : a.eval s = .slice ad k c) (hown : w.ownsRow base E sz (.slice ad k c) k ys) (ad2 : Option Addr) (n c2 : Nat) (f : Nat → Nat → Value) (b off : Nat) (hxe : a.eval x = .slice ad2 n c2)
    (hx : Rw w ad2 n sz f b off) (hc : ad2 = none → c2 = 0) (h1 : ∀ i j, i < n → j < sz → (f i j).oneCell' = true) (h63 : k + n ≤ maxLen) (hr : (k + n) * bytes ≤ 140737488355328) (hb : base ≤ w.heap.size)
    (h : ∀ ad' c' w', w'.ownsRow base E sz (.slice ad' (k + n) c') (k + n) (ys ++ flat sz f n) → w.grownBy w' (Value.ownBlock (.slice ad k c)) → K (a.put o.dst (.slice ad' (k + n) c')) w') : o.wp P a w K Q := by
  obtain ⟨ad', c', w', g1, g2, g3⟩ := run_app_rows o.type hT info hzs hsz base ad k c ys hown ad2 n c2 f b off hx hc h1 h63 hr hb
  unfold Oper.wp execOp
  simp only [ho, resolve, invoke, builtin, Sem.run_bind, Sem.run_pure, Result.andThen_ok, List.map_toArray, List.map_cons, List.map_nil, hs, hxe, g1]
  exact h ad' c' w' g2 g3
/-- in a list of operations -/
theorem wpList_app_rows {w : World} {ops : Array Oper} {rest : List Oper} {o : Oper} {a : Act} {Q : Exit → Act → World → Prop} (hgd : o.guard = none) (s x : Operand) (ho : o.op = .call { callee := .builtin .append, args := #[s, x], argTypes := #[T, T] })
    (hT : P.underlying T = some (.slice E)) (info : (P.info? E).map (fun i => (i.zero, i.size, i.bytes)) = some (some z, sz, bytes)) (hzs : z.cells.size = sz) (hsz : 0 < sz)
    (base : Nat) (ad : Option Addr) (k c : Nat) (ys : List Value) (hs : a.eval s = .slice ad k c) (hown : w.ownsRow base E sz (.slice ad k c) k ys) (ad2 : Option Addr) (n c2 : Nat) (f : Nat → Nat → Value) (b off : Nat) (hxe : a.eval x = .slice ad2 n c2)
    (hx : Rw w ad2 n sz f b off) (hc : ad2 = none → c2 = 0) (h1 : ∀ i j, i < n → j < sz → (f i j).oneCell' = true) (h63 : k + n ≤ maxLen) (hr : (k + n) * bytes ≤ 140737488355328) (hb : base ≤ w.heap.size)
    (h : ∀ ad' c' w', w'.ownsRow base E sz (.slice ad' (k + n) c') (k + n) (ys ++ flat sz f n) → w.grownBy w' (Value.ownBlock (.slice ad k c)) → wpList P ops Q rest (a.put o.dst (.slice ad' (k + n) c')) w') : wpList P ops Q (o :: rest) a w :=
  wpList_plain hgd fun _ hK => wp_app_rows s x ho hT info hzs hsz base ad k c ys hs hown ad2 n c2 f b off hxe hx hc h1 h63 hr hb fun ad' c' w' h2 h3 => hK _ _ (h ad' c' w' h2 h3)
/-- at a step of a region that draws its order -/
theorem step_app_rows {w : World} {ops : Array Oper} {o : Oper} {a : Act} {K : Act → World → Prop} {Q : Exit → Act → World → Prop} {R : Prop} (hgd : o.guard = none) (s x : Operand) (ho : o.op = .call { callee := .builtin .append, args := #[s, x], argTypes := #[T, T] })
    (hT : P.underlying T = some (.slice E)) (info : (P.info? E).map (fun i => (i.zero, i.size, i.bytes)) = some (some z, sz, bytes)) (hzs : z.cells.size = sz) (hsz : 0 < sz)
    (base : Nat) (ad : Option Addr) (k c : Nat) (ys : List Value) (hs : a.eval s = .slice ad k c) (hown : w.ownsRow base E sz (.slice ad k c) k ys) (ad2 : Option Addr) (n c2 : Nat) (f : Nat → Nat → Value) (b off : Nat) (hxe : a.eval x = .slice ad2 n c2)
    (hx : Rw w ad2 n sz f b off) (hc : ad2 = none → c2 = 0) (h1 : ∀ i j, i < n → j < sz → (f i j).oneCell' = true) (h63 : k + n ≤ maxLen) (hr : (k + n) * bytes ≤ 140737488355328) (hb : base ≤ w.heap.size)
    (h : ∀ ad' c' w', w'.ownsRow base E sz (.slice ad' (k + n) c') (k + n) (ys ++ flat sz f n) → w.grownBy w' (Value.ownBlock (.slice ad k c)) → K (a.put o.dst (.slice ad' (k + n) c')) w') :
    if Region.wanted o (yielded ops a.tmps) = true then Oper.wp P o a w K Q else R := by
  have hw : Region.wanted o (yielded ops a.tmps) = true := by simp [Region.wanted, hgd]
  rw [if_pos hw]
  exact wp_app_rows s x ho hT info hzs hsz base ad k c ys hs hown ad2 n c2 f b off hxe hx hc h1 h63 hr hb h
end
end Go.Proofs.YtadhblppeaamlaaGreatDoor
/- Walks: whether rules, a part and values are few; what it says of the part's name. -/
namespace Go.Proofs.YtadhblppeaamlaaGreatDoor
open Go.RowKit
attribute [local go_sem] Ext.cell Ext.frozen
attribute [local go_sem ↓] Go.wp_at_zero Go.wp_at_succ

theorem one_rw {w : World} {p : Nat → Value} (e : TypeId) : Rw (w.alloc (.cells #[p 0, p 1, p 2, p 3, p 4, p 5] e)) (some ⟨w.heap.size, 0, none⟩) 1 6 (fun _ => p) w.heap.size 0 :=
  ⟨by omega, fun _ => rfl, fun i j hi hj => by
    obtain rfl : i = 0 := by omega
    rcases (by omega : j = 0 ∨ j = 1 ∨ j = 2 ∨ j = 3 ∨ j = 4 ∨ j = 5) with e | e | e | e | e | e <;> subst e <;> simp [go_sem]⟩
set_option maxRecDepth 20000 in
set_option maxHeartbeats 8000000 in
theorem short_top (d : Nat) (ad : Option Addr) (n c : Nat) (f : Nat → Nat → Value) (b off : Nat) (w : World) (hr : Rw w ad n 6 f b off) (hf : ∀ i, i < n → PartC (PartsT d) w (f i)) :
    Calls Tryz.prog 46 #[.slice ad n c] w (BoolIfB w (∀ i, i < n → ∀ s : ByteArray, f i 2 = .string s → s.size ≤ 60)) := by
  have IH := Lib.hid (fun v w h => short_any d v w h)
  have HR := Lib.hid hr
  have HF := Lib.hid hf
  have hnm := hr.max
  clear hr hf
  go_enter Tryz.func46, Tryz.ntmps46
  go_wp2_with fail
  go_loopw [3] (fun v wr => ∃ (k : Nat), v = .int .i64 (k : Int) ∧ k ≤ n ∧ (∀ i, i < k → ∀ s : ByteArray, f i 2 = .string s → s.size ≤ 60) ∧ Below w.heap.size w wr) (fun v _ => n - (intOf v).toNat)
  case atStart => exact ⟨0, rfl, Nat.zero_le _, fun i hi => absurd hi (Nat.not_lt_zero _), Below.refl _ _⟩
  case round =>
    obtain ⟨wo, rfl⟩ : ∃ wo : World, wo = wr := ⟨_, rfl⟩
    obtain ⟨k, rfl, hkn, hnm, hbl⟩ := hrel
    have HNM := Lib.hid hnm
    clear hnm
    have HBL := Lib.hid hbl
    clear hbl
    by_cases hlt : k < n
    · have hrr := HR.out.below HBL.out
      have hix := fun W => HR.out.ix 32 34 Tryz.underlying32 (by kernel_rfl) (by omega) hlt c W
      obtain ⟨_, _, ⟨s2, e2, hs2⟩, ⟨s3, e3, hs3⟩, ⟨cad, cn, cc, g, cb, coff, e4, hcr, _, _, hcn, hg⟩, h5⟩ := HF.out k hlt
      have c5 : wo.cell? ⟨b, off + k * 6 + 5, none⟩ = some (f k 5) := hrr.cell k 5 hlt (by omega)
      have c2 : wo.cell? ⟨b, off + k * 6 + 2, none⟩ = some (f k 2) := hrr.cell k 2 hlt (by omega)
      have c3 : wo.cell? ⟨b, off + k * 6 + 3, none⟩ = some (f k 3) := hrr.cell k 3 hlt (by omega)
      rw [e2] at c2
      have E2 := Lib.hid e2
      rw [e3] at c3
      have c4 := HR.out.cell k 4 hlt (by omega)
      rw [e4] at c4
      have C4 := Lib.hid c4
      have hbz : b < w.heap.size := World.block_lt_of_cell? _ _ c4
      have HCR := Lib.hid hcr
      have HG := Lib.hid hg
      have HCALL := Lib.hid (IH.out (f k 5) wo (h5.below HBL.out))
      have hcm := hcr.max
      clear hrr c4 e4 e2 e3 hcr hg h5
      generalize f k 5 = v5 at *
      by_cases g2 : 60 < (s2.size : Int)
      · have g2' : decide (60 < (s2.size : Int)) = true := by simpa using g2
        go_wp2_with fail
        go_ret
        exact ⟨_, rfl, HBL.out, fun h => by cases h⟩
      have g2' : decide (60 < (s2.size : Int)) = false := by simpa using g2
      have HNM2 : Hid (∀ i, i < k + 1 → ∀ s : ByteArray, f i 2 = .string s → s.size ≤ 60) := fun i hi s hs => by
        by_cases e : i = k
        · subst e
          rw [E2.out] at hs
          injection hs with hs
          subst hs
          omega
        · exact HNM.out i (by omega) s hs
      by_cases g3 : 60 < (s3.size : Int)
      · have g3' : decide (60 < (s3.size : Int)) = true := by simpa using g3
        go_wp2_with fail
        go_ret
        exact ⟨_, rfl, HBL.out, fun h => by cases h⟩
      have g3' : decide (60 < (s3.size : Int)) = false := by simpa using g3
      go_wp2_with fail
      refine HCALL.out.mono ?_
      rintro e w2 ⟨q2, rfl, hb2⟩
      have HB2 : Hid (Below w.heap.size w w2) := HBL.out.trans (hb2.mono HBL.out.size)
      clear hb2 c5 c2 c3 HCALL
      cases q2
      · go_wp2_with fail
        go_ret
        exact ⟨_, rfl, HB2.out, fun h => by cases h⟩
      go_wp2_with fail
      go_loopw [4] (fun v wi => ∃ (q : Nat), v = .int .i64 (q : Int) ∧ q ≤ cn ∧ Below w.heap.size w wi) (fun v _ => cn - (intOf v).toNat)
      case atStart => exact ⟨0, rfl, Nat.zero_le _, HB2.out⟩
      case round =>
        obtain ⟨wi, rfl⟩ : ∃ wi : World, wi = wr := ⟨_, rfl⟩
        obtain ⟨q, rfl, hqn, hbi⟩ := hrel
        have HBI := Lib.hid hbi
        clear hbi
        have d4 : wi.cell? ⟨b, off + k * 6 + 4, none⟩ = some (.slice cad cn cc) := (HBI.out.cell (p := ⟨b, off + k * 6 + 4, none⟩) hbz).trans C4.out
        by_cases hlt2 : q < cn
        · have hcrr := HCR.out.below HBI.out
          have hix2 := fun W => HCR.out.ix 31 44 Tryz.underlying31 (by kernel_rfl) (by omega) hlt2 cc W
          have d1 : wi.cell? ⟨cb, coff + q * 2 + 1, none⟩ = some (g q 1) := hcrr.cell q 1 hlt2 (by omega)
          have d0 : wi.cell? ⟨cb, coff + q * 2, none⟩ = some (g q 0) := hcrr.cell q 0 hlt2 (by omega)
          obtain ⟨s0, e0, hs0⟩ := (HG.out q hlt2).1
          rw [e0] at d0
          have HCALL := Lib.hid (IH.out (g q 1) wi ((HG.out q hlt2).2.below HBI.out))
          clear hcrr e0
          generalize g q 1 = v1 at *
          by_cases g0 : 60 < (s0.size : Int)
          · have g0' : decide (60 < (s0.size : Int)) = true := by simpa using g0
            go_wp2_with fail
            go_ret
            exact ⟨_, rfl, HBI.out, fun h => by cases h⟩
          have g0' : decide (60 < (s0.size : Int)) = false := by simpa using g0
          go_wp2_with fail
          refine HCALL.out.mono ?_
          rintro e w4 ⟨z4, rfl, hb4⟩
          have HB4 : Hid (Below w.heap.size w w4) := HBI.out.trans (hb4.mono HBI.out.size)
          clear hb4 d1 d4 d0 HCALL
          cases z4
          · go_wp2_with fail
            go_ret
            exact ⟨_, rfl, HB4.out, fun h => by cases h⟩
          go_wp2_with fail
          go_roundw
          case rel => exact ⟨q + 1, by go_num, by omega, HB4.out⟩
          case measure => simp [intOf]; omega
        · obtain rfl : q = cn := by omega
          go_wp2_with fail
          go_roundw
          case rel => exact ⟨k + 1, by go_num, by omega, HNM2.out, HBI.out⟩
          case measure => simp [intOf]; omega
    · obtain rfl : k = n := by omega
      go_wp2_with fail
      go_ret
      exact ⟨_, rfl, HBL.out, fun _ => HNM.out⟩
set_option maxRecDepth 20000 in
set_option maxHeartbeats 4000000 in
theorem pfew_top (d : Nat) (v : Value) (w : World) (h : PartsT d w v) (N : Prop) (hN : ∀ W, Below w.heap.size w W → Calls Tryz.prog 46 #[v] W (BoolIfB W N)) : Calls Tryz.prog 22 #[v] w (BoolIfB w N) := by
  have HD := Lib.hid (fun W (g : Below w.heap.size w W) => depth_any d v W (h.below g))
  have HS := Lib.hid (fun W (g : Below w.heap.size w W) => psize_any d v W (h.below g))
  have HH := Lib.hid hN
  clear h hN
  go_enter Tryz.func22, Tryz.ntmps22
  go_wp2_with fail
  refine (HD.out _ (Below.refl _ _)).mono ?_
  rintro e w1 ⟨z1, rfl, hb1⟩
  have HB1 := Lib.hid hb1
  clear hb1
  by_cases h1 : z1 ≤ 12
  · have h1' : decide (z1 ≤ 12) = true := by simpa using h1
    go_wp2_with fail
    refine (HS.out _ HB1.out).mono ?_
    rintro e w2 ⟨z2, rfl, hb2⟩
    have HB2 : Hid (Below w.heap.size w w2) := HB1.out.trans (hb2.mono HB1.out.size)
    clear hb2
    by_cases h2 : z2 ≤ 300
    · have h2' : decide (z2 ≤ 300) = true := by simpa using h2
      go_wp2_with fail
      refine (HH.out _ HB2.out).mono ?_
      rintro e w3 ⟨q3, rfl, hb3, hq3⟩
      have HQ3 := Lib.hid hq3
      clear hq3
      have HB3 : Hid (Below w.heap.size w w3) := HB2.out.trans (hb3.mono HB2.out.size)
      clear hb3
      go_wp2_with fail
      go_ret
      exact ⟨_, rfl, HB3.out, HQ3.out⟩
    · have h2' : decide (z2 ≤ 300) = false := by simpa using h2
      go_wp2_with fail
      go_ret
      exact ⟨_, rfl, HB2.out, fun h => by cases h⟩
  · have h1' : decide (z1 ≤ 12) = false := by simpa using h1
    go_wp2_with fail
    go_ret
    exact ⟨_, rfl, HB1.out, fun h => by cases h⟩
set_option maxRecDepth 20000 in
set_option maxHeartbeats 4000000 in
theorem few31_top (x p : Nat → Value) (a b : List (ByteArray × List (List Rel))) (vs : List Vl) (vv : Value) (d : Nat) (w : World) (h : LocC w x a b) (hp : PartC (PartsT d) w p) (hvv : ValsAt w vv vs) :
    Calls Tryz.prog 10 #[.agg #[x 0, x 1, x 2, x 3, x 4, x 5, x 6, x 7, x 8, x 9, x 10, x 11, x 12, x 13, x 14, x 15], .agg #[p 0, p 1, p 2, p 3, p 4, p 5], vv] w (BoolIfB w ((FewC a ∧ FewC b ∧ FewV2 vs) ∧ ∀ s : ByteArray, p 2 = .string s → s.size ≤ 60)) := by
  have HFR : Hid (∀ W, Below w.heap.size w W → Calls Tryz.prog 18 #[.agg #[x 0, x 1, x 2, x 3, x 4, x 5, x 6, x 7, x 8, x 9, x 10, x 11, x 12, x 13, x 14, x 15]] W (BoolIfB W (FewC a ∧ FewC b))) := fun W g => fewrules_any x a b W (h.below g)
  have HPF : Hid (∀ W e, Below w.heap.size w W → Calls Tryz.prog 22 #[.slice (some ⟨W.heap.size, 0, none⟩) 1 1] (W.alloc (.cells #[p 0, p 1, p 2, p 3, p 4, p 5] e)) (BoolIfB (W.alloc (.cells #[p 0, p 1, p 2, p 3, p 4, p 5] e)) (∀ s : ByteArray, p 2 = .string s → s.size ≤ 60))) := fun W e g => pfew_top (d + 1) _ _ (part_one (hp.below g) e) _ fun W2 g2 => (short_top d (some ⟨W.heap.size, 0, none⟩) 1 1 (fun _ => p) W.heap.size 0 W2 ((one_rw (w := W) (p := p) e).below g2) (fun i hi => (hp.below g).below (((Below.refl _ _).alloc (Nat.le_refl _) _).trans (g2.mono (by simp))))).mono fun e' w' h => by
    obtain ⟨q, h1, h2, h3⟩ := h
    exact ⟨q, h1, h2, fun h => h3 h 0 (by omega)⟩
  have HFV : Hid (∀ W, Below w.heap.size w W → Calls Tryz.prog 19 #[vv] W (BoolIf W (FewV2 vs))) := fun W g => vfew2_any vv vs W (hvv.below g)
  clear h hp hvv
  generalize x 0 = x0 at *
  generalize x 1 = x1 at *
  generalize x 2 = x2 at *
  generalize x 3 = x3 at *
  generalize x 4 = x4 at *
  generalize x 5 = x5 at *
  generalize x 6 = x6 at *
  generalize x 7 = x7 at *
  generalize x 8 = x8 at *
  generalize x 9 = x9 at *
  generalize x 10 = x10 at *
  generalize x 11 = x11 at *
  generalize x 12 = x12 at *
  generalize x 13 = x13 at *
  generalize x 14 = x14 at *
  generalize x 15 = x15 at *
  generalize p 0 = p0 at *
  generalize p 1 = p1 at *
  generalize p 2 = p2 at *
  generalize p 3 = p3 at *
  generalize p 4 = p4 at *
  generalize p 5 = p5 at *
  go_enter Tryz.func10, Tryz.ntmps10
  go_wp2_with fail
  refine (HFR.out _ ?_).mono ?_
  · show Bel w _; repeat (first | exact Bel.refl _ | refine Bel.alloc ?_ _)
  rintro e W1 ⟨q1, rfl, hb1, hq1⟩
  have HB1 : Hid (Below w.heap.size w W1) := Below.trans (by show Bel w _; exact ((Bel.refl _).alloc _).alloc _) (hb1.mono (by simp; omega))
  have HRP : Hid (W1.heap[w.heap.size + 1]? = some (.cells #[p0, p1, p2, p3, p4, p5] 34 (0, 0))) := (hb1.block _ (by simp)).trans (row_second w _ _ _)
  have HQ1 := Lib.hid hq1
  clear hb1 hq1
  cases q1
  · go_wp2_with fail
    go_ret
    exact ⟨false, rfl, HB1.out, fun h => by cases h⟩
  have c0 : W1.cell? ⟨w.heap.size + 1, 0, none⟩ = some p0 := by rw [Lib.cell_of_heap HRP.out]; rfl
  have c1 : W1.cell? ⟨w.heap.size + 1, 1, none⟩ = some p1 := by rw [Lib.cell_of_heap HRP.out]; rfl
  have c2 : W1.cell? ⟨w.heap.size + 1, 2, none⟩ = some p2 := by rw [Lib.cell_of_heap HRP.out]; rfl
  have c3 : W1.cell? ⟨w.heap.size + 1, 3, none⟩ = some p3 := by rw [Lib.cell_of_heap HRP.out]; rfl
  have c4 : W1.cell? ⟨w.heap.size + 1, 4, none⟩ = some p4 := by rw [Lib.cell_of_heap HRP.out]; rfl
  have c5 : W1.cell? ⟨w.heap.size + 1, 5, none⟩ = some p5 := by rw [Lib.cell_of_heap HRP.out]; rfl
  go_wp2_with fail
  refine (HPF.out _ _ HB1.out).mono ?_
  rintro e W2 ⟨q2, rfl, hb2, hq2⟩
  have HQ2 := Lib.hid hq2
  clear hq2
  have HB2 : Hid (Below w.heap.size w W2) := Below.trans (by show Bel w _; exact Bel.alloc HB1.out _) (hb2.mono (by have := HB1.out.size; simp; omega))
  clear hb2 c0 c1 c2 c3 c4 c5
  cases q2
  · go_wp2_with fail
    go_ret
    exact ⟨false, rfl, HB2.out, fun h => by cases h⟩
  go_wp2_with fail
  refine (HFV.out _ HB2.out).mono ?_
  rintro e _ ⟨q3, rfl, rfl, hq3⟩
  have HQ3 := Lib.hid hq3
  clear hq3
  go_wp2_with fail
  go_ret
  exact ⟨q3, rfl, HB2.out, fun h => ⟨⟨(HQ1.out trivial).1, (HQ1.out trivial).2, HQ3.out h⟩, HQ2.out trivial⟩⟩
end Go.Proofs.YtadhblppeaamlaaGreatDoor
