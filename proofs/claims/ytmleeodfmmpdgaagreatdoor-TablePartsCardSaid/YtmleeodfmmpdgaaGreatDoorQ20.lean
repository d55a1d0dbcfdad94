/- Rows of structs of the call's own: what they hold, and one row behind another; whatever the struct. -/
import Derived.Test.YtmleeodfmmpdgaaGreatDoorQ00
import Derived.Test.YtmleeodfmmpdgaaGreatDoorQ19
import Derived.Laws.AppendOwn
import Derived.Laws.AppendOwnNone
import Derived.Deep.AppendLies
import Derived.Shelf.Strings.Search3
namespace Go.Proofs.YtmleeodfmmpdgaaGreatDoor
open Go.RowKit

/-- the cells of n structs of sz cells each -/
def flat (sz : Nat) (f : Nat → Nat → Value) (n : Nat) : List Value := (List.range n).flatMap fun i => (List.range sz).map (f i)
theorem flat_succ (sz : Nat) (f : Nat → Nat → Value) (n : Nat) : flat sz f (n + 1) = flat sz f n ++ (List.range sz).map (f n) := by simp [flat, List.range_succ]
theorem flat_length (sz : Nat) (f : Nat → Nat → Value) : ∀ n, (flat sz f n).length = n * sz
  | 0 => by simp [flat]
  | n + 1 => by rw [flat_succ, List.length_append, flat_length sz f n, List.length_map, List.length_range, Nat.succ_mul]
theorem flat_get (sz : Nat) (f : Nat → Nat → Value) : ∀ {n i j : Nat}, i < n → j < sz → (flat sz f n)[i * sz + j]? = some (f i j)
  | 0, _, _, hi, _ => absurd hi (Nat.not_lt_zero _)
  | n + 1, i, j, hi, hj => by
    rw [flat_succ]
    by_cases h : i < n
    · have : i * sz + j < (flat sz f n).length := by
        rw [flat_length]
        have := Nat.mul_le_mul_right sz (show i + 1 ≤ n by omega)
        rw [Nat.succ_mul] at this
        omega
      rw [List.getElem?_append_left this]
      exact flat_get sz f h hj
    · obtain rfl : i = n := by omega
      rw [List.getElem?_append_right (by rw [flat_length]; omega), flat_length, Nat.add_sub_cancel_left]
      simp [hj]
theorem flat_mem {sz : Nat} {f : Nat → Nat → Value} {n : Nat} {u : Value} (h : u ∈ flat sz f n) : ∃ i j, i < n ∧ j < sz ∧ u = f i j := by
  obtain ⟨i, hi, hu⟩ := List.mem_flatMap.1 h
  obtain ⟨j, hj, e⟩ := List.mem_map.1 hu
  exact ⟨i, j, List.mem_range.1 hi, List.mem_range.1 hj, e.symm⟩
theorem flat_get_inv {sz : Nat} {f : Nat → Nat → Value} {n q : Nat} {u : Value} (hs : 0 < sz) (h : (flat sz f n)[q]? = some u) : ∃ i j, q = i * sz + j ∧ i < n ∧ j < sz ∧ u = f i j := by
  have hq : q < n * sz := by rw [← flat_length sz f n]; exact (List.getElem?_eq_some_iff.1 h).1
  have h1 : q / sz < n := by rw [Nat.div_lt_iff_lt_mul hs]; exact hq
  have h2 : q % sz < sz := Nat.mod_lt _ hs
  have h3 : q = q / sz * sz + q % sz := by rw [Nat.mul_comm]; exact (Nat.div_add_mod q sz).symm
  refine ⟨q / sz, q % sz, h3, h1, h2, ?_⟩
  rw [h3, flat_get sz f h1 h2] at h
  injection h with h
  rw [← h]
theorem flat_append (sz : Nat) (f g : Nat → Nat → Value) (k n : Nat) : flat sz f k ++ flat sz g n = flat sz (fun i j => if i < k then f i j else g (i - k) j) (k + n) := by
  have h1 : flat sz f k = flat sz (fun i j => if i < k then f i j else g (i - k) j) k := by
    unfold flat
    refine congrArg List.flatten (List.map_congr_left fun i hi => List.map_congr_left fun j _ => ?_)
    show f i j = if i < k then f i j else g (i - k) j
    rw [if_pos (List.mem_range.1 hi)]
  induction n with
  | zero => simpa [flat] using h1
  | succ n ih =>
    rw [flat_succ, ← List.append_assoc, ih, ← Nat.add_assoc, flat_succ]
    congr 1
    refine List.map_congr_left fun j _ => ?_
    show g n j = if k + n < k then f (k + n) j else g (k + n - k) j
    rw [if_neg (by omega), Nat.add_sub_cancel_left]
theorem own_shape {w : World} {base : Nat} {E : TypeId} {size : Nat} {v : Value} {n : Nat} {xs : List Value} (h : w.ownsRow base E size v n xs) : ∃ ad c, v = .slice ad n c := by
  obtain ⟨_, ⟨rfl, rfl⟩ | ⟨g, cap, cur, rfl, _⟩⟩ := h
  · exact ⟨_, _, rfl⟩
  · exact ⟨_, _, rfl⟩
theorem own_below {w w' : World} {base sz : Nat} {E : TypeId} {v : Value} {n : Nat} {xs : List Value} (h : w.ownsRow base E sz v n xs) (hb : Below w.heap.size w w') : w'.ownsRow base E sz v n xs := by
  refine ⟨h.1, ?_⟩
  rcases h.2 with h2 | ⟨g, cap, cur, h1, h2, h3, h4⟩
  · exact .inl h2
  · have hg : g < w.heap.size := by
      rcases Nat.lt_or_ge g w.heap.size with h' | h'
      · exact h'
      · simp [Array.getElem?_eq_none h'] at h3
    exact .inr ⟨g, cap, cur, h1, h2, (hb.block g hg).trans h3, h4⟩
theorem own_rebaseU {w : World} {base base' : Nat} {E : TypeId} {sz : Nat} {v : Value} {n : Nat} {xs : List Value} (h : w.ownsRow base E sz v n xs) (hb : base' ≤ base) : w.ownsRow base' E sz v n xs := by
  refine ⟨h.1, ?_⟩
  rcases h.2 with h2 | ⟨g, cap, cur, h1, h2, h3⟩
  · exact .inl h2
  · exact .inr ⟨g, cap, cur, h1, by omega, h3⟩
/-- what a row of the call's own holds -/
theorem own_rw {w : World} {base : Nat} {E : TypeId} {sz : Nat} {ad : Option Addr} {n c : Nat} {f : Nat → Nat → Value} (h : w.ownsRow base E sz (.slice ad n c) n (flat sz f n)) :
    ∃ b, Rw w ad n sz f b 0 ∧ (ad = none → c = 0) ∧ n ≤ c ∧ (n ≠ 0 → base ≤ b) := by
  obtain ⟨hl, ⟨h1, h2⟩ | ⟨g, cap, cur, h1, h2, h3, h4, h5, h6, h7⟩⟩ := h
  · subst h2
    injection h1 with e1 e2 e3
    subst e1 e3
    exact ⟨0, ⟨Nat.zero_le _, fun h => absurd rfl h, fun i j hi => absurd hi (Nat.not_lt_zero _)⟩, fun _ => rfl, Nat.le_refl _, fun h => absurd rfl h⟩
  · injection h1 with e1 e2 e3
    subst e1 e3
    refine ⟨g, ⟨by unfold maxLen at h5; omega, fun _ => rfl, fun i j hi hj => ?_⟩, (fun h => by cases h), h4, fun _ => h2⟩
    have hf := flat_get sz f hi hj
    have hlt : i * sz + j < n * sz := by
      have := (List.getElem?_eq_some_iff.1 hf).1
      rwa [flat_length] at this
    rw [← h7, List.getElem?_take, if_pos hlt, Array.getElem?_toList] at hf
    rw [Nat.zero_add]
    simp only [World.cell?, h3]
    simpa using hf
/-- a literal of one struct -/
theorem own_literal (w : World) (E : TypeId) (sz n : Nat) (cs : Array Value) (base : Nat) (hb : base ≤ w.heap.size) (hn : n ≤ maxLen) (hs : cs.size = n * sz) : (w.alloc (.cells cs E)).ownsRow base E sz (.slice (some ⟨w.heap.size, 0, none⟩) n n) n cs.toList :=
  ⟨by simpa using hs, .inr ⟨w.heap.size, n, cs, rfl, hb, heap_alloc_new w _, Nat.le_refl _, hn, hs, by rw [List.take_of_length_le (by simp [hs])]⟩⟩
section
variable {P : Program} {T E : TypeId} {z : Value} {sz bytes : Nat}
/-- one row behind another, which may be nil -/
theorem run_app_rows {w : World} (ty : TypeId) (hT : P.underlying T = some (.slice E)) (info : (P.info? E).map (fun i => (i.zero, i.size, i.bytes)) = some (some z, sz, bytes)) (hzs : z.cells.size = sz) (hsz : 0 < sz)
    (base : Nat) (ad : Option Addr) (k c : Nat) (ys : List Value) (hown : w.ownsRow base E sz (.slice ad k c) k ys) (ad2 : Option Addr) (n c2 : Nat) (f : Nat → Nat → Value) (b off : Nat)
    (hx : Rw w ad2 n sz f b off) (hc : ad2 = none → c2 = 0) (h1 : ∀ i j, i < n → j < sz → (f i j).oneCell' = true) (h63 : k + n ≤ maxLen) (hr : (k + n) * bytes ≤ 140737488355328) (hb : base ≤ w.heap.size) :
    ∃ ad' c' w', (Builtin.append_ #[T, T] ty #[.slice ad k c, .slice ad2 n c2]).run P w = .ok (.slice ad' (k + n) c') w' ∧
      w'.ownsRow base E sz (.slice ad' (k + n) c') (k + n) (ys ++ flat sz f n) ∧ w.grownBy w' (Value.ownBlock (.slice ad k c)) := by
  obtain ⟨i0, hi, hz0, hz1, hz2⟩ := info_parts info
  by_cases h0 : n = 0
  · subst h0
    cases ad2 with
    | none =>
      obtain rfl := hc rfl
      exact ⟨ad, c, w, run_append_owned_none w base T ty E i0 sz hT hi (.slice ad k c) k ys hown, by simpa [flat] using hown, World.grownBy.refl _ _⟩
    | some A2 =>
      obtain ⟨v', w', k1, k2, k3, k4⟩ := run_append_own (P := P) (w := w) base T ty E i0 z sz bytes hT hi hz0 hz1 hz2 hzs hsz (.slice ad k c) k ys hown A2 0 c2 [] (by simp) (fun j u h => by simp at h) (fun u h => by cases h) h63 hr hb
      obtain ⟨ad', c', rfl⟩ := own_shape k2
      exact ⟨ad', c', w', k1, by simpa [flat] using k2, k3⟩
  · have ha := hx.adr h0
    subst ha
    have news : ∀ q u, (flat sz f n)[q]? = some u → w.cell? ((⟨b, off, none⟩ : Addr).add q) = some u := by
      intro q u hu
      obtain ⟨i, j, rfl, hi, hj, rfl⟩ := flat_get_inv hsz hu
      have := hx.cell i j hi hj
      rw [Nat.add_assoc] at this
      unfold Addr.add
      split
      · rename_i h
        rw [h, Nat.add_zero] at this
        exact this
      · exact this
    obtain ⟨v', w', k1, k2, k3, k4⟩ := run_append_own (P := P) (w := w) base T ty E i0 z sz bytes hT hi hz0 hz1 hz2 hzs hsz (.slice ad k c) k ys hown ⟨b, off, none⟩ n c2 (flat sz f n)
      (flat_length _ _ _) news (fun u hu => by obtain ⟨i, j, hi, hj, rfl⟩ := flat_mem hu; exact h1 i j hi hj) h63 hr hb
    obtain ⟨ad', c', rfl⟩ := own_shape k2
    exact ⟨ad', c', w', k1, k2, k3⟩
/-- at an operation -/
theorem wp_app_rows {w : World} {o : Oper} {a : Act} {K : Act → World → Prop} {Q : Exit → Act → World → Prop} (s x : Operand) (ho : o.op = .call { callee := .builtin .append, args := #[s, x], argTypes := #[T, T] })
    (hT : P.underlying T = some (.slice E)) (info : (P.info? E).map (fun i => (i.zero, i.size, i.bytes)) = some (some z, sz, bytes)) (hzs : z.cells.size = sz) (hsz : 0 < sz)
    (base : Nat) (ad : Option Addr) (k c : Nat) (ys : List Value) (hs : a.eval s = .slice ad k c) (hown : w.ownsRow base E sz (.slice ad k c) k ys) (ad2 : Option Addr) (n c2 : Nat) (f : Nat → Nat → Value) (b off : Nat) (hxe : a.eval x = .slice ad2 n c2)
    (hx : Rw w ad2 n sz f b off) (hc : ad2 = none → c2 = 0) (h1 : ∀ i j, i < n → j < sz → (f i j).oneCell' = true) (h63 : k + n ≤ maxLen) (hr : (k + n) * bytes ≤ 140737488355328) (hb : base ≤ w.heap.size)
    (h : ∀ ad' c' w', w'.ownsRow base E sz (.slice ad' (k + n) c') (k + n) (ys ++ flat sz f n) → w.grownBy w' (Value.ownBlock (.slice ad k c)) → K (a.put o.dst (.slice ad' (k + n) c')) w') : o.wp P a w K Q := by
  obtain ⟨ad', c', w', g1, g2, g3⟩ := run_app_rows o.type hT info hzs hsz base ad k c ys hown ad2 n c2 f b off hx hc h1 h63 hr hb
  unfold Oper.wp execOp
  simp only [ho, resolve, invoke, builtin, Sem.run_bind, Sem.run_pure, Result.andThen_ok, List.map_toArray, List.map_cons, List.map_nil, hs, hxe, g1]
  exact h ad' c' w' g2 g3
/-- in a list of operations -/
theorem wpList_app_rows {w : World} {ops : Array Oper} {rest : List Oper} {o : Oper} {a : Act} {Q : Exit → Act → World → Prop} (hgd : o.guard = none) (s x : Operand) (ho : o.op = .call { callee := .builtin .append, args := #[s, x], argTypes := #[T, T] })
    (hT : P.underlying T = some (.slice E)) (info : (P.info? E).map (fun i => (i.zero, i.size, i.bytes)) = some (some z, sz, bytes)) (hzs : z.cells.size = sz) (hsz : 0 < sz)
    (base : Nat) (ad : Option Addr) (k c : Nat) (ys : List Value) (hs : a.eval s = .slice ad k c) (hown : w.ownsRow base E sz (.slice ad k c) k ys) (ad2 : Option Addr) (n c2 : Nat) (f : Nat → Nat → Value) (b off : Nat) (hxe : a.eval x = .slice ad2 n c2)
    (hx : Rw w ad2 n sz f b off) (hc : ad2 = none → c2 = 0) (h1 : ∀ i j, i < n → j < sz → (f i j).oneCell' = true) (h63 : k + n ≤ maxLen) (hr : (k + n) * bytes ≤ 140737488355328) (hb : base ≤ w.heap.size)
    (h : ∀ ad' c' w', w'.ownsRow base E sz (.slice ad' (k + n) c') (k + n) (ys ++ flat sz f n) → w.grownBy w' (Value.ownBlock (.slice ad k c)) → wpList P ops Q rest (a.put o.dst (.slice ad' (k + n) c')) w') : wpList P ops Q (o :: rest) a w :=
  wpList_plain hgd fun _ hK => wp_app_rows s x ho hT info hzs hsz base ad k c ys hs hown ad2 n c2 f b off hxe hx hc h1 h63 hr hb fun ad' c' w' h2 h3 => hK _ _ (h ad' c' w' h2 h3)
/-- at a step of a region that draws its order -/
theorem step_app_rows {w : World} {ops : Array Oper} {o : Oper} {a : Act} {K : Act → World → Prop} {Q : Exit → Act → World → Prop} {R : Prop} (hgd : o.guard = none) (s x : Operand) (ho : o.op = .call { callee := .builtin .append, args := #[s, x], argTypes := #[T, T] })
    (hT : P.underlying T = some (.slice E)) (info : (P.info? E).map (fun i => (i.zero, i.size, i.bytes)) = some (some z, sz, bytes)) (hzs : z.cells.size = sz) (hsz : 0 < sz)
    (base : Nat) (ad : Option Addr) (k c : Nat) (ys : List Value) (hs : a.eval s = .slice ad k c) (hown : w.ownsRow base E sz (.slice ad k c) k ys) (ad2 : Option Addr) (n c2 : Nat) (f : Nat → Nat → Value) (b off : Nat) (hxe : a.eval x = .slice ad2 n c2)
    (hx : Rw w ad2 n sz f b off) (hc : ad2 = none → c2 = 0) (h1 : ∀ i j, i < n → j < sz → (f i j).oneCell' = true) (h63 : k + n ≤ maxLen) (hr : (k + n) * bytes ≤ 140737488355328) (hb : base ≤ w.heap.size)
    (h : ∀ ad' c' w', w'.ownsRow base E sz (.slice ad' (k + n) c') (k + n) (ys ++ flat sz f n) → w.grownBy w' (Value.ownBlock (.slice ad k c)) → K (a.put o.dst (.slice ad' (k + n) c')) w') :
    if Region.wanted o (yielded ops a.tmps) = true then Oper.wp P o a w K Q else R := by
  have hw : Region.wanted o (yielded ops a.tmps) = true := by simp [Region.wanted, hgd]
  rw [if_pos hw]
  exact wp_app_rows s x ho hT info hzs hsz base ad k c ys hs hown ad2 n c2 f b off hxe hx hc h1 h63 hr hb h
end
end Go.Proofs.YtmleeodfmmpdgaaGreatDoor
/- Walks: conditions, the program's parser: relations. -/
namespace Go.Proofs.YtmleeodfmmpdgaaGreatDoor
open Go.RowKit
attribute [local go_sem] Ext.cell Ext.frozen
attribute [local go_sem ↓] Go.wp_at_zero Go.wp_at_succ
/-- the spans that are read, behind some others -/
def CP.spans (s : List UInt8) (op : Int) : Nat → List (Int × Int) → CP → List (Int × Int) × CP
  | 0, l, p => (l, p)
  | n + 1, l, p =>
    if p.err = 0 then
      (if (CP.next s [44] (CP.span s op l.length p).2).1 then CP.spans s op n (l ++ [(CP.span s op l.length p).1]) (CP.next s [44] (CP.span s op l.length p).2).2
       else (l ++ [(CP.span s op l.length p).1], (CP.next s [44] (CP.span s op l.length p).2).2))
    else (l, p)
def lettersC : List UInt8 := [32, 110, 105, 118, 119, 102, 116]
def CP.relHead (s : List UInt8) (p : CP) : CP :=
  let op := Lib.index lettersC (tokI s p.pos)
  let p1 := if decide ((tokI s p.pos).length = 1) && !decide (op < 1) then p.skip s else (p.skip s).fail 3
  let p2 : CP := { p1 with rel := p1.rel + 1 }
  if 6 < p2.rel then p2.fail 6 else p2
def CP.relation (s : List UInt8) (p : CP) : Rel × CP :=
  let op := Lib.index lettersC (tokI s p.pos)
  let p4 := (CP.take s [bs (tokI s p.pos)] (p.relHead s)).2
  let m := CP.next s [37] p4
  let a := if m.1 then CP.number s (chk3 op) m.2 else (0, m.2)
  let t := CP.take s [bs [61], bs [33, 61]] a.2
  let l := CP.spans s op 6 [] t.2
  (⟨op, a.1, decide (t.1 = [33, 61]), l.1⟩, l.2)
theorem index_any (t : ByteArray) (w : World) (hM : MaxLen w) : Calls Tryz.prog 338 #[.string ⟨#[32, 110, 105, 118, 119, 102, 116]⟩, .string t] w fun e w' => e = .returned (.int .i64 (Lib.index lettersC t.data.toList)) ∧ w = w' := by
  obtain ⟨m, hm⟩ := hM
  exact (Any.strings_Index Tryz.lays143 ⟨#[32, 110, 105, 118, 119, 102, 116]⟩ t m w (by decide) hm).mono fun _ _ ⟨h1, h2⟩ => ⟨h1, h2.symm⟩
theorem MaxLen.kp {w w' : World} {b : Nat} {S : ByteArray} {p : CP} (h : MaxLen w) (hp : Pq w b S p) (k : Kp (oneP b) w w') : MaxLen w' := by
  obtain ⟨m, hm⟩ := h
  refine ⟨m, k.cell (oneP_ne ?_) hm⟩
  intro e
  have e : 1 = b := e
  rw [e, hp.1.cell 0] at hm
  simp at hm
theorem crel1_any (ob : Nat) (op : Int) (n : Nat) (W : World) (h : W.cell? ⟨ob, 0, none⟩ = some (.int .i64 op)) : Calls Tryz.prog 341 #[.int .i64 (n : Int), .pointer (some ⟨ob, 0, none⟩)] W fun e w' => e = .returned (.int .i64 (chk3 op n)) ∧ Below W.heap.size W w' := by
  have HG := Lib.hid (perm_any op n)
  have HV : Hid (chk3 op n = (if permV op n then 0 else 2)) := rfl
  generalize chk3 op n = res at *
  generalize permV op n = q at *
  cases q with
  | true =>
    rw [if_pos rfl] at HV
    go_enter Tryz.func341, Tryz.ntmps341
    go_wp2_with fail
    refine (HG.out _).mono ?_
    rintro _ w2 ⟨rfl, hb⟩
    have HB := Lib.hid hb
    clear hb
    go_wp2_with fail
    go_ret
    exact ⟨by rw [HV.out]; rfl, HB.out⟩
  | false =>
    rw [if_neg (by simp)] at HV
    go_enter Tryz.func341, Tryz.ntmps341
    go_wp2_with fail
    refine (HG.out _).mono ?_
    rintro _ w2 ⟨rfl, hb⟩
    have HB := Lib.hid hb
    clear hb
    go_wp2_with fail
    go_ret
    exact ⟨by rw [HV.out]; rfl, HB.out⟩
theorem CP.num_grow {s : List UInt8} {chk : Int → Int} {p : CP} (he : p.err ≠ 0) : (p.number s chk).2.err ≠ 0 := by
  rw [CP.num_err he]
  exact he
/-- behind four spans a further one is an error -/
theorem CP.span_many {s : List UInt8} {op : Int} {count : Nat} {p : CP} (hc : 4 ≤ count) : (CP.span s op count p).2.err ≠ 0 := by
  have h1 : (CP.number s (chk1 op count) p).2.err ≠ 0 := by
    by_cases he : p.err = 0
    · cases hn : numC (tokI s p.pos) with
      | false => rw [CP.num_no hn]; exact CP.fail_e (by decide) _
      | true =>
        have hk : chk1 op count (decC (tokI s p.pos)) ≠ 0 := by
          unfold chk1
          rw [if_pos hc]
          split <;> decide
        rw [CP.num_bad hn he hk]
        exact CP.fail_e hk _
    · exact CP.num_grow he
  unfold CP.span
  simp only [CP.next_err h1, Bool.false_eq_true, if_false]
  exact h1
theorem CP.spans_stop {s : List UInt8} {op : Int} {l : List (Int × Int)} {p : CP} (n : Nat) (he : p.err ≠ 0) : CP.spans s op n l p = (l, p) := by
  cases n with
  | zero => rfl
  | succ n => rw [CP.spans, if_neg he]
theorem CP.next_true {s t : List UInt8} {p : CP} (h : (p.next s t).1 = true) : (p.next s t).2.err = 0 ∧ p.err = 0 := by
  by_cases he : p.err = 0
  · by_cases ht : tokI s p.pos = t
    · rw [CP.next_yes he ht]; exact ⟨he, he⟩
    · rw [CP.next_no he ht] at h; cases h
  · rw [CP.next_err he] at h; cases h
end Go.Proofs.YtmleeodfmmpdgaaGreatDoor
/- Walks: conditions, the program's parser: the spans of a relation. -/
namespace Go.Proofs.YtmleeodfmmpdgaaGreatDoor
open Go.RowKit
attribute [local go_sem] Ext.cell Ext.frozen
attribute [local go_sem ↓] Go.wp_at_zero Go.wp_at_succ
theorem infoSp : (Tryz.prog.info? 152).map (fun i => (i.zero, i.size, i.bytes)) = some (some (.agg #[.int .i64 0, .int .i64 0]), 2, 16) := by kernel_rfl
/-- the cells of spans -/
def spV (l : List (Int × Int)) : List Value := l.flatMap fun s => [.int .i64 s.1, .int .i64 s.2]
theorem spV_snoc (l : List (Int × Int)) (x y : Int) : spV (l ++ [(x, y)]) = spV l ++ [.int .i64 x, .int .i64 y] := by simp [spV]
def lenV : Value → Nat
  | .slice _ n _ => n
  | _ => 0
def boolN : Value → Nat
  | .bool true => 1
  | _ => 0
theorem rw_one (w : World) (x y : Value) (T : TypeId) : Rw (w.alloc (.cells #[x, y] T)) (some ⟨w.heap.size, 0, none⟩) 1 2 (fun _ j => (#[x, y] : Array Value).getD j undef) w.heap.size 0 :=
  ⟨by omega, fun _ => rfl, fun i j hi hj => by
    obtain rfl : i = 0 := by omega
    rcases (by omega : j = 0 ∨ j = 1) with e | e <;> subst e <;> (rw [Lib.cell_of_heap (heap_alloc_new w _)]; rfl)⟩
/-- a relation that was read: the reader, and the row of its spans -/
def RelP (b : Nat) (S : ByteArray) (op md : Int) (neg : Bool) (res : List (Int × Int) × CP) (w0 : World) (e : Ending) (w' : World) : Prop :=
  ∃ ad c, e = .returned (.agg #[.int .i64 op, .int .i64 md, .bool neg, .slice ad res.1.length c]) ∧ w'.ownsRow w0.heap.size 152 2 (.slice ad res.1.length c) res.1.length (spV res.1) ∧ Pq w' b S res.2 ∧ Kp (oneP b) w0 w'
noncomputable def relC (n : Nat) : Code := fromReg n ((Tryz.f333.body).getD .skip)
theorem own_kpb {w w' : World} {base sz b : Nat} {E T : TypeId} {v : Value} {n : Nat} {xs cs : List Value} (h : w.ownsRow base E sz v n xs) (hc : Cel w b T cs) (hT : T ≠ E) (k : Kp (oneP b) w w') : w'.ownsRow base E sz v n xs := by
  refine ⟨h.1, ?_⟩
  rcases h.2 with h2 | ⟨g, cap, cur, h1, h2, h3, h4⟩
  · exact .inl h2
  · refine .inr ⟨g, cap, cur, h1, h2, (k.block g (Array.getElem?_eq_some_iff.1 h3).1 (oneP_ne ?_)).trans h3, h4⟩
    intro e
    subst e
    unfold Cel at hc
    rw [hc] at h3
    injection h3 with h3
    injection h3 with _ h3 _
    exact hT h3
theorem own_nb {w : World} {base sz b : Nat} {E T : TypeId} {v : Value} {n : Nat} {xs cs : List Value} (h : w.ownsRow base E sz v n xs) (hc : Cel w b T cs) (hT : T ≠ E) : some b ≠ v.ownBlock := by
  rcases h.2 with ⟨h2, _⟩ | ⟨g, cap, cur, h1, h2, h3, h4⟩
  · rw [h2]; simp [Value.ownBlock]
  · rw [h1]
    intro e
    have e : b = g := by simpa [Value.ownBlock] using e
    subst e
    unfold Cel at hc
    rw [hc] at h3
    injection h3 with h3
    injection h3 with _ h3 _
    exact hT h3
set_option maxRecDepth 20000 in
set_option maxHeartbeats 4000000 in
theorem rel_spans (b : Nat) (S : ByteArray) (op md : Int) (neg : Bool) (p : CP) (w0 w : World) (n0 O X : Nat) (u1 u3 u6 u7 u8 u9 u10 u11 u12 u13 u14 u15 u16 u17 u18 u19 u20 u21 u22 u23 u24 u25 u26 u27 u28 u29 u30 u31 u32 u33 u34 u35 u36 u37 u38 u39 u40 u41 u42 u43 u44 u45 u46 u47 u48 u49 u50 u51 u52 u53 u54 u55 u56 u57 u58 u59 u60 u61 u62 u63 u64 u65 u66 u67 u68 u69 u70 u71 u72 : Value) (h : Pq w b S p) (hX : Cel w X 94 [.int .i64 op, .int .i64 md, .bool neg, .slice none 0 0]) (hO : Cel w O 3 [.int .i64 op]) (hR : Cel w n0 94 [.int .i64 0, .int .i64 0, .bool false, .slice none 0 0])
    (hXb : X ≠ b) (hOb : O ≠ b) (hRb : n0 ≠ b) (hXO : X ≠ O) (hXR : X ≠ n0) (hXw : w0.heap.size ≤ X) (hRw : w0.heap.size ≤ n0) (hk : Kp (oneP b) w0 w) :
    (relC 13).wp Tryz.prog (bodyPost Tryz.prog Tryz.f333 (RelP b S op md neg (CP.spans S.data.toList op 6 [] p) w0)) ⟨#[.pointer (some ⟨b, 0, none⟩), u1, .pointer (some ⟨n0, 0, none⟩), u3, .pointer (some ⟨O, 0, none⟩), .pointer (some ⟨X, 0, none⟩), u6, u7, u8, u9, u10, u11, u12, u13, u14, u15, u16, u17, u18, u19, u20, u21, u22, u23, u24, u25, u26, u27, u28, u29, u30, u31, u32, u33, u34, u35, u36, u37, u38, u39, u40, u41, u42, u43, u44, u45, u46, u47, u48, u49, u50, u51, u52, u53, u54, u55, u56, u57, u58, u59, u60, u61, u62, u63, u64, u65, u66, u67, u68, u69, u70, u71, u72], []⟩ w := by
  have HSP0 := Lib.hid (fun (ln : Nat) q W (g : Pq W b S q) => cspan_any b S op ln q W g)
  have HNX0 := Lib.hid (fun q W (g : Pq W b S q) => cnext_any b S [44] (by decide) q W g)
  unfold PqP at HSP0 HNX0
  have HQ0 := Lib.hid h
  have HX0 := Lib.hid hX
  have HO0 := Lib.hid hO
  have HR0 := Lib.hid hR
  have HK0 := Lib.hid hk
  clear h hX hO hR hk
  obtain ⟨res, hres⟩ : ∃ res, CP.spans S.data.toList op 6 [] p = res := ⟨_, rfl⟩
  rw [hres] at ⊢
  have HV := Lib.hid hres
  clear hres
  unfold relC
  dsimp only
  conv => arg 2; whnf
  go_wp2_with fail
  go_loopw [6] (fun u wr => ∃ (l : List (Int × Int)) (q : CP) (mb : Bool) (ad : Option Addr) (c : Nat), u = .bool mb ∧ l.length ≤ 5 ∧ (mb = true → l.length ≤ 4 ∧ CP.spans S.data.toList op (6 - l.length) l q = res) ∧ (mb = false → (l, q) = res) ∧ Cel wr X 94 [.int .i64 op, .int .i64 md, .bool neg, .slice ad l.length c] ∧ Cel wr O 3 [.int .i64 op] ∧ Cel wr n0 94 [.int .i64 0, .int .i64 0, .bool false, .slice none 0 0] ∧ wr.ownsRow w0.heap.size 152 2 (.slice ad l.length c) l.length (spV l) ∧ Pq wr b S q ∧ Kp (oneP b) w0 wr) (fun u wr => boolN u * (10 - lenV ((wr.cell? ⟨X, 3, none⟩).getD undef)))
  case atStart => exact ⟨[], p, true, none, 0, rfl, Nat.zero_le _, fun _ => ⟨Nat.zero_le _, HV.out⟩, fun h => (by cases h), HX0.out, HO0.out, HR0.out, ⟨rfl, .inl ⟨rfl, rfl⟩⟩, HQ0.out, HK0.out⟩
  case round =>
    obtain ⟨l, q, mb, ad, c, rfl, hl5, hmt, hmf, hX, hO, hR, hown, hq, hkp⟩ := hrel
    have HX := Lib.hid hX
    have HOO := Lib.hid hO
    have HRS := Lib.hid hR
    have HOW := Lib.hid hown
    have HQ := Lib.hid hq
    have HK := Lib.hid hkp
    have HMT := Lib.hid hmt
    have HMF := Lib.hid hmf
    obtain ⟨_, _, _, c3, _, _, _⟩ := hq.cells
    clear hX hO hR hown hq hkp hmt hmf HQ0 HX0 HO0 HR0 HK0
    have hlenV : ∀ (V : World) ad m c, V.cell? ⟨X, 3, none⟩ = some (.slice ad m c) → lenV ((V.cell? ⟨X, 3, none⟩).getD undef) = m := fun V ad m c hV => by rw [hV]; rfl
    have HLV := Lib.hid hlenV
    clear hlenV
    cases mb with
    | false =>
      have HF := Lib.hid (HMF.out (by trivial))
      clear HMT HMF
      have x0 := HX.out.cell 0
      have x1 := HX.out.cell 1
      have x2 := HX.out.cell 2
      have x3 := HX.out.cell 3
      simp only [List.getElem?_cons_zero, List.getElem?_cons_succ] at x0 x1 x2 x3
      have r0 := HRS.out.cell 0
      have r1 := HRS.out.cell 1
      have r2 := HRS.out.cell 2
      have r3 := HRS.out.cell 3
      simp only [List.getElem?_cons_zero, List.getElem?_cons_succ] at r0 r1 r2 r3
      have rf0 := HRS.out.frz 0
      have rf1 := HRS.out.frz 1
      have rf2 := HRS.out.frz 2
      have rf3 := HRS.out.frz 3
      have hlX : X < wr.heap.size := HX.out.lt
      have hlR : n0 < wr.heap.size := HRS.out.lt
      go_wp2_with fail
      refine bodyPost_ret (results_cell_row rfl _ _ n0 94 #[.int .i64 op, .int .i64 md, .bool neg, .slice ad l.length c] (0, 0) _ rfl ?_ Tryz.underlying94 rfl (by kernel_rfl)) rfl ?_
      · exact (((HRS.out.set 0 (.int .i64 op)).set 1 (.int .i64 md)).set 2 (.bool neg)).set 3 (.slice ad l.length c)
      · have hkk : Kp (oneP n0) wr ((((wr.setCell ⟨n0, 0, none⟩ (.int .i64 op)).setCell ⟨n0, 1, none⟩ (.int .i64 md)).setCell ⟨n0, 2, none⟩ (.bool neg)).setCell ⟨n0, 3, none⟩ (.slice ad l.length c)) := ((((Kp.refl _ wr).set (p := ⟨n0, 0, none⟩) (oneP_self n0) _).set (p := ⟨n0, 1, none⟩) (oneP_self n0) _).set (p := ⟨n0, 2, none⟩) (oneP_self n0) _).set (p := ⟨n0, 3, none⟩) (oneP_self n0) _
        rw [← HF.out]
        exact ⟨ad, c, rfl, own_kpb HOW.out HRS.out (by decide) hkk, ⟨HQ.out.1.kp hkk (oneP_ne (fun e => hRb e.symm)), HQ.out.2⟩, HK.out.then hkk (fun i hi e => by have := of_decide_eq_true e; omega)⟩
    | true =>
      obtain ⟨hl4, hsp⟩ := HMT.out (by trivial)
      have HS := Lib.hid hsp
      clear HMT HMF hsp
      by_cases he : q.err = 0
      · rw [he] at c3
        have hs2 := HS.out
        rw [show 6 - l.length = (5 - l.length) + 1 by omega, CP.spans, if_pos he] at hs2
        have HS2 := Lib.hid hs2
        have HSP := Lib.hid (HSP0.out l.length q)
        have HMANY : Hid (4 ≤ l.length → (CP.span S.data.toList op l.length q).2.err ≠ 0) := fun h => CP.span_many h
        clear hs2 HS he HSP0
        generalize CP.span S.data.toList op l.length q = sr at *
        obtain ⟨⟨a1, a2⟩, pq⟩ := sr
        simp only at HSP
        have HS3 : Hid ((if (CP.next S.data.toList [44] pq).1 then CP.spans S.data.toList op (5 - l.length) (l ++ [(a1, a2)]) (CP.next S.data.toList [44] pq).2 else (l ++ [(a1, a2)], (CP.next S.data.toList [44] pq).2)) = res) := HS2.out
        have HMANY2 : Hid (4 ≤ l.length → pq.err ≠ 0) := HMANY.out
        have HNX := Lib.hid (HNX0.out pq)
        have HNT : Hid ((CP.next S.data.toList [44] pq).1 = true → pq.err = 0) := fun h => (CP.next_true h).2
        clear HS2 HMANY HNX0
        generalize CP.next S.data.toList [44] pq = nr at *
        obtain ⟨m, q2⟩ := nr
        simp only at HNX
        have u1 : wr.drew.cell? ⟨X, 3, none⟩ = some (.slice ad l.length c) := HX.out.cell 3
        have u2 : wr.drew.cell? ⟨O, 0, none⟩ = some (.int .i64 op) := HOO.out.cell 0
        have x3m : wr.cell? ⟨X, 3, none⟩ = some (.slice ad l.length c) := HX.out.cell 3
        have HM0 := Lib.hid (HLV.out wr ad _ c x3m)
        clear x3m
        go_upto_region 16 with (fail)
        refine wp_region_until 11 (fun w' => w'.cell? ⟨X, 3, none⟩ = some (.slice ad l.length c) ∧ w'.cell? ⟨O, 0, none⟩ = some (.int .i64 op)) (by kernel_rfl) ⟨u1, u2⟩ (fun hS0 => ?_)
        have HQ0 := Lib.hid (HQ.out.below (Bel.drew (Bel.refl wr)))
        have HX0 := Lib.hid (HX.out.below (Bel.drew (Bel.refl wr)))
        have HO0 := Lib.hid (HOO.out.below (Bel.drew (Bel.refl wr)))
        have HR0 := Lib.hid (HRS.out.below (Bel.drew (Bel.refl wr)))
        have HW0 := Lib.hid (own_below HOW.out (Bel.drew (Bel.refl wr)))
        have HK0 := Lib.hid (HK.out.trans (kp_below (Bel.drew (Bel.refl wr))))
        refine wpAnyG_take (i := 0) (v := ?_) rfl (by kernel_rfl) (by kernel_rfl) (by kernel_rfl) (fun _ _ _ h => h) (by kernel_rfl) (by decide) (by kernel_rfl) (Or.inl ⟨by kernel_rfl, ?_⟩) hS0 ?_
        rotate_left
        · (intro wx hSw; obtain ⟨t1, t2⟩ := hSw; go_simp; try with_reducible rfl)
        try simp only [Act.put, List.getElem_toArray, List.getElem_cons_zero, List.setIfInBounds_toArray, List.set_cons_zero, List.set_cons_succ]
        refine wpAnyG_take (i := 1) (v := ?_) rfl (by kernel_rfl) (by kernel_rfl) (by kernel_rfl) (fun _ _ _ h => h) (by kernel_rfl) (by decide) (by kernel_rfl) (Or.inl ⟨by kernel_rfl, ?_⟩) hS0 ?_
        rotate_left
        · (intro wx hSw; obtain ⟨t1, t2⟩ := hSw; go_simp; try with_reducible rfl)
        try simp only [Act.put, List.getElem_toArray, List.getElem_cons_succ, List.getElem_cons_zero, List.setIfInBounds_toArray, List.set_cons_zero, List.set_cons_succ]
        refine wpAnyG_take (i := 2) (v := ?_) rfl (by kernel_rfl) (by kernel_rfl) (by kernel_rfl) (fun _ _ _ h => h) (by kernel_rfl) (by decide) (by kernel_rfl) (Or.inl ⟨by kernel_rfl, ?_⟩) hS0 ?_
        rotate_left
        · (intro wx hSw; obtain ⟨t1, t2⟩ := hSw; go_simp; try with_reducible rfl)
        try simp only [Act.put, List.getElem_toArray, List.getElem_cons_succ, List.getElem_cons_zero, List.setIfInBounds_toArray, List.set_cons_zero, List.set_cons_succ]
        refine wpAnyG_take (i := 3) (v := ?_) rfl (by kernel_rfl) (by kernel_rfl) (by kernel_rfl) (fun _ _ _ h => h) (by kernel_rfl) (by decide) (by kernel_rfl) (Or.inl ⟨by kernel_rfl, ?_⟩) hS0 ?_
        rotate_left
        · (intro wx hSw; obtain ⟨t1, t2⟩ := hSw; go_simp; try with_reducible rfl)
        try simp only [Act.put, List.getElem_toArray, List.getElem_cons_succ, List.getElem_cons_zero, List.setIfInBounds_toArray, List.set_cons_zero, List.set_cons_succ]
        refine wpAnyG_take (i := 4) (v := ?_) rfl (by kernel_rfl) (by kernel_rfl) (by kernel_rfl) (fun _ _ _ h => h) (by kernel_rfl) (by decide) (by kernel_rfl) (Or.inl ⟨by kernel_rfl, ?_⟩) hS0 ?_
        rotate_left
        · (intro wx hSw; obtain ⟨t1, t2⟩ := hSw; go_simp; try with_reducible rfl)
        try simp only [Act.put, List.getElem_toArray, List.getElem_cons_succ, List.getElem_cons_zero, List.setIfInBounds_toArray, List.set_cons_zero, List.set_cons_succ]
        refine wpAnyG_take (i := 5) (v := ?_) rfl (by kernel_rfl) (by kernel_rfl) (by kernel_rfl) (fun _ _ _ h => h) (by kernel_rfl) (by decide) (by kernel_rfl) (Or.inl ⟨by kernel_rfl, ?_⟩) hS0 ?_
        rotate_left
        · (intro wx hSw; obtain ⟨t1, t2⟩ := hSw; go_simp; try with_reducible rfl)
        try simp only [Act.put, List.getElem_toArray, List.getElem_cons_succ, List.getElem_cons_zero, List.setIfInBounds_toArray, List.set_cons_zero, List.set_cons_succ]
        refine wpAnyG_take (i := 6) (v := ?_) rfl (by kernel_rfl) (by kernel_rfl) (by kernel_rfl) (fun _ _ _ h => h) (by kernel_rfl) (by decide) (by kernel_rfl) (Or.inl ⟨by kernel_rfl, ?_⟩) hS0 ?_
        rotate_left
        · (intro wx hSw; obtain ⟨t1, t2⟩ := hSw; go_simp; try with_reducible rfl)
        try simp only [Act.put, List.getElem_toArray, List.getElem_cons_succ, List.getElem_cons_zero, List.setIfInBounds_toArray, List.set_cons_zero, List.set_cons_succ]
        generalize wr.drew = p0 at *
        refine wpAnyG_ready (rs := [7]) (by kernel_rfl) (by simp) ?_
        refine AllReadyG.cons rfl (fun K hK => ?_) AllReadyG.nil
        go_simp
        refine (HSP.out _ HQ0.out).mono ?_
        rintro _ p1 ⟨rfl, hpc, hkp⟩
        have HQ1 := Lib.hid hpc
        have HX1 := Lib.hid (HX0.out.kp hkp (oneP_ne hXb))
        have HO1 := Lib.hid (HO0.out.kp hkp (oneP_ne hOb))
        have HR1 := Lib.hid (HR0.out.kp hkp (oneP_ne hRb))
        have HW1 := Lib.hid (own_kpb HW0.out HQ0.out.1 (by decide) hkp)
        have HK1 := Lib.hid (HK0.out.trans hkp)
        have hz1 : w0.heap.size ≤ p1.heap.size := HK1.out.size
        clear hpc hkp
        go_simp
        refine hK.out _ _ (fun _ => ⟨HX1.out.cell 3, HO1.out.cell 0⟩) (fun _ => ?_)
        clear hK K
        try simp only [Act.put, List.getElem_toArray, List.getElem_cons_succ, List.getElem_cons_zero, List.setIfInBounds_toArray, List.set_cons_zero, List.set_cons_succ]
        refine wpAnyG_ready (rs := [8]) (by kernel_rfl) (by simp) ?_
        refine AllReadyG.cons rfl (fun K hK => ?_) AllReadyG.nil
        go_simp
        have HQ2 := Lib.hid (HQ1.out.below (Bel.alloc (Bel.refl p1) (.cells #[.int .i64 a1, .int .i64 a2] 152)))
        have HX2 := Lib.hid (HX1.out.below (Bel.alloc (Bel.refl p1) (.cells #[.int .i64 a1, .int .i64 a2] 152)))
        have HO2 := Lib.hid (HO1.out.below (Bel.alloc (Bel.refl p1) (.cells #[.int .i64 a1, .int .i64 a2] 152)))
        have HR2 := Lib.hid (HR1.out.below (Bel.alloc (Bel.refl p1) (.cells #[.int .i64 a1, .int .i64 a2] 152)))
        have HW2 := Lib.hid (own_below HW1.out (Bel.alloc (Bel.refl p1) (.cells #[.int .i64 a1, .int .i64 a2] 152)))
        have HK2 := Lib.hid (HK1.out.alloc (.cells #[.int .i64 a1, .int .i64 a2] 152))
        have HNB := Lib.hid (rw_one p1 (.int .i64 a1) (.int .i64 a2) 152)
        have hz2 : w0.heap.size ≤ (World.alloc p1 (.cells #[.int .i64 a1, .int .i64 a2] 152)).heap.size := HK2.out.size
        refine hK.out _ _ (fun _ => ⟨HX2.out.cell 3, HO2.out.cell 0⟩) (fun _ => ?_)
        clear hK K
        generalize World.alloc p1 (.cells #[.int .i64 a1, .int .i64 a2] 152) = p2 at *
        try simp only [Act.put, List.getElem_toArray, List.getElem_cons_succ, List.getElem_cons_zero, List.setIfInBounds_toArray, List.set_cons_zero, List.set_cons_succ]
        refine wpAnyG_ready (rs := [9]) (by kernel_rfl) (by simp) ?_
        refine AllReadyG.cons rfl (fun K hK => ?_) AllReadyG.nil
        refine step_app_rows rfl (.tmp 62) (.tmp 69) rfl Tryz.underlying92 infoSp (by rfl) (by omega) w0.heap.size ad l.length c (spV l) (by rfl) HW2.out (some ⟨p1.heap.size, 0, none⟩) 1 1 (fun _ j => (#[.int .i64 a1, .int .i64 a2] : Array Value).getD j undef) p1.heap.size 0 (by rfl) HNB.out (fun h => by cases h) (fun i j _ hj => by rcases (by omega : j = 0 ∨ j = 1) with e | e <;> subst e <;> rfl) (by unfold maxLen; omega) (by omega) hz2 ?_
        intro ad3 c3 p3 hown3 hg3
        have hnX := own_nb HW2.out HX2.out (by decide)
        have hnO := own_nb HW2.out HO2.out (by decide)
        have hnR := own_nb HW2.out HR2.out (by decide)
        have hnQ := own_nb HW2.out HQ2.out.1 (by decide)
        have HW3 := Lib.hid hown3
        have HX3 : Hid (Cel p3 X 94 _) := (hg3.block X HX2.out.lt hnX).trans HX2.out
        have HO3 : Hid (Cel p3 O 3 _) := (hg3.block O HO2.out.lt hnO).trans HO2.out
        have HR3 : Hid (Cel p3 n0 94 _) := (hg3.block n0 HR2.out.lt hnR).trans HR2.out
        have HQ3 : Hid (Pq p3 b S pq) := ⟨(hg3.block b HQ2.out.lt hnQ).trans HQ2.out.1, HQ2.out.2⟩
        have HK3 : Hid (Kp (oneP b) w0 p3) := HK2.out.grown hg3 (fun k hk => .inl (World.ownsRow.lt HW2.out k hk).1)
        clear hown3 hg3 hnX hnO hnR hnQ
        refine hK.out _ _ (fun _ => ⟨HX3.out.cell 3, HO3.out.cell 0⟩) (fun _ => ?_)
        clear hK K
        try simp only [Act.put, List.getElem_toArray, List.getElem_cons_succ, List.getElem_cons_zero, List.setIfInBounds_toArray, List.set_cons_zero, List.set_cons_succ]
        refine wpAnyG_take (i := 10) (v := ?_) rfl (by kernel_rfl) (by kernel_rfl) (by kernel_rfl) (fun _ _ _ h => h) (by kernel_rfl) (by decide) (by kernel_rfl) (Or.inl ⟨by kernel_rfl, ?_⟩) ⟨HX3.out.cell 3, HO3.out.cell 0⟩ ?_
        rotate_left
        · (intro wx hSw; obtain ⟨t1, t2⟩ := hSw; go_simp; try with_reducible rfl)
        try simp only [Act.put, List.getElem_toArray, List.getElem_cons_succ, List.getElem_cons_zero, List.setIfInBounds_toArray, List.set_cons_zero, List.set_cons_succ]
        have x3 := HX3.out.cell 3
        have xf := HX3.out.frz 3
        refine wpAnyG_ready (rs := [11]) (by kernel_rfl) (by simp) ?_
        refine AllReadyG.cons rfl (fun K hK => ?_) AllReadyG.nil
        go_simp
        refine hK.out _ _ (fun h => by cases h) (fun _ => ?_)
        clear hK K
        refine wpAnyG_done (by kernel_rfl) ?_ _
        have HX4 : Hid (Cel (p3.setCell ⟨X, 3, none⟩ (.slice ad3 (l.length + 1) c3)) X 94 [.int .i64 op, .int .i64 md, .bool neg, .slice ad3 (l.length + 1) c3]) := HX3.out.set 3 _
        have HO4 := Lib.hid (HO3.out.other (a := ⟨X, 3, none⟩) hXO (.slice ad3 (l.length + 1) c3))
        have HR4 := Lib.hid (HR3.out.other (a := ⟨X, 3, none⟩) hXR (.slice ad3 (l.length + 1) c3))
        have HQ4 := Lib.hid (HQ3.out.other (a := ⟨X, 3, none⟩) hXb (.slice ad3 (l.length + 1) c3))
        have HK4 := Lib.hid (HK3.out.setN (p := ⟨X, 3, none⟩) hXw (.slice ad3 (l.length + 1) c3))
        have HW4 := Lib.hid (own_kpb HW3.out HX3.out (by decide) ((Kp.refl _ p3).set (p := ⟨X, 3, none⟩) (oneP_self X) (.slice ad3 (l.length + 1) c3)))
        clear HX3 HO3 HR3 HQ3 HK3 HW3 HQ2 HX2 HO2 HR2 HW2 HK2 HQ1 HX1 HO1 HR1 HW1 HK1 HQ0 HX0 HO0 HR0 HW0 HK0 x3 xf HNB hS0 u1 u2
        generalize p3.setCell ⟨X, 3, none⟩ (.slice ad3 (l.length + 1) c3) = p4 at *
        go_wp2_with fail
        refine (HNX.out _ HQ4.out).mono ?_
        rintro _ w5 ⟨rfl, hq5, hk5⟩
        have HX5 := Lib.hid (HX4.out.kp hk5 (oneP_ne hXb))
        have HO5 := Lib.hid (HO4.out.kp hk5 (oneP_ne hOb))
        have HR5 := Lib.hid (HR4.out.kp hk5 (oneP_ne hRb))
        have HW5 := Lib.hid (own_kpb HW4.out HQ4.out.1 (by decide) hk5)
        have HQ5 := Lib.hid hq5
        have HK5 := Lib.hid (HK4.out.trans hk5)
        clear hq5 hk5 HX4 HO4 HR4 HW4 HQ4 HK4
        have hle : Hid ((l ++ [(a1, a2)]).length = l.length + 1) := by rw [Hid, List.length_append]; rfl
        go_wp2_with fail
        go_roundw
        case rel =>
          refine ⟨l ++ [(a1, a2)], q2, m, ad3, c3, rfl, by rw [hle.out]; omega, fun hm => ⟨?_, ?_⟩, fun hm => ?_, by rw [hle.out]; exact HX5.out, HO5.out, HR5.out, by rw [hle.out, spV_snoc]; exact HW5.out, HQ5.out, HK5.out⟩
          · rw [hle.out]
            rcases Nat.lt_or_ge l.length 4 with h | h
            · omega
            · exact absurd (HNT.out hm) (HMANY2.out h)
          · have := HS3.out
            subst hm
            rw [if_pos rfl] at this
            rw [hle.out, show 6 - (l.length + 1) = 5 - l.length by omega]
            exact this
          · have := HS3.out
            subst hm
            rw [if_neg (by simp)] at this
            exact this
        case measure =>
          have e1 := HLV.out w5 ad3 _ c3 (HX5.out.cell 3)
          rw [HM0.out, e1]
          cases m
          · show 0 * _ < 1 * _
            omega
          · show 1 * _ < 1 * _
            omega
      · have hz : (q.err == 0) = false := by simpa using he
        have HF : Hid ((l, q) = res) := by have := HS.out; rw [CP.spans_stop _ he] at this; exact this
        clear HS
        have x0 := HX.out.cell 0
        have x1 := HX.out.cell 1
        have x2 := HX.out.cell 2
        have x3 := HX.out.cell 3
        simp only [List.getElem?_cons_zero, List.getElem?_cons_succ] at x0 x1 x2 x3
        have r0 := HRS.out.cell 0
        have r1 := HRS.out.cell 1
        have r2 := HRS.out.cell 2
        have r3 := HRS.out.cell 3
        simp only [List.getElem?_cons_zero, List.getElem?_cons_succ] at r0 r1 r2 r3
        have rf0 := HRS.out.frz 0
        have rf1 := HRS.out.frz 1
        have rf2 := HRS.out.frz 2
        have rf3 := HRS.out.frz 3
        have hlX : X < wr.heap.size := HX.out.lt
        have hlR : n0 < wr.heap.size := HRS.out.lt
        go_wp2_with fail
        refine bodyPost_ret (results_cell_row rfl _ _ n0 94 #[.int .i64 op, .int .i64 md, .bool neg, .slice ad l.length c] (0, 0) _ rfl ?_ Tryz.underlying94 rfl (by kernel_rfl)) rfl ?_
        · exact (((HRS.out.set 0 (.int .i64 op)).set 1 (.int .i64 md)).set 2 (.bool neg)).set 3 (.slice ad l.length c)
        · have hkk : Kp (oneP n0) wr ((((wr.setCell ⟨n0, 0, none⟩ (.int .i64 op)).setCell ⟨n0, 1, none⟩ (.int .i64 md)).setCell ⟨n0, 2, none⟩ (.bool neg)).setCell ⟨n0, 3, none⟩ (.slice ad l.length c)) := ((((Kp.refl _ wr).set (p := ⟨n0, 0, none⟩) (oneP_self n0) _).set (p := ⟨n0, 1, none⟩) (oneP_self n0) _).set (p := ⟨n0, 2, none⟩) (oneP_self n0) _).set (p := ⟨n0, 3, none⟩) (oneP_self n0) _
          rw [← HF.out]
          exact ⟨ad, c, rfl, own_kpb HOW.out HRS.out (by decide) hkk, ⟨HQ.out.1.kp hkk (oneP_ne (fun e => hRb e.symm)), HQ.out.2⟩, HK.out.then hkk (fun i hi e => by have := of_decide_eq_true e; omega)⟩
end Go.Proofs.YtmleeodfmmpdgaaGreatDoor
/- Walks: conditions, the program's parser: a relation. -/
namespace Go.Proofs.YtmleeodfmmpdgaaGreatDoor
open Go.RowKit
attribute [local go_sem] Ext.cell Ext.frozen
attribute [local go_sem ↓] Go.wp_at_zero Go.wp_at_succ
theorem cel_sl {w : World} {B : Nat} {T : TypeId} {l : List Value} (h : Cel w B T l) (hl : l.length ≤ 9223372036854775807) : Sl w (some ⟨B, 0, none⟩) l.length l :=
  ⟨B, 0, rfl, hl, fun _ => rfl, fun i hi => by
    rw [h.cell, Nat.zero_add] 
    rw [List.getElem?_eq_getElem hi, List.getD_eq_getElem?_getD, List.getElem?_eq_getElem hi]; rfl⟩
/-- take at a list that was made for it -/
theorem ctake_new (b : Nat) (S : ByteArray) (B : Nat) (l : List ByteArray) (p : CP) (w : World) (h : Pq w b S p) (hc : Cel w B 9 (strs l)) (hB : B ≠ b) (hl : l.length ≤ 100) : Calls Tryz.prog 339 #[.pointer (some ⟨b, 0, none⟩), .slice (some ⟨B, 0, none⟩) l.length l.length] w (PqP b S (.string (bs (p.take S.data.toList l).1)) (p.take S.data.toList l).2 w) := by
  have hlen : (strs l).length = l.length := strs_length l
  have key : ∀ W, Cel W B 9 (strs l) → Sl W (some ⟨B, 0, none⟩) l.length (strs l) := fun W g => by
    have := cel_sl g (by rw [hlen]; omega)
    rwa [hlen] at this
  exact ctake_any b S _ _ _ l p w h (key w hc) (fun W hk => key W (hc.kp hk (oneP_ne hB)))
set_option maxRecDepth 20000 in
set_option maxHeartbeats 4000000 in
theorem rel_12 (b : Nat) (S : ByteArray) (op md : Int) (p : CP) (w0 w : World) (n0 O X : Nat) (u1 u3 u6 u7 u8 u9 u10 u11 u12 u13 u14 u15 u16 u17 u18 u19 u20 u21 u22 u23 u24 u25 u26 u27 u28 u29 u30 u31 u32 u33 u34 u35 u36 u37 u38 u39 u40 u41 u42 u43 u44 u45 u46 u47 u48 u49 u50 u51 u52 u53 u54 u55 u56 u57 u58 u59 u60 u61 u62 u63 u64 u65 u66 u67 u68 u69 u70 u71 u72 : Value) (h : Pq w b S p) (hX : Cel w X 94 [.int .i64 op, .int .i64 md, .bool false, .slice none 0 0]) (hO : Cel w O 3 [.int .i64 op]) (hR : Cel w n0 94 [.int .i64 0, .int .i64 0, .bool false, .slice none 0 0])
    (hXb : X ≠ b) (hOb : O ≠ b) (hRb : n0 ≠ b) (hXO : X ≠ O) (hXR : X ≠ n0) (hXw : w0.heap.size ≤ X) (hRw : w0.heap.size ≤ n0) (hk : Kp (oneP b) w0 w) :
    (relC 12).wp Tryz.prog (bodyPost Tryz.prog Tryz.f333 (RelP b S op md (decide ((CP.take S.data.toList [bs [61], bs [33, 61]] p).1 = [33, 61])) (CP.spans S.data.toList op 6 [] (CP.take S.data.toList [bs [61], bs [33, 61]] p).2) w0)) ⟨#[.pointer (some ⟨b, 0, none⟩), u1, .pointer (some ⟨n0, 0, none⟩), u3, .pointer (some ⟨O, 0, none⟩), .pointer (some ⟨X, 0, none⟩), u6, u7, u8, u9, u10, u11, u12, u13, u14, u15, u16, u17, u18, u19, u20, u21, u22, u23, u24, u25, u26, u27, u28, u29, u30, u31, u32, u33, u34, u35, u36, u37, u38, u39, u40, u41, u42, u43, u44, u45, u46, u47, u48, u49, u50, u51, u52, u53, u54, u55, u56, u57, u58, u59, u60, u61, u62, u63, u64, u65, u66, u67, u68, u69, u70, u71, u72], []⟩ w := by
  have HTK := Lib.hid (fun B W (g : Pq W b S p) (gc : Cel W B 9 (strs [bs [61], bs [33, 61]])) hB => ctake_new b S B [bs [61], bs [33, 61]] p W g gc hB (by decide))
  have HEND := Lib.hid (fun neg q W => rel_spans b S op md neg q w0 W n0 O X)
  have hq := bs_toList (CP.take S.data.toList [bs [61], bs [33, 61]] p).1
  unfold PqP at HTK
  have HP := Lib.hid h
  have HX := Lib.hid hX
  have HOO := Lib.hid hO
  have HRS := Lib.hid hR
  have HK := Lib.hid hk
  have hlb := h.lt
  clear h hX hO hR hk
  generalize CP.take S.data.toList [bs [61], bs [33, 61]] p = r at *
  obtain ⟨tv, q⟩ := r
  simp only at HTK hq ⊢
  unfold relC
  try dsimp only
  conv => arg 2; whnf
  go_upto_region 12 with (fail)
  rename_i K8 hK8
  have HK8 := Lib.hid hK8
  clear hK8
  go_wp2_with fail
  have HP0 := Lib.hid (HP.out.below (Bel.alloc (Bel.refl w) (.cells #[.string (bs [61]), .string (bs [33, 61])] 9)))
  have HX0 := Lib.hid (HX.out.below (Bel.alloc (Bel.refl w) (.cells #[.string (bs [61]), .string (bs [33, 61])] 9)))
  have HO0 := Lib.hid (HOO.out.below (Bel.alloc (Bel.refl w) (.cells #[.string (bs [61]), .string (bs [33, 61])] 9)))
  have HR0 := Lib.hid (HRS.out.below (Bel.alloc (Bel.refl w) (.cells #[.string (bs [61]), .string (bs [33, 61])] 9)))
  have HK0 := Lib.hid (HK.out.alloc (.cells #[.string (bs [61]), .string (bs [33, 61])] 9))
  refine (HTK.out w.heap.size _ HP0.out (heap_alloc_new w _) (by omega)).mono ?_
  rintro _ w1 ⟨rfl, hpc, hkp⟩
  have HP1 := Lib.hid hpc
  have HX1 := Lib.hid (HX0.out.kp hkp (oneP_ne hXb))
  have HO1 := Lib.hid (HO0.out.kp hkp (oneP_ne hOb))
  have HR1 := Lib.hid (HR0.out.kp hkp (oneP_ne hRb))
  have HK1 := Lib.hid (HK0.out.trans hkp)
  clear hpc hkp HP0 HX0 HO0 HR0 HK0 HTK HP HX HOO HRS HK
  have x2 := HX1.out.cell 2
  have xf := HX1.out.frz 2
  have hlX : X < w1.heap.size := HX1.out.lt
  simp only [List.getElem?_cons_zero, List.getElem?_cons_succ] at x2
  go_wp2_with fail
  refine HK8.out _ _ ?_
  rw [hq] at *
  have HX2 := Lib.hid (HX1.out.set 2 (.bool (decide (tv = [33, 61]))))
  have HO2 := Lib.hid (HO1.out.other (a := ⟨X, 2, none⟩) hXO (.bool (decide (tv = [33, 61]))))
  have HR2 := Lib.hid (HR1.out.other (a := ⟨X, 2, none⟩) hXR (.bool (decide (tv = [33, 61]))))
  have HP2 := Lib.hid (HP1.out.other (a := ⟨X, 2, none⟩) hXb (.bool (decide (tv = [33, 61]))))
  have HK2 := Lib.hid (HK1.out.setN (p := ⟨X, 2, none⟩) hXw (.bool (decide (tv = [33, 61]))))
  have hbd : (tv == [33, 61]) = decide (tv = [33, 61]) := by rw [Bool.eq_iff_iff, beq_iff_eq, decide_eq_true_eq]
  rw [hbd]
  exact HEND.out _ _ _ _ _ _ _ _ _ _ _ _ _ _ _ _ _ _ _ _ _ _ _ _ _ _ _ _ _ _ _ _ _ _ _ _ _ _ _ _ _ _ _ _ _ _ _ _ _ _ _ _ _ _ _ _ _ _ _ _ _ _ _ _ _ _ _ _ _ _ _ _ HP2.out HX2.out HO2.out HR2.out hXb hOb hRb hXO hXR hXw hRw HK2.out
set_option maxRecDepth 20000 in
set_option maxHeartbeats 4000000 in
theorem rel_8 (b : Nat) (S : ByteArray) (op : Int) (tk : List UInt8) (p : CP) (w0 w : World) (n0 O : Nat) (u1 u5 u6 u7 u8 u9 u10 u11 u12 u13 u14 u15 u16 u17 u18 u19 u20 u21 u22 u23 u24 u25 u26 u27 u28 u29 u30 u31 u32 u33 u34 u35 u36 u37 u38 u39 u40 u41 u42 u43 u44 u45 u46 u47 u48 u49 u50 u51 u52 u53 u54 u55 u56 u57 u58 u59 u60 u61 u62 u63 u64 u65 u66 u67 u68 u69 u70 u71 u72 : Value) (h : Pq w b S p) (hO : Cel w O 3 [.int .i64 op]) (hR : Cel w n0 94 [.int .i64 0, .int .i64 0, .bool false, .slice none 0 0])
    (hOb : O ≠ b) (hRb : n0 ≠ b) (hRw : w0.heap.size ≤ n0) (hk : Kp (oneP b) w0 w) (res : Rel × CP)
    (hres : (let m := CP.next S.data.toList [37] (CP.take S.data.toList [bs tk] p).2
      let a := if m.1 then CP.number S.data.toList (chk3 op) m.2 else (0, m.2)
      let t := CP.take S.data.toList [bs [61], bs [33, 61]] a.2
      let l := CP.spans S.data.toList op 6 [] t.2
      ((⟨op, a.1, decide (t.1 = [33, 61]), l.1⟩ : Rel), l.2)) = res) :
    (relC 8).wp Tryz.prog (bodyPost Tryz.prog Tryz.f333 (RelP b S op res.1.md res.1.neg (res.1.sp, res.2) w0)) ⟨#[.pointer (some ⟨b, 0, none⟩), u1, .pointer (some ⟨n0, 0, none⟩), .string (bs tk), .pointer (some ⟨O, 0, none⟩), u5, u6, u7, u8, u9, u10, u11, u12, u13, u14, u15, u16, u17, u18, u19, u20, u21, u22, u23, u24, u25, u26, u27, u28, u29, u30, u31, u32, u33, u34, u35, u36, u37, u38, u39, u40, u41, u42, u43, u44, u45, u46, u47, u48, u49, u50, u51, u52, u53, u54, u55, u56, u57, u58, u59, u60, u61, u62, u63, u64, u65, u66, u67, u68, u69, u70, u71, u72], []⟩ w := by
  have hmf : ∀ (fn : Fn) (first cap : Array Value) (w : World), (Instr.makeFunc fn first cap).run Tryz.prog w = .ok (.func fn first cap) w := fun _ _ _ _ => rfl
  have HTK := Lib.hid (fun B W (g : Pq W b S p) (gc : Cel W B 9 (strs [bs tk])) hB => ctake_new b S B [bs tk] p W g gc hB (by simp))
  have HNX := Lib.hid (fun q W (g : Pq W b S q) => cnext_any b S [37] (by decide) q W g)
  have HNU : Hid (∀ q W, Pq W b S q → ∀ o1, o1 ≠ b → W.cell? ⟨o1, 0, none⟩ = some (.int .i64 op) → Calls Tryz.prog 340 #[.pointer (some ⟨b, 0, none⟩), .func (.func 341) #[] #[.pointer (some ⟨o1, 0, none⟩)]] W (PqP b S (.int .i64 (CP.number S.data.toList (chk3 op) q).1) (CP.number S.data.toList (chk3 op) q).2 W)) := fun q W g o1 n1 e1 =>
    cnum_any b S q W g 341 _ (enters_of Tryz.func341 (by kernel_rfl) rfl) (chk3 op) (fun n V _ hk => crel1_any o1 op n V (hk.cell (oneP_ne n1) e1))
  have HEND := Lib.hid (fun md q W X => rel_12 b S op md q w0 W n0 O X)
  unfold PqP at HTK HNX HNU
  have HP := Lib.hid h
  have HOO := Lib.hid hO
  have HRS := Lib.hid hR
  have HK := Lib.hid hk
  have hlb := h.lt
  have hlO := hO.lt
  have hlR := hR.lt
  have hsz := hk.size
  have HV := Lib.hid hres
  clear h hO hR hk hres
  generalize CP.take S.data.toList [bs tk] p = r at *
  obtain ⟨tv, q⟩ := r
  simp only at HTK HV
  have HNX := Lib.hid (HNX.out q)
  generalize CP.next S.data.toList [37] q = r2 at *
  obtain ⟨m, q2⟩ := r2
  simp only at HNX HV
  have HNU := Lib.hid (HNU.out q2)
  generalize CP.number S.data.toList (chk3 op) q2 = r3 at *
  obtain ⟨md, q3⟩ := r3
  simp only at HNU
  obtain ⟨X, hX⟩ : ∃ X, w.heap.size = X := ⟨_, rfl⟩
  rw [hX] at hlb hlO hlR hsz
  have hXb : X ≠ b := by omega
  have hXO : X ≠ O := by omega
  have hXR : X ≠ n0 := by omega
  have hXw : w0.heap.size ≤ X := hsz
  have HP0 := Lib.hid (HP.out.below (Bel.alloc (Bel.refl w) (.cells #[.int .i64 op, .int .i64 0, .bool false, .slice none 0 0] 94)))
  have HX0 := Lib.hid (Cel.new w [.int .i64 op, .int .i64 0, .bool false, .slice none 0 0] 94)
  have HO0 := Lib.hid (HOO.out.below (Bel.alloc (Bel.refl w) (.cells #[.int .i64 op, .int .i64 0, .bool false, .slice none 0 0] 94)))
  have HR0 := Lib.hid (HRS.out.below (Bel.alloc (Bel.refl w) (.cells #[.int .i64 op, .int .i64 0, .bool false, .slice none 0 0] 94)))
  have HK0 := Lib.hid (HK.out.alloc (.cells #[.int .i64 op, .int .i64 0, .bool false, .slice none 0 0] 94))
  have HX9 := Lib.hid hX
  have HS0 : Hid ((w.alloc (.cells #[.int .i64 op, .int .i64 0, .bool false, .slice none 0 0] 94)).heap.size = X + 1) := by rw [Hid, ← hX]; simp
  rw [hX] at HX0
  have o0 := HOO.out.cell 0
  clear HP HOO HRS HK
  unfold relC
  try dsimp only
  conv => arg 2; whnf
  go_upto_region 10 with (fail)
  rename_i K8 hK8
  have HK8 := Lib.hid hK8
  clear hK8
  refine (HTK.out (X + 1) _ (HP0.out.below (Bel.alloc (Bel.refl _) (.cells #[.string (bs tk)] 9))) (by rw [← HS0.out]; exact heap_alloc_new _ _) (by omega)).mono ?_
  rintro _ w1 ⟨rfl, hpc, hkp⟩
  have hbl : Below (X + 1) (w.alloc (.cells #[.int .i64 op, .int .i64 0, .bool false, .slice none 0 0] 94)) ((w.alloc (.cells #[.int .i64 op, .int .i64 0, .bool false, .slice none 0 0] 94)).alloc (.cells #[.string (bs tk)] 9)) := by rw [← HS0.out]; exact Bel.alloc (Bel.refl _) _
  have HP1 := Lib.hid hpc
  have HX1 := Lib.hid ((HX0.out.below (Bel.alloc (Bel.refl _) (.cells #[.string (bs tk)] 9))).kp hkp (oneP_ne hXb))
  have HO1 := Lib.hid ((HO0.out.below (Bel.alloc (Bel.refl _) (.cells #[.string (bs tk)] 9))).kp hkp (oneP_ne hOb))
  have HR1 := Lib.hid ((HR0.out.below (Bel.alloc (Bel.refl _) (.cells #[.string (bs tk)] 9))).kp hkp (oneP_ne hRb))
  have HK1 := Lib.hid ((HK0.out.alloc (.cells #[.string (bs tk)] 9)).trans hkp)
  clear hpc hkp hbl HP0 HX0 HO0 HR0 HK0 HS0 HX9 hX o0 HTK
  go_wp2_with fail
  refine HK8.out _ _ ?_
  clear HK8 K8
  go_upto_region 10 with (fail)
  rename_i K8 hK8
  have HK8 := Lib.hid hK8
  clear hK8
  go_wp2_with fail
  refine (HNX.out _ HP1.out).mono ?_
  rintro _ w2 ⟨rfl, hpc, hkp⟩
  have HP2 := Lib.hid hpc
  have HX2 := Lib.hid (HX1.out.kp hkp (oneP_ne hXb))
  have HO2 := Lib.hid (HO1.out.kp hkp (oneP_ne hOb))
  have HR2 := Lib.hid (HR1.out.kp hkp (oneP_ne hRb))
  have HK2 := Lib.hid (HK1.out.trans hkp)
  clear hpc hkp HP1 HX1 HO1 HR1 HK1
  go_wp2_with fail
  refine HK8.out _ _ ?_
  clear HK8 K8
  rename_i K9 hK9
  have HK9 := Lib.hid hK9
  clear hK9
  cases m with
  | false =>
    simp only [Bool.false_eq_true, if_false] at HV
    go_wp2_with fail
    refine HK9.out _ _ ?_
    rw [← HV.out]
    exact HEND.out _ _ _ _ _ _ _ _ _ _ _ _ _ _ _ _ _ _ _ _ _ _ _ _ _ _ _ _ _ _ _ _ _ _ _ _ _ _ _ _ _ _ _ _ _ _ _ _ _ _ _ _ _ _ _ _ _ _ _ _ _ _ _ _ _ _ _ _ _ _ _ _ _ HP2.out HX2.out HO2.out HR2.out hXb hOb hRb hXO hXR hXw hRw HK2.out

  | true =>
    simp only [if_true] at HV
    have o0 := HO2.out.cell 0
    simp only [List.getElem?_cons_zero] at o0
    go_wp2_with fail
    refine (HNU.out _ HP2.out O hOb o0).mono ?_
    rintro _ w3 ⟨rfl, hpc, hkp⟩
    have HP3 := Lib.hid hpc
    have HX3 := Lib.hid (HX2.out.kp hkp (oneP_ne hXb))
    have HO3 := Lib.hid (HO2.out.kp hkp (oneP_ne hOb))
    have HR3 := Lib.hid (HR2.out.kp hkp (oneP_ne hRb))
    have HK3 := Lib.hid (HK2.out.trans hkp)
    clear hpc hkp o0 HP2 HX2 HO2 HR2 HK2
    have x1 := HX3.out.cell 1
    have xf := HX3.out.frz 1
    have hlX : X < w3.heap.size := HX3.out.lt
    simp only [List.getElem?_cons_zero, List.getElem?_cons_succ] at x1
    go_wp2_with fail
    refine HK9.out _ _ ?_
    have HX4 := Lib.hid (HX3.out.set 1 (.int .i64 md))
    have HO4 := Lib.hid (HO3.out.other (a := ⟨X, 1, none⟩) hXO (.int .i64 md))
    have HR4 := Lib.hid (HR3.out.other (a := ⟨X, 1, none⟩) hXR (.int .i64 md))
    have HP4 := Lib.hid (HP3.out.other (a := ⟨X, 1, none⟩) hXb (.int .i64 md))
    have HK4 := Lib.hid (HK3.out.setN (p := ⟨X, 1, none⟩) hXw (.int .i64 md))
    rw [← HV.out]
    exact HEND.out _ _ _ _ _ _ _ _ _ _ _ _ _ _ _ _ _ _ _ _ _ _ _ _ _ _ _ _ _ _ _ _ _ _ _ _ _ _ _ _ _ _ _ _ _ _ _ _ _ _ _ _ _ _ _ _ _ _ _ _ _ _ _ _ _ _ _ _ _ _ _ _ _ HP4.out HX4.out HO4.out HR4.out hXb hOb hRb hXO hXR hXw hRw HK4.out

def CP.lim (p : CP) : CP := if 6 < p.rel + 1 then ({ p with rel := p.rel + 1 } : CP).fail 6 else { p with rel := p.rel + 1 }
set_option maxRecDepth 20000 in
set_option maxHeartbeats 4000000 in
theorem rel_5 (b : Nat) (S : ByteArray) (op : Int) (tk : List UInt8) (p : CP) (hrel : p.rel < 200000) (w0 w : World) (n0 O : Nat) (u1 u5 u6 u7 u8 u9 u10 u11 u12 u13 u14 u15 u16 u17 u18 u19 u20 u21 u22 u23 u24 u25 u26 u27 u28 u29 u30 u31 u32 u33 u34 u35 u36 u37 u38 u39 u40 u41 u42 u43 u44 u45 u46 u47 u48 u49 u50 u51 u52 u53 u54 u55 u56 u57 u58 u59 u60 u61 u62 u63 u64 u65 u66 u67 u68 u69 u70 u71 u72 : Value) (h : Pq w b S p) (hO : Cel w O 3 [.int .i64 op]) (hR : Cel w n0 94 [.int .i64 0, .int .i64 0, .bool false, .slice none 0 0])
    (hOb : O ≠ b) (hRb : n0 ≠ b) (_hOw : w0.heap.size ≤ O) (hRw : w0.heap.size ≤ n0) (hk : Kp (oneP b) w0 w) (res : Rel × CP)
    (hres : (let m := CP.next S.data.toList [37] (CP.take S.data.toList [bs tk] p.lim).2
      let a := if m.1 then CP.number S.data.toList (chk3 op) m.2 else (0, m.2)
      let t := CP.take S.data.toList [bs [61], bs [33, 61]] a.2
      let l := CP.spans S.data.toList op 6 [] t.2
      ((⟨op, a.1, decide (t.1 = [33, 61]), l.1⟩ : Rel), l.2)) = res) :
    (relC 5).wp Tryz.prog (bodyPost Tryz.prog Tryz.f333 (RelP b S op res.1.md res.1.neg (res.1.sp, res.2) w0)) ⟨#[.pointer (some ⟨b, 0, none⟩), u1, .pointer (some ⟨n0, 0, none⟩), .string (bs tk), .pointer (some ⟨O, 0, none⟩), u5, u6, u7, u8, u9, u10, u11, u12, u13, u14, u15, u16, u17, u18, u19, u20, u21, u22, u23, u24, u25, u26, u27, u28, u29, u30, u31, u32, u33, u34, u35, u36, u37, u38, u39, u40, u41, u42, u43, u44, u45, u46, u47, u48, u49, u50, u51, u52, u53, u54, u55, u56, u57, u58, u59, u60, u61, u62, u63, u64, u65, u66, u67, u68, u69, u70, u71, u72], []⟩ w := by
  have HEND := Lib.hid (fun W (g : Pq W b S p.lim) gO gR gk u1 u5 u6 u7 u8 u9 u10 u11 u12 u13 u14 u15 u16 u17 u18 u19 u20 u21 u22 u23 u24 u25 u26 u27 u28 u29 u30 u31 u32 u33 u34 u35 u36 u37 u38 u39 u40 u41 u42 u43 u44 u45 u46 u47 u48 u49 u50 u51 u52 u53 u54 u55 u56 u57 u58 u59 u60 u61 u62 u63 u64 u65 u66 u67 u68 u69 u70 u71 u72 => rel_8 b S op tk p.lim w0 W n0 O u1 u5 u6 u7 u8 u9 u10 u11 u12 u13 u14 u15 u16 u17 u18 u19 u20 u21 u22 u23 u24 u25 u26 u27 u28 u29 u30 u31 u32 u33 u34 u35 u36 u37 u38 u39 u40 u41 u42 u43 u44 u45 u46 u47 u48 u49 u50 u51 u52 u53 u54 u55 u56 u57 u58 u59 u60 u61 u62 u63 u64 u65 u66 u67 u68 u69 u70 u71 u72 g gO gR hOb hRb hRw gk res hres)
  have HF := Lib.hid (fun W (g : Pq W b S ({ p with rel := p.rel + 1 } : CP)) => cfail_any b S 6 _ W g)
  have HL : Hid (p.lim = if 6 < p.rel + 1 then ({ p with rel := p.rel + 1 } : CP).fail 6 else { p with rel := p.rel + 1 }) := rfl
  unfold PqP at HF
  have HP := Lib.hid h
  have HO := Lib.hid hO
  have HR := Lib.hid hR
  have HK := Lib.hid hk
  have hlb := h.lt
  obtain ⟨_, _, c2, _, _, f2, _⟩ := h.cells
  clear h hO hR hk hres
  have hp2 : ((p.rel + 1 : Nat) : Int) = (p.rel : Int) + 1 := by omega
  have hi : 0 ≤ (p.rel : Int) := by omega
  have hi2 : (p.rel : Int) ≤ 200000 := by omega
  have hp1 := HP.out.rel (p.rel + 1) (by omega)
  rw [hp2] at hp1
  have HP1 := Lib.hid hp1
  have HO1 := Lib.hid (HO.out.other (a := ⟨b, 2, none⟩) (fun e => hOb e.symm) (.int .i64 ((p.rel : Int) + 1)))
  have HR1 := Lib.hid (HR.out.other (a := ⟨b, 2, none⟩) (fun e => hRb e.symm) (.int .i64 ((p.rel : Int) + 1)))
  have HK1 := Lib.hid (HK.out.set (p := ⟨b, 2, none⟩) (oneP_self b) (.int .i64 ((p.rel : Int) + 1)))
  clear HP HO HR HK hp1 hp2
  unfold relC
  try dsimp only
  conv => arg 2; whnf
  go_upto_region 5 with (fail)
  rename_i K8 hK8
  have HK8 := Lib.hid hK8
  clear hK8
  go_wp2_with fail
  generalize w.setCell ⟨b, 2, none⟩ (.int .i64 ((p.rel : Int) + 1)) = w1 at *
  refine HK8.out _ _ ?_
  clear HK8 K8
  have d2 : w1.cell? ⟨b, 2, none⟩ = some (.int .i64 ((p.rel : Int) + 1)) := by
    obtain ⟨_, _, d2, _, _, _, _⟩ := HP1.out.cells
    rw [d2]
    show some (Value.int .i64 ((p.rel + 1 : Nat) : Int)) = _
    rw [show ((p.rel + 1 : Nat) : Int) = (p.rel : Int) + 1 by omega]
  have hlb1 : b < w1.heap.size := HP1.out.lt
  go_upto_region 6 with (fail)
  rename_i K8 hK8
  have HK8 := Lib.hid hK8
  clear hK8
  go_wp2_with fail
  refine HK8.out _ _ ?_
  clear HK8 K8
  rename_i K9 hK9
  have HK9 := Lib.hid hK9
  clear hK9
  by_cases hgt : 6 < p.rel + 1
  · rw [if_pos hgt] at HL
    have hd : decide (6 < (p.rel : Int) + 1) = true := decide_eq_true (by omega)
    go_wp2_with fail
    refine (HF.out _ HP1.out).mono ?_
    rintro _ w3 ⟨rfl, hpc, hkp⟩
    have HO3 := Lib.hid (HO1.out.kp hkp (oneP_ne hOb))
    have HR3 := Lib.hid (HR1.out.kp hkp (oneP_ne hRb))
    have HK3 := Lib.hid (HK1.out.trans hkp)
    have HP3 := Lib.hid hpc
    clear hpc hkp
    go_wp2_with fail
    refine HK9.out _ _ ?_
    exact HEND.out _ (by rw [HL.out]; exact HP3.out) HO3.out HR3.out HK3.out _ _ _ _ _ _ _ _ _ _ _ _ _ _ _ _ _ _ _ _ _ _ _ _ _ _ _ _ _ _ _ _ _ _ _ _ _ _ _ _ _ _ _ _ _ _ _ _ _ _ _ _ _ _ _ _ _ _ _ _ _ _ _ _ _ _ _ _ _
  · rw [if_neg hgt] at HL
    have hd : decide (6 < (p.rel : Int) + 1) = false := decide_eq_false (by omega)
    go_wp2_with fail
    refine HK9.out _ _ ?_
    exact HEND.out _ (by rw [HL.out]; exact HP1.out) HO1.out HR1.out HK1.out _ _ _ _ _ _ _ _ _ _ _ _ _ _ _ _ _ _ _ _ _ _ _ _ _ _ _ _ _ _ _ _ _ _ _ _ _ _ _ _ _ _ _ _ _ _ _ _ _ _ _ _ _ _ _ _ _ _ _ _ _ _ _ _ _ _ _ _ _
end Go.Proofs.YtmleeodfmmpdgaaGreatDoor
