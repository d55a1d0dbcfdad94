/- A drawn region of three chains of appends, by an invariant. -/
import Derived.Test.YtmleeodfmmpdgaaGreatDoorQ29
import Derived.Test.YtmleeodfmmpdgaaGreatDoorQ33
namespace Go.Proofs.YtmleeodfmmpdgaaGreatDoor
open Go.RowKit
attribute [local go_sem] Ext.cell Ext.frozen
theorem getD_tfP (L : Array Bool) (i : Nat) (hi : i < L.size) : L.getD i true = L.getD i false := by simp [Array.getD, hi]
theorem own_grown_o {w w' : World} {base sz : Nat} {E E' : TypeId} {v : Value} {n : Nat} {xs : List Value} (h : w.ownsRow base E sz v n xs) {row : Option Nat} (hg : w.grownBy w' row) (hr : ∀ k, row = some k → tyAt w k = some E') (hne : E ≠ E') : w'.ownsRow base E sz v n xs := by
  refine ⟨h.1, ?_⟩
  rcases h.2 with g | ⟨b, cap, cur, h1, h2, h3, h4⟩
  · exact .inl g
  · refine .inr ⟨b, cap, cur, h1, h2, (hg.block b (Array.getElem?_eq_some_iff.1 h3).1 (fun e => ?_)).trans h3, h4⟩
    have := hr b e.symm
    rw [show tyAt w b = some E by simp [tyAt, h3]] at this
    injection this with this
    exact hne this
theorem cel_grown_o {w w' : World} {b : Nat} {T E' : TypeId} {cs : List Value} (h : Cel w b T cs) {row : Option Nat} (hg : w.grownBy w' row) (hr : ∀ k, row = some k → tyAt w k = some E') (hne : T ≠ E') : Cel w' b T cs :=
  (hg.block b h.lt (fun e => by
    have := hr b e.symm
    rw [tyAt_cel h] at this
    injection this with this
    exact hne this)).trans h
/-- three states of a row that grows: made, with the first rows, with both -/
structure Chain (E : TypeId) (k base i0 i1 i2 t0 t1 t2 n m : Nat) (xs ys : List Value) (L : Array Bool) (a : Act) (w : World) : Prop where
  o1 : L.getD i1 false = true → L.getD i0 false = true
  o2 : L.getD i2 false = true → L.getD i1 false = true
  s0 : L.getD i0 false = true → L.getD i1 false = false → ∃ ad c, a.tmps.getD t0 undef = .slice ad 0 c ∧ w.ownsRow base E k (.slice ad 0 c) 0 []
  s1 : L.getD i1 false = true → L.getD i2 false = false → ∃ ad c, a.tmps.getD t1 undef = .slice ad n c ∧ w.ownsRow base E k (.slice ad n c) n xs
  s2 : L.getD i2 false = true → ∃ ad c, a.tmps.getD t2 undef = .slice ad (n + m) c ∧ w.ownsRow base E k (.slice ad (n + m) c) (n + m) (xs ++ ys)
section
variable {E : TypeId} {k base i0 i1 i2 t0 t1 t2 n m : Nat} {xs ys : List Value} {L : Array Bool} {a a' : Act} {w w' : World}
/-- another operation -/
theorem Chain.keep (h : Chain E k base i0 i1 i2 t0 t1 t2 n m xs ys L a w) {i : Nat} (h0 : i ≠ i0) (h1 : i ≠ i1) (h2 : i ≠ i2)
    (hs : ∀ t, t = t0 ∨ t = t1 ∨ t = t2 → a'.tmps.getD t undef = a.tmps.getD t undef) (hw : ∀ v n xs, w.ownsRow base E k v n xs → w'.ownsRow base E k v n xs) : Chain E k base i0 i1 i2 t0 t1 t2 n m xs ys (L.setIfInBounds i true) a' w' := by
  refine ⟨?_, ?_, ?_, ?_, ?_⟩
  · rw [getD_set_other h0, getD_set_other h1]; exact h.o1
  · rw [getD_set_other h1, getD_set_other h2]; exact h.o2
  · rw [getD_set_other h0, getD_set_other h1, hs t0 (.inl rfl)]
    intro g1 g2
    obtain ⟨ad, c, e, ho⟩ := h.s0 g1 g2
    exact ⟨ad, c, e, hw _ _ _ ho⟩
  · rw [getD_set_other h1, getD_set_other h2, hs t1 (.inr (.inl rfl))]
    intro g1 g2
    obtain ⟨ad, c, e, ho⟩ := h.s1 g1 g2
    exact ⟨ad, c, e, hw _ _ _ ho⟩
  · rw [getD_set_other h2, hs t2 (.inr (.inr rfl))]
    intro g1
    obtain ⟨ad, c, e, ho⟩ := h.s2 g1
    exact ⟨ad, c, e, hw _ _ _ ho⟩
theorem Chain.op0 (h : Chain E k base i0 i1 i2 t0 t1 t2 n m xs ys L a w) (hi : L.getD i0 false = false) (hL : i0 < L.size) (h01 : i0 ≠ i1) (h02 : i0 ≠ i2) {ad : Option Addr} {c : Nat} (ht : t0 < a.tmps.size) (ho : w'.ownsRow base E k (.slice ad 0 c) 0 []) :
    Chain E k base i0 i1 i2 t0 t1 t2 n m xs ys (L.setIfInBounds i0 true) (a.put (some t0) (.slice ad 0 c)) w' := by
  have h1 : L.getD i1 false = false := by
    cases g : L.getD i1 false with
    | false => rfl
    | true => rw [h.o1 g] at hi; cases hi
  have h2 : L.getD i2 false = false := by
    cases g : L.getD i2 false with
    | false => rfl
    | true => rw [h.o2 g] at h1; cases h1
  refine ⟨fun _ => getD_set_same hL, ?_, fun _ _ => ⟨ad, c, getD_put_same ht, ho⟩, ?_, ?_⟩
  · rw [getD_set_other h01, getD_set_other h02]; exact h.o2
  · rw [getD_set_other h01, h1]; intro g; cases g
  · rw [getD_set_other h02, h2]; intro g; cases g
theorem Chain.op1 (h : Chain E k base i0 i1 i2 t0 t1 t2 n m xs ys L a w) (hi : L.getD i1 false = false) (hp : L.getD i0 false = true) (hL : i1 < L.size) (h01 : i1 ≠ i0) (h02 : i1 ≠ i2) {ad : Option Addr} {c : Nat} (ht : t1 < a.tmps.size) (ho : w'.ownsRow base E k (.slice ad n c) n xs) :
    Chain E k base i0 i1 i2 t0 t1 t2 n m xs ys (L.setIfInBounds i1 true) (a.put (some t1) (.slice ad n c)) w' := by
  have h2 : L.getD i2 false = false := by
    cases g : L.getD i2 false with
    | false => rfl
    | true => rw [h.o2 g] at hi; cases hi
  refine ⟨?_, fun _ => getD_set_same hL, ?_, fun _ _ => ⟨ad, c, getD_put_same ht, ho⟩, ?_⟩
  · rw [getD_set_other h01]; intro _; exact hp
  · intro _ g; rw [getD_set_same hL] at g; cases g
  · rw [getD_set_other h02, h2]; intro g; cases g
theorem Chain.op2 (_h : Chain E k base i0 i1 i2 t0 t1 t2 n m xs ys L a w) (hp : L.getD i1 false = true) (hp0 : L.getD i0 false = true) (hL : i2 < L.size) (h01 : i2 ≠ i0) (h02 : i2 ≠ i1) {ad : Option Addr} {c : Nat} (ht : t2 < a.tmps.size) (ho : w'.ownsRow base E k (.slice ad (n + m) c) (n + m) (xs ++ ys)) :
    Chain E k base i0 i1 i2 t0 t1 t2 n m xs ys (L.setIfInBounds i2 true) (a.put (some t2) (.slice ad (n + m) c)) w' := by
  refine ⟨?_, ?_, ?_, ?_, fun _ => ⟨ad, c, getD_put_same ht, ho⟩⟩
  · rw [getD_set_other h01, getD_set_other h02]; intro _; exact hp0
  · rw [getD_set_other h02]; intro _; exact hp
  · rw [getD_set_other h02, hp]; intro _ g; cases g
  · intro _ g; rw [getD_set_same hL] at g; cases g
theorem Chain.start : Chain E k base i0 i1 i2 t0 t1 t2 n m xs ys (Array.replicate 24 false) a w := by
  have g : ∀ i, (Array.replicate 24 false).getD i false = false := fun i => by
    simp only [Array.getD_eq_getD_getElem?, Array.getElem?_replicate]
    split <;> rfl
  exact ⟨fun e => (by rw [g] at e; cases e), fun e => (by rw [g] at e; cases e), fun e => (by rw [g] at e; cases e), fun e => (by rw [g] at e; cases e), fun e => (by rw [g] at e; cases e)⟩
end
def dsP : List Nat := [83, 84, 85, 86, 87, 88, 89, 90, 91, 92, 93, 94, 95, 96, 97, 98, 99, 100, 101, 102, 103, 104, 14]
/-- what holds before the table is stored -/
structure JPR (A0 : Act) (TT : List (Nat × Nat × Value)) (W0 : World) (n0 m0 n1 m1 n2 m2 : Nat) (x0 y0 x1 y1 x2 y2 : List Value) (L : Array Bool) (a : Act) (w : World) : Prop where
  fr : Fr A0 a dsP
  sz : a.tmps.size = 112
  tab : Tab TT L a
  bel : Below W0.heap.size W0 w
  ch0 : Chain 46 16 W0.heap.size 0 3 6 83 86 89 n0 m0 x0 y0 L a w
  ch1 : Chain 61 2 W0.heap.size 7 10 13 90 93 96 n1 m1 x1 y1 L a w
  ch2 : Chain 58 3 W0.heap.size 14 17 20 97 100 103 n2 m2 x2 y2 L a w
  bld : L.getD 21 false = true → (L.getD 6 false = true ∧ L.getD 13 false = true ∧ L.getD 20 false = true) ∧ a.tmps.getD 104 undef = .agg #[a.tmps.getD 89 undef, a.tmps.getD 96 undef, a.tmps.getD 103 undef]
  box : L.getD 22 false = true → ∃ B, a.tmps.getD 14 undef = .pointer (some ⟨B, 0, none⟩) ∧ W0.heap.size ≤ B ∧ Cel w B 27 [.slice none 0 0, .slice none 0 0, .slice none 0 0]
/-- what holds behind the region -/
def JPE (A0 : Act) (W0 : World) (n0 m0 n1 m1 n2 m2 : Nat) (x0 y0 x1 y1 x2 y2 : List Value) (a : Act) (w : World) : Prop :=
  Fr A0 a dsP ∧ Below W0.heap.size W0 w ∧ ∃ B a0 c0 a1 c1 a2 c2, a.tmps.getD 14 undef = .pointer (some ⟨B, 0, none⟩) ∧ Cel w B 27 [.slice a0 (n0 + m0) c0, .slice a1 (n1 + m1) c1, .slice a2 (n2 + m2) c2] ∧
    w.ownsRow W0.heap.size 46 16 (.slice a0 (n0 + m0) c0) (n0 + m0) (x0 ++ y0) ∧ w.ownsRow W0.heap.size 61 2 (.slice a1 (n1 + m1) c1) (n1 + m1) (x1 ++ y1) ∧ w.ownsRow W0.heap.size 58 3 (.slice a2 (n2 + m2) c2) (n2 + m2) (x2 ++ y2)
def JP (A0 : Act) (TT : List (Nat × Nat × Value)) (W0 : World) (n0 m0 n1 m1 n2 m2 : Nat) (x0 y0 x1 y1 x2 y2 : List Value) (L : Array Bool) (a : Act) (w : World) : Prop :=
  (L.getD 23 false = true → (∀ i, i < 23 → L.getD i false = true) ∧ JPE A0 W0 n0 m0 n1 m1 n2 m2 x0 y0 x1 y1 x2 y2 a w) ∧ (L.getD 23 false = false → JPR A0 TT W0 n0 m0 n1 m1 n2 m2 x0 y0 x1 y1 x2 y2 L a w)
section
variable {A0 : Act} {TT : List (Nat × Nat × Value)} {W0 : World} {n0 m0 n1 m1 n2 m2 : Nat} {x0 y0 x1 y1 x2 y2 : List Value} {L : Array Bool} {a : Act} {w : World}
theorem JP.lt (h : JP A0 TT W0 n0 m0 n1 m1 n2 m2 x0 y0 x1 y1 x2 y2 L a w) (hL : L.size = 24) {i : Nat} (hi : i < 23) (h1 : L.getD i true = false) : L.getD 23 false = false := by
  cases h2 : L.getD 23 false with
  | false => rfl
  | true =>
    have := (h.1 h2).1 i hi
    rw [getD_tfP L i (by omega), this] at h1
    cases h1
theorem JP.of {i : Nat} (hi : i < 23) (h23 : L.getD 23 false = false) (hr : JPR A0 TT W0 n0 m0 n1 m1 n2 m2 x0 y0 x1 y1 x2 y2 (L.setIfInBounds i true) a w) : JP A0 TT W0 n0 m0 n1 m1 n2 m2 x0 y0 x1 y1 x2 y2 (L.setIfInBounds i true) a w := by
  have : (L.setIfInBounds i true).getD 23 false = false := by rw [getD_set_other (by omega)]; exact h23
  exact ⟨fun e => (by rw [this] at e; cases e), fun _ => hr⟩
theorem JP.start (A0 : Act) (hA : A0.tmps.size = 112) (W0 : World) : JP A0 TT W0 n0 m0 n1 m1 n2 m2 x0 y0 x1 y1 x2 y2 (Array.replicate 24 false) A0 W0.drew := by
  have g : ∀ i, (Array.replicate 24 false).getD i false = false := fun i => by
    simp only [Array.getD_eq_getD_getElem?, Array.getElem?_replicate]
    split <;> rfl
  exact ⟨fun e => (by rw [g] at e; cases e), fun _ => ⟨⟨rfl, rfl, fun _ _ => rfl⟩, hA, fun x _ e => (by rw [g] at e; cases e), (Below.refl _ _).drew, Chain.start, Chain.start, Chain.start, fun e => (by rw [g] at e; cases e), fun e => (by rw [g] at e; cases e)⟩⟩
theorem slots_other {a : Act} {d : Nat} {v : Value} {t0 t1 t2 : Nat} (h0 : d ≠ t0) (h1 : d ≠ t1) (h2 : d ≠ t2) : ∀ t, t = t0 ∨ t = t1 ∨ t = t2 → (a.put (some d) v).tmps.getD t undef = a.tmps.getD t undef := by
  rintro t (rfl | rfl | rfl)
  · exact getD_put_other h0
  · exact getD_put_other h1
  · exact getD_put_other h2
/-- the built table stays -/
theorem JPR.bldK (h : JPR A0 TT W0 n0 m0 n1 m1 n2 m2 x0 y0 x1 y1 x2 y2 L a w) {i d : Nat} {v : Value} (hi : L.getD i false = false) (h21 : i ≠ 21) (hd : d ≠ 104) (h6 : d = 89 → i = 6) (h13 : d = 96 → i = 13) (h20 : d = 103 → i = 20) :
    (L.setIfInBounds i true).getD 21 false = true → ((L.setIfInBounds i true).getD 6 false = true ∧ (L.setIfInBounds i true).getD 13 false = true ∧ (L.setIfInBounds i true).getD 20 false = true) ∧ (a.put (some d) v).tmps.getD 104 undef = .agg #[(a.put (some d) v).tmps.getD 89 undef, (a.put (some d) v).tmps.getD 96 undef, (a.put (some d) v).tmps.getD 103 undef] := by
  intro g
  rw [getD_set_other h21] at g
  obtain ⟨⟨g6, g13, g20⟩, e⟩ := h.bld g
  have n6 : i ≠ 6 := fun e => by rw [e, g6] at hi; cases hi
  have n13 : i ≠ 13 := fun e => by rw [e, g13] at hi; cases hi
  have n20 : i ≠ 20 := fun e => by rw [e, g20] at hi; cases hi
  rw [getD_set_other n6, getD_set_other n13, getD_set_other n20, getD_put_other hd, getD_put_other (fun e => n6 (h6 e)), getD_put_other (fun e => n13 (h13 e)), getD_put_other (fun e => n20 (h20 e))]
  exact ⟨⟨g6, g13, g20⟩, e⟩
/-- the box stays -/
theorem JPR.boxK (h : JPR A0 TT W0 n0 m0 n1 m1 n2 m2 x0 y0 x1 y1 x2 y2 L a w) {i d : Nat} {v : Value} {w' : World} (h22 : i ≠ 22) (hd : d ≠ 14) (hw : ∀ B, Cel w B 27 [.slice none 0 0, .slice none 0 0, .slice none 0 0] → Cel w' B 27 [.slice none 0 0, .slice none 0 0, .slice none 0 0]) :
    (L.setIfInBounds i true).getD 22 false = true → ∃ B, (a.put (some d) v).tmps.getD 14 undef = .pointer (some ⟨B, 0, none⟩) ∧ W0.heap.size ≤ B ∧ Cel w' B 27 [.slice none 0 0, .slice none 0 0, .slice none 0 0] := by
  intro g
  rw [getD_set_other h22] at g
  obtain ⟨B, e1, e2, e3⟩ := h.box g
  exact ⟨B, by rw [getD_put_other hd]; exact e1, e2, hw B e3⟩
theorem JPR.det (h : JPR A0 TT W0 n0 m0 n1 m1 n2 m2 x0 y0 x1 y1 x2 y2 L a w) (hL : L.size = 24) {i d : Nat} {v : Value} (hi : L.getD i false = false) (hiL : i < 24) (hd : d ∈ dsP) (hdl : d < 112) (hT : ∀ x ∈ TT, (x.1 = i ↔ x.2.1 = d) ∧ (x.1 = i → x.2.2 = v))
    (hi0 : i ≠ 0 ∧ i ≠ 3 ∧ i ≠ 6 ∧ i ≠ 7 ∧ i ≠ 10 ∧ i ≠ 13 ∧ i ≠ 14 ∧ i ≠ 17 ∧ i ≠ 20 ∧ i ≠ 21 ∧ i ≠ 22) (hd0 : d ≠ 83 ∧ d ≠ 86 ∧ d ≠ 89 ∧ d ≠ 90 ∧ d ≠ 93 ∧ d ≠ 96 ∧ d ≠ 97 ∧ d ≠ 100 ∧ d ≠ 103 ∧ d ≠ 104 ∧ d ≠ 14) :
    JPR A0 TT W0 n0 m0 n1 m1 n2 m2 x0 y0 x1 y1 x2 y2 (L.setIfInBounds i true) (a.put (some d) v) w := by
  obtain ⟨q0, q3, q6, q7, q10, q13, q14, q17, q20, q21, q22⟩ := hi0
  obtain ⟨r0, r3, r6, r7, r10, r13, r14, r17, r20, r21, r22⟩ := hd0
  exact ⟨h.fr.put hd v, by simpa [Act.put] using h.sz, h.tab.put (by rw [h.sz]; exact hdl) (by omega) hT, h.bel, h.ch0.keep q0 q3 q6 (slots_other r0 r3 r6) (fun _ _ _ g => g), h.ch1.keep q7 q10 q13 (slots_other r7 r10 r13) (fun _ _ _ g => g), h.ch2.keep q14 q17 q20 (slots_other r14 r17 r20) (fun _ _ _ g => g),
    h.bldK hi q21 r21 (fun e => absurd e r6) (fun e => absurd e r13) (fun e => absurd e r20), h.boxK q22 r22 fun _ g => g⟩
theorem JPR.made0 (h : JPR A0 TT W0 n0 m0 n1 m1 n2 m2 x0 y0 x1 y1 x2 y2 L a w) (hL : L.size = 24) (hi : L.getD 0 false = false) (hT : ∀ x ∈ TT, x.1 ≠ 0 ∧ x.2.1 ≠ 83) :
    JPR A0 TT W0 n0 m0 n1 m1 n2 m2 x0 y0 x1 y1 x2 y2 (L.setIfInBounds 0 true) (a.put (some 83) (.slice (some ⟨w.heap.size, 0, none⟩) 0 0)) (w.alloc (.cells #[] 46)) :=
  ⟨h.fr.put (by decide) _, by simpa [Act.put] using h.sz, h.tab.put (by rw [h.sz]; decide) (by omega) (fun x hx => ⟨⟨fun e => absurd e (hT x hx).1, fun e => absurd e (hT x hx).2⟩, fun e => absurd e (hT x hx).1⟩), h.bel.alloc h.bel.size _,
    h.ch0.op0 hi (by omega) (by decide) (by decide) (by rw [h.sz]; decide) (World.ownsRow_made w #[] 0 h.bel.size (by decide) rfl), h.ch1.keep (by decide) (by decide) (by decide) (slots_other (by decide) (by decide) (by decide)) (fun _ _ _ g => own_below g (Bel.alloc (Bel.refl w) _)), h.ch2.keep (by decide) (by decide) (by decide) (slots_other (by decide) (by decide) (by decide)) (fun _ _ _ g => own_below g (Bel.alloc (Bel.refl w) _)),
    h.bldK hi (by decide) (by decide) (fun e => absurd e (by decide)) (fun e => absurd e (by decide)) (fun e => absurd e (by decide)), h.boxK (by decide) (by decide) fun _ g => g.below (Bel.alloc (Bel.refl w) _)⟩
theorem JPR.app00 (h : JPR A0 TT W0 n0 m0 n1 m1 n2 m2 x0 y0 x1 y1 x2 y2 L a w) (hL : L.size = 24) (hi : L.getD 3 false = false) (hp : L.getD 0 false = true) (hT : ∀ x ∈ TT, x.1 ≠ 3 ∧ x.2.1 ≠ 86) {ad : Option Addr} {c : Nat} (hsrc : w.ownsRow W0.heap.size 46 16 (.slice ad 0 c) 0 []) {ad' : Option Addr} {c' : Nat} {w' : World} (ho : w'.ownsRow W0.heap.size 46 16 (.slice ad' n0 c') n0 x0) (hg : w.grownBy w' (Value.ownBlock (.slice ad 0 c))) :
    JPR A0 TT W0 n0 m0 n1 m1 n2 m2 x0 y0 x1 y1 x2 y2 (L.setIfInBounds 3 true) (a.put (some 86) (.slice ad' n0 c')) w' := by
  have hrow : ∀ q, Value.ownBlock (.slice ad 0 c) = some q → tyAt w q = some 46 := fun q hq => own_ty hsrc hq
  have hb : Below W0.heap.size W0 w' := ⟨hg.os.trans h.bel.os, hg.tape.trans h.bel.tape, hg.output.trans h.bel.output, Nat.le_trans h.bel.size hg.size, fun q hq => (hg.block q (Nat.lt_of_lt_of_le hq h.bel.size) (fun e => by have := (World.ownsRow.lt hsrc q e.symm).1; omega)).trans (h.bel.block q hq)⟩
  exact ⟨h.fr.put (by decide) _, by simpa [Act.put] using h.sz, h.tab.put (by rw [h.sz]; decide) (by omega) (fun x hx => ⟨⟨fun e => absurd e (hT x hx).1, fun e => absurd e (hT x hx).2⟩, fun e => absurd e (hT x hx).1⟩), hb,
    h.ch0.op1 hi hp (by omega) (by decide) (by decide) (by rw [h.sz]; decide) ho, h.ch1.keep (by decide) (by decide) (by decide) (slots_other (by decide) (by decide) (by decide)) (fun _ _ _ g => own_grown_o g hg hrow (by decide)), h.ch2.keep (by decide) (by decide) (by decide) (slots_other (by decide) (by decide) (by decide)) (fun _ _ _ g => own_grown_o g hg hrow (by decide)),
    h.bldK hi (by decide) (by decide) (fun e => absurd e (by decide)) (fun e => absurd e (by decide)) (fun e => absurd e (by decide)), h.boxK (by decide) (by decide) fun _ g => cel_grown_o g hg hrow (by decide)⟩
theorem JPR.app01 (h : JPR A0 TT W0 n0 m0 n1 m1 n2 m2 x0 y0 x1 y1 x2 y2 L a w) (hL : L.size = 24) (hi : L.getD 6 false = false) (hp : L.getD 3 false = true) (hT : ∀ x ∈ TT, x.1 ≠ 6 ∧ x.2.1 ≠ 89) {ad : Option Addr} {c : Nat} (hsrc : w.ownsRow W0.heap.size 46 16 (.slice ad n0 c) n0 x0) {ad' : Option Addr} {c' : Nat} {w' : World} (ho : w'.ownsRow W0.heap.size 46 16 (.slice ad' (n0 + m0) c') (n0 + m0) (x0 ++ y0)) (hg : w.grownBy w' (Value.ownBlock (.slice ad n0 c))) :
    JPR A0 TT W0 n0 m0 n1 m1 n2 m2 x0 y0 x1 y1 x2 y2 (L.setIfInBounds 6 true) (a.put (some 89) (.slice ad' (n0 + m0) c')) w' := by
  have hrow : ∀ q, Value.ownBlock (.slice ad n0 c) = some q → tyAt w q = some 46 := fun q hq => own_ty hsrc hq
  have hb : Below W0.heap.size W0 w' := ⟨hg.os.trans h.bel.os, hg.tape.trans h.bel.tape, hg.output.trans h.bel.output, Nat.le_trans h.bel.size hg.size, fun q hq => (hg.block q (Nat.lt_of_lt_of_le hq h.bel.size) (fun e => by have := (World.ownsRow.lt hsrc q e.symm).1; omega)).trans (h.bel.block q hq)⟩
  exact ⟨h.fr.put (by decide) _, by simpa [Act.put] using h.sz, h.tab.put (by rw [h.sz]; decide) (by omega) (fun x hx => ⟨⟨fun e => absurd e (hT x hx).1, fun e => absurd e (hT x hx).2⟩, fun e => absurd e (hT x hx).1⟩), hb,
    h.ch0.op2 hp (h.ch0.o1 hp) (by omega) (by decide) (by decide) (by rw [h.sz]; decide) ho, h.ch1.keep (by decide) (by decide) (by decide) (slots_other (by decide) (by decide) (by decide)) (fun _ _ _ g => own_grown_o g hg hrow (by decide)), h.ch2.keep (by decide) (by decide) (by decide) (slots_other (by decide) (by decide) (by decide)) (fun _ _ _ g => own_grown_o g hg hrow (by decide)),
    h.bldK hi (by decide) (by decide) (fun e => rfl) (fun e => absurd e (by decide)) (fun e => absurd e (by decide)), h.boxK (by decide) (by decide) fun _ g => cel_grown_o g hg hrow (by decide)⟩
theorem JPR.made1 (h : JPR A0 TT W0 n0 m0 n1 m1 n2 m2 x0 y0 x1 y1 x2 y2 L a w) (hL : L.size = 24) (hi : L.getD 7 false = false) (hT : ∀ x ∈ TT, x.1 ≠ 7 ∧ x.2.1 ≠ 90) :
    JPR A0 TT W0 n0 m0 n1 m1 n2 m2 x0 y0 x1 y1 x2 y2 (L.setIfInBounds 7 true) (a.put (some 90) (.slice (some ⟨w.heap.size, 0, none⟩) 0 0)) (w.alloc (.cells #[] 61)) :=
  ⟨h.fr.put (by decide) _, by simpa [Act.put] using h.sz, h.tab.put (by rw [h.sz]; decide) (by omega) (fun x hx => ⟨⟨fun e => absurd e (hT x hx).1, fun e => absurd e (hT x hx).2⟩, fun e => absurd e (hT x hx).1⟩), h.bel.alloc h.bel.size _,
    h.ch0.keep (by decide) (by decide) (by decide) (slots_other (by decide) (by decide) (by decide)) (fun _ _ _ g => own_below g (Bel.alloc (Bel.refl w) _)), h.ch1.op0 hi (by omega) (by decide) (by decide) (by rw [h.sz]; decide) (World.ownsRow_made w #[] 0 h.bel.size (by decide) rfl), h.ch2.keep (by decide) (by decide) (by decide) (slots_other (by decide) (by decide) (by decide)) (fun _ _ _ g => own_below g (Bel.alloc (Bel.refl w) _)),
    h.bldK hi (by decide) (by decide) (fun e => absurd e (by decide)) (fun e => absurd e (by decide)) (fun e => absurd e (by decide)), h.boxK (by decide) (by decide) fun _ g => g.below (Bel.alloc (Bel.refl w) _)⟩
theorem JPR.app10 (h : JPR A0 TT W0 n0 m0 n1 m1 n2 m2 x0 y0 x1 y1 x2 y2 L a w) (hL : L.size = 24) (hi : L.getD 10 false = false) (hp : L.getD 7 false = true) (hT : ∀ x ∈ TT, x.1 ≠ 10 ∧ x.2.1 ≠ 93) {ad : Option Addr} {c : Nat} (hsrc : w.ownsRow W0.heap.size 61 2 (.slice ad 0 c) 0 []) {ad' : Option Addr} {c' : Nat} {w' : World} (ho : w'.ownsRow W0.heap.size 61 2 (.slice ad' n1 c') n1 x1) (hg : w.grownBy w' (Value.ownBlock (.slice ad 0 c))) :
    JPR A0 TT W0 n0 m0 n1 m1 n2 m2 x0 y0 x1 y1 x2 y2 (L.setIfInBounds 10 true) (a.put (some 93) (.slice ad' n1 c')) w' := by
  have hrow : ∀ q, Value.ownBlock (.slice ad 0 c) = some q → tyAt w q = some 61 := fun q hq => own_ty hsrc hq
  have hb : Below W0.heap.size W0 w' := ⟨hg.os.trans h.bel.os, hg.tape.trans h.bel.tape, hg.output.trans h.bel.output, Nat.le_trans h.bel.size hg.size, fun q hq => (hg.block q (Nat.lt_of_lt_of_le hq h.bel.size) (fun e => by have := (World.ownsRow.lt hsrc q e.symm).1; omega)).trans (h.bel.block q hq)⟩
  exact ⟨h.fr.put (by decide) _, by simpa [Act.put] using h.sz, h.tab.put (by rw [h.sz]; decide) (by omega) (fun x hx => ⟨⟨fun e => absurd e (hT x hx).1, fun e => absurd e (hT x hx).2⟩, fun e => absurd e (hT x hx).1⟩), hb,
    h.ch0.keep (by decide) (by decide) (by decide) (slots_other (by decide) (by decide) (by decide)) (fun _ _ _ g => own_grown_o g hg hrow (by decide)), h.ch1.op1 hi hp (by omega) (by decide) (by decide) (by rw [h.sz]; decide) ho, h.ch2.keep (by decide) (by decide) (by decide) (slots_other (by decide) (by decide) (by decide)) (fun _ _ _ g => own_grown_o g hg hrow (by decide)),
    h.bldK hi (by decide) (by decide) (fun e => absurd e (by decide)) (fun e => absurd e (by decide)) (fun e => absurd e (by decide)), h.boxK (by decide) (by decide) fun _ g => cel_grown_o g hg hrow (by decide)⟩
theorem JPR.app11 (h : JPR A0 TT W0 n0 m0 n1 m1 n2 m2 x0 y0 x1 y1 x2 y2 L a w) (hL : L.size = 24) (hi : L.getD 13 false = false) (hp : L.getD 10 false = true) (hT : ∀ x ∈ TT, x.1 ≠ 13 ∧ x.2.1 ≠ 96) {ad : Option Addr} {c : Nat} (hsrc : w.ownsRow W0.heap.size 61 2 (.slice ad n1 c) n1 x1) {ad' : Option Addr} {c' : Nat} {w' : World} (ho : w'.ownsRow W0.heap.size 61 2 (.slice ad' (n1 + m1) c') (n1 + m1) (x1 ++ y1)) (hg : w.grownBy w' (Value.ownBlock (.slice ad n1 c))) :
    JPR A0 TT W0 n0 m0 n1 m1 n2 m2 x0 y0 x1 y1 x2 y2 (L.setIfInBounds 13 true) (a.put (some 96) (.slice ad' (n1 + m1) c')) w' := by
  have hrow : ∀ q, Value.ownBlock (.slice ad n1 c) = some q → tyAt w q = some 61 := fun q hq => own_ty hsrc hq
  have hb : Below W0.heap.size W0 w' := ⟨hg.os.trans h.bel.os, hg.tape.trans h.bel.tape, hg.output.trans h.bel.output, Nat.le_trans h.bel.size hg.size, fun q hq => (hg.block q (Nat.lt_of_lt_of_le hq h.bel.size) (fun e => by have := (World.ownsRow.lt hsrc q e.symm).1; omega)).trans (h.bel.block q hq)⟩
  exact ⟨h.fr.put (by decide) _, by simpa [Act.put] using h.sz, h.tab.put (by rw [h.sz]; decide) (by omega) (fun x hx => ⟨⟨fun e => absurd e (hT x hx).1, fun e => absurd e (hT x hx).2⟩, fun e => absurd e (hT x hx).1⟩), hb,
    h.ch0.keep (by decide) (by decide) (by decide) (slots_other (by decide) (by decide) (by decide)) (fun _ _ _ g => own_grown_o g hg hrow (by decide)), h.ch1.op2 hp (h.ch1.o1 hp) (by omega) (by decide) (by decide) (by rw [h.sz]; decide) ho, h.ch2.keep (by decide) (by decide) (by decide) (slots_other (by decide) (by decide) (by decide)) (fun _ _ _ g => own_grown_o g hg hrow (by decide)),
    h.bldK hi (by decide) (by decide) (fun e => absurd e (by decide)) (fun e => rfl) (fun e => absurd e (by decide)), h.boxK (by decide) (by decide) fun _ g => cel_grown_o g hg hrow (by decide)⟩
theorem JPR.made2 (h : JPR A0 TT W0 n0 m0 n1 m1 n2 m2 x0 y0 x1 y1 x2 y2 L a w) (hL : L.size = 24) (hi : L.getD 14 false = false) (hT : ∀ x ∈ TT, x.1 ≠ 14 ∧ x.2.1 ≠ 97) :
    JPR A0 TT W0 n0 m0 n1 m1 n2 m2 x0 y0 x1 y1 x2 y2 (L.setIfInBounds 14 true) (a.put (some 97) (.slice (some ⟨w.heap.size, 0, none⟩) 0 0)) (w.alloc (.cells #[] 58)) :=
  ⟨h.fr.put (by decide) _, by simpa [Act.put] using h.sz, h.tab.put (by rw [h.sz]; decide) (by omega) (fun x hx => ⟨⟨fun e => absurd e (hT x hx).1, fun e => absurd e (hT x hx).2⟩, fun e => absurd e (hT x hx).1⟩), h.bel.alloc h.bel.size _,
    h.ch0.keep (by decide) (by decide) (by decide) (slots_other (by decide) (by decide) (by decide)) (fun _ _ _ g => own_below g (Bel.alloc (Bel.refl w) _)), h.ch1.keep (by decide) (by decide) (by decide) (slots_other (by decide) (by decide) (by decide)) (fun _ _ _ g => own_below g (Bel.alloc (Bel.refl w) _)), h.ch2.op0 hi (by omega) (by decide) (by decide) (by rw [h.sz]; decide) (World.ownsRow_made w #[] 0 h.bel.size (by decide) rfl),
    h.bldK hi (by decide) (by decide) (fun e => absurd e (by decide)) (fun e => absurd e (by decide)) (fun e => absurd e (by decide)), h.boxK (by decide) (by decide) fun _ g => g.below (Bel.alloc (Bel.refl w) _)⟩
theorem JPR.app20 (h : JPR A0 TT W0 n0 m0 n1 m1 n2 m2 x0 y0 x1 y1 x2 y2 L a w) (hL : L.size = 24) (hi : L.getD 17 false = false) (hp : L.getD 14 false = true) (hT : ∀ x ∈ TT, x.1 ≠ 17 ∧ x.2.1 ≠ 100) {ad : Option Addr} {c : Nat} (hsrc : w.ownsRow W0.heap.size 58 3 (.slice ad 0 c) 0 []) {ad' : Option Addr} {c' : Nat} {w' : World} (ho : w'.ownsRow W0.heap.size 58 3 (.slice ad' n2 c') n2 x2) (hg : w.grownBy w' (Value.ownBlock (.slice ad 0 c))) :
    JPR A0 TT W0 n0 m0 n1 m1 n2 m2 x0 y0 x1 y1 x2 y2 (L.setIfInBounds 17 true) (a.put (some 100) (.slice ad' n2 c')) w' := by
  have hrow : ∀ q, Value.ownBlock (.slice ad 0 c) = some q → tyAt w q = some 58 := fun q hq => own_ty hsrc hq
  have hb : Below W0.heap.size W0 w' := ⟨hg.os.trans h.bel.os, hg.tape.trans h.bel.tape, hg.output.trans h.bel.output, Nat.le_trans h.bel.size hg.size, fun q hq => (hg.block q (Nat.lt_of_lt_of_le hq h.bel.size) (fun e => by have := (World.ownsRow.lt hsrc q e.symm).1; omega)).trans (h.bel.block q hq)⟩
  exact ⟨h.fr.put (by decide) _, by simpa [Act.put] using h.sz, h.tab.put (by rw [h.sz]; decide) (by omega) (fun x hx => ⟨⟨fun e => absurd e (hT x hx).1, fun e => absurd e (hT x hx).2⟩, fun e => absurd e (hT x hx).1⟩), hb,
    h.ch0.keep (by decide) (by decide) (by decide) (slots_other (by decide) (by decide) (by decide)) (fun _ _ _ g => own_grown_o g hg hrow (by decide)), h.ch1.keep (by decide) (by decide) (by decide) (slots_other (by decide) (by decide) (by decide)) (fun _ _ _ g => own_grown_o g hg hrow (by decide)), h.ch2.op1 hi hp (by omega) (by decide) (by decide) (by rw [h.sz]; decide) ho,
    h.bldK hi (by decide) (by decide) (fun e => absurd e (by decide)) (fun e => absurd e (by decide)) (fun e => absurd e (by decide)), h.boxK (by decide) (by decide) fun _ g => cel_grown_o g hg hrow (by decide)⟩
theorem JPR.app21 (h : JPR A0 TT W0 n0 m0 n1 m1 n2 m2 x0 y0 x1 y1 x2 y2 L a w) (hL : L.size = 24) (hi : L.getD 20 false = false) (hp : L.getD 17 false = true) (hT : ∀ x ∈ TT, x.1 ≠ 20 ∧ x.2.1 ≠ 103) {ad : Option Addr} {c : Nat} (hsrc : w.ownsRow W0.heap.size 58 3 (.slice ad n2 c) n2 x2) {ad' : Option Addr} {c' : Nat} {w' : World} (ho : w'.ownsRow W0.heap.size 58 3 (.slice ad' (n2 + m2) c') (n2 + m2) (x2 ++ y2)) (hg : w.grownBy w' (Value.ownBlock (.slice ad n2 c))) :
    JPR A0 TT W0 n0 m0 n1 m1 n2 m2 x0 y0 x1 y1 x2 y2 (L.setIfInBounds 20 true) (a.put (some 103) (.slice ad' (n2 + m2) c')) w' := by
  have hrow : ∀ q, Value.ownBlock (.slice ad n2 c) = some q → tyAt w q = some 58 := fun q hq => own_ty hsrc hq
  have hb : Below W0.heap.size W0 w' := ⟨hg.os.trans h.bel.os, hg.tape.trans h.bel.tape, hg.output.trans h.bel.output, Nat.le_trans h.bel.size hg.size, fun q hq => (hg.block q (Nat.lt_of_lt_of_le hq h.bel.size) (fun e => by have := (World.ownsRow.lt hsrc q e.symm).1; omega)).trans (h.bel.block q hq)⟩
  exact ⟨h.fr.put (by decide) _, by simpa [Act.put] using h.sz, h.tab.put (by rw [h.sz]; decide) (by omega) (fun x hx => ⟨⟨fun e => absurd e (hT x hx).1, fun e => absurd e (hT x hx).2⟩, fun e => absurd e (hT x hx).1⟩), hb,
    h.ch0.keep (by decide) (by decide) (by decide) (slots_other (by decide) (by decide) (by decide)) (fun _ _ _ g => own_grown_o g hg hrow (by decide)), h.ch1.keep (by decide) (by decide) (by decide) (slots_other (by decide) (by decide) (by decide)) (fun _ _ _ g => own_grown_o g hg hrow (by decide)), h.ch2.op2 hp (h.ch2.o1 hp) (by omega) (by decide) (by decide) (by rw [h.sz]; decide) ho,
    h.bldK hi (by decide) (by decide) (fun e => absurd e (by decide)) (fun e => absurd e (by decide)) (fun e => rfl), h.boxK (by decide) (by decide) fun _ g => cel_grown_o g hg hrow (by decide)⟩
theorem JPR.build (h : JPR A0 TT W0 n0 m0 n1 m1 n2 m2 x0 y0 x1 y1 x2 y2 L a w) (hL : L.size = 24) (h6 : L.getD 6 false = true) (h13 : L.getD 13 false = true) (h20 : L.getD 20 false = true) (hT : ∀ x ∈ TT, x.1 ≠ 21 ∧ x.2.1 ≠ 104) :
    JPR A0 TT W0 n0 m0 n1 m1 n2 m2 x0 y0 x1 y1 x2 y2 (L.setIfInBounds 21 true) (a.put (some 104) (.agg #[a.tmps.getD 89 undef, a.tmps.getD 96 undef, a.tmps.getD 103 undef])) w :=
  ⟨h.fr.put (by decide) _, by simpa [Act.put] using h.sz, h.tab.put (by rw [h.sz]; decide) (by omega) (fun x hx => ⟨⟨fun e => absurd e (hT x hx).1, fun e => absurd e (hT x hx).2⟩, fun e => absurd e (hT x hx).1⟩), h.bel,
    h.ch0.keep (by decide) (by decide) (by decide) (slots_other (by decide) (by decide) (by decide)) (fun _ _ _ g => g), h.ch1.keep (by decide) (by decide) (by decide) (slots_other (by decide) (by decide) (by decide)) (fun _ _ _ g => g), h.ch2.keep (by decide) (by decide) (by decide) (slots_other (by decide) (by decide) (by decide)) (fun _ _ _ g => g),
    fun _ => ⟨⟨by rw [getD_set_other (by decide)]; exact h6, by rw [getD_set_other (by decide)]; exact h13, by rw [getD_set_other (by decide)]; exact h20⟩, by rw [getD_put_same (by rw [h.sz]; decide), getD_put_other (by decide), getD_put_other (by decide), getD_put_other (by decide)]⟩, h.boxK (by decide) (by decide) fun _ g => g⟩
theorem JPR.alloc (h : JPR A0 TT W0 n0 m0 n1 m1 n2 m2 x0 y0 x1 y1 x2 y2 L a w) (hL : L.size = 24) (hi : L.getD 22 false = false) (hT : ∀ x ∈ TT, x.1 ≠ 22 ∧ x.2.1 ≠ 14) :
    JPR A0 TT W0 n0 m0 n1 m1 n2 m2 x0 y0 x1 y1 x2 y2 (L.setIfInBounds 22 true) (a.put (some 14) (.pointer (some ⟨w.heap.size, 0, none⟩))) (w.alloc (.cells #[.slice none 0 0, .slice none 0 0, .slice none 0 0] 27)) :=
  ⟨h.fr.put (by decide) _, by simpa [Act.put] using h.sz, h.tab.put (by rw [h.sz]; decide) (by omega) (fun x hx => ⟨⟨fun e => absurd e (hT x hx).1, fun e => absurd e (hT x hx).2⟩, fun e => absurd e (hT x hx).1⟩), h.bel.alloc h.bel.size _,
    h.ch0.keep (by decide) (by decide) (by decide) (slots_other (by decide) (by decide) (by decide)) (fun _ _ _ g => own_below g (Bel.alloc (Bel.refl w) _)), h.ch1.keep (by decide) (by decide) (by decide) (slots_other (by decide) (by decide) (by decide)) (fun _ _ _ g => own_below g (Bel.alloc (Bel.refl w) _)), h.ch2.keep (by decide) (by decide) (by decide) (slots_other (by decide) (by decide) (by decide)) (fun _ _ _ g => own_below g (Bel.alloc (Bel.refl w) _)),
    h.bldK hi (by decide) (by decide) (fun e => absurd e (by decide)) (fun e => absurd e (by decide)) (fun e => absurd e (by decide)), fun _ => ⟨w.heap.size, getD_put_same (by rw [h.sz]; decide), h.bel.size, Cel.new w [.slice none 0 0, .slice none 0 0, .slice none 0 0] 27⟩⟩
end
end Go.Proofs.YtmleeodfmmpdgaaGreatDoor
/- The end of that region; rows of a table read as such. -/
namespace Go.Proofs.YtmleeodfmmpdgaaGreatDoor
open Go.RowKit
attribute [local go_sem] Ext.cell Ext.frozen
section
variable {A0 : Act} {TT : List (Nat × Nat × Value)} {W0 : World} {n0 m0 n1 m1 n2 m2 : Nat} {x0 y0 x1 y1 x2 y2 : List Value} {L : Array Bool} {a : Act} {w : World}
theorem JPR.finish (h : JPR A0 TT W0 n0 m0 n1 m1 n2 m2 x0 y0 x1 y1 x2 y2 L a w) (h6 : L.getD 6 false = true) (h13 : L.getD 13 false = true) (h20 : L.getD 20 false = true) (h21 : L.getD 21 false = true) (h22 : L.getD 22 false = true) :
    ∃ B a0 c0 a1 c1 a2 c2, a.tmps.getD 14 undef = .pointer (some ⟨B, 0, none⟩) ∧ a.tmps.getD 104 undef = .agg #[.slice a0 (n0 + m0) c0, .slice a1 (n1 + m1) c1, .slice a2 (n2 + m2) c2] ∧ Cel w B 27 [.slice none 0 0, .slice none 0 0, .slice none 0 0] ∧
      JPE A0 W0 n0 m0 n1 m1 n2 m2 x0 y0 x1 y1 x2 y2 a (((w.setCell ⟨B, 0, none⟩ (.slice a0 (n0 + m0) c0)).setCell ⟨B, 1, none⟩ (.slice a1 (n1 + m1) c1)).setCell ⟨B, 2, none⟩ (.slice a2 (n2 + m2) c2)) := by
  obtain ⟨a0, c0, e0, o0⟩ := h.ch0.s2 h6
  obtain ⟨a1, c1, e1, o1⟩ := h.ch1.s2 h13
  obtain ⟨a2, c2, e2, o2⟩ := h.ch2.s2 h20
  obtain ⟨B, eB, hB, hc⟩ := h.box h22
  obtain ⟨_, e104⟩ := h.bld h21
  rw [e0, e1, e2] at e104
  have hc0 := hc.set 0 (.slice a0 (n0 + m0) c0)
  have hc1 := hc0.set 1 (.slice a1 (n1 + m1) c1)
  have hc2 := hc1.set 2 (.slice a2 (n2 + m2) c2)
  have kk : ∀ ts : List TypeId, 27 ∉ ts → KpT W0.heap.size ts w (((w.setCell ⟨B, 0, none⟩ (.slice a0 (n0 + m0) c0)).setCell ⟨B, 1, none⟩ (.slice a1 (n1 + m1) c1)).setCell ⟨B, 2, none⟩ (.slice a2 (n2 + m2) c2)) := fun ts ht =>
    ((kpt_set (a := ⟨B, 0, none⟩) hc _ ht _).trans (kpt_set (a := ⟨B, 1, none⟩) hc0 _ ht _)).trans (kpt_set (a := ⟨B, 2, none⟩) hc1 _ ht _)
  have hbel : Below W0.heap.size W0 (((w.setCell ⟨B, 0, none⟩ (.slice a0 (n0 + m0) c0)).setCell ⟨B, 1, none⟩ (.slice a1 (n1 + m1) c1)).setCell ⟨B, 2, none⟩ (.slice a2 (n2 + m2) c2)) :=
    ((((kp_below (P := fun k => decide (W0.heap.size ≤ k)) h.bel).set (p := ⟨B, 0, none⟩) (decide_eq_true hB) _).set (p := ⟨B, 1, none⟩) (decide_eq_true hB) _).set (p := ⟨B, 2, none⟩) (decide_eq_true hB) _).below _ (Nat.le_refl _) (fun k hk => decide_eq_false (by omega))
  exact ⟨B, a0, c0, a1, c1, a2, c2, eB, e104, hc, h.fr, hbel, B, a0, c0, a1, c1, a2, c2, eB, hc2, own_kpt o0 (ts := [46]) (by simp) (kk _ (by decide)), own_kpt o1 (ts := [61]) (by simp) (kk _ (by decide)), own_kpt o2 (ts := [58]) (by simp) (kk _ (by decide))⟩
end
theorem RowsOf.atS {α : Type} {k : Nat} {C : World → (Nat → Value) → α → Prop} {w : World} {v : Value} {l : List α} (h : RowsOf k C w v l) {ad : Option Addr} {n c : Nat} (hv : v = .slice ad n c) :
    ∃ f b off, Rw w ad n k f b off ∧ (ad = none → c = 0) ∧ n = l.length ∧ ∀ i x, l[i]? = some x → C w (f i) x := by
  obtain ⟨ad', c', f, b, off, h1, h2, h3, h4, h5, h6⟩ := h
  rw [h1] at hv
  injection hv with e1 e2 e3
  subst e1 e2 e3
  exact ⟨f, b, off, h2, h3, rfl, h6⟩
theorem AlC.one {w : World} {f : Nat → Value} {y : Al} (h : AlC w f y) : ∀ j, j < 2 → (f j).oneCell' = true := by
  intro j hj
  rcases (by omega : j = 0 ∨ j = 1) with e | e <;> subst e
  · rw [h.c0.1]; rfl
  · rw [h.c1.1]; rfl
theorem NeC.one {w : World} {f : Nat → Value} {y : Ne} (h : NeC w f y) : ∀ j, j < 3 → (f j).oneCell' = true := by
  intro j hj
  rcases (by omega : j = 0 ∨ j = 1 ∨ j = 2) with e | e | e <;> subst e
  · rw [h.c0.1]; rfl
  · rw [h.c1.1]; rfl
  · rw [h.c2.1]; rfl
/-- a row that holds two lists, one behind the other -/
theorem rows_cat {α : Type} {E : TypeId} {k : Nat} {C : World → (Nat → Value) → α → Prop} {w : World} {base n m : Nat} {ad : Option Addr} {c : Nat} {f g : Nat → Nat → Value} {l r : List α} (ho : w.ownsRow base E k (.slice ad (n + m) c) (n + m) (flat k f n ++ flat k g m)) (hn : n = l.length) (hm : m = r.length)
    (hf : ∀ i x, l[i]? = some x → C w (f i) x) (hg : ∀ i x, r[i]? = some x → C w (g i) x) (hl : (l ++ r).length ≤ 140737488351232) : RowsOf k C w (.slice ad (n + m) c) (l ++ r) := by
  subst hn hm
  rw [flat_append] at ho
  obtain ⟨b, g1, g2, g3, _⟩ := own_rw ho
  refine ⟨ad, c, _, b, 0, by rw [List.length_append], by rw [List.length_append]; exact g1, g2, by rw [List.length_append]; exact g3, hl, fun i x hx => ?_⟩
  rcases Nat.lt_or_ge i l.length with hi | hi
  · rw [List.getElem?_append_left hi] at hx
    have := hf i x hx
    simpa only [hi, if_true] using this
  · rw [List.getElem?_append_right hi] at hx
    have := hg _ x hx
    simpa only [Nat.not_lt.2 hi, if_false] using this
theorem buildP (U T : TypeId) (hU : Tryz.prog.underlying U = some (.slice T)) (hT : (Tryz.prog.info? T).isSome = true) (ev : Operand → Value) (o : Oper) (ho : o.op = .buildSlice U 0 #[]) (w : World) : (execOp ev o).run Tryz.prog w = .ok (.value (.slice (some ⟨w.heap.size, 0, none⟩) 0 0)) (w.alloc (.cells #[] T)) := by
  cases hi : Tryz.prog.info? T with
  | none => rw [hi] at hT; cases hT
  | some i =>
    unfold execOp
    simp [ho, go_sem, run_underlying hU, sizeOf, typeInfo, hi]
end Go.Proofs.YtmleeodfmmpdgaaGreatDoor
