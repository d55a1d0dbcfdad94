/- Plain: what is read of tokens that others follow. -/
import Derived.Test.YtmleeodfmmpdgaaGreatDoorQ29
import Derived.Test.YtmleeodfmmpdgaaGreatDoorQ23
import Derived.WalkArith
import Derived.DeepKeys
namespace Go.Proofs.YtmleeodfmmpdgaaGreatDoor
/-- the kinds and the texts of tokens -/
def ktL (l : List Tz) : List (Int × List UInt8) := l.map fun t => (t.1, t.2.1)
/-- the same tokens but for their places, and others behind them -/
def Sm (m : List Tz) (r r' : RS) : Prop := r'.e = 0 ∧ ∃ l', r'.l = l' ++ m ∧ ktL l' = ktL r.l
def OkF {α : Type} (F F' : RS → α × RS) : Prop := ∀ r, (F r).2.e = 0 → r.e = 0 ∧ ∀ m r', Sm m r r' → (F' r').1 = (F r).1 ∧ Sm m (F r).2 (F' r').2
def OkR (F F' : RS → RS) : Prop := ∀ r, (F r).e = 0 → r.e = 0 ∧ ∀ m r', Sm m r r' → Sm m (F r) (F' r')
theorem Sm.cons {m : List Tz} {r r' : RS} {t : Tz} {l : List Tz} (h : Sm m r r') (hl : r.l = t :: l) : ∃ t' l', r'.l = t' :: (l' ++ m) ∧ t'.1 = t.1 ∧ t'.2.1 = t.2.1 ∧ ktL l' = ktL l := by
  obtain ⟨_, l', h1, h2⟩ := h
  rw [hl] at h2
  cases l' with
  | nil => cases h2
  | cons t' l' =>
    simp only [ktL, List.map_cons, List.cons.injEq, Prod.mk.injEq] at h2
    exact ⟨t', l', h1, h2.1.1, h2.1.2, h2.2⟩
theorem failAt_no {p e : Int} (he : e ≠ 0) {r : RS} (h : (r.failAt p e).e = 0) : False := RS.failAt_e p he r h
theorem peek_cons {E : Int} {r : RS} {t : Tz} {l : List Tz} (h : r.l = t :: l) : r.peek E = t := by unfold RS.peek; rw [h]; rfl
/-- a token of a kind is taken -/
theorem take_inv {E k : Int} (hk : k ≠ 0) {r : RS} (h : (r.take E k).2.e = 0) : r.e = 0 ∧ ∃ t l, r.l = t :: l ∧ t.1 = k ∧ r.take E k = (t.2.1, r.drop) := by
  by_cases hp : (r.peek E).1 = k
  · by_cases he : r.e = 0
    · rw [RS.take_ok hp he]
      cases hl : r.l with
      | nil => unfold RS.peek at hp; rw [hl] at hp; exact absurd hp.symm hk
      | cons t l => rw [peek_cons hl] at hp; exact ⟨he, t, l, rfl, hp, by rw [peek_cons hl]⟩
    · rw [RS.take_err hp he] at h; exact absurd h he
  · rw [RS.take_no hp] at h
    exact (RS.fail_e E (by decide) r h).elim
theorem take_okF (E E' : Int) {k : Int} (hk : k ≠ 0) : OkF (RS.take E k) (RS.take E' k) := fun r h => by
  obtain ⟨he, t, l, hl, ht, e⟩ := take_inv hk h
  refine ⟨he, fun m r' hs => ?_⟩
  obtain ⟨t', l', h1, h2, h3, h4⟩ := hs.cons hl
  have hp : (r'.peek E').1 = k := by rw [peek_cons h1, h2, ht]
  rw [RS.take_ok hp hs.1, e, peek_cons h1]
  exact ⟨h3, hs.1, l', by simp [RS.drop, h1], by simp [RS.drop, hl, h4]⟩
theorem word_okF (E E' : Int) : OkF (RS.word E) (RS.word E') := take_okF E E' (by decide)
theorem text_okF (E E' : Int) : OkF (RS.text E) (RS.text E') := take_okF E E' (by decide)
/-- a question at a token that is there -/
theorem is_sim {E E' k : Int} {s : List UInt8} {m : List Tz} {r r' : RS} (h : Sm m r r') (he : r.e = 0) (hne : r.l ≠ []) : r'.is E' k s = r.is E k s := by
  cases hl : r.l with
  | nil => exact absurd hl hne
  | cons t l =>
    obtain ⟨t', l', h1, h2, h3, h4⟩ := h.cons hl
    unfold RS.is
    rw [peek_cons hl, peek_cons h1, h2, h3, h.1, he]
theorem is_nil {E k : Int} {s : List UInt8} {r : RS} (hk : k ≠ 0) (h : r.l = []) : r.is E k s = false := by
  unfold RS.is RS.peek
  rw [h]
  simp [Ne.symm hk]
theorem mark_okR (E E' : Int) (s : List UInt8) : OkR (RS.mark E s) (RS.mark E' s) := fun r h => by
  unfold RS.mark at h ⊢
  cases hi : r.is E 3 s with
  | false =>
    rw [hi, if_neg (by decide)] at h
    exact absurd (take_inv (by decide) h).1 (RS.fail_e E (by decide) r)
  | true =>
    rw [hi, if_pos rfl] at h
    obtain ⟨he, k⟩ := take_okF E E' (by decide) r h
    refine ⟨he, fun m r' hs => ?_⟩
    have hne : r.l ≠ [] := fun e => by rw [is_nil (by decide) e] at hi; cases hi
    rw [is_sim (E := E) hs he hne, hi, if_pos rfl, if_pos rfl]
    exact (k m r' hs).2
theorem texts_okF (E E' : Int) : ∀ (n : Nat) (out : List ByteArray), OkF (RS.texts E n out) (RS.texts E' n out)
  | 0, out => fun r h => ⟨h, fun m r' hs => ⟨rfl, hs⟩⟩
  | n + 1, out => fun r h => by
    obtain ⟨h1, k1⟩ := texts_okF E E' n _ _ h
    obtain ⟨h2, k2⟩ := text_okF E E' r h1
    refine ⟨h2, fun m r' hs => ?_⟩
    obtain ⟨a, b⟩ := k2 m r' hs
    show (RS.texts E' n (out ++ [bs (r'.text E').1]) (r'.text E').2).1 = _ ∧ Sm m _ (RS.texts E' n (out ++ [bs (r'.text E').1]) (r'.text E').2).2
    rw [a]
    exact k1 m _ b
theorem texts0_okF (E E' : Int) (n : Nat) : OkF (RS.texts0 E n) (RS.texts0 E' n) := texts_okF E E' n []
theorem one_okF (E E' : Int) (l : List ByteArray) : OkF (RS.one E l) (RS.one E' l) := fun r h => by
  unfold RS.one at h ⊢
  cases hc : (decide ((r.peek E).1 = 1) && !l.contains (bs (r.peek E).2.1)) with
  | true =>
    rw [hc, if_pos rfl] at h
    exact absurd (take_inv (by decide) h).1 (RS.fail_e E (by decide) r)
  | false =>
    rw [hc, if_neg (by decide)] at h
    obtain ⟨he, t, q, hl, ht, e⟩ := take_inv (by decide) h
    obtain ⟨_, k⟩ := word_okF E E' r h
    refine ⟨he, fun m r' hs => ?_⟩
    obtain ⟨t', l', h1, h2, h3, h4⟩ := hs.cons hl
    have : (decide ((r'.peek E').1 = 1) && !l.contains (bs (r'.peek E').2.1)) = false := by
      rw [peek_cons h1, h2, h3]
      rw [peek_cons hl] at hc
      exact hc
    rw [this, if_neg (by decide), if_neg (by decide)]
    exact k m r' hs
theorem once_okR (p p' : Int) (b : Bool) : OkR (RS.once p b) (RS.once p' b) := fun r h => by
  cases b with
  | true => exact (failAt_no (by decide) h).elim
  | false => exact ⟨h, fun m r' hs => hs⟩
theorem add_okR (p p' : Int) (d f : Bool) : OkR (RS.add p d f) (RS.add p' d f) := fun r h => by
  obtain ⟨rfl, rfl, h⟩ := RS.add_full h
  exact ⟨h, fun m r' hs => hs⟩
theorem number_okF (E E' mx : Int) : OkF (RS.number E mx) (RS.number E' mx) := fun r h => by
  unfold RS.number at h ⊢
  by_cases h1 : (r.peek E).1 = 1 ∧ (numW (r.peek E).2.1).2 = true
  · rw [if_pos h1] at h
    by_cases h2 : mx < ((numW (r.peek E).2.1).1 : Int)
    · rw [if_pos h2] at h
      exact absurd (take_inv (by decide) h).1 (RS.fail_e E (by decide) r)
    · rw [if_neg h2] at h
      obtain ⟨he, t, q, hl, ht, e⟩ := take_inv (by decide) h
      obtain ⟨_, k⟩ := word_okF E E' r h
      refine ⟨he, fun m r' hs => ?_⟩
      obtain ⟨t', l', g1, g2, g3, g4⟩ := hs.cons hl
      rw [peek_cons hl] at h1 h2
      rw [peek_cons g1, peek_cons hl, g2, g3, if_pos h1, if_pos h1, if_neg h2, if_neg h2]
      exact ⟨rfl, (k m r' hs).2⟩
  · rw [if_neg h1] at h
    exact absurd (take_inv (by decide) h).1 (RS.fail_e E (by decide) r)
theorem cond_okF (E E' : Int) : OkF (RS.cond E) (RS.cond E') := fun r h => by
  unfold RS.cond at h ⊢
  by_cases h1 : (r.peek E).1 = 2
  · rw [if_pos h1] at h
    by_cases h2 : (condParse (r.peek E).2.1).2.2 = 0
    · rw [if_pos h2] at h
      obtain ⟨he, t, q, hl, ht, e⟩ := take_inv (by decide) h
      obtain ⟨_, k⟩ := text_okF E E' r h
      refine ⟨he, fun m r' hs => ?_⟩
      obtain ⟨t', l', g1, g2, g3, g4⟩ := hs.cons hl
      rw [peek_cons hl] at h1 h2
      rw [peek_cons g1, peek_cons hl, g2, g3, if_pos h1, if_pos h1, if_pos h2, if_pos h2]
      exact ⟨rfl, (k m r' hs).2⟩
    · rw [if_neg h2] at h
      exact absurd (take_inv (by decide) h).1 (RS.fail_e E h2 r)
  · rw [if_neg h1] at h
    obtain ⟨_, t, q, hl, ht, _⟩ := take_inv (by decide) h
    rw [peek_cons hl] at h1
    exact absurd ht h1
theorem rule_okF (E E' : Int) : OkF (RS.rule E) (RS.rule E') := fun r h => by
  obtain ⟨h3, k3⟩ := mark_okR E E' [59] _ h
  obtain ⟨h2, k2⟩ := cond_okF E E' _ h3
  obtain ⟨h1, k1⟩ := one_okF E E' classL _ h2
  refine ⟨h1, fun m r' hs => ?_⟩
  obtain ⟨a1, b1⟩ := k1 m r' hs
  obtain ⟨a2, b2⟩ := k2 m _ b1
  refine ⟨?_, k3 m _ b2⟩
  show ((bs (r'.one E' classL).1, ((r'.one E' classL).2.cond E').1)) = _
  rw [a1, a2]
  rfl
theorem sym_okF (E E' : Int) : OkF (RS.sym E) (RS.sym E') := fun r h => by
  obtain ⟨h4, k4⟩ := mark_okR E E' [59] _ h
  obtain ⟨h3, k3⟩ := number_okF E E' 9 _ h4
  obtain ⟨h2, k2⟩ := number_okF E E' 9 _ h3
  obtain ⟨h1, k1⟩ := texts0_okF E E' 4 _ h2
  have hz : r.sym0 E = r := by
    unfold RS.sym0 at h1 ⊢
    split
    · rename_i g
      rw [if_pos g] at h1
      exact absurd h1 (RS.fail_e E (by decide) r)
    · rfl
  rw [hz] at h1
  refine ⟨h1, fun m r' hs => ?_⟩
  have hne : r.l ≠ [] := fun e => by
    have h5 : ((RS.texts E 3 [bs ((r.sym0 E).text E).1] ((r.sym0 E).text E).2).2).e = 0 := h2
    have h6 := (texts_okF E E' 3 _ _ h5).1
    rw [hz] at h6
    obtain ⟨_, t, l, hl, _⟩ := take_inv (by decide) h6
    rw [e] at hl
    cases hl
  have hi : r.is E 2 [] = false := by
    cases hc : r.is E 2 [] with
    | false => rfl
    | true =>
      have : (r.sym0 E).e ≠ 0 := by
        unfold RS.sym0
        rw [hc, if_pos rfl]
        exact RS.fail_e E (by decide) r
      rw [hz] at this
      exact absurd h1 this
  have hz' : r'.sym0 E' = r' := by
    unfold RS.sym0
    rw [is_sim (E := E) hs h1 hne, hi, if_neg (by decide)]
  obtain ⟨a1, b1⟩ := k1 m (r'.sym0 E') (by rw [hz, hz']; exact hs)
  obtain ⟨a2, b2⟩ := k2 m _ b1
  obtain ⟨a3, b3⟩ := k3 m _ b2
  refine ⟨?_, k4 m _ b3⟩
  show ((RS.texts0 E' 4 (r'.sym0 E')).1, ((RS.texts0 E' 4 (r'.sym0 E')).2.number E' 9).1, (((RS.texts0 E' 4 (r'.sym0 E')).2.number E' 9).2.number E' 9).1) = _
  rw [a1, a2, a3]
  rfl
theorem lp_okF (E E' : Int) : OkF (RS.lp E) (RS.lp E') := fun r h => by
  obtain ⟨h3, k3⟩ := mark_okR E E' [59] _ h
  obtain ⟨h2, k2⟩ := texts0_okF E E' 4 _ h3
  obtain ⟨h1, k1⟩ := word_okF E E' _ h2
  refine ⟨h1, fun m r' hs => ?_⟩
  obtain ⟨a1, b1⟩ := k1 m r' hs
  obtain ⟨a2, b2⟩ := k2 m _ b1
  refine ⟨?_, k3 m _ b2⟩
  show (⟨bs (r'.word E').1, gS (RS.texts0 E' 4 (r'.word E').2).1 0, gS (RS.texts0 E' 4 (r'.word E').2).1 1, gS (RS.texts0 E' 4 (r'.word E').2).1 2, gS (RS.texts0 E' 4 (r'.word E').2).1 3⟩ : Lp) = _
  rw [a1, a2]
  rfl
theorem up_okF (E E' : Int) : OkF (RS.up E) (RS.up E') := fun r h => by
  obtain ⟨h4, k4⟩ := mark_okR E E' [59] _ h
  obtain ⟨h3, k3⟩ := text_okF E E' _ h4
  obtain ⟨h2, k2⟩ := one_okF E E' unitL _ h3
  obtain ⟨h1, k1⟩ := word_okF E E' _ h2
  refine ⟨h1, fun m r' hs => ?_⟩
  obtain ⟨a1, b1⟩ := k1 m r' hs
  obtain ⟨a2, b2⟩ := k2 m _ b1
  obtain ⟨a3, b3⟩ := k3 m _ b2
  refine ⟨?_, k4 m _ b3⟩
  show (⟨bs (r'.word E').1, bs ((r'.word E').2.one E' unitL).1, bs (((r'.word E').2.one E' unitL).2.text E').1⟩ : Up) = _
  rw [a1, a2, a3]
  rfl
theorem dp_okF (E E' : Int) : OkF (RS.dp E) (RS.dp E') := fun r h => by
  obtain ⟨h3, k3⟩ := mark_okR E E' [59] _ h
  obtain ⟨h2, k2⟩ := text_okF E E' _ h3
  obtain ⟨h1, k1⟩ := word_okF E E' _ h2
  refine ⟨h1, fun m r' hs => ?_⟩
  obtain ⟨a1, b1⟩ := k1 m r' hs
  obtain ⟨a2, b2⟩ := k2 m _ b1
  refine ⟨?_, k3 m _ b2⟩
  show (⟨bs (r'.word E').1, bs ((r'.word E').2.text E').1⟩ : Dp) = _
  rw [a1, a2]
  rfl
/-- an item by its number -/
theorem itN_okF (E E' p p' : Int) (y : Lc) (i : Nat) : OkF (itN i E p y) (itN i E' p' y) := fun r h => by
  match i with
  | 0 =>
    obtain ⟨h3, k3⟩ := once_okR p p' (hasB y.dir) _ h
    obtain ⟨h2, k2⟩ := mark_okR E E' [59] _ h3
    obtain ⟨h1, k1⟩ := one_okF E E' dirL _ h2
    refine ⟨h1, fun m r' hs => ?_⟩
    obtain ⟨a1, b1⟩ := k1 m r' hs
    refine ⟨?_, k3 m _ (k2 m _ b1)⟩
    show ({ y with dir := bs (r'.one E' dirL).1 } : Lc) = _
    rw [a1]
    rfl
  | 1 =>
    obtain ⟨h2, k2⟩ := add_okR p p' (dupRu y.card (r.rule E).1.1) (fullB 5 y.card.length) _ h
    obtain ⟨h1, k1⟩ := rule_okF E E' _ h2
    refine ⟨h1, fun m r' hs => ?_⟩
    obtain ⟨a1, b1⟩ := k1 m r' hs
    have b2 : Sm m ((r.rule E).2.add p (dupRu y.card (r.rule E).1.1) (fullB 5 y.card.length)) ((r'.rule E').2.add p' (dupRu y.card (r'.rule E').1.1) (fullB 5 y.card.length)) := by rw [a1]; exact k2 m _ b1
    refine ⟨?_, b2⟩
    show ({ y with card := y.card ++ [(r'.rule E').1] } : Lc) = _
    rw [a1]
    rfl
  | 2 =>
    obtain ⟨h2, k2⟩ := add_okR p p' (dupRu y.ord (r.rule E).1.1) (fullB 5 y.ord.length) _ h
    obtain ⟨h1, k1⟩ := rule_okF E E' _ h2
    refine ⟨h1, fun m r' hs => ?_⟩
    obtain ⟨a1, b1⟩ := k1 m r' hs
    have b2 : Sm m ((r.rule E).2.add p (dupRu y.ord (r.rule E).1.1) (fullB 5 y.ord.length)) ((r'.rule E').2.add p' (dupRu y.ord (r'.rule E').1.1) (fullB 5 y.ord.length)) := by rw [a1]; exact k2 m _ b1
    refine ⟨?_, b2⟩
    show ({ y with ord := y.ord ++ [(r'.rule E').1] } : Lc) = _
    rw [a1]
    rfl
  | 3 =>
    obtain ⟨h2, k2⟩ := once_okR p p' (hasB y.dec) _ h
    obtain ⟨h1, k1⟩ := sym_okF E E' _ h2
    refine ⟨h1, fun m r' hs => ?_⟩
    obtain ⟨a1, b1⟩ := k1 m r' hs
    refine ⟨?_, k2 m _ b1⟩
    show ({ y with dec := gS (r'.sym E').1.1 0, grp := gS (r'.sym E').1.1 1, mi := gS (r'.sym E').1.1 2, pct := gS (r'.sym E').1.1 3, pri := (r'.sym E').1.2.1, sec := (r'.sym E').1.2.2 } : Lc) = _
    rw [a1]
    rfl
  | 4 =>
    obtain ⟨h2, k2⟩ := add_okR p p' (dupLp y.lists (r.lp E).1.style) (fullB 10 y.lists.length) _ h
    obtain ⟨h1, k1⟩ := lp_okF E E' _ h2
    refine ⟨h1, fun m r' hs => ?_⟩
    obtain ⟨a1, b1⟩ := k1 m r' hs
    have b2 : Sm m ((r.lp E).2.add p (dupLp y.lists (r.lp E).1.style) (fullB 10 y.lists.length)) ((r'.lp E').2.add p' (dupLp y.lists (r'.lp E').1.style) (fullB 10 y.lists.length)) := by rw [a1]; exact k2 m _ b1
    refine ⟨?_, b2⟩
    show ({ y with lists := y.lists ++ [(r'.lp E').1] } : Lc) = _
    rw [a1]
    rfl
  | 5 =>
    obtain ⟨h2, k2⟩ := add_okR p p' (dupUp y.units (r.up E).1.unit (r.up E).1.cls) (fullB 100 y.units.length) _ h
    obtain ⟨h1, k1⟩ := up_okF E E' _ h2
    refine ⟨h1, fun m r' hs => ?_⟩
    obtain ⟨a1, b1⟩ := k1 m r' hs
    have b2 : Sm m ((r.up E).2.add p (dupUp y.units (r.up E).1.unit (r.up E).1.cls) (fullB 100 y.units.length)) ((r'.up E').2.add p' (dupUp y.units (r'.up E').1.unit (r'.up E').1.cls) (fullB 100 y.units.length)) := by rw [a1]; exact k2 m _ b1
    refine ⟨?_, b2⟩
    show ({ y with units := y.units ++ [(r'.up E').1] } : Lc) = _
    rw [a1]
    rfl
  | 6 =>
    obtain ⟨h2, k2⟩ := add_okR p p' (dupDp y.dates (r.dp E).1.skel) (fullB 30 y.dates.length) _ h
    obtain ⟨h1, k1⟩ := dp_okF E E' _ h2
    refine ⟨h1, fun m r' hs => ?_⟩
    obtain ⟨a1, b1⟩ := k1 m r' hs
    have b2 : Sm m ((r.dp E).2.add p (dupDp y.dates (r.dp E).1.skel) (fullB 30 y.dates.length)) ((r'.dp E').2.add p' (dupDp y.dates (r'.dp E').1.skel) (fullB 30 y.dates.length)) := by rw [a1]; exact k2 m _ b1
    refine ⟨?_, b2⟩
    show ({ y with dates := y.dates ++ [(r'.dp E').1] } : Lc) = _
    rw [a1]
    rfl
  | 7 =>
    obtain ⟨h3, k3⟩ := once_okR p p' (!decide (y.months.length = 0)) _ h
    obtain ⟨h2, k2⟩ := mark_okR E E' [59] _ h3
    obtain ⟨h1, k1⟩ := texts0_okF E E' 12 _ h2
    refine ⟨h1, fun m r' hs => ?_⟩
    obtain ⟨a1, b1⟩ := k1 m r' hs
    refine ⟨?_, k3 m _ (k2 m _ b1)⟩
    show ({ y with months := (RS.texts0 E' 12 r').1 } : Lc) = _
    rw [a1]
    rfl
  | _ + 8 =>
    obtain ⟨h3, k3⟩ := once_okR p p' (!decide (y.days.length = 0)) _ h
    obtain ⟨h2, k2⟩ := mark_okR E E' [59] _ h3
    obtain ⟨h1, k1⟩ := texts0_okF E E' 7 _ h2
    refine ⟨h1, fun m r' hs => ?_⟩
    obtain ⟨a1, b1⟩ := k1 m r' hs
    refine ⟨?_, k3 m _ (k2 m _ b1)⟩
    show ({ y with days := (RS.texts0 E' 7 r').1 } : Lc) = _
    rw [a1]
    rfl
end Go.Proofs.YtmleeodfmmpdgaaGreatDoor
/- Plain: what is read of a table that another one follows. -/
namespace Go.Proofs.YtmleeodfmmpdgaaGreatDoor
theorem tItem_ok {E E' : Int} {y : Lc} {r : RS} (_he : r.e = 0) (h : (tItem E y r).2.e = 0) {m : List Tz} {r' : RS} (hs : Sm m r r') : (tItem E' y r').1 = (tItem E y r).1 ∧ Sm m (tItem E y r).2 (tItem E' y r').2 := by
  unfold tItem at h ⊢
  rcases idxP_cases (keyP (r.peek E)) 9 with ⟨k, hk, hp, _, e⟩ | ⟨_, e⟩
  · rw [e, if_neg (by omega)] at h
    obtain ⟨h1, k1⟩ := itN_okF E E' (r.peek E).2.2 (r'.peek E').2.2 y (k : Int).toNat _ h
    obtain ⟨_, k2⟩ := word_okF E E' r h1
    have hne : r.l ≠ [] := fun g => by
      unfold keyP RS.peek at hp
      rw [g] at hp
      simp at hp
    obtain ⟨a2, b2⟩ := k2 m r' hs
    have hkp : keyP (r'.peek E') = keyP (r.peek E) := by
      cases hl : r.l with
      | nil => exact absurd hl hne
      | cons t l =>
        obtain ⟨t', l', g1, g2, g3, g4⟩ := hs.cons hl
        rw [peek_cons hl, peek_cons g1]
        funext i
        unfold keyP
        rw [g2, g3]
    rw [hkp, e, if_neg (by omega), if_neg (by omega)]
    exact k1 m _ b2
  · rw [e, if_pos (by decide)] at h
    exact absurd h (RS.fail_e E (by decide) r)
theorem tItems_err {E : Int} {y : Lc} {r : RS} (he : r.e ≠ 0) : ∀ n, tItems E n y r = (y, r)
  | 0 => rfl
  | n + 1 => by rw [tItems, if_neg (fun h => he h.1)]
theorem tItems_ok {E E' : Int} : ∀ (n : Nat) (y : Lc) (r : RS), r.l.length < n → (tItems E n y r).2.e = 0 → r.e = 0 ∧ ∀ m r' n', Sm m r r' → r'.l.length < n' → (tItems E' n' y r').1 = (tItems E n y r).1 ∧ Sm m (tItems E n y r).2 (tItems E' n' y r').2
  | 0, _, _, hn, _ => absurd hn (Nat.not_lt_zero _)
  | n + 1, y, r, hn, h => by
    by_cases he : r.e = 0
    · refine ⟨he, fun m r' n' hs hn' => ?_⟩
      obtain ⟨n', rfl⟩ : ∃ k, n' = k + 1 := ⟨n' - 1, by omega⟩
      rw [tItems] at h ⊢
      rw [tItems]
      by_cases hc : r.e = 0 ∧ r.is E 3 [125] = false
      · rw [if_pos hc] at h
        by_cases hi : (tItem E y r).2.e = 0
        · have hlt := tItem_lt he hi
          have hne : r.l ≠ [] := fun g => by rw [g] at hlt; exact absurd hlt (Nat.not_lt_zero _)
          have hc' : r'.e = 0 ∧ r'.is E' 3 [125] = false := ⟨hs.1, by rw [is_sim (E := E) hs he hne]; exact hc.2⟩
          rw [if_pos hc, if_pos hc']
          obtain ⟨a1, b1⟩ := tItem_ok (E' := E') he hi hs
          have hlt' := tItem_lt hs.1 b1.1
          obtain ⟨_, k⟩ := tItems_ok (E' := E') n _ _ (by omega) h
          rw [a1]
          exact k m _ n' b1 (by omega)
        · rw [tItems_err hi] at h
          exact absurd h hi
      · have hc2 : r.is E 3 [125] = true := by
          cases g : r.is E 3 [125] with
          | true => rfl
          | false => exact absurd ⟨he, g⟩ hc
        have hne : r.l ≠ [] := fun g => by rw [is_nil (by decide) g] at hc2; cases hc2
        have hc' : ¬ (r'.e = 0 ∧ r'.is E' 3 [125] = false) := fun g => by
          rw [is_sim (E := E) hs he hne, hc2] at g
          cases g.2
        rw [if_neg hc, if_neg hc']
        exact ⟨rfl, hs⟩
    · rw [tItems_err he] at h
      exact absurd h he
theorem mark_ne {E : Int} {s : List UInt8} {r : RS} (h : (r.mark E s).e = 0) : r.l ≠ [] := fun g => by
  unfold RS.mark at h
  rw [is_nil (by decide) g, if_neg (by decide)] at h
  exact absurd (take_inv (by decide) h).1 (RS.fail_e E (by decide) r)
theorem tLocale_okF (E E' : Int) : OkF (tLocale E) (tLocale E') := fun r h => by
  unfold tLocale at h
  dsimp only at h
  obtain ⟨h4, k4⟩ := mark_okR E E' [125] _ h
  obtain ⟨h3, k3⟩ := tItems_ok (E' := E') _ _ _ (Nat.lt_succ_self _) h4
  obtain ⟨h2, k2⟩ := mark_okR E E' [123] _ h3
  have hne := mark_ne h3
  have hH : r.e = 0 ∧ ∀ m r', Sm m r r' → (r'.head E').1 = (r.head E).1 ∧ Sm m (r.head E).2 (r'.head E').2 := by
    unfold RS.head at h2 hne ⊢
    dsimp only at h2 hne ⊢
    by_cases hp : (r.word E).2.is E 1 [112, 97, 114, 101, 110, 116] = true
    · rw [if_pos hp] at h2 hne ⊢
      obtain ⟨g3, q3⟩ := word_okF E E' _ h2
      obtain ⟨g2, q2⟩ := word_okF E E' _ g3
      obtain ⟨g1, q1⟩ := word_okF E E' _ g2
      refine ⟨g1, fun m r' hs => ?_⟩
      obtain ⟨a1, b1⟩ := q1 m r' hs
      have hne1 : (r.word E).2.l ≠ [] := fun g => by rw [is_nil (by decide) g] at hp; cases hp
      rw [is_sim (E := E) (E' := E') b1 g2 hne1, if_pos hp]
      obtain ⟨a2, b2⟩ := q2 m _ b1
      obtain ⟨a3, b3⟩ := q3 m _ b2
      exact ⟨by rw [a1, a3], b3⟩
    · rw [if_neg hp] at h2 hne ⊢
      obtain ⟨g1, q1⟩ := word_okF E E' _ h2
      refine ⟨g1, fun m r' hs => ?_⟩
      obtain ⟨a1, b1⟩ := q1 m r' hs
      rw [is_sim (E := E) (E' := E') b1 h2 hne, if_neg hp]
      exact ⟨by rw [a1], b1⟩
  refine ⟨hH.1, fun m r' hs => ?_⟩
  obtain ⟨a1, b1⟩ := hH.2 m r' hs
  have b2 := k2 m _ b1
  obtain ⟨a3, b3⟩ := k3 m _ (((r'.head E').2.mark E' [123]).l.length + 1) b2 (Nat.lt_succ_self _)
  have b4 := k4 m _ b3
  unfold tLocale
  dsimp only
  rw [a1]
  exact ⟨a3, b4⟩
theorem al_okF (E E' : Int) : OkF (RS.al E) (RS.al E') := fun r h => by
  obtain ⟨h3, k3⟩ := mark_okR E E' [59] _ h
  obtain ⟨h2, k2⟩ := word_okF E E' _ h3
  obtain ⟨h1, k1⟩ := word_okF E E' _ h2
  refine ⟨h1, fun m r' hs => ?_⟩
  obtain ⟨a1, b1⟩ := k1 m r' hs
  obtain ⟨a2, b2⟩ := k2 m _ b1
  refine ⟨?_, k3 m _ b2⟩
  show (⟨bs (r'.word E').1, bs ((r'.word E').2.word E').1⟩ : Al) = _
  rw [a1, a2]
  rfl
theorem ne_okF (E E' : Int) : OkF (RS.ne E) (RS.ne E') := fun r h => by
  obtain ⟨h4, k4⟩ := mark_okR E E' [59] _ h
  obtain ⟨h3, k3⟩ := number_okF E E' 1000 _ h4
  obtain ⟨h2, k2⟩ := word_okF E E' _ h3
  obtain ⟨h1, k1⟩ := word_okF E E' _ h2
  refine ⟨h1, fun m r' hs => ?_⟩
  obtain ⟨a1, b1⟩ := k1 m r' hs
  obtain ⟨a2, b2⟩ := k2 m _ b1
  obtain ⟨a3, b3⟩ := k3 m _ b2
  refine ⟨?_, k4 m _ b3⟩
  show (⟨bs (r'.word E').1, bs ((r'.word E').2.word E').1, (((r'.word E').2.word E').2.number E' 1000).1⟩ : Ne) = _
  rw [a1, a2, a3]
  rfl
/-- rows ahead -/
def catT (s t : Tb) : Tb := ⟨s.locs ++ t.locs, s.als ++ t.als, s.near ++ t.near⟩
/-- a table fits behind another one -/
def FitT (s t : Tb) : Prop := s.locs.length + t.locs.length ≤ 60 ∧ s.als.length + t.als.length ≤ 200 ∧ s.near.length + t.near.length ≤ 200
theorem lim_okR {p p' : Int} {f f' : Bool} (hf : f' = false) : OkR (tLim p f) (tLim p' f') := fun r h => by
  obtain ⟨rfl, h⟩ := tLim_ok h
  subst hf
  exact ⟨h, fun m r' hs => hs⟩
/-- a part that is read behind a table -/
theorem tPart_ok {E E' : Int} {s t : Tb} {r : RS} (h : (tPart E t r).2.e = 0) (hfit : FitT s (tPart E t r).1) {m : List Tz} {r' : RS} (hs : Sm m r r') :
    r.e = 0 ∧ (tPart E' (catT s t) r').1 = catT s (tPart E t r).1 ∧ Sm m (tPart E t r).2 (tPart E' (catT s t) r').2 := by
  have hlt := tPart_lt h
  have hne : r.l ≠ [] := fun g => by rw [g] at hlt; exact absurd hlt (Nat.not_lt_zero _)
  unfold tPart at h hfit ⊢
  dsimp only at h hfit ⊢
  by_cases h1 : r.is E 1 [108, 111, 99, 97, 108, 101] = true
  · have he := (RS.is_kind h1).1
    rw [if_pos h1] at h hfit
    rw [is_sim (E := E) (E' := E') hs he hne, if_pos h1, if_pos h1]
    obtain ⟨f1, f2, f3⟩ := hfit
    have hf' : decide (60 < (catT s t).locs.length + 1) = false := by
      rw [decide_eq_false_iff_not]
      simp [catT] at f1 ⊢
      omega
    obtain ⟨g2, q2⟩ := lim_okR (p' := (r'.peek E').2.2) hf' _ h
    obtain ⟨g1, q1⟩ := tLocale_okF E E' _ g2
    obtain ⟨_, q0⟩ := word_okF E E' _ g1
    obtain ⟨a0, b0⟩ := q0 m r' hs
    obtain ⟨a1, b1⟩ := q1 m _ b0
    exact ⟨he, by rw [a1]; simp [catT], q2 m _ b1⟩
  · by_cases h2 : r.is E 1 [97, 108, 105, 97, 115] = true
    · have he := (RS.is_kind h2).1
      rw [if_neg h1, if_pos h2] at h hfit
      rw [is_sim (E := E) (E' := E') hs he hne, is_sim (E := E) (E' := E') hs he hne, if_neg h1, if_neg h1, if_pos h2, if_pos h2]
      obtain ⟨f1, f2, f3⟩ := hfit
      have hf' : decide (200 < (catT s t).als.length + 1) = false := by
        rw [decide_eq_false_iff_not]
        simp [catT] at f2 ⊢
        omega
      obtain ⟨g2, q2⟩ := lim_okR (p' := (r'.peek E').2.2) hf' _ h
      obtain ⟨g1, q1⟩ := al_okF E E' _ g2
      obtain ⟨_, q0⟩ := word_okF E E' _ g1
      obtain ⟨a0, b0⟩ := q0 m r' hs
      obtain ⟨a1, b1⟩ := q1 m _ b0
      exact ⟨he, by rw [a1]; simp [catT], q2 m _ b1⟩
    · by_cases h3 : r.is E 1 [110, 101, 97, 114] = true
      · have he := (RS.is_kind h3).1
        rw [if_neg h1, if_neg h2, if_pos h3] at h hfit
        rw [is_sim (E := E) (E' := E') hs he hne, is_sim (E := E) (E' := E') hs he hne, is_sim (E := E) (E' := E') hs he hne, if_neg h1, if_neg h1, if_neg h2, if_neg h2, if_pos h3, if_pos h3]
        obtain ⟨f1, f2, f3⟩ := hfit
        have hf' : decide (200 < (catT s t).near.length + 1) = false := by
          rw [decide_eq_false_iff_not]
          simp [catT] at f3 ⊢
          omega
        obtain ⟨g2, q2⟩ := lim_okR (p' := (r'.peek E').2.2) hf' _ h
        obtain ⟨g1, q1⟩ := ne_okF E E' _ g2
        obtain ⟨_, q0⟩ := word_okF E E' _ g1
        obtain ⟨a0, b0⟩ := q0 m r' hs
        obtain ⟨a1, b1⟩ := q1 m _ b0
        exact ⟨he, by rw [a1]; simp [catT], q2 m _ b1⟩
      · rw [if_neg h1, if_neg h2, if_neg h3] at h
        exact absurd h (RS.fail_e E (by decide) r)
end Go.Proofs.YtmleeodfmmpdgaaGreatDoor
/- Plain: two texts with a line feed in between. -/
namespace Go.Proofs.YtmleeodfmmpdgaaGreatDoor
theorem tParts_err {E : Int} {t : Tb} {r : RS} (he : r.e ≠ 0) : ∀ n, tParts E n t r = (t, r)
  | 0 => rfl
  | n + 1 => by rw [tParts, if_neg (fun h => he h.1)]
theorem tParts_end {E : Int} {t : Tb} {r : RS} (he : r.l = []) : ∀ n, tParts E n t r = (t, r)
  | 0 => rfl
  | n + 1 => by rw [tParts, if_neg (fun h => h.2 he)]
/-- rows only grow -/
def GrowT (s t : Tb) : Prop := s.locs.length ≤ t.locs.length ∧ s.als.length ≤ t.als.length ∧ s.near.length ≤ t.near.length
theorem GrowT.part (E : Int) (t : Tb) (r : RS) : GrowT t (tPart E t r).1 := by
  unfold tPart
  dsimp only
  split
  · exact ⟨by simp, Nat.le_refl _, Nat.le_refl _⟩
  · split
    · exact ⟨Nat.le_refl _, by simp, Nat.le_refl _⟩
    · split
      · exact ⟨Nat.le_refl _, Nat.le_refl _, by simp⟩
      · exact ⟨Nat.le_refl _, Nat.le_refl _, Nat.le_refl _⟩
theorem GrowT.parts (E : Int) : ∀ (n : Nat) (t : Tb) (r : RS), GrowT t (tParts E n t r).1
  | 0, t, _ => ⟨Nat.le_refl _, Nat.le_refl _, Nat.le_refl _⟩
  | n + 1, t, r => by
    rw [tParts]
    split
    · have h1 := GrowT.part E t r
      have h2 := GrowT.parts E n (tPart E t r).1 (tPart E t r).2
      exact ⟨Nat.le_trans h1.1 h2.1, Nat.le_trans h1.2.1 h2.2.1, Nat.le_trans h1.2.2 h2.2.2⟩
    · exact ⟨Nat.le_refl _, Nat.le_refl _, Nat.le_refl _⟩
theorem FitT.of {s t u : Tb} (h : FitT s u) (g : GrowT t u) : FitT s t :=
  ⟨Nat.le_trans (Nat.add_le_add_left g.1 _) h.1, Nat.le_trans (Nat.add_le_add_left g.2.1 _) h.2.1, Nat.le_trans (Nat.add_le_add_left g.2.2 _) h.2.2⟩
theorem tParts_ok {E E' : Int} {s : Tb} : ∀ (n : Nat) (t : Tb) (r : RS), r.l.length < n → (tParts E n t r).2.e = 0 → FitT s (tParts E n t r).1 →
    r.e = 0 ∧ ∀ m r', Sm m r r' → ∃ r'', r''.l = m ∧ r''.e = 0 ∧ ∀ n', r'.l.length < n' → ∃ n'', m.length < n'' ∧ tParts E' n' (catT s t) r' = tParts E' n'' (catT s (tParts E n t r).1) r''
  | 0, _, _, hn, _, _ => absurd hn (Nat.not_lt_zero _)
  | n + 1, t, r, hn, h, hfit => by
    by_cases hc : r.e = 0 ∧ r.l ≠ []
    · rw [tParts, if_pos hc] at h hfit ⊢
      refine ⟨hc.1, fun m r' hs => ?_⟩
      by_cases hi : (tPart E t r).2.e = 0
      · have hlt := tPart_lt hi
        obtain ⟨_, a1, b1⟩ := tPart_ok (E' := E') hi (hfit.of (GrowT.parts E n _ _)) hs
        obtain ⟨_, k⟩ := tParts_ok (E' := E') n _ _ (by omega) h hfit
        obtain ⟨r'', h1, h2, h3⟩ := k m _ b1
        refine ⟨r'', h1, h2, fun n' hn' => ?_⟩
        obtain ⟨n', rfl⟩ : ∃ k, n' = k + 1 := ⟨n' - 1, by omega⟩
        have hlt' := tPart_lt (E := E') (t := catT s t) (r := r') b1.1
        have hc' : r'.e = 0 ∧ r'.l ≠ [] := ⟨hs.1, fun g => by rw [g] at hlt'; exact absurd hlt' (Nat.not_lt_zero _)⟩
        rw [tParts, if_pos hc', a1]
        exact h3 n' (by omega)
      · rw [tParts_err hi] at h
        exact absurd h hi
    · rw [tParts, if_neg hc] at h hfit ⊢
      have hl : r.l = [] := Classical.byContradiction fun g => hc ⟨h, g⟩
      refine ⟨h, fun m r' hs => ?_⟩
      obtain ⟨he, l', h1, h2⟩ := hs
      rw [hl] at h2
      have : l' = [] := by
        cases l' with
        | nil => rfl
        | cons a b => cases h2
      subst this
      rw [List.nil_append] at h1
      exact ⟨r', h1, he, fun n' hn' => ⟨n', by rw [← h1]; exact hn', rfl⟩⟩
theorem tRead_ok {E : Int} {ts : List Tz} {x : Tb} {p : Int} (h : tRead E ts = (x, p, 0)) : (tParts E (ts.length + 1) tb0 ⟨ts, 0, 0⟩).2.e = 0 ∧ (tParts E (ts.length + 1) tb0 ⟨ts, 0, 0⟩).1 = x := by
  unfold tRead at h
  dsimp only at h
  by_cases he : (tParts E (ts.length + 1) tb0 ⟨ts, 0, 0⟩).2.e = 0
  · rw [if_pos he] at h
    injection h with h1 _
    exact ⟨he, h1⟩
  · rw [if_neg he] at h
    injection h with _ h2
    injection h2 with _ h3
    exact absurd h3 he
theorem catT_nil (t : Tb) : catT tb0 t = t := by simp [catT, tb0]
theorem read_parts {E E1 E2 : Int} {ts us us' : List Tz} {x y : Tb} {p q : Int} (hx : tRead E1 ts = (x, p, 0)) (hy : tRead E2 us = (y, q, 0)) (hk : ktL us' = ktL us) (hf : FitT x y) (hf0 : FitT tb0 x) : tRead E (ts ++ us') = (catT x y, 0, 0) := by
  obtain ⟨a1, a2⟩ := tRead_ok hx
  obtain ⟨b1, b2⟩ := tRead_ok hy
  obtain ⟨_, k1⟩ := tParts_ok (E' := E) (s := tb0) _ tb0 ⟨ts, 0, 0⟩ (Nat.lt_succ_self _) a1 (by rw [a2]; exact hf0)
  obtain ⟨r1, h1, h2, h3⟩ := k1 us' ⟨ts ++ us', 0, 0⟩ ⟨rfl, ts, rfl, rfl⟩
  obtain ⟨n1, h4, h5⟩ := h3 ((ts ++ us').length + 1) (Nat.lt_succ_self _)
  rw [a2, catT_nil, catT_nil] at h5
  obtain ⟨_, k2⟩ := tParts_ok (E' := E) (s := x) _ tb0 ⟨us, 0, 0⟩ (Nat.lt_succ_self _) b1 (by rw [b2]; exact hf)
  obtain ⟨r2, g1, g2, g3⟩ := k2 [] r1 ⟨h2, us', by rw [h1, List.append_nil], hk⟩
  obtain ⟨n2, g4, g5⟩ := g3 n1 (by rw [h1]; exact h4)
  have hcx : catT x tb0 = x := by simp [catT, tb0]
  rw [b2, hcx] at g5
  have hR : tParts E ((ts ++ us').length + 1) tb0 ⟨ts ++ us', 0, 0⟩ = (catT x y, r2) := by
    rw [h5, g5, tParts_end g1]
  unfold tRead
  dsimp only
  rw [hR]
  exact if_pos g2
theorem upto_add {α : Type} (f : Nat → α) (m n : Nat) : upto f (m + n) = upto f m ++ upto (fun j => f (m + j)) n := by
  induction n with
  | zero => simp [upto]
  | succ n ih => rw [← Nat.add_assoc, upto_succ, ih, upto_succ, List.append_assoc]
theorem upto_ext {α : Type} {f g : Nat → α} {n : Nat} (h : ∀ k, k < n → f k = g k) : upto f n = upto g n := by
  unfold upto
  exact List.map_congr_left fun k hk => h k (List.mem_range.1 hk)
theorem toksV_good {l : List UInt8} (h : (toksV l).2.2 = 0) : (∀ k, k < runM l → (itemV l k).2.2.2 = 0) ∧ (toksV l).1 = (upto (itemV l) (runM l)).map zOf := by
  unfold toksV at h ⊢
  by_cases g : allOk (itemV l) (runM l) = true
  · rw [if_pos g]
    exact ⟨(allOk_iff _ _).1 g, rfl⟩
  · rw [if_neg g] at h
    exfalso
    have h0 : (itemV l (runM l - 1)).2.2.2 = 0 := by
      have : ((itemV l (runM l - 1)).2.2.2 : Int) = 0 := h
      omega
    refine g ((allOk_iff _ _).2 fun k hk => ?_)
    rcases (runM_ok l).1.2.2 with ⟨_, g2⟩ | ⟨_, g2⟩
    · exact g2 k hk
    · exact absurd h0 g2
/-- the tokens of both -/
theorem toks_app {a b : List UInt8} (ha : (toksV a).2.2 = 0) (hb : (toksV b).2.2 = 0) : ∃ us, toksV (a ++ 10 :: b) = ((toksV a).1 ++ us, 0, 0) ∧ ktL us = ktL (toksV b).1 := by
  obtain ⟨hra, hra2⟩ := runM_ok a
  obtain ⟨hrb, _⟩ := runM_ok b
  obtain ⟨oa, ta⟩ := toksV_good ha
  obtain ⟨ob, tb⟩ := toksV_good hb
  have hz : a ++ 10 :: b = a ++ 10 :: (gapT [] ++ b) := rfl
  obtain ⟨hrz, _⟩ := runM_ok (a ++ 10 :: b)
  have hK : runM (a ++ 10 :: b) = runM a + runM b := blanks_num (g := []) hra oa hrb hrz
  have h1 : ∀ k, k < runM a → itemV (a ++ 10 :: b) k = itemV a k := fun k hk => (blanks_fst (g := []) hra oa k hk).2
  have h2 : ∀ j, Alike (itemV (a ++ 10 :: b) (runM a + j)) (itemV b j) := fun j => (blanks_snd (g := []) hra oa j).2
  have hok : ∀ k, k < runM (a ++ 10 :: b) → (itemV (a ++ 10 :: b) k).2.2.2 = 0 := fun k hk => by
    rw [hK] at hk
    rcases Nat.lt_or_ge k (runM a) with g | g
    · rw [h1 k g]; exact oa k g
    · have := (h2 (k - runM a)).2.2.2
      rw [show runM a + (k - runM a) = k by omega] at this
      rw [this]
      exact ob _ (by omega)
  refine ⟨(upto (fun j => itemV (a ++ 10 :: b) (runM a + j)) (runM b)).map zOf, ?_, ?_⟩
  · unfold toksV
    rw [if_pos ((allOk_iff _ _).2 hok), hK, upto_add, List.map_append, upto_ext h1, if_pos ((allOk_iff _ _).2 oa)]
  · rw [tb]
    unfold ktL upto
    rw [List.map_map, List.map_map, List.map_map, List.map_map]
    refine List.map_congr_left fun j _ => ?_
    have := h2 j
    show (((itemV (a ++ 10 :: b) (runM a + j)).1.1 : Int), (itemV (a ++ 10 :: b) (runM a + j)).1.2.1) = (((itemV b j).1.1 : Int), (itemV b j).1.2.1)
    rw [this.1, this.2.1]
theorem tParse_toks {l : List UInt8} (hl : l.length ≤ 200000) (h : (tParse l).2.2 = 0) : (toksV l).2.2 = 0 ∧ tParse l = tRead (l.length : Int) (toksV l).1 := by
  unfold tParse at h ⊢
  rw [if_neg (by omega)] at h ⊢
  by_cases g : (toksV l).2.2 = 0
  · rw [if_pos g]
    exact ⟨g, rfl⟩
  · rw [if_neg g] at h
    exact absurd h g
/-- Two texts with a line feed in between have the locales, aliases and near entries of both. -/
theorem tParse_parts {a b : List UInt8} (hl : a.length + b.length ≤ 100000) (ha : (tParse a).2.2 = 0) (hb : (tParse b).2.2 = 0) (hf : FitT (tParse a).1 (tParse b).1) : tParse (a ++ 10 :: b) = (catT (tParse a).1 (tParse b).1, 0, 0) := by
  obtain ⟨a1, a2⟩ := tParse_toks (by omega) ha
  obtain ⟨b1, b2⟩ := tParse_toks (by omega) hb
  obtain ⟨us, h1, h2⟩ := toks_app a1 b1
  have hz : tParse (a ++ 10 :: b) = tRead (((a ++ 10 :: b).length : Nat) : Int) ((toksV a).1 ++ us) := by
    unfold tParse
    rw [if_neg (by simp; omega), h1]
    exact if_pos rfl
  rw [hz]
  have hfx : FitT tb0 (tParse a).1 := ⟨by have := hf.1; simp [tb0]; omega, by have := hf.2.1; simp [tb0]; omega, by have := hf.2.2; simp [tb0]; omega⟩
  refine read_parts (p := (tParse a).2.1) (q := (tParse b).2.1) (E1 := (a.length : Int)) (E2 := (b.length : Int)) ?_ ?_ h2 hf hfx
  · rw [← a2]
    exact Prod.ext rfl (Prod.ext rfl ha)
  · rw [← b2]
    exact Prod.ext rfl (Prod.ext rfl hb)
end Go.Proofs.YtmleeodfmmpdgaaGreatDoor
/- Walks: equality of structs; the reference's equality of conditions. -/
namespace Go.Proofs.YtmleeodfmmpdgaaGreatDoor
open Go.RowKit Go.Maps Go.Sort
attribute [local go_sem] Ext.cell Ext.frozen
attribute [local go_sem ↓] Go.wp_at_zero Go.wp_at_succ
theorem cellsStrP : Tryz.prog.cellsOf 9 = 1 := by kernel_rfl
theorem cellsIntP : Tryz.prog.cellsOf 3 = 1 := by kernel_rfl
theorem data_eq2 (a b : ByteArray) : a.data = b.data ↔ a = b := ⟨fun h => ByteArray.ext h, fun h => by rw [h]⟩
abbrev W6i (x : Int) : Prop := (Lit.int IntKind.i64 x).wf = true
theorem wf_of {a : Int} (h1 : -9223372036854775808 ≤ a) (h2 : a ≤ 9223372036854775807) : W6i a := WalkArith.wf_i64 (by omega)
/-- equality as a truth value -/
noncomputable def eqB {α : Type} (a b : α) : Bool := @decide (a = b) (Classical.propDecidable _)
theorem eqB_yes {α : Type} {a b : α} (h : a = b) : eqB a b = true := by unfold eqB; exact @decide_eq_true _ (Classical.propDecidable _) h
theorem eqB_no {α : Type} {a b : α} (h : a ≠ b) : eqB a b = false := by unfold eqB; exact @decide_eq_false _ (Classical.propDecidable _) h
theorem eqB_iff {α : Type} {a b : α} : eqB a b = true ↔ a = b := ⟨fun h => Classical.byContradiction (fun g => by rw [eqB_no g] at h; cases h), eqB_yes⟩
theorem cellsSpanP : Tryz.prog.cellsOf 152 = 2 := by kernel_rfl
set_option maxRecDepth 4000 in
theorem eq_SpanP (x0 : Int) (x1 : Int) (y0 : Int) (y1 : Int) (w : World) (h0 : W6i x0) (h1 : W6i x1) (g0 : W6i y0) (g1 : W6i y1) : (Op.equalIn 10000 152 (.agg #[.int .i64 x0, .int .i64 x1]) (.agg #[.int .i64 y0, .int .i64 y1])).run Tryz.prog w = .ok (decide (x0 = y0 ∧ x1 = y1)) w := by
  have hf : ∀ (x0 : Int) (x1 : Int), (Value.agg #[.int .i64 x0, .int .i64 x1]).formed Tryz.prog 152 = true := fun x0 x1 => by simp [Value.formed, Tryz.underlying152, cellsSpanP]
  have hl : ∀ (x0 : Int) (x1 : Int), W6i x0 → W6i x1 → Tryz.prog.keyLits 2 152 [.int .i64 x0, .int .i64 x1] = some [.int .i64 x0, .int .i64 x1] := fun x0 x1 h0 h1 => by unfold W6i at h0 h1; simp [h0, h1, Program.keyLits, Tryz.underlying152, Tryz.underlying3, cellsSpanP, cellsIntP]
  obtain ⟨r, e1, e2⟩ := run_equalIn_deep 9998 2 152 (by kernel_rfl) w 2 2 (.agg #[.int .i64 x0, .int .i64 x1]) (.agg #[.int .i64 y0, .int .i64 y1]) _ _ (hf x0 x1) (hf y0 y1) (hl x0 x1 h0 h1) (hl y0 y1 g0 g1)
  have : r = decide (x0 = y0 ∧ x1 = y1) := by
    rw [Bool.eq_iff_iff, e2, decide_eq_true_eq]
    simp
  rw [← this]
  exact e1
theorem cellsLpP : Tryz.prog.cellsOf 130 = 5 := by kernel_rfl
set_option maxRecDepth 4000 in
theorem eq_LpP (x0 : ByteArray) (x1 : ByteArray) (x2 : ByteArray) (x3 : ByteArray) (x4 : ByteArray) (y0 : ByteArray) (y1 : ByteArray) (y2 : ByteArray) (y3 : ByteArray) (y4 : ByteArray) (w : World) (h0 : x0.size ≤ maxLen) (h1 : x1.size ≤ maxLen) (h2 : x2.size ≤ maxLen) (h3 : x3.size ≤ maxLen) (h4 : x4.size ≤ maxLen) (g0 : y0.size ≤ maxLen) (g1 : y1.size ≤ maxLen) (g2 : y2.size ≤ maxLen) (g3 : y3.size ≤ maxLen) (g4 : y4.size ≤ maxLen) : (Op.equalIn 10000 130 (.agg #[.string x0, .string x1, .string x2, .string x3, .string x4]) (.agg #[.string y0, .string y1, .string y2, .string y3, .string y4])).run Tryz.prog w = .ok (decide (x0 = y0 ∧ x1 = y1 ∧ x2 = y2 ∧ x3 = y3 ∧ x4 = y4)) w := by
  have hf : ∀ (x0 : ByteArray) (x1 : ByteArray) (x2 : ByteArray) (x3 : ByteArray) (x4 : ByteArray), (Value.agg #[.string x0, .string x1, .string x2, .string x3, .string x4]).formed Tryz.prog 130 = true := fun x0 x1 x2 x3 x4 => by simp [Value.formed, Tryz.underlying130, cellsLpP]
  have hl : ∀ (x0 : ByteArray) (x1 : ByteArray) (x2 : ByteArray) (x3 : ByteArray) (x4 : ByteArray), x0.size ≤ maxLen → x1.size ≤ maxLen → x2.size ≤ maxLen → x3.size ≤ maxLen → x4.size ≤ maxLen → Tryz.prog.keyLits 2 130 [.string x0, .string x1, .string x2, .string x3, .string x4] = some [.string x0.data.toList, .string x1.data.toList, .string x2.data.toList, .string x3.data.toList, .string x4.data.toList] := fun x0 x1 x2 x3 x4 h0 h1 h2 h3 h4 => by simp [h0, h1, h2, h3, h4, Program.keyLits, Tryz.underlying130, Tryz.underlying9, cellsLpP, cellsStrP]
  obtain ⟨r, e1, e2⟩ := run_equalIn_deep 9998 2 130 (by kernel_rfl) w 2 2 (.agg #[.string x0, .string x1, .string x2, .string x3, .string x4]) (.agg #[.string y0, .string y1, .string y2, .string y3, .string y4]) _ _ (hf x0 x1 x2 x3 x4) (hf y0 y1 y2 y3 y4) (hl x0 x1 x2 x3 x4 h0 h1 h2 h3 h4) (hl y0 y1 y2 y3 y4 g0 g1 g2 g3 g4)
  have : r = decide (x0 = y0 ∧ x1 = y1 ∧ x2 = y2 ∧ x3 = y3 ∧ x4 = y4) := by
    rw [Bool.eq_iff_iff, e2, decide_eq_true_eq]
    simp [data_eq2]
  rw [← this]
  exact e1
theorem cellsUpP : Tryz.prog.cellsOf 132 = 3 := by kernel_rfl
set_option maxRecDepth 4000 in
theorem eq_UpP (x0 : ByteArray) (x1 : ByteArray) (x2 : ByteArray) (y0 : ByteArray) (y1 : ByteArray) (y2 : ByteArray) (w : World) (h0 : x0.size ≤ maxLen) (h1 : x1.size ≤ maxLen) (h2 : x2.size ≤ maxLen) (g0 : y0.size ≤ maxLen) (g1 : y1.size ≤ maxLen) (g2 : y2.size ≤ maxLen) : (Op.equalIn 10000 132 (.agg #[.string x0, .string x1, .string x2]) (.agg #[.string y0, .string y1, .string y2])).run Tryz.prog w = .ok (decide (x0 = y0 ∧ x1 = y1 ∧ x2 = y2)) w := by
  have hf : ∀ (x0 : ByteArray) (x1 : ByteArray) (x2 : ByteArray), (Value.agg #[.string x0, .string x1, .string x2]).formed Tryz.prog 132 = true := fun x0 x1 x2 => by simp [Value.formed, Tryz.underlying132, cellsUpP]
  have hl : ∀ (x0 : ByteArray) (x1 : ByteArray) (x2 : ByteArray), x0.size ≤ maxLen → x1.size ≤ maxLen → x2.size ≤ maxLen → Tryz.prog.keyLits 2 132 [.string x0, .string x1, .string x2] = some [.string x0.data.toList, .string x1.data.toList, .string x2.data.toList] := fun x0 x1 x2 h0 h1 h2 => by simp [h0, h1, h2, Program.keyLits, Tryz.underlying132, Tryz.underlying9, cellsUpP, cellsStrP]
  obtain ⟨r, e1, e2⟩ := run_equalIn_deep 9998 2 132 (by kernel_rfl) w 2 2 (.agg #[.string x0, .string x1, .string x2]) (.agg #[.string y0, .string y1, .string y2]) _ _ (hf x0 x1 x2) (hf y0 y1 y2) (hl x0 x1 x2 h0 h1 h2) (hl y0 y1 y2 g0 g1 g2)
  have : r = decide (x0 = y0 ∧ x1 = y1 ∧ x2 = y2) := by
    rw [Bool.eq_iff_iff, e2, decide_eq_true_eq]
    simp [data_eq2]
  rw [← this]
  exact e1
theorem cellsDpP : Tryz.prog.cellsOf 134 = 2 := by kernel_rfl
set_option maxRecDepth 4000 in
theorem eq_DpP (x0 : ByteArray) (x1 : ByteArray) (y0 : ByteArray) (y1 : ByteArray) (w : World) (h0 : x0.size ≤ maxLen) (h1 : x1.size ≤ maxLen) (g0 : y0.size ≤ maxLen) (g1 : y1.size ≤ maxLen) : (Op.equalIn 10000 134 (.agg #[.string x0, .string x1]) (.agg #[.string y0, .string y1])).run Tryz.prog w = .ok (decide (x0 = y0 ∧ x1 = y1)) w := by
  have hf : ∀ (x0 : ByteArray) (x1 : ByteArray), (Value.agg #[.string x0, .string x1]).formed Tryz.prog 134 = true := fun x0 x1 => by simp [Value.formed, Tryz.underlying134, cellsDpP]
  have hl : ∀ (x0 : ByteArray) (x1 : ByteArray), x0.size ≤ maxLen → x1.size ≤ maxLen → Tryz.prog.keyLits 2 134 [.string x0, .string x1] = some [.string x0.data.toList, .string x1.data.toList] := fun x0 x1 h0 h1 => by simp [h0, h1, Program.keyLits, Tryz.underlying134, Tryz.underlying9, cellsDpP, cellsStrP]
  obtain ⟨r, e1, e2⟩ := run_equalIn_deep 9998 2 134 (by kernel_rfl) w 2 2 (.agg #[.string x0, .string x1]) (.agg #[.string y0, .string y1]) _ _ (hf x0 x1) (hf y0 y1) (hl x0 x1 h0 h1) (hl y0 y1 g0 g1)
  have : r = decide (x0 = y0 ∧ x1 = y1) := by
    rw [Bool.eq_iff_iff, e2, decide_eq_true_eq]
    simp [data_eq2]
  rw [← this]
  exact e1
theorem cellsAlP : Tryz.prog.cellsOf 61 = 2 := by kernel_rfl
set_option maxRecDepth 4000 in
theorem eq_AlP (x0 : ByteArray) (x1 : ByteArray) (y0 : ByteArray) (y1 : ByteArray) (w : World) (h0 : x0.size ≤ maxLen) (h1 : x1.size ≤ maxLen) (g0 : y0.size ≤ maxLen) (g1 : y1.size ≤ maxLen) : (Op.equalIn 10000 61 (.agg #[.string x0, .string x1]) (.agg #[.string y0, .string y1])).run Tryz.prog w = .ok (decide (x0 = y0 ∧ x1 = y1)) w := by
  have hf : ∀ (x0 : ByteArray) (x1 : ByteArray), (Value.agg #[.string x0, .string x1]).formed Tryz.prog 61 = true := fun x0 x1 => by simp [Value.formed, Tryz.underlying61, cellsAlP]
  have hl : ∀ (x0 : ByteArray) (x1 : ByteArray), x0.size ≤ maxLen → x1.size ≤ maxLen → Tryz.prog.keyLits 2 61 [.string x0, .string x1] = some [.string x0.data.toList, .string x1.data.toList] := fun x0 x1 h0 h1 => by simp [h0, h1, Program.keyLits, Tryz.underlying61, Tryz.underlying9, cellsAlP, cellsStrP]
  obtain ⟨r, e1, e2⟩ := run_equalIn_deep 9998 2 61 (by kernel_rfl) w 2 2 (.agg #[.string x0, .string x1]) (.agg #[.string y0, .string y1]) _ _ (hf x0 x1) (hf y0 y1) (hl x0 x1 h0 h1) (hl y0 y1 g0 g1)
  have : r = decide (x0 = y0 ∧ x1 = y1) := by
    rw [Bool.eq_iff_iff, e2, decide_eq_true_eq]
    simp [data_eq2]
  rw [← this]
  exact e1
theorem cellsNeP : Tryz.prog.cellsOf 58 = 3 := by kernel_rfl
set_option maxRecDepth 4000 in
theorem eq_NeP (x0 : ByteArray) (x1 : ByteArray) (x2 : Int) (y0 : ByteArray) (y1 : ByteArray) (y2 : Int) (w : World) (h0 : x0.size ≤ maxLen) (h1 : x1.size ≤ maxLen) (h2 : W6i x2) (g0 : y0.size ≤ maxLen) (g1 : y1.size ≤ maxLen) (g2 : W6i y2) : (Op.equalIn 10000 58 (.agg #[.string x0, .string x1, .int .i64 x2]) (.agg #[.string y0, .string y1, .int .i64 y2])).run Tryz.prog w = .ok (decide (x0 = y0 ∧ x1 = y1 ∧ x2 = y2)) w := by
  have hf : ∀ (x0 : ByteArray) (x1 : ByteArray) (x2 : Int), (Value.agg #[.string x0, .string x1, .int .i64 x2]).formed Tryz.prog 58 = true := fun x0 x1 x2 => by simp [Value.formed, Tryz.underlying58, cellsNeP]
  have hl : ∀ (x0 : ByteArray) (x1 : ByteArray) (x2 : Int), x0.size ≤ maxLen → x1.size ≤ maxLen → W6i x2 → Tryz.prog.keyLits 2 58 [.string x0, .string x1, .int .i64 x2] = some [.string x0.data.toList, .string x1.data.toList, .int .i64 x2] := fun x0 x1 x2 h0 h1 h2 => by unfold W6i at h2; simp [h0, h1, h2, Program.keyLits, Tryz.underlying58, Tryz.underlying9, Tryz.underlying3, cellsNeP, cellsStrP, cellsIntP]
  obtain ⟨r, e1, e2⟩ := run_equalIn_deep 9998 2 58 (by kernel_rfl) w 2 2 (.agg #[.string x0, .string x1, .int .i64 x2]) (.agg #[.string y0, .string y1, .int .i64 y2]) _ _ (hf x0 x1 x2) (hf y0 y1 y2) (hl x0 x1 x2 h0 h1 h2) (hl y0 y1 y2 g0 g1 g2)
  have : r = decide (x0 = y0 ∧ x1 = y1 ∧ x2 = y2) := by
    rw [Bool.eq_iff_iff, e2, decide_eq_true_eq]
    simp [data_eq2]
  rw [← this]
  exact e1
theorem cellsSymP : Tryz.prog.cellsOf 40 = 6 := by kernel_rfl
set_option maxRecDepth 4000 in
theorem eq_SymP (x0 : ByteArray) (x1 : ByteArray) (x2 : ByteArray) (x3 : ByteArray) (x4 : Int) (x5 : Int) (y0 : ByteArray) (y1 : ByteArray) (y2 : ByteArray) (y3 : ByteArray) (y4 : Int) (y5 : Int) (w : World) (h0 : x0.size ≤ maxLen) (h1 : x1.size ≤ maxLen) (h2 : x2.size ≤ maxLen) (h3 : x3.size ≤ maxLen) (h4 : W6i x4) (h5 : W6i x5) (g0 : y0.size ≤ maxLen) (g1 : y1.size ≤ maxLen) (g2 : y2.size ≤ maxLen) (g3 : y3.size ≤ maxLen) (g4 : W6i y4) (g5 : W6i y5) : (Op.equalIn 10000 40 (.agg #[.string x0, .string x1, .string x2, .string x3, .int .i64 x4, .int .i64 x5]) (.agg #[.string y0, .string y1, .string y2, .string y3, .int .i64 y4, .int .i64 y5])).run Tryz.prog w = .ok (decide (x0 = y0 ∧ x1 = y1 ∧ x2 = y2 ∧ x3 = y3 ∧ x4 = y4 ∧ x5 = y5)) w := by
  have hf : ∀ (x0 : ByteArray) (x1 : ByteArray) (x2 : ByteArray) (x3 : ByteArray) (x4 : Int) (x5 : Int), (Value.agg #[.string x0, .string x1, .string x2, .string x3, .int .i64 x4, .int .i64 x5]).formed Tryz.prog 40 = true := fun x0 x1 x2 x3 x4 x5 => by simp [Value.formed, Tryz.underlying40, cellsSymP]
  have hl : ∀ (x0 : ByteArray) (x1 : ByteArray) (x2 : ByteArray) (x3 : ByteArray) (x4 : Int) (x5 : Int), x0.size ≤ maxLen → x1.size ≤ maxLen → x2.size ≤ maxLen → x3.size ≤ maxLen → W6i x4 → W6i x5 → Tryz.prog.keyLits 2 40 [.string x0, .string x1, .string x2, .string x3, .int .i64 x4, .int .i64 x5] = some [.string x0.data.toList, .string x1.data.toList, .string x2.data.toList, .string x3.data.toList, .int .i64 x4, .int .i64 x5] := fun x0 x1 x2 x3 x4 x5 h0 h1 h2 h3 h4 h5 => by unfold W6i at h4 h5; simp [h0, h1, h2, h3, h4, h5, Program.keyLits, Tryz.underlying40, Tryz.underlying9, Tryz.underlying3, cellsSymP, cellsStrP, cellsIntP]
  obtain ⟨r, e1, e2⟩ := run_equalIn_deep 9998 2 40 (by kernel_rfl) w 2 2 (.agg #[.string x0, .string x1, .string x2, .string x3, .int .i64 x4, .int .i64 x5]) (.agg #[.string y0, .string y1, .string y2, .string y3, .int .i64 y4, .int .i64 y5]) _ _ (hf x0 x1 x2 x3 x4 x5) (hf y0 y1 y2 y3 y4 y5) (hl x0 x1 x2 x3 x4 x5 h0 h1 h2 h3 h4 h5) (hl y0 y1 y2 y3 y4 y5 g0 g1 g2 g3 g4 g5)
  have : r = decide (x0 = y0 ∧ x1 = y1 ∧ x2 = y2 ∧ x3 = y3 ∧ x4 = y4 ∧ x5 = y5) := by
    rw [Bool.eq_iff_iff, e2, decide_eq_true_eq]
    simp [data_eq2]
  rw [← this]
  exact e1
end Go.Proofs.YtmleeodfmmpdgaaGreatDoor
/- Walks: the reference's equality of texts, relations, conditions, rules. -/
namespace Go.Proofs.YtmleeodfmmpdgaaGreatDoor
open Go.RowKit
attribute [local go_sem] Ext.cell Ext.frozen
attribute [local go_sem ↓] Go.wp_at_zero Go.wp_at_succ
theorem list_getD {α : Type} {d : α} : ∀ {l m : List α}, l.length = m.length → (∀ j, j < l.length → l.getD j d = m.getD j d) → l = m
  | [], [], _, _ => rfl
  | [], _ :: _, h, _ => by cases h
  | _ :: _, [], h, _ => by cases h
  | a :: l, b :: m, h, k => by
    have h0 := k 0 (by simp)
    simp only [List.getD_cons_zero] at h0
    rw [h0, list_getD (l := l) (m := m) (by simpa using h) (fun j hj => by have := k (j + 1) (by simp; omega); simpa using this)]
theorem getD_ne {α : Type} {d : α} {l m : List α} {k : Nat} (h : l.getD k d ≠ m.getD k d) : l ≠ m := fun e => h (by rw [e])
theorem getD_of {α : Type} (l : List α) (d : α) {k : Nat} (h : k < l.length) : l[k] = l.getD k d := by rw [List.getD_eq_getElem?_getD, List.getElem?_eq_getElem h]; rfl
theorem cellsStrQ : Tryz.prog.cellsOf 9 = 1 := by kernel_rfl
set_option maxRecDepth 20000 in
set_option maxHeartbeats 4000000 in
theorem rsameTexts_any (l m : List ByteArray) (v u : Value) (w : World) (hv : RowsOf 1 OneS w v l) (hu : RowsOf 1 OneS w u m) : Calls Tryz.prog 77 #[v, u] w fun e w' => e = .returned (.bool (eqB l m)) ∧ Below w.heap.size w w' := by
  obtain ⟨adA, cA, fA, bA, offA, rfl, hrA, hnA, hcA, hmA, hCA⟩ := hv.opn
  obtain ⟨adB, cB, fB, bB, offB, rfl, hrB, hnB, hcB, hmB, hCB⟩ := hu.opn
  have HRA := Lib.hid hrA
  have HRB := Lib.hid hrB
  have HCA := Lib.hid hCA
  have HCB := Lib.hid hCB
  have HEQ : Hid ((∀ j, j < l.length → l.getD j ByteArray.empty = m.getD j ByteArray.empty) → l.length = m.length → l = m) := fun k h => list_getD h k
  have HLE : Hid (l.length ≠ m.length → l ≠ m) := fun h e => h (by rw [e])
  obtain ⟨n, hn⟩ : ∃ n, l.length = n := ⟨_, rfl⟩
  obtain ⟨n', hn'⟩ : ∃ n, m.length = n := ⟨_, rfl⟩
  clear hrA hrB hnA hnB hCA hCB hv hu
  have HLA := Lib.hid hn
  have HLB := Lib.hid hn'
  rw [hn] at HRA hcA hmA HEQ HLE ⊢
  rw [hn'] at HRB hcB hmB HEQ HLE ⊢
  clear hn hn'
  by_cases hn : n = n'
  · subst hn
    go_enter Tryz.func77, Tryz.ntmps77
    go_wp2_with fail
    go_loopw [5] (fun i wr => ∃ k : Nat, i = .int .i64 (k : Int) ∧ k ≤ n ∧ (∀ j, j < k → l.getD j .empty = m.getD j .empty) ∧ Below w.heap.size w wr) (fun i _ => n - (intOf i).toNat)
    case atStart => exact ⟨0, rfl, Nat.zero_le _, fun i hi => absurd hi (Nat.not_lt_zero _), Below.refl _ _⟩
    case round =>
      obtain ⟨k, rfl, hkn, hal, hbl⟩ := hrel
      have HAL := Lib.hid hal
      have HBL := Lib.hid hbl
      have hzr := hbl.size
      clear hal hbl
      by_cases hlt : k < n
      · have hltA := hlt
        have hltB := hlt
        have gA := HRA.out.below HBL.out
        have ixA := fun W => gA.ix (P := Tryz.prog) 44 9 Tryz.underlying44 cellsStrQ (by decide) hltA cA W
        have eA0 := gA.cell k 0 hltA (by decide)
        clear gA
        have gB := HRB.out.below HBL.out
        have ixB := fun W => gB.ix (P := Tryz.prog) 44 9 Tryz.underlying44 cellsStrQ (by decide) hltB cB W
        have eB0 := gB.cell k 0 hltB (by decide)
        clear gB
        have hkA : k < l.length := by rw [HLA.out]; exact hlt
        have hkB : k < m.length := by rw [HLB.out]; exact hlt
        rw [(HCA.out k hkA).1, getD_of l .empty hkA] at eA0
        rw [(HCB.out k hkB).1, getD_of m .empty hkB] at eB0
        simp only [Nat.mul_one, Nat.add_zero] at eA0 eB0 ixA ixB
        have HNX : Hid (l.getD k .empty = m.getD k .empty → ∀ j, j < k + 1 → l.getD j .empty = m.getD j .empty) := fun h j hj => by
          rcases Nat.lt_or_ge j k with h' | h'
          · exact HAL.out j h'
          · rw [show j = k by omega]; exact h
        have HNE : Hid (l.getD k .empty ≠ m.getD k .empty → eqB l m = false) := fun h => eqB_no (getD_ne h)
        generalize l.getD k .empty = x at *
        generalize m.getD k .empty = y at *
        clear hltA hltB hkA hkB
        by_cases hxy : x = y
        · subst hxy
          have m1 : (x.toList != x.toList) = false := by simp
          have HN := Lib.hid (HNX.out rfl)
          clear HNX HNE
          go_wp2_with fail
          go_quiet (fail)
          go_wp2_with fail
          go_roundw
          case rel => exact ⟨k + 1, by go_num, by omega, HN.out, HBL.out.trans ((below_drewN _ _).mono hzr)⟩
          case measure => simp [intOf]; omega
        · have hd1 : (x.toList == y.toList) = false := by rw [dec_toList, decide_eq_false hxy]
          have hd2 : (x.toList != y.toList) = true := by unfold bne; rw [hd1]; rfl
          have HN := Lib.hid (HNE.out hxy)
          clear HNX HNE
          go_wp2_with fail
          go_quiet (fail)
          go_wp2_with fail
          go_ret
          exact ⟨by rw [HN.out]; rfl, HBL.out.trans ((below_drewN _ _).mono hzr)⟩
      · obtain rfl : k = n := by omega
        have HS : Hid (eqB l m = true) := eqB_yes (HEQ.out HAL.out (by first | rfl | trivial))
        go_wp2_with fail
        go_ret
        exact ⟨by rw [HS.out]; rfl, HBL.out⟩
  · have HN : Hid (eqB l m = false) := eqB_no (HLE.out hn)
    have hn1 : ((n : Int) != (n' : Int)) = true := by simp only [bne_iff_ne]; omega
    go_enter Tryz.func77, Tryz.ntmps77
    go_wp2_with fail
    go_ret
    exact ⟨by rw [HN.out]; rfl, Below.refl _ _⟩
end Go.Proofs.YtmleeodfmmpdgaaGreatDoor
