/- Walks inside a fence: the program's Body. -/
import Derived.Test.YtkkggpahanddnaaDoorHB
namespace Go.Proofs.YtkkggpahanddnaaDoor
open Go.RowKit Go.Shelf
attribute [local go_sem] Oper.semAt_some

/-- a piece of at most 2000 bytes -/
abbrev Short := { x : Nat × ByteArray // x.2.size ≤ 2000 }
noncomputable def shortF (l : List ByteArray) (h : ∀ s ∈ l, s.size ≤ 2000) (j : Nat) : Short := ⟨pieceF l j, by
  unfold pieceF
  rcases Nat.lt_or_ge j l.length with hj | hj
  · exact h _ (getD_mem l j _ hj)
  · rw [List.getD_eq_getElem?_getD, List.getElem?_eq_none hj]; exact Nat.zero_le _⟩
theorem short_cat (l : List ByteArray) (h : ∀ s ∈ l, s.size ≤ 2000) : ∀ k, k ≤ l.length → (upto (shortF l h) k).map (fun x : Short => x.1.2) = l.take k
  | 0, _ => by simp [upto]
  | k + 1, hk => by
    rw [upto_succ, List.map_append, short_cat l h k (by omega), List.take_succ_eq_append_getElem (by omega)]
    simp [shortF, pieceF, List.getD, List.getElem?_eq_getElem (show k < l.length by omega)]
theorem builder_own {β : Type} (B b : Nat) (f : β → List Value) : Own (fun s W => Lib.IsBuilder 73 5 B b (f s) W) := by
  rintro s X Y row h hg hr
  have key : ∀ p, Lib.BuilderAt 73 5 B b p (f s) X → Lib.BuilderAt 73 5 B b p (f s) Y := by
    rintro p ⟨hB, v, hb, hown, hne⟩
    refine ⟨hB, v, (hg.block b (Array.getElem?_eq_some_iff.1 hb).1 (fun e => ?_)).trans hb, hown.kept hg ?_, hne⟩
    · obtain ⟨o, ho, hc⟩ := hr b e.symm
      rw [hb] at ho; cases ho; cases hc
    · rcases hown.2 with ⟨rfl, _⟩ | ⟨g, cap, cur, rfl, _, hgb, _⟩
      · exact .inl rfl
      · refine .inr fun e' => ?_
        obtain ⟨o, ho, hc⟩ := hr g (by simpa [Value.ownBlock] using e'.symm)
        rw [hgb] at ho; cases ho; cases hc
  exact h.elim (fun h => .inl (key _ h)) (fun h => .inr (key _ h))
theorem ownFrom_keepS {β : Type} {S : Nat → Prop} {V : World} {B : Nat} (hS : ∀ k, S k → k < B) (hV : ∀ k, S k → k < V.heap.size) : OwnFrom B (fun (_ : β) W => V.heap.size ≤ W.heap.size ∧ KeepS S V W) :=
  fun _ X Y row hs hg hr => ⟨Nat.le_trans hs.1 hg.size, fun k hk => (hg.block k (Nat.lt_of_lt_of_le (hV k hk) hs.1) (fun e => by have := (hr k e.symm).1; have := hS k hk; omega)).trans (hs.2 k hk)⟩
theorem keepS_doc {W w' : World} {Bd b m bB : Nat} {cs : Array Value} {base : Nat} (hd : W.heap[Bd]? = some (.cells cs 31 (0, 0))) (hne : Bd ≠ bB) (hbl : Below base W w') (hbk : m ≠ 0 → b < base) (hkt : KeepT bB W w') : KeepS (SDoc Bd b m) W w' := by
  intro k hk
  rcases hk with rfl | ⟨rfl, hm⟩
  · rw [hd]; exact hkt.same _ _ hd hne (fun cs fr e => by cases e)
  · exact hbl.block _ (hbk hm)
set_option maxRecDepth 100000 in
set_option maxHeartbeats 4000000 in
theorem pbody_any (h t : ByteArray) (ad : Option Addr) (m c : Nat) (xs : List ByteArray) (w : World) (hx : Sl w ad m (strs xs)) (hf : fewV (allV h xs t) = true) :
    Calls Tryd.prog 21 #[.agg #[.string h, .slice ad m c, .string t]] w fun e w' => e = .returned (.string (bs (catV (allV h xs t)))) ∧ Below w.heap.size w w' := by
  obtain ⟨hf1, hf2⟩ := fewV_facts hf
  obtain ⟨b, off, hx⟩ := hx
  have hl : xs.length = m := by have := hx.len; rwa [strs_length] at this
  have hbk : m ≠ 0 → b < w.heap.size := fun h => hx.block h
  have hm : m ≤ 20 := by rw [allV_len] at hf2; omega
  have HX := Lib.hid hx
  have HLL : Hid ((allV h xs t).length = m + 2) := by unfold Hid; rw [allV_len, hl]
  have HF := Lib.hid hf1
  clear hx hl hf hf1 hf2
  refine (callsIn_wide (n := 5)).1 ?_
  refine callsIn_of_wp_marks Tryd.func21 rfl trivial ?_ rfl
  simp only [Tryd.ntmps21, List.size_toArray, List.length_cons, List.length_nil, Nat.reduceAdd, Nat.reduceSub, Array.replicate_succ, Array.replicate_zero, List.push_toArray, List.append_toArray, List.nil_append, List.cons_append]
  gi_wp2_with (refine ⟨trivial, ?_⟩; gi_at_call 34; refine (pall_in 4 h t ad m c _).mono ?_; rintro e w' ⟨rfl, rfl⟩)
  refine wpIn_at_world ?_
  intro V hV
  have kd : V.heap[w.heap.size + 1 + 1]? = some (.cells #[.string h, .slice ad m c, .string t] 31 (0, 0)) := by
    rw [hV]
    have := row_new ((w.alloc (.cells #[.string h, .slice ad m c, .string t] 31)).alloc (.cells #[.pointer none, .slice none 0 0] 73)) #[.string h, .slice ad m c, .string t] 31
    simpa only [World.size_alloc] using this
  have b1 : Lib.IsBuilder 73 5 w.heap.size (w.heap.size + 1) (Lib.byteCells []) V := by
    refine .inl ⟨by omega, .slice none 0 0, ?_, World.ownsRow_nil _ _ _ _, by simp [Value.ownBlock]⟩
    rw [hV]
    exact (Below.heap_alloc _ _ _ (by simp)).trans (row_new2 _ _ _ _)
  have hB0 : Below w.heap.size w V := by
    rw [hV]
    exact (((Below.refl _ w).alloc (Nat.le_refl _) _).alloc (by simp) _).alloc (by simp; omega) _
  have hzV : w.heap.size + 1 + 1 < V.heap.size := by rw [hV]; simp
  clear hV
  have hSlt : ∀ k, SDoc (w.heap.size + 1 + 1) b m k → k < V.heap.size := SDoc.lt hzV (fun h => by have := hbk h; omega)
  refine wpIn_rangeFunc_ownG rfl (by omega) (gf := 45) (lb := #[.pointer (some ⟨w.heap.size + 1 + 1, 0, none⟩)]) rfl trivial (enters_of Tryd.func45 (by kernel_rfl) rfl)
    (pall_stopsG (fun x : Short => x.1) (shortF (allV h xs t) HF.out) 4 (by omega) (w.heap.size + 1 + 1) (SDoc (w.heap.size + 1 + 1) b m) h t ad m c b off xs V (by omega) (.inl rfl) (fun h => .inr ⟨rfl, h⟩) (fun _ _ => rfl) kd (HX.out.below hB0)) (fun h1 h2 => KeepS.trans h1 h2) (KeepS.put hSlt) (Below.refl _ _) (fun _ => rfl)
    (fun pre W => (Lib.IsBuilder 73 5 w.heap.size (w.heap.size + 1) (Lib.byteCells (catV (pre.map (fun x : Short => x.1.2)))) W ∧ (V.heap.size ≤ W.heap.size ∧ KeepS (SDoc (w.heap.size + 1 + 1) b m) V W)) ∧ Below w.heap.size w W)
    (fun _ _ _ => False)
    (OwnFrom.and (OwnFrom.and (Own.from (builder_own _ _ _) _) (ownFrom_keepS hSlt hSlt)) (ownFrom_below (Nat.le_refl _) (by omega)))
    (fun _ _ _ _ _ hs _ _ => hs)
    ⟨⟨b1, Nat.le_refl _, KeepS.refl _ _⟩, hB0⟩
    (fun x => { tmps := #[.agg #[.string h, .slice ad m c, .string t], .pointer (some ⟨w.heap.size, 0, none⟩), .string ⟨#[]⟩, .pointer (some ⟨w.heap.size + 1, 0, none⟩), undef, .string x.1.2, .agg #[.string h, .slice ad m c, .string t], .func (.func 45) #[] #[.pointer (some ⟨w.heap.size + 1 + 1, 0, none⟩)], .int .i64 (x.1.1 : Int), .string x.1.2, undef, undef, undef], defers := [] }) ?assign ?body ?done ?stop
  case assign =>
    intro l x W K hK
    gi_wp2
    exact hK
  case body =>
    rintro l pre x W ⟨⟨hbu, hVW, hkp⟩, hB⟩ hlen
    have hcl : (catV (pre.map (fun x : Short => x.1.2))).length ≤ 1000000 := by
      have h1 := catV_le (l := pre.map (fun x : Short => x.1.2)) (m := 2000) (by intro y hy; obtain ⟨z, _, rfl⟩ := List.mem_map.1 hy; exact z.2)
      rw [List.length_map] at h1
      have h2 := Nat.mul_le_mul_right 2000 (show pre.length ≤ 22 by omega)
      omega
    have hx2 := x.2
    have HW := Lib.hid (wstring_any w.heap.size (w.heap.size + 1) _ x.1.2 W hbu (by rw [Lib.byteCells_length]; omega) hB.size)
    gi_wp2_with (refine ⟨trivial, ?_⟩; gi_at_call 38; refine (CallsIn.inRound l (callsIn_wide.2 HW.out)).mono ?_; rintro e w' ⟨rfl, hb2, hbl, hkt⟩)
    have hWd := (hkp _ (Or.inl rfl)).trans kd
    have e1 : Lib.byteCells (catV (pre.map (fun x : Short => x.1.2))) ++ Lib.strCells x.1.2 = Lib.byteCells (catV ((pre ++ [x]).map (fun x : Short => x.1.2))) := by
      rw [List.map_append, List.map_cons, List.map_nil, catV_snoc, Lib.strCells_eq]
      simp [Lib.byteCells]
    rw [e1] at hb2
    refine ⟨(hkt.others (fun o ho => ?_)).from _, ?_, ⟨.inr hb2, Nat.le_trans hVW hkt.size, ?_⟩, hB.trans hbl⟩
    · rcases hbu with ⟨_, v, h1, _⟩ | ⟨_, v, h1, _⟩ <;> (rw [h1] at ho; cases ho; rfl)
    · exact keepS_doc hWd (by omega) hbl hbk hkt
    · exact hkp.trans (keepS_doc hWd (by omega) hbl hbk hkt)
  case done =>
    rintro D ys W hD rfl ⟨⟨hbu, hVW, hkp⟩, hB⟩ hK
    rw [short_cat _ _ _ (by rw [HLL.out]; exact Nat.le_refl _), List.take_of_length_le (by rw [HLL.out]; exact Nat.le_refl _)] at hbu
    have HS := Lib.hid (Tryd.Builder_String_any_k w.heap.size (w.heap.size + 1) (catV (allV h xs t)) W (Lib.IsBuilderF.of hbu) hB.size)
    gi_wp2_with (refine ⟨trivial, ?_⟩; gi_at_call 39; refine (callsIn_wide.2 HS.out).mono ?_; rintro e w' ⟨rfl, hb2, hbl, hkt⟩)
    have hK' : w'.heap[D]? = some (.deferred (some [])) := hkt D _ hK (by
      intro e; injection e with e
      rcases hbu with ⟨_, v, h1, _⟩ | ⟨_, v, h1, _⟩ <;> (rw [← e, hK] at h1; cases h1)) (fun c fz e => by cases e)
    refine ⟨by simp, .inl ⟨_, _, rfl, run_takeDeferred hK', ?_⟩⟩
    exact ⟨_, results_tmp rfl _ _ _, rfl, (hB.trans hbl).trans (belowK_b (w := w) (Nat.le_refl _) _ D _ _ (by omega) hK' rfl rfl)⟩
  case stop =>
    rintro D c pre W _ _ h _
    exact h.elim
end Go.Proofs.YtkkggpahanddnaaDoor
