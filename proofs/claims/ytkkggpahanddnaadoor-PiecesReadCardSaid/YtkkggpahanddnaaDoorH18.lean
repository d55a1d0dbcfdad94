/- Walks inside a fence: the program's Diff. -/
import Derived.Test.YtkkggpahanddnaaDoorH17
namespace Go.Proofs.YtkkggpahanddnaaDoor
open Go.RowKit Go.Shelf
attribute [local go_sem] Oper.semAt_some

/-- .. and one more -/
def SDoc2 (Bd b m e : Nat) (k : Nat) : Prop := SDoc Bd b m k ∨ k = e
theorem SDoc2.lt {Bd b m e B : Nat} (h1 : Bd < B) (h2 : m ≠ 0 → b < B) (h3 : e < B) : ∀ k, SDoc2 Bd b m e k → k < B := fun k h => h.elim (SDoc.lt h1 h2 k) (fun h => by subst h; exact h3)
def stepD (m : List ByteArray) (x : Nat × ByteArray) : List (Int × ByteArray) := if (getV m (x.1 : Int)).1 = x.2 then [] else [((x.1 : Int), x.2)]
def diffP (m : List ByteArray) (pre : List (Nat × ByteArray)) : List (Int × ByteArray) := pre.flatMap (stepD m)
theorem diffP_snoc (m : List ByteArray) (pre : List (Nat × ByteArray)) (x : Nat × ByteArray) : diffP m (pre ++ [x]) = diffP m pre ++ stepD m x := by simp [diffP]
theorem diffP_len (m : List ByteArray) (pre : List (Nat × ByteArray)) : (diffP m pre).length ≤ pre.length := by
  induction pre with
  | nil => exact Nat.le_refl _
  | cons x pre ih =>
    have : diffP m (x :: pre) = stepD m x ++ diffP m pre := rfl
    rw [this, List.length_append, List.length_cons]
    have : (stepD m x).length ≤ 1 := by unfold stepD; split <;> simp
    omega
theorem diffP_upto (l m : List ByteArray) (hl : m.length = l.length) : ∀ k, k ≤ l.length → diffP m (upto (pieceF l) k) = diffN l m k
  | 0, _ => rfl
  | k + 1, hk => by
    rw [upto_succ, diffP_snoc, diffP_upto l m hl k (by omega), diffN]
    congr 1
    unfold stepD pieceF
    simp only
    rw [getV_in (by omega)]
    by_cases h : l.getD k .empty = m.getD k .empty
    · rw [if_pos h.symm, if_pos h]
    · rw [if_neg (fun e => h e.symm), if_neg h]
/-- append of one piece, inside a fence -/
theorem wpListIn_app2 {F : Fence} {n0 : Nat} {P : Program} {ops : Array Oper} {rest : List Oper} {o : Oper} {a : Act} {Q : Exit → Act → World → Prop} {w : World} (t E : TypeId)
    (ht : P.underlying t = some (.slice E)) (i : TypeInfo) (z : Value) (hi : P.info? E = some i) (hz : i.zero = some z) (hsize : i.size = 2) (hby : i.bytes = 24) (hzs : z.cells.size = 2)
    (hgd : o.guard = none) (s x : Operand) (ho : o.op = .call { callee := .builtin .append, args := #[s, x], argTypes := #[t, t] })
    (base : Nat) (v : Value) (n : Nat) (xs : List Value) (hs : a.eval s = v) (hown : w.ownsRow base E 2 v n xs)
    (y0 y1 : Value) (E' : TypeId) (hx : a.eval x = .slice (some ⟨w.heap.size, 0, none⟩) 1 1) (h0 : y0.oneCell' = true) (h1 : y1.oneCell' = true)
    (hn : n ≤ 1000000000) (hbase : base ≤ w.heap.size)
    (h : ∀ ad' c' w', w'.ownsRow base E 2 (.slice ad' (n + 1) c') (n + 1) (xs ++ [y0, y1]) → (w.alloc (.cells #[y0, y1] E')).grownBy w' v.ownBlock →
      wpListIn F n0 P ops Q rest (a.put o.dst (.slice ad' (n + 1) c')) w') : wpListIn F n0 P ops Q (o :: rest) a (w.alloc (.cells #[y0, y1] E')) := by
  refine wpListIn_append_own _ hgd s x t ho base E i z 2 24 ht hi hz hsize hby hzs (by omega) v n xs hs (World.ownsRow.alloc hown _) ⟨w.heap.size, 0, none⟩ 1 1 [y0, y1] hx rfl (World.news_of_block (row_new w #[y0, y1] E'))
    (by intro u hu; simp at hu; rcases hu with rfl | rfl <;> assumption) (by unfold maxLen; omega) (by omega) (by simp; omega) ?_
  intro v' w' g1 g2 _
  obtain ⟨ad', c', rfl⟩ := own_form_k g1
  exact h ad' c' w' g1 g2
set_option maxRecDepth 100000 in
set_option maxHeartbeats 4000000 in
theorem pdiff_no (h t : ByteArray) (ad : Option Addr) (n c : Nat) (h' t' : ByteArray) (ad' : Option Addr) (n' c' : Nat) (w : World) (hne : n ≠ n') :
    Calls Tryd.prog 12 #[.agg #[.string h, .slice ad n c, .string t], .agg #[.string h', .slice ad' n' c', .string t']] w fun e w' => e = .returned (.tuple #[.slice none 0 0, .int .i64 1]) ∧ Below w.heap.size w w' := by
  have h1 : ((n : Int) != (n' : Int)) = true := by simp; omega
  have h2 : ¬ ((n : Int) = (n' : Int)) := by omega
  refine (callsIn_wide (n := 5)).1 ?_
  refine callsIn_of_wp_marks Tryd.func12 rfl trivial ?_ rfl
  simp only [Tryd.ntmps12, List.size_toArray, List.length_cons, List.length_nil, Nat.reduceAdd, Nat.reduceSub, Array.replicate_succ, Array.replicate_zero, List.push_toArray, List.append_toArray, List.nil_append, List.cons_append]
  gi_wp2
  exact ⟨.tuple #[.slice none 0 0, .int .i64 1], by simp [results, Tryd.f12, go_sem], rfl, ((Below.refl _ _).alloc (Nat.le_refl _) _).alloc (by simp) _⟩
theorem boxed_below {w W : World} {B : Nat} {t : TypeId} {v : Value} (h : Boxed w B t v) (hb : Below w.heap.size w W) : Boxed W B t v := (hb.block B h.lt).trans h
theorem below_others {w w' : World} (h : Below w.heap.size w w') : KeepsOthers w w' := ⟨h.size, fun k _ hk _ => (h.block k (Array.getElem?_eq_some_iff.1 hk).1).trans hk⟩
theorem keepS2_app {w' w3 : World} {v v' : Value} {Bd b m e base B n : Nat} {E T : TypeId} {size : Nat} {xs : List Value} {cs cs' : Array Value} {tmp : Obj} (hg : (w'.alloc tmp).grownBy w3 v.ownBlock) (hd : w'.heap[Bd]? = some (.cells cs T (0, 0))) (he : w'.heap[e]? = some (.cells cs' T (0, 0)))
    (hrow : w'.ownsRow base E size v n xs) (hTE : T ≠ E) (hb : m ≠ 0 → b < base) (hz : base ≤ w'.heap.size) (h1 : Bd ≠ B) (h2 : e ≠ B) (h3 : base ≤ B) : KeepS (SDoc2 Bd b m e) w' (w3.setCell ⟨B, 0, none⟩ v') := by
  have key : ∀ k, k ≠ B → k < w'.heap.size → v.ownBlock ≠ some k → (w3.setCell ⟨B, 0, none⟩ v').heap[k]? = w'.heap[k]? := fun k hk hlt hne =>
    (Below.heap_setCell w3 ⟨B, 0, none⟩ v' k hk).trans ((hg.block k (by simp; omega) (fun e => hne e.symm)).trans (Below.heap_alloc _ _ _ hlt))
  rintro k ((rfl | ⟨rfl, hm⟩) | rfl)
  · exact key _ h1 (Array.getElem?_eq_some_iff.1 hd).1 (own_other hrow hd hTE)
  · have := hb hm
    exact key _ (by omega) (by omega) (fun e => by have := (World.ownsRow.lt hrow _ e).1; omega)
  · exact key _ h2 (Array.getElem?_eq_some_iff.1 he).1 (own_other hrow he hTE)
set_option maxRecDepth 100000 in
set_option maxHeartbeats 4000000 in
theorem pdiff_yes (h t : ByteArray) (ad : Option Addr) (m c : Nat) (xs : List ByteArray) (h' t' : ByteArray) (ad' : Option Addr) (c' : Nat) (xs' : List ByteArray) (w : World) (hx : Sl w ad m (strs xs)) (hx' : Sl w ad' m (strs xs')) (hm : m ≤ 100000) :
    Calls Tryd.prog 12 #[.agg #[.string h, .slice ad m c, .string t], .agg #[.string h', .slice ad' m c', .string t']] w (DiffPost 66 w (diffV (allV h xs t) (allV h' xs' t'))) := by
  have hl : xs.length = m := by have := hx.len; rwa [strs_length] at this
  have hl' : xs'.length = m := by have := hx'.len; rwa [strs_length] at this
  have HGET : Hid (∀ (i : Int) W, Below w.heap.size w W → Calls Tryd.prog 17 #[.agg #[.string h', .slice ad' m c', .string t'], .int .i64 i] W fun e W' => e = .returned (getR (getV (allV h' xs' t') i)) ∧ Below W.heap.size W W') := fun i W hW => pget_any h' t' ad' m c' xs' i W (hx'.below hW) (by omega)
  obtain ⟨b, off, hx⟩ := hx
  have hbk : m ≠ 0 → b < w.heap.size := fun h => hx.block h
  have HX := Lib.hid hx
  have HLL : Hid ((allV h xs t).length = m + 2) := by unfold Hid; rw [allV_len, hl]
  have HLM : Hid ((allV h' xs' t').length = (allV h xs t).length) := by unfold Hid; rw [allV_len, allV_len]; omega
  obtain ⟨i0, hi, hz0, hz1, hz2⟩ := info_parts infoPc
  have HI := Lib.hid hi
  have HZ0 := Lib.hid hz0
  have HZ1 := Lib.hid hz1
  have HZ2 := Lib.hid hz2
  clear hx hx' hl hl' hi hz0 hz1 hz2
  generalize hM : allV h' xs' t' = M at *
  refine (callsIn_wide (n := 5)).1 ?_
  refine callsIn_of_wp_marks Tryd.func12 rfl trivial ?_ rfl
  simp only [Tryd.ntmps12, List.size_toArray, List.length_cons, List.length_nil, Nat.reduceAdd, Nat.reduceSub, Array.replicate_succ, Array.replicate_zero, List.push_toArray, List.append_toArray, List.nil_append, List.cons_append]
  gi_wp2_with (refine ⟨trivial, ?_⟩; gi_at_call 34; refine (pall_in 4 h t ad m c _).mono ?_; rintro e w' ⟨rfl, rfl⟩)
  refine wpIn_at_world ?_
  intro V hV
  have kd : V.heap[w.heap.size + 1 + 1 + 1]? = some (.cells #[.string h, .slice ad m c, .string t] 31 (0, 0)) := by
    rw [hV]
    have := row_new (((w.alloc (.cells #[.string h, .slice ad m c, .string t] 31)).alloc (.cells #[.string h', .slice ad' m c', .string t'] 31)).alloc (.cells #[.slice none 0 0] 27)) #[.string h, .slice ad m c, .string t] 31
    simpa only [World.size_alloc] using this
  have kc : V.heap[w.heap.size + 1]? = some (.cells #[.string h', .slice ad' m c', .string t'] 31 (0, 0)) := by
    rw [hV]
    exact (Below.heap_alloc _ _ _ (by simp <;> omega)).trans ((Below.heap_alloc _ _ _ (by simp <;> omega)).trans (row_new2 _ _ _ _))
  have b2 : Boxed V (w.heap.size + 1 + 1) 27 (.slice none 0 0) := by
    rw [hV]
    have := Boxed.new ((w.alloc (.cells #[.string h, .slice ad m c, .string t] 31)).alloc (.cells #[.string h', .slice ad' m c', .string t'] 31)) 27 (.slice none 0 0)
    rw [World.size_alloc, World.size_alloc] at this
    exact this.alloc _
  have hB0 : Below w.heap.size w V := by
    rw [hV]
    exact ((((Below.refl _ w).alloc (Nat.le_refl _) _).alloc (by simp) _).alloc (by simp; omega) _).alloc (by simp; omega) _
  have hzV : w.heap.size + 1 + 1 + 1 < V.heap.size := by rw [hV]; simp
  clear hV
  have hSlt : ∀ k, SDoc2 (w.heap.size + 1 + 1 + 1) b m (w.heap.size + 1) k → k < V.heap.size := SDoc2.lt hzV (fun h => by have := hbk h; omega) (by omega)
  refine wpIn_rangeFunc_ownG rfl (by omega) (gf := 45) (lb := #[.pointer (some ⟨w.heap.size + 1 + 1 + 1, 0, none⟩)]) rfl trivial (enters_of Tryd.func45 (by kernel_rfl) rfl)
    (pall_stops 4 (by omega) (w.heap.size + 1 + 1 + 1) (SDoc2 (w.heap.size + 1 + 1 + 1) b m (w.heap.size + 1)) h t ad m c b off xs V (by omega) (.inl (.inl rfl)) (fun h => .inl (.inr ⟨rfl, h⟩)) kd (HX.out.below hB0)) (fun h1 h2 => KeepS.trans h1 h2) (KeepS.put hSlt) (Below.refl _ _) (fun _ => rfl)
    (fun pre W => ((∃ v, Boxed W (w.heap.size + 1 + 1) 27 v ∧ W.ownsRow w.heap.size 66 2 v (diffP M pre).length (pcCells (diffP M pre)) ∧ True) ∧ (V.heap.size ≤ W.heap.size ∧ KeepS (SDoc2 (w.heap.size + 1 + 1 + 1) b m (w.heap.size + 1)) V W)) ∧ Below w.heap.size w W)
    (fun _ _ _ => False)
    (OwnFrom.and (OwnFrom.and (Own.from (holdsRow_own _ _ _ _ _ (fun pre => (diffP M pre).length) (fun pre => pcCells (diffP M pre)) (fun _ _ => True)) _) (ownFrom_keepS hSlt hSlt)) (ownFrom_below (Nat.le_refl _) (by omega)))
    (fun _ _ _ _ _ hs _ _ => hs)
    ⟨⟨⟨_, b2, World.ownsRow_nil _ _ _ _, trivial⟩, Nat.le_refl _, KeepS.refl _ _⟩, hB0⟩
    (fun x => { tmps := #[.agg #[.string h, .slice ad m c, .string t], .agg #[.string h', .slice ad' m c', .string t'], .pointer (some ⟨w.heap.size, 0, none⟩), .pointer (some ⟨w.heap.size + 1, 0, none⟩), .slice none 0 0, .int .i64 0, .pointer (some ⟨w.heap.size + 1 + 1, 0, none⟩), .int .i64 (x.1 : Int), .string x.2, undef, undef, .pointer (some ⟨w.heap.size, 1, none⟩), .slice ad m c, .int .i64 (m : Int), .pointer (some ⟨w.heap.size + 1, 1, none⟩), .slice ad' m c', .int .i64 (m : Int), .bool false, .agg #[.string h, .slice ad m c, .string t], .func (.func 45) #[] #[.pointer (some ⟨w.heap.size + 1 + 1 + 1, 0, none⟩)], .int .i64 (x.1 : Int), .string x.2, undef, undef, undef, undef, undef, undef, undef, undef, undef, undef, undef, undef, undef, undef, undef, undef], defers := [] }) ?assign ?body ?done ?stop
  case assign =>
    intro l x W K hK
    gi_wp2
    exact hK
  case body =>
    rintro l pre x W ⟨⟨⟨v, hbx, hrow, _⟩, hVW, hkp⟩, hB⟩ hlen
    have hkc := (hkp _ (.inr rfl)).trans kc
    have c0 := row_cells hkc 0
    have c1 := row_cells hkc 1
    have c2 := row_cells hkc 2
    have hdl : (diffP M pre).length ≤ 1000000000 := by have := diffP_len M pre; omega
    have HG := Lib.hid (HGET.out (x.1 : Int) W hB)
    have HSN := Lib.hid (diffP_snoc M pre x)
    have HROW := Lib.hid hrow
    have HBX := Lib.hid hbx
    have HKP := Lib.hid hkp
    have HB := Lib.hid hB
    have HKC := Lib.hid hkc
    obtain ⟨x0, x1⟩ := x
    simp only at HG
    have hst : stepD M (x0, x1) = if (getV M (x0 : Int)).1 = x1 then [] else [((x0 : Int), x1)] := rfl
    rw [hst] at HSN
    generalize getV M (x0 : Int) = y at *
    obtain ⟨y0, y1⟩ := y
    simp only [getR] at HG
    clear hrow hbx hkp hB hkc hst
    by_cases hyx : y0 = x1
    · subst hyx
      simp only [if_true, List.append_nil] at HSN
      gi_wp2_with (refine ⟨trivial, ?_⟩; gi_at_call 17; refine (CallsIn.inRound l (callsIn_wide.2 HG.out)).mono ?_; rintro e w' ⟨rfl, hbl⟩)
      have hks : KeepS (SDoc2 (w.heap.size + 1 + 1 + 1) b m (w.heap.size + 1)) W w' := fun k hk => hbl.block k (Nat.lt_of_lt_of_le (hSlt k hk) hVW)
      exact ⟨(below_others hbl).from _, hks, ⟨⟨v, boxed_below HBX.out hbl, by rw [HSN.out]; exact own_below2 HROW.out hbl, trivial⟩, Nat.le_trans hVW hbl.size, HKP.out.trans hks⟩, HB.out.trans (hbl.mono HB.out.size)⟩
    · have hne : (y0.toList == x1.toList) = false := by
        rw [ByteArray.toList_eq, ByteArray.toList_eq, beq_eq_false_iff_ne]
        exact fun e => hyx (ByteArray.ext (Array.toList_inj.1 e))
      have hne2 : (y0.toList != x1.toList) = true := by unfold bne; rw [hne]; rfl
      simp only [if_neg hyx] at HSN
      have hwW := HB.out.size
      gi_wp2_with (first
        | (refine ⟨trivial, ?_⟩; gi_at_call 17; refine (CallsIn.inRound l (callsIn_wide.2 HG.out)).mono ?_; rintro e w' ⟨rfl, hbl⟩; have hb' := boxed_below HBX.out hbl; have hbc := hb'.cell; have hzz : w.heap.size ≤ w'.heap.size := Nat.le_trans hwW hbl.size; have HBX2 := Lib.hid hb'; have HR2 := Lib.hid (own_below2 HROW.out hbl); have HBL := Lib.hid hbl; clear hb' hbl)
        | (gi_at_builtin; refine wpListIn_app2 27 66 Tryd.underlying27 i0 _ HI.out HZ0.out HZ1.out HZ2.out rfl rfl _ _ rfl w.heap.size v _ _ rfl HR2.out _ _ _ rfl rfl rfl hdl hzz ?_; intro ad6 c6 w3 hown3 hg3; obtain ⟨k1, k2, k3, k4, k5⟩ := HBX2.out.appended (by decide) HR2.out hzz (by omega) hown3 hg3; have hc1 := k1.cell; have hf1 := k1.frozen; have HO3 := Lib.hid hown3; have HG3 := Lib.hid hg3; have HK2 := Lib.hid k2; have HK3 := Lib.hid k3; have HK4 := Lib.hid k4; have HK5 := Lib.hid k5; clear hown3 hg3 k1 k2 k3 k4 k5))
      have hWd := (HBL.out.block (w.heap.size + 1 + 1 + 1) (by omega)).trans ((HKP.out _ (.inl (.inl rfl))).trans kd)
      have hWe := (HBL.out.block (w.heap.size + 1) (by omega)).trans HKC.out
      have hks : KeepS (SDoc2 (w.heap.size + 1 + 1 + 1) b m (w.heap.size + 1)) W (w3.setCell ⟨w.heap.size + 1 + 1, 0, none⟩ (.slice ad6 ((diffP M pre).length + 1) c6)) :=
        (show KeepS _ W w' from fun k hk => HBL.out.block k (Nat.lt_of_lt_of_le (hSlt k hk) hVW)).trans (keepS2_app HG3.out hWd hWe HR2.out (by decide) hbk hzz (by omega) (by omega) (by omega))
      refine ⟨((below_others HBL.out).trans HK4.out).from _, hks, ⟨⟨_, HK2.out, ?_, trivial⟩, Nat.le_trans hVW (Nat.le_trans HBL.out.size HK4.out.size), HKP.out.trans hks⟩, (HB.out.trans (HBL.out.mono HB.out.size)).trans HK5.out⟩
      rw [HSN.out, pcCells_snoc, List.length_append]
      exact HK3.out
  case done =>
    rintro D ys W hD rfl ⟨⟨⟨v, hbx, hrow, _⟩, hVW, hkp⟩, hB⟩ hK
    rw [diffP_upto _ _ HLM.out _ (by rw [HLL.out]; exact Nat.le_refl _), ← HLL.out] at hrow
    have hbc := hbx.cell
    gi_wp2
    refine ⟨by simp, .inl ⟨_, _, rfl, run_takeDeferred hK, ?_⟩⟩
    obtain ⟨ad7, c7, rfl⟩ := own_form_k hrow
    exact ⟨.tuple #[.slice ad7 (diffV (allV h xs t) M).length c7, .int .i64 0], by simp [results, Tryd.f12, go_sem, diffV], ad7, c7, rfl, ownsRow_putObj hrow _ hK rfl, hB.trans (belowK_b (w := w) (Nat.le_refl _) _ D _ _ (by omega) hK rfl rfl)⟩
  case stop =>
    rintro D c pre W _ _ h _
    exact h.elim
end Go.Proofs.YtkkggpahanddnaaDoor
