/- Walks inside a fence: lexeme's Tokens. -/
import Derived.Test.YtpionddponmdmaaGreatDoorQ30
import Derived.Test.YtpionddponmdmaaGreatDoorQ31
import Derived.RegionIn
namespace Go.Proofs.YtpionddponmdmaaGreatDoor
open Go.RowKit Go.Shelf
attribute [local go_sem] Oper.semAt_some
def tkCells (xs : List Nx) : List Value := xs.flatMap fun x => [.int .i64 (x.1.1 : Int), .string (bs x.1.2.1), .int .i64 (x.1.2.2 : Int)]
theorem tkCells_snoc (xs : List Nx) (x : Nx) : tkCells (xs ++ [x]) = tkCells xs ++ [.int .i64 (x.1.1 : Int), .string (bs x.1.2.1), .int .i64 (x.1.2.2 : Int)] := by simp [tkCells]
def TokP (l : List UInt8) (w : World) (e : Ending) (w' : World) : Prop :=
  Below w.heap.size w w' ∧ ∃ M, RunP l M ∧ M ≤ l.length + 1 ∧
    (((∀ k, k < M → (itemV l k).2.2.2 = 0) ∧ ∃ ad c, e = .returned (.tuple #[.slice ad M c, .int .i64 0, .int .i64 0]) ∧ w'.ownsRow w.heap.size 38 3 (.slice ad M c) M (tkCells (upto (itemV l) M))) ∨
     (0 < M ∧ (itemV l (M - 1)).2.2.2 ≠ 0 ∧ e = .returned (.tuple #[.slice none 0 0, .int .i64 ((itemV l (M - 1)).2.2.1 : Int), .int .i64 ((itemV l (M - 1)).2.2.2 : Int)])))
theorem wpListIn_app3 {F : Fence} {n0 : Nat} {P : Program} {ops : Array Oper} {rest : List Oper} {o : Oper} {a : Act} {Q : Exit → Act → World → Prop} {w : World} (t E : TypeId)
    (ht : P.underlying t = some (.slice E)) (i : TypeInfo) (z : Value) (hi : P.info? E = some i) (hz : i.zero = some z) (hsize : i.size = 3) (hby : i.bytes = 32) (hzs : z.cells.size = 3)
    (hgd : o.guard = none) (s x : Operand) (ho : o.op = .call { callee := .builtin .append, args := #[s, x], argTypes := #[t, t] })
    (base : Nat) (v : Value) (n : Nat) (xs : List Value) (hs : a.eval s = v) (hown : w.ownsRow base E 3 v n xs)
    (y0 y1 y2 : Value) (E' : TypeId) (hx : a.eval x = .slice (some ⟨w.heap.size, 0, none⟩) 1 1) (h0 : y0.oneCell' = true) (h1 : y1.oneCell' = true) (h2 : y2.oneCell' = true)
    (hn : n ≤ 1000000000) (hbase : base ≤ w.heap.size)
    (h : ∀ ad' c' w', w'.ownsRow base E 3 (.slice ad' (n + 1) c') (n + 1) (xs ++ [y0, y1, y2]) → (w.alloc (.cells #[y0, y1, y2] E')).grownBy w' v.ownBlock →
      wpListIn F n0 P ops Q rest (a.put o.dst (.slice ad' (n + 1) c')) w') : wpListIn F n0 P ops Q (o :: rest) a (w.alloc (.cells #[y0, y1, y2] E')) := by
  refine wpListIn_append_own _ hgd s x t ho base E i z 3 32 ht hi hz hsize hby hzs (by omega) v n xs hs (World.ownsRow.alloc hown _) ⟨w.heap.size, 0, none⟩ 1 1 [y0, y1, y2] hx rfl (World.news_of_block (row_new w #[y0, y1, y2] E'))
    (by intro u hu; simp at hu; rcases hu with rfl | rfl | rfl <;> assumption) (by unfold maxLen; omega) (by omega) (by simp; omega) ?_
  intro v' w' g1 g2 _
  obtain ⟨ad', c', rfl⟩ := own_form_k g1
  exact h ad' c' w' g1 g2
theorem lexall_in (n : Nat) (s : ByteArray) (w : World) :
    CallsIn Fence.wide n Tryz.prog 26 #[.string s] w fun e w' => e = .returned (.func (.func 43) #[] #[.pointer (some ⟨w.heap.size, 0, none⟩)]) ∧ w' = w.alloc (.cells #[.string s] 9) := by
  refine callsIn_of_wp Tryz.func26 rfl trivial ?_ rfl
  simp only [Tryz.ntmps26, List.size_toArray, List.length_cons, List.length_nil, Nat.reduceAdd, Nat.reduceSub, Array.replicate_succ, Array.replicate_zero, List.push_toArray, List.append_toArray, List.nil_append, List.cons_append]
  gi_wp2
  go_ret
  exact ⟨rfl, rfl⟩
def SLex (B : Nat) (k : Nat) : Prop := k = B ∨ k = 4 ∨ k = 0 ∨ k = 1
theorem infoTk : (Tryz.prog.info? 38).map (fun i => (i.zero, i.size, i.bytes)) = some (some (.agg #[.int .i64 0, .string .empty, .int .i64 0]), 3, 32) := by kernel_rfl
theorem lex_stops (n : Nat) (hn : 1 ≤ n) (Bs : Nat) (l : List UInt8) (hl : l.length ≤ 100000) (M : Nat) (hrun : RunP l M) (w : World) (hSlt : ∀ k, SLex Bs k → k < w.heap.size)
    (hB : w.heap[Bs]? = some (.cells #[.string (bs l)] 9 (0, 0))) (hM : MaxLen w) (hU : TabU w) :
    SeqStopsK Fence.wide n Tryz.prog 43 #[.pointer (some ⟨Bs, 0, none⟩)] nxE (KeepF (SLex Bs)) (fun ys => ys = upto (itemV l) M) (fun pre => ∃ k, k ≤ M ∧ pre = upto (itemV l) k) M w := fun lp J Jx W hW hJ _ hY h0 =>
  lexiter_in n hn lp Bs (SLex Bs) l hl (.inl rfl) (.inr (.inl rfl)) (.inr (.inr (.inl rfl))) (.inr (.inr (.inr rfl))) M hrun J Jx W hJ hY (fun k hk => Nat.lt_of_lt_of_le (hSlt k hk) hW.size)
    ((hW.block Bs (Array.getElem?_eq_some_iff.1 hB).1).trans hB) (hM.below hW) (hU.below hW) h0
end Go.Proofs.YtpionddponmdmaaGreatDoor
/- Walks inside a fence: lexeme's Tokens. -/
namespace Go.Proofs.YtpionddponmdmaaGreatDoor
open Go.RowKit Go.Shelf
attribute [local go_sem] Oper.semAt_some
theorem own_other_fr {w : World} {base : Nat} {E T : TypeId} {size : Nat} {v : Value} {n : Nat} {xs : List Value} {k : Nat} {cs : Array Value} {fr : Nat × Nat} (h : w.ownsRow base E size v n xs) (hd : w.heap[k]? = some (.cells cs T fr)) (hTE : T ≠ E) : v.ownBlock ≠ some k := by
  intro e
  rcases h.2 with ⟨rfl, _⟩ | ⟨g, cap, cur, rfl, _, hgb, _⟩
  · simp [Value.ownBlock] at e
  · obtain rfl : g = k := by simpa [Value.ownBlock] using e
    rw [hd] at hgb
    injection hgb with hgb
    injection hgb with _ h2
    exact hTE h2
set_option maxRecDepth 100000 in
set_option maxHeartbeats 4000000 in
theorem tokens_any (l : List UInt8) (hl : l.length ≤ 100000) (w : World) (hM : MaxLen w) (hU : TabU w) : Calls Tryz.prog 15 #[.string (bs l)] w (TokP l w) := by
  obtain ⟨M, hrun, hMl⟩ := run_exists l
  obtain ⟨i0, hi, hz0, hz1, hz2⟩ := info_parts infoTk
  have HI := Lib.hid hi
  have HZ0 := Lib.hid hz0
  have HZ1 := Lib.hid hz1
  have HZ2 := Lib.hid hz2
  have HM := Lib.hid (fun w' (h : Below w.heap.size w w') => hM.below h)
  have HU := Lib.hid (fun w' (h : Below w.heap.size w w') => hU.below h)
  have hgm : 4 < w.heap.size := by obtain ⟨m, hm⟩ := hM; exact World.block_lt_of_cell? w _ hm
  have hgf : 0 < w.heap.size := World.block_lt_of_cell? w _ (hU.1 0 (by decide))
  have hga : 1 < w.heap.size := World.block_lt_of_cell? w _ (hU.2 0 (by decide)).1
  clear hi hz0 hz1 hz2 hM hU
  refine (callsIn_wide (n := 5)).1 ?_
  refine callsIn_of_wp_marks Tryz.func15 rfl trivial ?_ rfl
  simp only [Tryz.ntmps15, List.size_toArray, List.length_cons, List.length_nil, Nat.reduceAdd, Nat.reduceSub, Array.replicate_succ, Array.replicate_zero, List.push_toArray, List.append_toArray, List.nil_append, List.cons_append]
  gi_wp2_with (refine ⟨trivial, ?_⟩; gi_at_call 26; refine (lexall_in 4 _ _).mono ?_; rintro e w' ⟨rfl, rfl⟩)
  refine wpIn_at_world ?_
  intro V hV
  obtain ⟨b, hb⟩ : ∃ b, w.heap.size = b := ⟨_, rfl⟩
  have hB0 : Below w.heap.size w V := by
    rw [hV]
    exact (((((Below.refl _ w).alloc (Nat.le_refl _) _).alloc (by simp) _).alloc (by simp; omega) _).alloc (by simp; omega) _).alloc (by simp; omega) _
  have kbox : V.heap[w.heap.size + 1 + 1 + 1 + 1]? = some (.cells #[.string (bs l)] 9 (0, 0)) := by
    rw [hV]
    have := row_new ((((w.alloc (.cells #[.slice none 0 0] 28)).alloc (.cells #[.int .i64 0] 3)).alloc (.cells #[.int .i64 0] 25)).alloc (.cells #[.slice none 0 0] 28)) #[.string (bs l)] 9
    simpa only [World.size_alloc] using this
  have b0 : Boxed V w.heap.size 28 (.slice none 0 0) := by
    rw [hV]
    exact ((((Boxed.new w 28 (.slice none 0 0)).alloc _).alloc _).alloc _).alloc _
  have b1 : Boxed V (w.heap.size + 1) 3 (.int .i64 0) := by
    rw [hV]
    have := Boxed.new (w.alloc (.cells #[.slice none 0 0] 28)) 3 (.int .i64 0)
    rw [World.size_alloc] at this
    exact ((this.alloc _).alloc _).alloc _
  have b2 : Boxed V (w.heap.size + 1 + 1) 25 (.int .i64 0) := by
    rw [hV]
    have := Boxed.new ((w.alloc (.cells #[.slice none 0 0] 28)).alloc (.cells #[.int .i64 0] 3)) 25 (.int .i64 0)
    rw [World.size_alloc, World.size_alloc] at this
    exact (this.alloc _).alloc _
  have b3 : Boxed V (w.heap.size + 1 + 1 + 1) 28 (.slice none 0 0) := by
    rw [hV]
    have := Boxed.new (((w.alloc (.cells #[.slice none 0 0] 28)).alloc (.cells #[.int .i64 0] 3)).alloc (.cells #[.int .i64 0] 25)) 28 (.slice none 0 0)
    rw [World.size_alloc, World.size_alloc, World.size_alloc] at this
    exact this.alloc _
  have hzV : w.heap.size + 1 + 1 + 1 + 1 < V.heap.size := by rw [hV]; simp
  clear hV hb
  have hSlt : ∀ k, SLex (w.heap.size + 1 + 1 + 1 + 1) k → k < V.heap.size := fun k hk => by
    rcases hk with rfl | rfl | rfl | rfl <;> omega
  refine wpIn_rangeFunc_ownH rfl (by omega) (gf := 43) (lb := #[.pointer (some ⟨w.heap.size + 1 + 1 + 1 + 1, 0, none⟩)]) rfl trivial (enters_of Tryz.func43 (by kernel_rfl) rfl)
    (lex_stops 4 (by omega) (w.heap.size + 1 + 1 + 1 + 1) l hl M hrun V hSlt kbox (HM.out V hB0) (HU.out V hB0)) (fun h1 h2 => KeepF.trans h1 h2) (KeepF.put hSlt) (Below.refl _ _) (fun _ => rfl)
    (fun pre W => ((∃ v, Boxed W (w.heap.size + 1 + 1 + 1) 28 v ∧ W.ownsRow w.heap.size 38 3 v pre.length (tkCells pre) ∧ True) ∧ (Boxed W w.heap.size 28 (.slice none 0 0) ∧ Boxed W (w.heap.size + 1) 3 (.int .i64 0) ∧ Boxed W (w.heap.size + 1 + 1) 25 (.int .i64 0) ∧ (∀ x ∈ pre, (x : Nx).2.2.2 = 0)) ∧ (V.heap.size ≤ W.heap.size ∧ KeepS (SLex (w.heap.size + 1 + 1 + 1 + 1)) V W)) ∧ Below w.heap.size w W)
    (fun c pre W => (c = .ret ∧ ∃ ini last, pre = ini ++ [last] ∧ (last : Nx).2.2.2 ≠ 0 ∧ Boxed W w.heap.size 28 (.slice none 0 0) ∧ Boxed W (w.heap.size + 1) 3 (.int .i64 (last.2.2.1 : Int)) ∧ Boxed W (w.heap.size + 1 + 1) 25 (.int .i64 (last.2.2.2 : Int))) ∧ Below w.heap.size w W)
    (OwnFrom.and (OwnFrom.and (Own.from (holdsRow_own _ _ _ _ _ (fun pre => pre.length) (fun pre => tkCells pre) (fun _ _ => True)) _) (OwnFrom.and (Own.from (fun s A B row hs hg hr => ⟨box_kept hs.1 hg hr, box_kept hs.2.1 hg hr, box_kept hs.2.2.1 hg hr, hs.2.2.2⟩) _) (ownFrom_keepS hSlt hSlt))) (ownFrom_below (Nat.le_refl _) (by omega)))
    (fun c => OwnFrom.and (Own.from (fun s A B row hs hg hr => by obtain ⟨hc, ini, last, e1, e2, e3, e4, e5⟩ := hs; exact ⟨hc, ini, last, e1, e2, box_kept e3 hg hr, box_kept e4 hg hr, box_kept e5 hg hr⟩) _) (ownFrom_below (Nat.le_refl _) (by omega)))
    ⟨⟨⟨_, b3, World.ownsRow_nil _ _ _ _, trivial⟩, ⟨b0, b1, b2, by simp⟩, Nat.le_refl _, KeepS.refl _ _⟩, hB0⟩
    (fun x a' W => ∃ B : Nat, V.heap.size ≤ B ∧ W.heap[B]? = some (.cells #[.int .i64 (x.1.1 : Int), .string (bs x.1.2.1), .int .i64 (x.1.2.2 : Int)] 38 (0, 0)) ∧ W.heap[B + 1]? = some (.cells #[.int .i64 (x.2.2.1 : Int), .int .i64 (x.2.2.2 : Int)] 55 (0, 0)) ∧
      a' = { tmps := #[.string (bs l), undef, .pointer (some ⟨w.heap.size, 0, none⟩), .pointer (some ⟨w.heap.size + 1, 0, none⟩), .pointer (some ⟨w.heap.size + 1 + 1, 0, none⟩), .pointer (some ⟨w.heap.size + 1 + 1 + 1, 0, none⟩), .pointer (some ⟨B, 0, none⟩), .pointer (some ⟨B + 1, 0, none⟩), .string (bs l),
        .func (.func 43) #[] #[.pointer (some ⟨w.heap.size + 1 + 1 + 1 + 1, 0, none⟩)], .agg #[.int .i64 (x.1.1 : Int), .string (bs x.1.2.1), .int .i64 (x.1.2.2 : Int)], .agg #[.int .i64 (x.2.2.1 : Int), .int .i64 (x.2.2.2 : Int)], undef, undef, undef, undef, undef, undef, undef, undef, undef, undef, undef, undef], defers := [] })
    (fun x a' s A C row hs hg hr => by
      obtain ⟨B, h1, h2, h3, h4⟩ := hs
      exact ⟨B, h1, (grownBy_keeps_cells hg (fun r e => (hr r e).2) h2 rfl).trans h2, (grownBy_keeps_cells hg (fun r e => (hr r e).2) h3 rfl).trans h3, h4⟩) ?assign ?body ?done ?stop
  case assign =>
    rintro lp pre x W K ⟨⟨⟨v, hbx, hrow, _⟩, ⟨x0, x1, x2, hall⟩, hVW, hkp⟩, hB⟩ hK
    have hbA : Below W.heap.size W ((W.alloc (.cells #[.int .i64 (x.1.1 : Int), .string (bs x.1.2.1), .int .i64 (x.1.2.2 : Int)] 38)).alloc (.cells #[.int .i64 (x.2.2.1 : Int), .int .i64 (x.2.2.2 : Int)] 55)) := ((Below.refl _ _).alloc (Nat.le_refl _) _).alloc (by simp) _
    have HK := Lib.hid (hK _ _ ((below_others hbA).from _) ⟨fun k hk => hbA.block k (Nat.lt_of_lt_of_le (hSlt k hk) hVW), fun k cs fr h => hbA.block k (Array.getElem?_eq_some_iff.1 h).1, hbA.size⟩
      ⟨⟨⟨v, boxed_below hbx hbA, own_below2 hrow hbA, trivial⟩, ⟨boxed_below x0 hbA, boxed_below x1 hbA, boxed_below x2 hbA, hall⟩, Nat.le_trans hVW hbA.size, hkp.trans (fun k hk => hbA.block k (Nat.lt_of_lt_of_le (hSlt k hk) hVW))⟩, hB.trans (hbA.mono hB.size)⟩
      ⟨W.heap.size, hVW, (Below.heap_alloc _ _ _ (by simp)).trans (row_new _ _ _), row_new2 _ _ _ _, rfl⟩)
    clear hK hbA hbx hrow x0 x1 x2 hall hB hkp
    gi_wp2
    exact HK.out
  case body =>
    rintro lp pre x a' W hlp hloop ⟨⟨⟨v, hbx, hrow, _⟩, ⟨x0, x1, x2, hall⟩, hVW, hkp⟩, hB⟩ ⟨B, hBv, ht, hf, rfl⟩ hlen
    obtain ⟨⟨k1, k2, k3⟩, k4, k5, k6⟩ := x
    simp only at ht hf
    have c0 := row_cells hf 0
    have c1 := row_cells hf 1
    have d0 := row_cells ht 0
    have d1 := row_cells ht 1
    have d2 := row_cells ht 2
    have e0 := x0.cell
    have e1 := x1.cell
    have e2 := x2.cell
    have e3 := hbx.cell
    have z0 := x0.frozen
    have z1 := x1.frozen
    have z2 := x2.frozen
    have z3 := hbx.frozen
    have n0 : w.heap.size ≠ B + 1 := by omega
    have n1 : w.heap.size + 1 ≠ B + 1 := by omega
    have n2 : w.heap.size + 1 + 1 ≠ B + 1 := by omega
    by_cases h6 : k6 = 0
    · subst h6
      have hpl : pre.length ≤ 1000000000 := by omega
      have hwW := hB.size
      have HBX := Lib.hid hbx
      have HROW := Lib.hid hrow
      have hall2 : Hid (∀ y ∈ pre ++ [(((k1, k2, k3), k4, k5, 0) : Nx)], y.2.2.2 = 0) := fun y hy => by
        rcases List.mem_append.1 hy with hy | hy
        · exact hall y hy
        · rw [List.mem_singleton.1 hy]
      have hbs := (hkp _ (.inl rfl)).trans kbox
      have HKEY : Hid (∀ (w3 : World) (q : Value), (W.alloc (.cells #[.int .i64 (k1 : Int), .string (bs k2), .int .i64 (k3 : Int)] 38)).grownBy w3 v.ownBlock → ∀ (k : Nat) (o : Obj), W.heap[k]? = some o → v.ownBlock ≠ some k → k ≠ w.heap.size + 1 + 1 + 1 → (w3.setCell ⟨w.heap.size + 1 + 1 + 1, 0, none⟩ q).heap[k]? = some o) := fun w3 q hg k o hk hne h3 =>
        (Below.heap_setCell w3 ⟨w.heap.size + 1 + 1 + 1, 0, none⟩ q k h3).trans ((hg.block k (by simp; have := (Array.getElem?_eq_some_iff.1 hk).1; omega) (fun e => hne e.symm)).trans ((Below.heap_alloc _ _ _ (Array.getElem?_eq_some_iff.1 hk).1).trans hk))
      have HX0 := Lib.hid x0
      have HX1 := Lib.hid x1
      have HX2 := Lib.hid x2
      have HBSX := Lib.hid hbs
      have HKPX := Lib.hid hkp
      have HBB := Lib.hid hB
      clear hbx hrow hall hkp hbs e0 e1 e2 z0 z1 z2 x0 x1 x2 hB n0 n1 n2 ht hf
      gi_wp2_with (gi_at_builtin; refine wpListIn_app3 28 38 Tryz.underlying28 i0 _ HI.out HZ0.out HZ1.out HZ2.out rfl rfl _ _ rfl w.heap.size v _ _ rfl HROW.out _ _ _ _ rfl rfl rfl rfl hpl hwW ?_; intro ad6 c6 w3 hown3 hg3; obtain ⟨q1, q2, q3, q4, q5⟩ := HBX.out.appended (by decide) HROW.out hwW (by omega) hown3 hg3; have hc1 := q1.cell; have hf1 := q1.frozen; have HO3 := Lib.hid hown3; have HG3 := Lib.hid hg3; have HK2 := Lib.hid q2; have HK3 := Lib.hid q3; have HK4 := Lib.hid q4; have HK5 := Lib.hid q5; clear hown3 hg3 q1 q2 q3 q4 q5)
      have key := HKEY.out w3 (.slice ad6 (pre.length + 1) c6) HG3.out
      have hx0 : Boxed (w3.setCell ⟨w.heap.size + 1 + 1 + 1, 0, none⟩ (.slice ad6 (pre.length + 1) c6)) w.heap.size 28 (.slice none 0 0) := key _ _ HX0.out (own_other_fr HROW.out HX0.out (by decide)) (by omega)
      have hx1 : Boxed (w3.setCell ⟨w.heap.size + 1 + 1 + 1, 0, none⟩ (.slice ad6 (pre.length + 1) c6)) (w.heap.size + 1) 3 (.int .i64 0) := key _ _ HX1.out (own_other_fr HROW.out HX1.out (by decide)) (by omega)
      have hx2 : Boxed (w3.setCell ⟨w.heap.size + 1 + 1 + 1, 0, none⟩ (.slice ad6 (pre.length + 1) c6)) (w.heap.size + 1 + 1) 25 (.int .i64 0) := key _ _ HX2.out (own_other_fr HROW.out HX2.out (by decide)) (by omega)
      have hglob : ∀ k, k < w.heap.size → (w3.setCell ⟨w.heap.size + 1 + 1 + 1, 0, none⟩ (.slice ad6 (pre.length + 1) c6)).heap[k]? = W.heap[k]? := fun k hk => by
        obtain ⟨o, ho⟩ : ∃ o, W.heap[k]? = some o := ⟨_, Array.getElem?_eq_getElem (by omega)⟩
        exact (key k o ho (fun e => by have := (World.ownsRow.lt HROW.out _ e).1; omega) (by omega)).trans ho.symm
      have hks : KeepS (SLex (w.heap.size + 1 + 1 + 1 + 1)) W (w3.setCell ⟨w.heap.size + 1 + 1 + 1, 0, none⟩ (.slice ad6 (pre.length + 1) c6)) := fun k hk => by
        rcases hk with rfl | rfl | rfl | rfl
        · exact (key _ _ HBSX.out (own_other_fr HROW.out HBSX.out (by decide)) (by omega)).trans HBSX.out.symm
        · exact hglob _ hgm
        · exact hglob _ hgf
        · exact hglob _ hga
      have hkf : ∀ (k : Nat) (cs : Array Value) (fr : Nat × Nat), W.heap[k]? = some (Obj.cells cs 55 fr) → (w3.setCell ⟨w.heap.size + 1 + 1 + 1, 0, none⟩ (.slice ad6 (pre.length + 1) c6)).heap[k]? = W.heap[k]? := fun k cs fr hk =>
        (key k _ hk (own_other_fr HROW.out hk (by decide)) (fun e => by subst e; rw [show W.heap[_]? = _ from HBX.out] at hk; injection hk with hk; injection hk with _ hk; exact absurd hk (by decide))).trans hk.symm
      exact ⟨HK4.out.from _, ⟨hks, hkf, HK4.out.size⟩, ⟨⟨_, HK2.out, by rw [tkCells_snoc, List.length_append]; exact HK3.out, trivial⟩, ⟨hx0, hx1, hx2, hall2.out⟩, Nat.le_trans hVW HK4.out.size, HKPX.out.trans hks⟩, HBB.out.trans HK5.out⟩
    · have h6i : ((k6 : Int) == 0) = false := by simp only [beq_eq_false_iff_ne]; omega
      have y0 : Boxed (((W.setCell ⟨w.heap.size, 0, none⟩ (.slice none 0 0)).setCell ⟨w.heap.size + 1, 0, none⟩ (.int .i64 (k5 : Int))).setCell ⟨w.heap.size + 1 + 1, 0, none⟩ (.int .i64 (k6 : Int))) w.heap.size 28 (.slice none 0 0) := ((x0.set _).other (by omega) _).other (by omega) _
      have y1 : Boxed (((W.setCell ⟨w.heap.size, 0, none⟩ (.slice none 0 0)).setCell ⟨w.heap.size + 1, 0, none⟩ (.int .i64 (k5 : Int))).setCell ⟨w.heap.size + 1 + 1, 0, none⟩ (.int .i64 (k6 : Int))) (w.heap.size + 1) 3 (.int .i64 (k5 : Int)) := ((x1.other (by omega) _).set _).other (by omega) _
      have y2 : Boxed (((W.setCell ⟨w.heap.size, 0, none⟩ (.slice none 0 0)).setCell ⟨w.heap.size + 1, 0, none⟩ (.int .i64 (k5 : Int))).setCell ⟨w.heap.size + 1 + 1, 0, none⟩ (.int .i64 (k6 : Int))) (w.heap.size + 1 + 1) 25 (.int .i64 (k6 : Int)) := ((x2.other (by omega) _).other (by omega) _).set _
      have hBB : Below w.heap.size w (((W.setCell ⟨w.heap.size, 0, none⟩ (.slice none 0 0)).setCell ⟨w.heap.size + 1, 0, none⟩ (.int .i64 (k5 : Int))).setCell ⟨w.heap.size + 1 + 1, 0, none⟩ (.int .i64 (k6 : Int))).drew := (((hB.setCell (p := ⟨w.heap.size, 0, none⟩) (Nat.le_refl _) _).setCell (p := ⟨w.heap.size + 1, 0, none⟩) (by show w.heap.size ≤ w.heap.size + 1; omega) _).setCell (p := ⟨w.heap.size + 1 + 1, 0, none⟩) (by show w.heap.size ≤ w.heap.size + 1 + 1; omega) _).drew
      have hko : KeepsOthers W (((W.setCell ⟨w.heap.size, 0, none⟩ (.slice none 0 0)).setCell ⟨w.heap.size + 1, 0, none⟩ (.int .i64 (k5 : Int))).setCell ⟨w.heap.size + 1 + 1, 0, none⟩ (.int .i64 (k6 : Int))) := ((KeepsOthers.setCell _ _ _).trans (KeepsOthers.setCell _ _ _)).trans (KeepsOthers.setCell _ _ _)
      have HY0 := Lib.hid y0
      have HY1 := Lib.hid y1
      have HY2 := Lib.hid y2
      have HBB := Lib.hid hBB
      have HKO : Hid (KeepsOthers W (((W.setCell ⟨w.heap.size, 0, none⟩ (.slice none 0 0)).setCell ⟨w.heap.size + 1, 0, none⟩ (.int .i64 (k5 : Int))).setCell ⟨w.heap.size + 1 + 1, 0, none⟩ (.int .i64 (k6 : Int))).drew) := ⟨hko.size, hko.same⟩
      clear y0 y1 y2 hBB hko hbx hrow x0 x1 x2 hall hB ht hf e3 z3 d0 d1 d2 hkp
      gi_wp2
      gi_region
      all_goals
        gi_wp2
        exact ⟨HKO.out.from _, ⟨rfl, pre, _, rfl, h6, HY0.out, HY1.out, HY2.out⟩, HBB.out⟩
  case done =>
    rintro D ys W hD rfl ⟨⟨⟨v, hbx, hrow, _⟩, ⟨x0, x1, x2, hall⟩, hVW, hkp⟩, hB⟩ hK
    rw [upto_length] at hrow
    obtain ⟨ad7, c7, rfl⟩ := own_form_k hrow
    have e3 := hbx.cell
    have e0 := x0.cell
    have e1 := x1.cell
    have e2 := x2.cell
    have z0 := x0.frozen
    have z1 := x1.frozen
    have z2 := x2.frozen
    have y0 : Boxed (((W.setCell ⟨w.heap.size, 0, none⟩ (.slice ad7 M c7)).setCell ⟨w.heap.size + 1, 0, none⟩ (.int .i64 0)).setCell ⟨w.heap.size + 1 + 1, 0, none⟩ (.int .i64 0)) w.heap.size 28 (.slice ad7 M c7) := ((x0.set _).other (by omega) _).other (by omega) _
    have y1 : Boxed (((W.setCell ⟨w.heap.size, 0, none⟩ (.slice ad7 M c7)).setCell ⟨w.heap.size + 1, 0, none⟩ (.int .i64 0)).setCell ⟨w.heap.size + 1 + 1, 0, none⟩ (.int .i64 0)) (w.heap.size + 1) 3 (.int .i64 0) := ((x1.other (by omega) _).set _).other (by omega) _
    have y2 : Boxed (((W.setCell ⟨w.heap.size, 0, none⟩ (.slice ad7 M c7)).setCell ⟨w.heap.size + 1, 0, none⟩ (.int .i64 0)).setCell ⟨w.heap.size + 1 + 1, 0, none⟩ (.int .i64 0)) (w.heap.size + 1 + 1) 25 (.int .i64 0) := ((x2.other (by omega) _).other (by omega) _).set _
    have hrow2 : (((W.setCell ⟨w.heap.size, 0, none⟩ (.slice ad7 M c7)).setCell ⟨w.heap.size + 1, 0, none⟩ (.int .i64 0)).setCell ⟨w.heap.size + 1 + 1, 0, none⟩ (.int .i64 0)).ownsRow w.heap.size 38 3 (.slice ad7 M c7) M (tkCells (upto (itemV l) M)) :=
      own_set (own_set (own_set hrow x0 (by decide) 0 _) ((x1.other (by omega) _) : Boxed _ _ _ _) (by decide) 0 _) (((x2.other (by omega) _).other (by omega) _) : Boxed _ _ _ _) (by decide) 0 _
    have hBB : Below w.heap.size w (((W.setCell ⟨w.heap.size, 0, none⟩ (.slice ad7 M c7)).setCell ⟨w.heap.size + 1, 0, none⟩ (.int .i64 0)).setCell ⟨w.heap.size + 1 + 1, 0, none⟩ (.int .i64 0)) := ((hB.setCell (p := ⟨w.heap.size, 0, none⟩) (Nat.le_refl _) _).setCell (p := ⟨w.heap.size + 1, 0, none⟩) (by show w.heap.size ≤ w.heap.size + 1; omega) _).setCell (p := ⟨w.heap.size + 1 + 1, 0, none⟩) (by show w.heap.size ≤ w.heap.size + 1 + 1; omega) _
    have hK' := (((KeepsOthers.setCell W ⟨w.heap.size, 0, none⟩ (.slice ad7 M c7)).trans (KeepsOthers.setCell _ ⟨w.heap.size + 1, 0, none⟩ (.int .i64 0))).trans (KeepsOthers.setCell _ ⟨w.heap.size + 1 + 1, 0, none⟩ (.int .i64 0))).same D _ hK rfl
    have HALL := Lib.hid hall
    clear hall hbx hrow x0 x1 x2 hB hkp
    gi_wp2
    refine ⟨by simp, .inl ⟨_, _, rfl, run_takeDeferred hK', ?_⟩⟩
    have hc0 := cell_kept y0.cell (grownBy_putObj' _ D (.deferred none)) (fun r e => by cases e; exact ⟨_, hK', rfl⟩)
    have hc1 := cell_kept y1.cell (grownBy_putObj' _ D (.deferred none)) (fun r e => by cases e; exact ⟨_, hK', rfl⟩)
    have hc2 := cell_kept y2.cell (grownBy_putObj' _ D (.deferred none)) (fun r e => by cases e; exact ⟨_, hK', rfl⟩)
    refine ⟨.tuple #[.slice ad7 M c7, .int .i64 0, .int .i64 0], by simp [results, Tryz.f15, go_sem, hc0, hc1, hc2], hBB.trans (belowK_b (w := w) (Nat.le_refl _) _ D _ _ (by omega) hK' rfl rfl), M, hrun, hMl, .inl ⟨fun k hk => HALL.out _ (List.mem_map.2 ⟨k, List.mem_range.2 hk, rfl⟩), ad7, c7, rfl, ownsRow_putObj hrow2 _ hK' rfl⟩⟩
  case stop =>
    rintro D c pre W hD ⟨k, hk, rfl⟩ ⟨⟨rfl, ini, last, e1, e2, x0, x1, x2⟩, hB⟩ hK
    have hk1 : 1 ≤ k := by
      have := congrArg List.length e1
      rw [upto_length, List.length_append] at this
      simp at this
      omega
    obtain ⟨q, rfl⟩ : ∃ q, k = q + 1 := ⟨k - 1, by omega⟩
    rw [upto_succ] at e1
    have hlast : itemV l q = last := by
      have := congrArg List.getLast? e1
      simpa using this
    have HMQ : Hid (M = q + 1) := by
      rcases Nat.lt_or_ge (q + 1) M with h1 | h1
      · exact absurd (hrun.2.1 q h1) (by rw [hlast]; exact e2)
      · unfold Hid; omega
    have HL : Hid (itemV l (M - 1) = last) := by unfold Hid; rw [HMQ.out]; exact hlast
    have HE2 := Lib.hid e2
    clear e1 hlast hk e2
    gi_wp2
    refine ⟨by simp, .inl ⟨_, _, rfl, run_takeDeferred hK, ?_⟩⟩
    have hc0 := cell_kept x0.cell (grownBy_putObj' _ D (.deferred none)) (fun r e => by cases e; exact ⟨_, hK, rfl⟩)
    have hc1 := cell_kept x1.cell (grownBy_putObj' _ D (.deferred none)) (fun r e => by cases e; exact ⟨_, hK, rfl⟩)
    have hc2 := cell_kept x2.cell (grownBy_putObj' _ D (.deferred none)) (fun r e => by cases e; exact ⟨_, hK, rfl⟩)
    refine ⟨.tuple #[.slice none 0 0, .int .i64 (last.2.2.1 : Int), .int .i64 (last.2.2.2 : Int)], by simp [results, Tryz.f15, go_sem, hc0, hc1, hc2], hB.trans (belowK_b (w := w) (Nat.le_refl _) _ D _ _ (by omega) hK rfl rfl), M, hrun, hMl, .inr ⟨by rw [HMQ.out]; omega, by rw [HL.out]; exact HE2.out, by rw [HL.out]⟩⟩
end Go.Proofs.YtpionddponmdmaaGreatDoor
