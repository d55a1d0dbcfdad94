/- Walks inside a fence: the iterator over the tokens of a string. -/
import Derived.Test.YtmleeodfmmpdgaaGreatDoorQ09
import Derived.Test.YtmleeodfmmpdgaaGreatDoorQ04
import Derived.Sort.CutIn
import Derived.RegionIn
namespace Go.Proofs.YtmleeodfmmpdgaaGreatDoor
open Go.RowKit Go.Shelf
attribute [local go_sem] Oper.semAt_some
def skipAt (l : List UInt8) (i : Nat) : Nat := i + skipS false (l.drop i)
theorem skipAt_le (l : List UInt8) {i : Nat} (h : i ≤ l.length) : skipAt l i ≤ l.length := by
  have := skip_le false (l.drop i)
  rw [List.length_drop] at this
  unfold skipAt
  omega
def posV (l : List UInt8) : Nat → Nat
  | 0 => skipAt l 0
  | k + 1 => skipAt l (posV l k + (nextV l (posV l k)).2.1)
def itemV (l : List UInt8) (k : Nat) : Nx := nextV l (posV l k)
theorem quoted_len (l : List UInt8) (i : Nat) (h : i < l.length) : i + (quotedV l i).2.1 ≤ l.length := by
  unfold quotedV
  split
  · show i + 0 ≤ _; omega
  · rename_i n hn
    have := endL_ltN hn
    rw [List.length_drop] at this
    split
    · show i + 0 ≤ _; omega
    · split
      · show i + 0 ≤ _; omega
      · split
        · show i + 0 ≤ _; omega
        · show i + (n + 2) ≤ _; omega
theorem next_len (l : List UInt8) (i : Nat) (h : i < l.length) : i + (nextV l i).2.1 ≤ l.length := by
  unfold nextV
  split
  · show i + 1 ≤ _; omega
  · split
    · exact quoted_len l i h
    · have := wordLen_le (l.drop i)
      rw [List.length_drop] at this
      split
      · show i + 0 ≤ _; omega
      · split
        · show i + 0 ≤ _; omega
        · show i + wordLen (l.drop i) ≤ _; omega
theorem quoted_pos (l : List UInt8) (i : Nat) (h : (quotedV l i).2.2.2 = 0) : 1 ≤ (quotedV l i).2.1 := by
  unfold quotedV at h ⊢
  cases hn : endL (l.drop (i + 1)) with
  | none => rw [hn] at h; exact absurd (show (3 : Nat) = 0 from h) (by decide)
  | some n =>
    rw [hn] at h
    show 1 ≤ (if (unescV ((l.drop (i + 1)).take n)).2.2 ≠ 0 then badN (i + 1 + (unescV ((l.drop (i + 1)).take n)).2.1) 3 else if 400 < (unescV ((l.drop (i + 1)).take n)).1.length then badN i 6
      else if Lib.validD (unescV ((l.drop (i + 1)).take n)).1 = false then badN i 4 else ((2, (unescV ((l.drop (i + 1)).take n)).1, i), n + 2, 0, 0) : Nx).2.1
    replace h : (if (unescV ((l.drop (i + 1)).take n)).2.2 ≠ 0 then badN (i + 1 + (unescV ((l.drop (i + 1)).take n)).2.1) 3 else if 400 < (unescV ((l.drop (i + 1)).take n)).1.length then badN i 6
      else if Lib.validD (unescV ((l.drop (i + 1)).take n)).1 = false then badN i 4 else ((2, (unescV ((l.drop (i + 1)).take n)).1, i), n + 2, 0, 0) : Nx).2.2.2 = 0 := h
    split at h
    · exact absurd (show (3 : Nat) = 0 from h) (by decide)
    · rename_i h1
      rw [if_neg h1]
      split at h
      · exact absurd (show (6 : Nat) = 0 from h) (by decide)
      · rename_i h2
        rw [if_neg h2]
        split at h
        · exact absurd (show (4 : Nat) = 0 from h) (by decide)
        · rename_i h3
          rw [if_neg h3]
          show 1 ≤ n + 2
          omega
theorem next_pos (l : List UInt8) (i : Nat) (h : (nextV l i).2.2.2 = 0) : 1 ≤ (nextV l i).2.1 := by
  unfold nextV at h ⊢
  split at h
  · rename_i h1; rw [if_pos h1]; show 1 ≤ 1; omega
  · rename_i h1
    rw [if_neg h1]
    split at h
    · rename_i h2; rw [if_pos h2]; exact quoted_pos l i h
    · rename_i h2
      rw [if_neg h2]
      split at h
      · exact absurd (show (3 : Nat) = 0 from h) (by decide)
      · rename_i h3
        rw [if_neg h3]
        split at h
        · exact absurd (show (6 : Nat) = 0 from h) (by decide)
        · rename_i h4
          rw [if_neg h4]
          show 1 ≤ wordLen (l.drop i)
          omega
def RunP (l : List UInt8) (M : Nat) : Prop :=
  (∀ k, k < M → posV l k < l.length) ∧ (∀ k, k + 1 < M → (itemV l k).2.2.2 = 0) ∧ ((l.length ≤ posV l M ∧ ∀ k, k < M → (itemV l k).2.2.2 = 0) ∨ (0 < M ∧ (itemV l (M - 1)).2.2.2 ≠ 0))
theorem run_from (l : List UInt8) : ∀ (m k : Nat), l.length - posV l k ≤ m → posV l k ≤ l.length → (∀ q, q < k → posV l q < l.length ∧ (itemV l q).2.2.2 = 0) → k ≤ posV l k → ∃ M, RunP l M ∧ M ≤ l.length + 1
  | m, k, hm, hp, hq, hk => by
    by_cases hlt : posV l k < l.length
    · have hnl := next_len l _ hlt
      by_cases hok : (itemV l k).2.2.2 = 0
      · have hnp := next_pos l _ hok
        have h1 : posV l k + (nextV l (posV l k)).2.1 ≤ posV l (k + 1) := by show _ ≤ skipAt l _; unfold skipAt; omega
        match m, hm with
        | 0, hm => omega
        | m + 1, hm =>
          exact run_from l m (k + 1) (by omega) (skipAt_le l hnl) (fun q h => by
            by_cases e : q = k
            · subst e; exact ⟨hlt, hok⟩
            · exact hq q (by omega)) (by omega)
      · refine ⟨k + 1, ⟨fun q h => ?_, fun q h => (hq q (by omega)).2, .inr ⟨by omega, hok⟩⟩, by omega⟩
        by_cases e : q = k
        · subst e; exact hlt
        · exact (hq q (by omega)).1
    · exact ⟨k, ⟨fun q h => (hq q h).1, fun q h => (hq q (by omega)).2, .inl ⟨by omega, fun q h => (hq q h).2⟩⟩, by omega⟩
theorem run_exists (l : List UInt8) : ∃ M, RunP l M ∧ M ≤ l.length + 1 :=
  run_from l l.length 0 (by omega) (skipAt_le l (Nat.zero_le _)) (fun q h => absurd h (Nat.not_lt_zero _)) (Nat.zero_le _)
abbrev nxE (x : Nx) : Array Value := #[.agg #[.int .i64 (x.1.1 : Int), .string (bs x.1.2.1), .int .i64 (x.1.2.2 : Int)], .agg #[.int .i64 (x.2.2.1 : Int), .int .i64 (x.2.2.2 : Int)]]
def KeepF (S : Nat → Prop) (W W' : World) : Prop := KeepS S W W' ∧ (∀ (k : Nat) (cs : Array Value) (fr : Nat × Nat), W.heap[k]? = some (Obj.cells cs 111 fr) → W'.heap[k]? = W.heap[k]?) ∧ W.heap.size ≤ W'.heap.size
theorem KeepF.trans {S : Nat → Prop} {A B C : World} (h : KeepF S A B) (k : KeepF S B C) : KeepF S A C :=
  ⟨h.1.trans k.1, fun i cs fr hi => by have h1 := h.2.1 i cs fr hi; exact (k.2.1 i cs fr (h1.trans hi)).trans h1, Nat.le_trans h.2.2 k.2.2⟩
theorem KeepF.put {S : Nat → Prop} {B : Nat} (hS : ∀ k, S k → k < B) (W : World) (l : Nat) (o o' : Obj) (hl : B ≤ l) (h : W.heap[l]? = some o) (hc : o.isCells = false) (hw : o.isWalk = false) : KeepF S W (W.putObj l o') :=
  ⟨KeepS.put hS W l o o' hl h hc hw, fun k cs fr hk => World.putObj_heap_other (fun e => by subst e; rw [h] at hk; injection hk with hk; subst hk; cases hc), by simp⟩
theorem below_grown {W W' : World} (h : Below W.heap.size W W') : W.grownBy W' none := ⟨h.os, h.tape, h.output, h.size, fun k hk _ => h.block k hk⟩
theorem KeepS.tabU {S : Nat → Prop} {W W' : World} (h : KeepS S W W') (h0 : S 2) (h1 : S 3) (hu : TabU W) : TabU W' :=
  ⟨fun c hc => (h.cell h0 c).trans (hu.1 c hc), fun i hi => ⟨(h.cell h1 _).trans (hu.2 i hi).1, (h.cell h1 _).trans (hu.2 i hi).2⟩⟩
theorem KeepS.maxLen {S : Nat → Prop} {W W' : World} (h : KeepS S W W') (h0 : S 1) (hm : MaxLen W) : MaxLen W' := by
  obtain ⟨m, hm⟩ := hm
  exact ⟨m, (h.cell h0 0).trans hm⟩
set_option maxRecDepth 100000 in
set_option maxHeartbeats 4000000 in
theorem lexiter_in (n : Nat) (hn : 1 ≤ n) (lp Bs : Nat) (S : Nat → Prop) (l : List UInt8) (hl : l.length ≤ 200000) (hSB : S Bs) (hSM : S 1) (hSF : S 2) (hSA : S 3)
    (M : Nat) (hrun : RunP l M) (J Jx : List Nx → World → Prop) (W : World) (hJ : AbidesFrom W.heap.size J)
    (hY : ∀ pre x W1, J pre W1 → pre.length < M → YieldAt Fence.wide (n - 1) Tryz.prog lp (nxE x) W1 fun e W' =>
      (e = .returned (.bool true) ∧ J (pre ++ [x]) W' ∧ KeepF S W1 W') ∨ (e = .returned (.bool false) ∧ Jx (pre ++ [x]) W'))
    (hSlt : ∀ k, S k → k < W.heap.size)
    (hB : W.heap[Bs]? = some (.cells #[.string (bs l)] 9 (0, 0))) (hM : MaxLen W) (hU : TabU W) (h0 : J [] W) :
    CallsIn Fence.wide n Tryz.prog 115 #[.func (.yield lp) #[] #[], .pointer (some ⟨Bs, 0, none⟩)] W fun e W' => (∃ v, e = .returned v) ∧
      ((∃ ys, ys = upto (itemV l) M ∧ J ys W') ∨ (∃ pre, (∃ k, k ≤ M ∧ pre = upto (itemV l) k) ∧ Jx pre W')) := by
  have HB := Lib.hid hB
  have HM := Lib.hid hM
  have HU := Lib.hid hU
  have hsz : (bs l).size = l.length := bs_size l
  have HSZ := Lib.hid hsz
  have hle : (bs l).size ≤ 200000 := by omega
  have HSK := Lib.hid (fun i hi w h => skip_any l i hi hl w h)
  have HNX := Lib.hid (fun i hi w h => next_any l i hi hl w h)
  have HRUN := Lib.hid hrun
  have c0 := row_cells HB.out 0
  clear hB hM hU hsz hrun
  generalize bs l = T at *
  refine callsIn_of_wp Tryz.func115 rfl trivial ?_ rfl
  simp only [Tryz.ntmps115, List.size_toArray, List.length_cons, List.length_nil, Nat.reduceAdd, Nat.reduceSub, Array.replicate_succ, Array.replicate_zero, List.push_toArray, List.append_toArray, List.nil_append, List.cons_append]
  have HS0 := Lib.hid (HSK.out 0 (Nat.zero_le _) W HM.out)
  gi_wp2_with (refine ⟨trivial, ?_⟩; gi_at_call 116; refine (callsIn_wide.2 HS0.out).mono ?_; rintro e w' ⟨rfl, hb1⟩)
  have HJ1 : Hid (J (upto (itemV l) 0) w') := hJ [] W w' none h0 (below_grown hb1) (fun r e => by cases e)
  have HK1 : Hid (KeepS S W w') := fun k hk => hb1.block k (hSlt k hk)
  have HZ1 := Lib.hid hb1.size
  clear hb1 c0 HS0 h0
  gi_loopw [3] (fun i wr => ∃ k : Nat, k ≤ M ∧ i = .int .i64 (posV l k : Int) ∧ posV l k ≤ l.length ∧ (∀ q, q < k → (itemV l q).2.2.2 = 0) ∧ J (upto (itemV l) k) wr ∧ KeepS S W wr ∧ W.heap.size ≤ wr.heap.size)
    (fun i _ => l.length - (intOf i).toNat)
  case atStart => exact ⟨0, Nat.zero_le _, by rw [show posV l 0 = skipS false l by show 0 + skipS false (l.drop 0) = _; rw [List.drop_zero, Nat.zero_add]], skipAt_le l (Nat.zero_le _), fun q h => absurd h (Nat.not_lt_zero _), HJ1.out, HK1.out, HZ1.out⟩
  case round =>
    obtain ⟨k, hk, rfl, hpl, hok, hJk, hkeep, hzr⟩ := hrel
    have HOK := Lib.hid hok
    have HJK := Lib.hid hJk
    have HKP := Lib.hid hkeep
    have c0 := row_cells ((hkeep Bs hSB).trans HB.out) 0
    have hposb : (posV l k : Int) ≤ 200000 := by omega
    clear hok hJk hkeep
    by_cases hlt : k < M
    · have hpl2 := HRUN.out.1 k hlt
      have hps : posV l k < T.size := by rw [HSZ.out]; exact hpl2
      have HNX2 : Hid (Calls Tryz.prog 117 #[.string T, .int .i64 (posV l k : Int)] wr fun e w' => e = nxR (itemV l k) ∧ Below wr.heap.size wr w') := HNX.out _ hpl2 wr (HKP.out.tabU hSF hSA HU.out)
      have hnl : posV l k + (itemV l k).2.1 ≤ l.length := next_len l _ hpl2
      have hnp : (itemV l k).2.2.2 = 0 → 1 ≤ (itemV l k).2.1 := next_pos l _
      have HPS : Hid (posV l (k + 1) = skipAt l (posV l k + (itemV l k).2.1)) := rfl
      have HUP : Hid (upto (itemV l) (k + 1) = upto (itemV l) k ++ [itemV l k]) := upto_succ _ _
      have HIT : Hid (∀ q, q < k + 1 → (itemV l k).2.2.2 = 0 → (itemV l q).2.2.2 = 0) := fun q hq h => by
        by_cases e : q = k
        · subst e; exact h
        · exact HOK.out q (by omega)
      have HLAST : Hid ((itemV l k).2.2.2 ≠ 0 → k + 1 = M) := fun h => by
        rcases Nat.lt_or_ge (k + 1) M with h1 | h1
        · exact absurd (HRUN.out.2.1 k h1) h
        · omega
      have HYX := Lib.hid (fun W1 h => hY (upto (itemV l) k) (itemV l k) W1 h (by rw [upto_length]; exact hlt))
      generalize itemV l k = X at *
      obtain ⟨⟨x1, x2, x3⟩, x4, x5, x6⟩ := X
      generalize hp : posV l k = p at *
      clear hp
      simp only [nxR] at HNX2
      gi_upto_region 4 with (refine ⟨trivial, ?_⟩; gi_at_call 117; refine (callsIn_wide.2 HNX2.out).mono ?_; rintro e w2 ⟨rfl, hb2⟩)
      refine wpIn_at_world ?_
      intro V hV
      have KT : Hid (V.heap[w2.heap.size + 1]? = some (.cells #[.int .i64 (x5 : Int), .int .i64 (x6 : Int)] 111 (0, 0))) := by rw [hV]; exact row_new2 _ _ _ _
      have KX : Hid (V.heap[w2.heap.size]? = some (.cells #[.int .i64 (x1 : Int), .string (bs x2), .int .i64 (x3 : Int)] 109 (0, 0))) := by rw [hV]; exact (Below.heap_alloc _ _ _ (by simp)).trans (row_new _ _ _)
      have hbV : Below wr.heap.size wr V := by rw [hV]; exact (hb2.alloc hb2.size _).alloc (by have := hb2.size; simp; omega) _
      obtain ⟨fn, tm, asg, bo, hy, hR⟩ := HYX.out V (hJ _ wr V none HJK.out (below_grown hbV) (fun r e => by cases e))
      dsimp only [nxE] at hy
      have HKV : Hid (KeepS S W V) := HKP.out.trans (fun q hq => hbV.block q (Nat.lt_of_lt_of_le (hSlt q hq) hzr))
      have HZV : Hid (W.heap.size ≤ V.heap.size) := Nat.le_trans hzr hbV.size
      have f0 := row_cells KT.out 0
      have f1 := row_cells KT.out 1
      have t0 := row_cells KX.out 0
      have t1 := row_cells KX.out 1
      have t2 := row_cells KX.out 2
      clear hV hb2 hbV c0
      gi_wp2
      refine hR.mono ?_
      rintro e W3 (⟨rfl, hJ3, hk3⟩ | ⟨rfl, hJx3⟩)
      · have HJ3 := Lib.hid hJ3
        have KT3 := Lib.hid ((hk3.2.1 _ _ _ KT.out).trans KT.out)
        have HK3 := Lib.hid (HKV.out.trans hk3.1)
        have hzW : W.heap.size ≤ W3.heap.size := Nat.le_trans HZV.out hk3.2.2
        have c0 := row_cells ((HK3.out Bs hSB).trans HB.out) 0
        clear f0 f1 t0 t1 t2 hR hy hJ3 hk3
        have f1 := row_cells KT3.out 1
        by_cases hx6 : x6 = 0
        · subst hx6
          have hx4 := hnp rfl
          have HS3 := Lib.hid (HSK.out (p + x4) hnl W3 (HK3.out.maxLen hSM HM.out))
          have hxb : (x4 : Int) ≤ 200000 := by omega
          have HFE : Hid (∀ q, q < k + 1 → (itemV l q).2.2.2 = 0) := fun q hq => HIT.out q hq rfl
          have hge : p < skipAt l (p + x4) := by unfold skipAt; omega
          clear hnp
          gi_wp2_with (refine ⟨trivial, ?_⟩; gi_at_call 116; refine (callsIn_wide.2 HS3.out).mono ?_; rintro e w5 ⟨rfl, hb5⟩)
          go_roundw
          case rel => exact ⟨k + 1, hlt, by rw [HPS.out]; rfl, by rw [HPS.out]; exact skipAt_le l hnl, HFE.out, by rw [HUP.out]; exact hJ _ W3 w5 none HJ3.out (below_grown hb5) (fun r e => by cases e), HK3.out.trans (fun q hq => hb5.block q (Nat.lt_of_lt_of_le (hSlt q hq) hzW)), Nat.le_trans hzW hb5.size⟩
          case measure => have := skipAt_le l hnl; unfold skipAt at this hge; simp [intOf]; omega
        · have h6 : ((x6 : Int) == 0) = false := by simp only [beq_eq_false_iff_ne]; omega
          have HME := Lib.hid (HLAST.out hx6)
          gi_wp2
          refine bodyPost_ret (results_none rfl _ _ _) rfl ?_
          exact ⟨⟨_, rfl⟩, .inl ⟨_, rfl, by rw [← HME.out, HUP.out]; exact HJ3.out⟩⟩
      · gi_wp2
        refine bodyPost_ret (results_none rfl _ _ _) rfl ?_
        exact ⟨⟨_, rfl⟩, .inr ⟨_, ⟨k + 1, hlt, HUP.out.symm⟩, hJx3⟩⟩
    · obtain rfl : k = M := by omega
      have hpe : ¬ posV l k < T.size := by
        rw [HSZ.out]
        rcases HRUN.out.2.2 with ⟨h, _⟩ | ⟨h1, h2⟩
        · omega
        · exact absurd (HOK.out (k - 1) (by omega)) h2
      gi_wp2
      go_end0
      exact ⟨⟨_, rfl⟩, .inl ⟨_, rfl, HJK.out⟩⟩

theorem ownFrom_keepS {β : Type} {S : Nat → Prop} {V : World} {B : Nat} (hS : ∀ k, S k → k < B) (hV : ∀ k, S k → k < V.heap.size) : OwnFrom B (fun (_ : β) W => V.heap.size ≤ W.heap.size ∧ KeepS S V W) :=
  fun _ X Y row hs hg hr => ⟨Nat.le_trans hs.1 hg.size, fun k hk => (hg.block k (Nat.lt_of_lt_of_le (hV k hk) hs.1) (fun e => by have := (hr k e.symm).1; have := hS k hk; omega)).trans (hs.2 k hk)⟩

theorem boxed_below {w W : World} {B : Nat} {t : TypeId} {v : Value} (h : Boxed w B t v) (hb : Below w.heap.size w W) : Boxed W B t v := (hb.block B h.lt).trans h
theorem below_others {w w' : World} (h : Below w.heap.size w w') : KeepsOthers w w' := ⟨h.size, fun k _ hk _ => (h.block k (Array.getElem?_eq_some_iff.1 hk).1).trans hk⟩
def tkCells (xs : List Nx) : List Value := xs.flatMap fun x => [.int .i64 (x.1.1 : Int), .string (bs x.1.2.1), .int .i64 (x.1.2.2 : Int)]
theorem tkCells_snoc (xs : List Nx) (x : Nx) : tkCells (xs ++ [x]) = tkCells xs ++ [.int .i64 (x.1.1 : Int), .string (bs x.1.2.1), .int .i64 (x.1.2.2 : Int)] := by simp [tkCells]
def TokP (l : List UInt8) (w : World) (e : Ending) (w' : World) : Prop :=
  Below w.heap.size w w' ∧ ∃ M, RunP l M ∧ M ≤ l.length + 1 ∧
    (((∀ k, k < M → (itemV l k).2.2.2 = 0) ∧ ∃ ad c, e = .returned (.tuple #[.slice ad M c, .int .i64 0, .int .i64 0]) ∧ w'.ownsRow w.heap.size 109 3 (.slice ad M c) M (tkCells (upto (itemV l) M))) ∨
     (0 < M ∧ (itemV l (M - 1)).2.2.2 ≠ 0 ∧ e = .returned (.tuple #[.slice none 0 0, .int .i64 ((itemV l (M - 1)).2.2.1 : Int), .int .i64 ((itemV l (M - 1)).2.2.2 : Int)])))
theorem wpListIn_app3 {F : Fence} {n0 : Nat} {P : Program} {ops : Array Oper} {rest : List Oper} {o : Oper} {a : Act} {Q : Exit → Act → World → Prop} {w : World} (t E : TypeId)
    (ht : P.underlying t = some (.slice E)) (i : TypeInfo) (z : Value) (hi : P.info? E = some i) (hz : i.zero = some z) (hsize : i.size = 3) (hby : i.bytes = 32) (hzs : z.cells.size = 3)
    (hgd : o.guard = none) (s x : Operand) (ho : o.op = .call { callee := .builtin .append, args := #[s, x], argTypes := #[t, t] })
    (base : Nat) (v : Value) (n : Nat) (xs : List Value) (hs : a.eval s = v) (hown : w.ownsRow base E 3 v n xs)
    (y0 y1 y2 : Value) (E' : TypeId) (hx : a.eval x = .slice (some ⟨w.heap.size, 0, none⟩) 1 1) (h0 : y0.oneCell' = true) (h1 : y1.oneCell' = true) (h2 : y2.oneCell' = true)
    (hn : n ≤ 1000000000) (hbase : base ≤ w.heap.size)
    (h : ∀ ad' c' w', w'.ownsRow base E 3 (.slice ad' (n + 1) c') (n + 1) (xs ++ [y0, y1, y2]) → (w.alloc (.cells #[y0, y1, y2] E')).grownBy w' v.ownBlock →
      wpListIn F n0 P ops Q rest (a.put o.dst (.slice ad' (n + 1) c')) w') : wpListIn F n0 P ops Q (o :: rest) a (w.alloc (.cells #[y0, y1, y2] E')) := by
  refine wpListIn_append_own _ hgd s x t ho base E i z 3 32 ht hi hz hsize hby hzs (by omega) v n xs hs (World.ownsRow.alloc hown _) ⟨w.heap.size, 0, none⟩ 1 1 [y0, y1, y2] hx rfl (World.news_of_block (row_new w #[y0, y1, y2] E'))
    (by intro u hu; simp at hu; rcases hu with rfl | rfl | rfl <;> assumption) (by unfold maxLen; omega) (by omega) (by simp; omega) ?_
  intro v' w' g1 g2 _
  obtain ⟨ad', c', rfl⟩ := own_form_k g1
  exact h ad' c' w' g1 g2
theorem lexall_in (n : Nat) (s : ByteArray) (w : World) :
    CallsIn Fence.wide n Tryz.prog 54 #[.string s] w fun e w' => e = .returned (.func (.func 115) #[] #[.pointer (some ⟨w.heap.size, 0, none⟩)]) ∧ w' = w.alloc (.cells #[.string s] 9) := by
  refine callsIn_of_wp Tryz.func54 rfl trivial ?_ rfl
  simp only [Tryz.ntmps54, List.size_toArray, List.length_cons, List.length_nil, Nat.reduceAdd, Nat.reduceSub, Array.replicate_succ, Array.replicate_zero, List.push_toArray, List.append_toArray, List.nil_append, List.cons_append]
  gi_wp2
  go_ret
  exact ⟨rfl, rfl⟩
def SLex (B : Nat) (k : Nat) : Prop := k = B ∨ k = 1 ∨ k = 2 ∨ k = 3
theorem infoTk : (Tryz.prog.info? 109).map (fun i => (i.zero, i.size, i.bytes)) = some (some (.agg #[.int .i64 0, .string .empty, .int .i64 0]), 3, 32) := by kernel_rfl
theorem lex_stops (n : Nat) (hn : 1 ≤ n) (Bs : Nat) (l : List UInt8) (hl : l.length ≤ 200000) (M : Nat) (hrun : RunP l M) (w : World) (hSlt : ∀ k, SLex Bs k → k < w.heap.size)
    (hB : w.heap[Bs]? = some (.cells #[.string (bs l)] 9 (0, 0))) (hM : MaxLen w) (hU : TabU w) :
    SeqStopsK Fence.wide n Tryz.prog 115 #[.pointer (some ⟨Bs, 0, none⟩)] nxE (KeepF (SLex Bs)) (fun ys => ys = upto (itemV l) M) (fun pre => ∃ k, k ≤ M ∧ pre = upto (itemV l) k) M w := fun lp J Jx W hW hJ _ hY h0 =>
  lexiter_in n hn lp Bs (SLex Bs) l hl (.inl rfl) (.inr (.inl rfl)) (.inr (.inr (.inl rfl))) (.inr (.inr (.inr rfl))) M hrun J Jx W hJ hY (fun k hk => Nat.lt_of_lt_of_le (hSlt k hk) hW.size)
    ((hW.block Bs (Array.getElem?_eq_some_iff.1 hB).1).trans hB) (hM.below hW) (hU.below hW) h0
theorem own_other_fr {w : World} {base : Nat} {E T : TypeId} {size : Nat} {v : Value} {n : Nat} {xs : List Value} {k : Nat} {cs : Array Value} {fr : Nat × Nat} (h : w.ownsRow base E size v n xs) (hd : w.heap[k]? = some (.cells cs T fr)) (hTE : T ≠ E) : v.ownBlock ≠ some k := by
  intro e
  rcases h.2 with ⟨rfl, _⟩ | ⟨g, cap, cur, rfl, _, hgb, _⟩
  · simp [Value.ownBlock] at e
  · obtain rfl : g = k := by simpa [Value.ownBlock] using e
    rw [hd] at hgb
    injection hgb with hgb
    injection hgb with _ h2
    exact hTE h2
set_option maxRecDepth 100000 in
set_option maxHeartbeats 4000000 in
theorem tokens_any (l : List UInt8) (hl : l.length ≤ 200000) (w : World) (hM : MaxLen w) (hU : TabU w) : Calls Tryz.prog 26 #[.string (bs l)] w (TokP l w) := by
  obtain ⟨M, hrun, hMl⟩ := run_exists l
  obtain ⟨i0, hi, hz0, hz1, hz2⟩ := info_parts infoTk
  have HI := Lib.hid hi
  have HZ0 := Lib.hid hz0
  have HZ1 := Lib.hid hz1
  have HZ2 := Lib.hid hz2
  have HM := Lib.hid (fun w' (h : Below w.heap.size w w') => hM.below h)
  have HU := Lib.hid (fun w' (h : Below w.heap.size w w') => hU.below h)
  have hgm : 1 < w.heap.size := by obtain ⟨m, hm⟩ := hM; exact World.block_lt_of_cell? w _ hm
  have hgf : 2 < w.heap.size := World.block_lt_of_cell? w _ (hU.1 0 (by decide))
  have hga : 3 < w.heap.size := World.block_lt_of_cell? w _ (hU.2 0 (by decide)).1
  clear hi hz0 hz1 hz2 hM hU
  refine (callsIn_wide (n := 5)).1 ?_
  refine callsIn_of_wp_marks Tryz.func26 rfl trivial ?_ rfl
  simp only [Tryz.ntmps26, List.size_toArray, List.length_cons, List.length_nil, Nat.reduceAdd, Nat.reduceSub, Array.replicate_succ, Array.replicate_zero, List.push_toArray, List.append_toArray, List.nil_append, List.cons_append]
  gi_wp2_with (refine ⟨trivial, ?_⟩; gi_at_call 54; refine (lexall_in 4 _ _).mono ?_; rintro e w' ⟨rfl, rfl⟩)
  refine wpIn_at_world ?_
  intro V hV
  obtain ⟨b, hb⟩ : ∃ b, w.heap.size = b := ⟨_, rfl⟩
  have hB0 : Below w.heap.size w V := by
    rw [hV]
    exact (((((Below.refl _ w).alloc (Nat.le_refl _) _).alloc (by simp) _).alloc (by simp; omega) _).alloc (by simp; omega) _).alloc (by simp; omega) _
  have kbox : V.heap[w.heap.size + 1 + 1 + 1 + 1]? = some (.cells #[.string (bs l)] 9 (0, 0)) := by
    rw [hV]
    have := row_new ((((w.alloc (.cells #[.slice none 0 0] 62)).alloc (.cells #[.int .i64 0] 3)).alloc (.cells #[.int .i64 0] 28)).alloc (.cells #[.slice none 0 0] 62)) #[.string (bs l)] 9
    simpa only [World.size_alloc] using this
  have b0 : Boxed V w.heap.size 62 (.slice none 0 0) := by
    rw [hV]
    exact ((((Boxed.new w 62 (.slice none 0 0)).alloc _).alloc _).alloc _).alloc _
  have b1 : Boxed V (w.heap.size + 1) 3 (.int .i64 0) := by
    rw [hV]
    have := Boxed.new (w.alloc (.cells #[.slice none 0 0] 62)) 3 (.int .i64 0)
    rw [World.size_alloc] at this
    exact ((this.alloc _).alloc _).alloc _
  have b2 : Boxed V (w.heap.size + 1 + 1) 28 (.int .i64 0) := by
    rw [hV]
    have := Boxed.new ((w.alloc (.cells #[.slice none 0 0] 62)).alloc (.cells #[.int .i64 0] 3)) 28 (.int .i64 0)
    rw [World.size_alloc, World.size_alloc] at this
    exact (this.alloc _).alloc _
  have b3 : Boxed V (w.heap.size + 1 + 1 + 1) 62 (.slice none 0 0) := by
    rw [hV]
    have := Boxed.new (((w.alloc (.cells #[.slice none 0 0] 62)).alloc (.cells #[.int .i64 0] 3)).alloc (.cells #[.int .i64 0] 28)) 62 (.slice none 0 0)
    rw [World.size_alloc, World.size_alloc, World.size_alloc] at this
    exact this.alloc _
  have hzV : w.heap.size + 1 + 1 + 1 + 1 < V.heap.size := by rw [hV]; simp
  clear hV hb
  have hSlt : ∀ k, SLex (w.heap.size + 1 + 1 + 1 + 1) k → k < V.heap.size := fun k hk => by
    rcases hk with rfl | rfl | rfl | rfl <;> omega
  refine wpIn_rangeFunc_ownH rfl (by omega) (gf := 115) (lb := #[.pointer (some ⟨w.heap.size + 1 + 1 + 1 + 1, 0, none⟩)]) rfl trivial (enters_of Tryz.func115 (by kernel_rfl) rfl)
    (lex_stops 4 (by omega) (w.heap.size + 1 + 1 + 1 + 1) l hl M hrun V hSlt kbox (HM.out V hB0) (HU.out V hB0)) (fun h1 h2 => KeepF.trans h1 h2) (KeepF.put hSlt) (Below.refl _ _) (fun _ => rfl)
    (fun pre W => ((∃ v, Boxed W (w.heap.size + 1 + 1 + 1) 62 v ∧ W.ownsRow w.heap.size 109 3 v pre.length (tkCells pre) ∧ True) ∧ (Boxed W w.heap.size 62 (.slice none 0 0) ∧ Boxed W (w.heap.size + 1) 3 (.int .i64 0) ∧ Boxed W (w.heap.size + 1 + 1) 28 (.int .i64 0) ∧ (∀ x ∈ pre, (x : Nx).2.2.2 = 0)) ∧ (V.heap.size ≤ W.heap.size ∧ KeepS (SLex (w.heap.size + 1 + 1 + 1 + 1)) V W)) ∧ Below w.heap.size w W)
    (fun c pre W => (c = .ret ∧ ∃ ini last, pre = ini ++ [last] ∧ (last : Nx).2.2.2 ≠ 0 ∧ Boxed W w.heap.size 62 (.slice none 0 0) ∧ Boxed W (w.heap.size + 1) 3 (.int .i64 (last.2.2.1 : Int)) ∧ Boxed W (w.heap.size + 1 + 1) 28 (.int .i64 (last.2.2.2 : Int))) ∧ Below w.heap.size w W)
    (OwnFrom.and (OwnFrom.and (Own.from (holdsRow_own _ _ _ _ _ (fun pre => pre.length) (fun pre => tkCells pre) (fun _ _ => True)) _) (OwnFrom.and (Own.from (fun s A B row hs hg hr => ⟨box_kept hs.1 hg hr, box_kept hs.2.1 hg hr, box_kept hs.2.2.1 hg hr, hs.2.2.2⟩) _) (ownFrom_keepS hSlt hSlt))) (ownFrom_below (Nat.le_refl _) (by omega)))
    (fun c => OwnFrom.and (Own.from (fun s A B row hs hg hr => by obtain ⟨hc, ini, last, e1, e2, e3, e4, e5⟩ := hs; exact ⟨hc, ini, last, e1, e2, box_kept e3 hg hr, box_kept e4 hg hr, box_kept e5 hg hr⟩) _) (ownFrom_below (Nat.le_refl _) (by omega)))
    ⟨⟨⟨_, b3, World.ownsRow_nil _ _ _ _, trivial⟩, ⟨b0, b1, b2, by simp⟩, Nat.le_refl _, KeepS.refl _ _⟩, hB0⟩
    (fun x a' W => ∃ B : Nat, V.heap.size ≤ B ∧ W.heap[B]? = some (.cells #[.int .i64 (x.1.1 : Int), .string (bs x.1.2.1), .int .i64 (x.1.2.2 : Int)] 109 (0, 0)) ∧ W.heap[B + 1]? = some (.cells #[.int .i64 (x.2.2.1 : Int), .int .i64 (x.2.2.2 : Int)] 111 (0, 0)) ∧
      a' = { tmps := #[.string (bs l), undef, .pointer (some ⟨w.heap.size, 0, none⟩), .pointer (some ⟨w.heap.size + 1, 0, none⟩), .pointer (some ⟨w.heap.size + 1 + 1, 0, none⟩), .pointer (some ⟨w.heap.size + 1 + 1 + 1, 0, none⟩), .pointer (some ⟨B, 0, none⟩), .pointer (some ⟨B + 1, 0, none⟩), .string (bs l),
        .func (.func 115) #[] #[.pointer (some ⟨w.heap.size + 1 + 1 + 1 + 1, 0, none⟩)], .agg #[.int .i64 (x.1.1 : Int), .string (bs x.1.2.1), .int .i64 (x.1.2.2 : Int)], .agg #[.int .i64 (x.2.2.1 : Int), .int .i64 (x.2.2.2 : Int)], undef, undef, undef, undef, undef, undef, undef, undef, undef, undef, undef, undef], defers := [] })
    (fun x a' s A C row hs hg hr => by
      obtain ⟨B, h1, h2, h3, h4⟩ := hs
      exact ⟨B, h1, (grownBy_keeps_cells hg (fun r e => (hr r e).2) h2 rfl).trans h2, (grownBy_keeps_cells hg (fun r e => (hr r e).2) h3 rfl).trans h3, h4⟩) ?assign ?body ?done ?stop
  case assign =>
    rintro lp pre x W K ⟨⟨⟨v, hbx, hrow, _⟩, ⟨x0, x1, x2, hall⟩, hVW, hkp⟩, hB⟩ hK
    have hbA : Below W.heap.size W ((W.alloc (.cells #[.int .i64 (x.1.1 : Int), .string (bs x.1.2.1), .int .i64 (x.1.2.2 : Int)] 109)).alloc (.cells #[.int .i64 (x.2.2.1 : Int), .int .i64 (x.2.2.2 : Int)] 111)) := ((Below.refl _ _).alloc (Nat.le_refl _) _).alloc (by simp) _
    have HK := Lib.hid (hK _ _ ((below_others hbA).from _) ⟨fun k hk => hbA.block k (Nat.lt_of_lt_of_le (hSlt k hk) hVW), fun k cs fr h => hbA.block k (Array.getElem?_eq_some_iff.1 h).1, hbA.size⟩
      ⟨⟨⟨v, boxed_below hbx hbA, own_below2 hrow hbA, trivial⟩, ⟨boxed_below x0 hbA, boxed_below x1 hbA, boxed_below x2 hbA, hall⟩, Nat.le_trans hVW hbA.size, hkp.trans (fun k hk => hbA.block k (Nat.lt_of_lt_of_le (hSlt k hk) hVW))⟩, hB.trans (hbA.mono hB.size)⟩
      ⟨W.heap.size, hVW, (Below.heap_alloc _ _ _ (by simp)).trans (row_new _ _ _), row_new2 _ _ _ _, rfl⟩)
    clear hK hbA hbx hrow x0 x1 x2 hall hB hkp
    gi_wp2
    exact HK.out
  case body =>
    rintro lp pre x a' W hlp hloop ⟨⟨⟨v, hbx, hrow, _⟩, ⟨x0, x1, x2, hall⟩, hVW, hkp⟩, hB⟩ ⟨B, hBv, ht, hf, rfl⟩ hlen
    obtain ⟨⟨k1, k2, k3⟩, k4, k5, k6⟩ := x
    simp only at ht hf
    have c0 := row_cells hf 0
    have c1 := row_cells hf 1
    have d0 := row_cells ht 0
    have d1 := row_cells ht 1
    have d2 := row_cells ht 2
    have e0 := x0.cell
    have e1 := x1.cell
    have e2 := x2.cell
    have e3 := hbx.cell
    have z0 := x0.frozen
    have z1 := x1.frozen
    have z2 := x2.frozen
    have z3 := hbx.frozen
    have n0 : w.heap.size ≠ B + 1 := by omega
    have n1 : w.heap.size + 1 ≠ B + 1 := by omega
    have n2 : w.heap.size + 1 + 1 ≠ B + 1 := by omega
    by_cases h6 : k6 = 0
    · subst h6
      have hpl : pre.length ≤ 1000000000 := by omega
      have hwW := hB.size
      have HBX := Lib.hid hbx
      have HROW := Lib.hid hrow
      have hall2 : Hid (∀ y ∈ pre ++ [(((k1, k2, k3), k4, k5, 0) : Nx)], y.2.2.2 = 0) := fun y hy => by
        rcases List.mem_append.1 hy with hy | hy
        · exact hall y hy
        · rw [List.mem_singleton.1 hy]
      have hbs := (hkp _ (.inl rfl)).trans kbox
      have HKEY : Hid (∀ (w3 : World) (q : Value), (W.alloc (.cells #[.int .i64 (k1 : Int), .string (bs k2), .int .i64 (k3 : Int)] 109)).grownBy w3 v.ownBlock → ∀ (k : Nat) (o : Obj), W.heap[k]? = some o → v.ownBlock ≠ some k → k ≠ w.heap.size + 1 + 1 + 1 → (w3.setCell ⟨w.heap.size + 1 + 1 + 1, 0, none⟩ q).heap[k]? = some o) := fun w3 q hg k o hk hne h3 =>
        (Below.heap_setCell w3 ⟨w.heap.size + 1 + 1 + 1, 0, none⟩ q k h3).trans ((hg.block k (by simp; have := (Array.getElem?_eq_some_iff.1 hk).1; omega) (fun e => hne e.symm)).trans ((Below.heap_alloc _ _ _ (Array.getElem?_eq_some_iff.1 hk).1).trans hk))
      have HX0 := Lib.hid x0
      have HX1 := Lib.hid x1
      have HX2 := Lib.hid x2
      have HBSX := Lib.hid hbs
      have HKPX := Lib.hid hkp
      have HBB := Lib.hid hB
      clear hbx hrow hall hkp hbs e0 e1 e2 z0 z1 z2 x0 x1 x2 hB n0 n1 n2 ht hf
      gi_wp2_with (gi_at_builtin; refine wpListIn_app3 62 109 Tryz.underlying62 i0 _ HI.out HZ0.out HZ1.out HZ2.out rfl rfl _ _ rfl w.heap.size v _ _ rfl HROW.out _ _ _ _ rfl rfl rfl rfl hpl hwW ?_; intro ad6 c6 w3 hown3 hg3; obtain ⟨q1, q2, q3, q4, q5⟩ := HBX.out.appended (by decide) HROW.out hwW (by omega) hown3 hg3; have hc1 := q1.cell; have hf1 := q1.frozen; have HO3 := Lib.hid hown3; have HG3 := Lib.hid hg3; have HK2 := Lib.hid q2; have HK3 := Lib.hid q3; have HK4 := Lib.hid q4; have HK5 := Lib.hid q5; clear hown3 hg3 q1 q2 q3 q4 q5)
      have key := HKEY.out w3 (.slice ad6 (pre.length + 1) c6) HG3.out
      have hx0 : Boxed (w3.setCell ⟨w.heap.size + 1 + 1 + 1, 0, none⟩ (.slice ad6 (pre.length + 1) c6)) w.heap.size 62 (.slice none 0 0) := key _ _ HX0.out (own_other_fr HROW.out HX0.out (by decide)) (by omega)
      have hx1 : Boxed (w3.setCell ⟨w.heap.size + 1 + 1 + 1, 0, none⟩ (.slice ad6 (pre.length + 1) c6)) (w.heap.size + 1) 3 (.int .i64 0) := key _ _ HX1.out (own_other_fr HROW.out HX1.out (by decide)) (by omega)
      have hx2 : Boxed (w3.setCell ⟨w.heap.size + 1 + 1 + 1, 0, none⟩ (.slice ad6 (pre.length + 1) c6)) (w.heap.size + 1 + 1) 28 (.int .i64 0) := key _ _ HX2.out (own_other_fr HROW.out HX2.out (by decide)) (by omega)
      have hglob : ∀ k, k < w.heap.size → (w3.setCell ⟨w.heap.size + 1 + 1 + 1, 0, none⟩ (.slice ad6 (pre.length + 1) c6)).heap[k]? = W.heap[k]? := fun k hk => by
        obtain ⟨o, ho⟩ : ∃ o, W.heap[k]? = some o := ⟨_, Array.getElem?_eq_getElem (by omega)⟩
        exact (key k o ho (fun e => by have := (World.ownsRow.lt HROW.out _ e).1; omega) (by omega)).trans ho.symm
      have hks : KeepS (SLex (w.heap.size + 1 + 1 + 1 + 1)) W (w3.setCell ⟨w.heap.size + 1 + 1 + 1, 0, none⟩ (.slice ad6 (pre.length + 1) c6)) := fun k hk => by
        rcases hk with rfl | rfl | rfl | rfl
        · exact (key _ _ HBSX.out (own_other_fr HROW.out HBSX.out (by decide)) (by omega)).trans HBSX.out.symm
        · exact hglob _ hgm
        · exact hglob _ hgf
        · exact hglob _ hga
      have hkf : ∀ (k : Nat) (cs : Array Value) (fr : Nat × Nat), W.heap[k]? = some (Obj.cells cs 111 fr) → (w3.setCell ⟨w.heap.size + 1 + 1 + 1, 0, none⟩ (.slice ad6 (pre.length + 1) c6)).heap[k]? = W.heap[k]? := fun k cs fr hk =>
        (key k _ hk (own_other_fr HROW.out hk (by decide)) (fun e => by subst e; rw [show W.heap[_]? = _ from HBX.out] at hk; injection hk with hk; injection hk with _ hk; exact absurd hk (by decide))).trans hk.symm
      exact ⟨HK4.out.from _, ⟨hks, hkf, HK4.out.size⟩, ⟨⟨_, HK2.out, by rw [tkCells_snoc, List.length_append]; exact HK3.out, trivial⟩, ⟨hx0, hx1, hx2, hall2.out⟩, Nat.le_trans hVW HK4.out.size, HKPX.out.trans hks⟩, HBB.out.trans HK5.out⟩
    · have h6i : ((k6 : Int) == 0) = false := by simp only [beq_eq_false_iff_ne]; omega
      have y0 : Boxed (((W.setCell ⟨w.heap.size, 0, none⟩ (.slice none 0 0)).setCell ⟨w.heap.size + 1, 0, none⟩ (.int .i64 (k5 : Int))).setCell ⟨w.heap.size + 1 + 1, 0, none⟩ (.int .i64 (k6 : Int))) w.heap.size 62 (.slice none 0 0) := ((x0.set _).other (by omega) _).other (by omega) _
      have y1 : Boxed (((W.setCell ⟨w.heap.size, 0, none⟩ (.slice none 0 0)).setCell ⟨w.heap.size + 1, 0, none⟩ (.int .i64 (k5 : Int))).setCell ⟨w.heap.size + 1 + 1, 0, none⟩ (.int .i64 (k6 : Int))) (w.heap.size + 1) 3 (.int .i64 (k5 : Int)) := ((x1.other (by omega) _).set _).other (by omega) _
      have y2 : Boxed (((W.setCell ⟨w.heap.size, 0, none⟩ (.slice none 0 0)).setCell ⟨w.heap.size + 1, 0, none⟩ (.int .i64 (k5 : Int))).setCell ⟨w.heap.size + 1 + 1, 0, none⟩ (.int .i64 (k6 : Int))) (w.heap.size + 1 + 1) 28 (.int .i64 (k6 : Int)) := ((x2.other (by omega) _).other (by omega) _).set _
      have hBB : Below w.heap.size w (((W.setCell ⟨w.heap.size, 0, none⟩ (.slice none 0 0)).setCell ⟨w.heap.size + 1, 0, none⟩ (.int .i64 (k5 : Int))).setCell ⟨w.heap.size + 1 + 1, 0, none⟩ (.int .i64 (k6 : Int))).drew := (((hB.setCell (p := ⟨w.heap.size, 0, none⟩) (Nat.le_refl _) _).setCell (p := ⟨w.heap.size + 1, 0, none⟩) (by show w.heap.size ≤ w.heap.size + 1; omega) _).setCell (p := ⟨w.heap.size + 1 + 1, 0, none⟩) (by show w.heap.size ≤ w.heap.size + 1 + 1; omega) _).drew
      have hko : KeepsOthers W (((W.setCell ⟨w.heap.size, 0, none⟩ (.slice none 0 0)).setCell ⟨w.heap.size + 1, 0, none⟩ (.int .i64 (k5 : Int))).setCell ⟨w.heap.size + 1 + 1, 0, none⟩ (.int .i64 (k6 : Int))) := ((KeepsOthers.setCell _ _ _).trans (KeepsOthers.setCell _ _ _)).trans (KeepsOthers.setCell _ _ _)
      have HY0 := Lib.hid y0
      have HY1 := Lib.hid y1
      have HY2 := Lib.hid y2
      have HBB := Lib.hid hBB
      have HKO : Hid (KeepsOthers W (((W.setCell ⟨w.heap.size, 0, none⟩ (.slice none 0 0)).setCell ⟨w.heap.size + 1, 0, none⟩ (.int .i64 (k5 : Int))).setCell ⟨w.heap.size + 1 + 1, 0, none⟩ (.int .i64 (k6 : Int))).drew) := ⟨hko.size, hko.same⟩
      clear y0 y1 y2 hBB hko hbx hrow x0 x1 x2 hall hB ht hf e3 z3 d0 d1 d2 hkp
      gi_wp2
      gi_region
      all_goals
        gi_wp2
        exact ⟨HKO.out.from _, ⟨rfl, pre, _, rfl, h6, HY0.out, HY1.out, HY2.out⟩, HBB.out⟩
  case done =>
    rintro D ys W hD rfl ⟨⟨⟨v, hbx, hrow, _⟩, ⟨x0, x1, x2, hall⟩, hVW, hkp⟩, hB⟩ hK
    rw [upto_length] at hrow
    obtain ⟨ad7, c7, rfl⟩ := own_form_k hrow
    have e3 := hbx.cell
    have e0 := x0.cell
    have e1 := x1.cell
    have e2 := x2.cell
    have z0 := x0.frozen
    have z1 := x1.frozen
    have z2 := x2.frozen
    have y0 : Boxed (((W.setCell ⟨w.heap.size, 0, none⟩ (.slice ad7 M c7)).setCell ⟨w.heap.size + 1, 0, none⟩ (.int .i64 0)).setCell ⟨w.heap.size + 1 + 1, 0, none⟩ (.int .i64 0)) w.heap.size 62 (.slice ad7 M c7) := ((x0.set _).other (by omega) _).other (by omega) _
    have y1 : Boxed (((W.setCell ⟨w.heap.size, 0, none⟩ (.slice ad7 M c7)).setCell ⟨w.heap.size + 1, 0, none⟩ (.int .i64 0)).setCell ⟨w.heap.size + 1 + 1, 0, none⟩ (.int .i64 0)) (w.heap.size + 1) 3 (.int .i64 0) := ((x1.other (by omega) _).set _).other (by omega) _
    have y2 : Boxed (((W.setCell ⟨w.heap.size, 0, none⟩ (.slice ad7 M c7)).setCell ⟨w.heap.size + 1, 0, none⟩ (.int .i64 0)).setCell ⟨w.heap.size + 1 + 1, 0, none⟩ (.int .i64 0)) (w.heap.size + 1 + 1) 28 (.int .i64 0) := ((x2.other (by omega) _).other (by omega) _).set _
    have hrow2 : (((W.setCell ⟨w.heap.size, 0, none⟩ (.slice ad7 M c7)).setCell ⟨w.heap.size + 1, 0, none⟩ (.int .i64 0)).setCell ⟨w.heap.size + 1 + 1, 0, none⟩ (.int .i64 0)).ownsRow w.heap.size 109 3 (.slice ad7 M c7) M (tkCells (upto (itemV l) M)) :=
      own_set (own_set (own_set hrow x0 (by decide) 0 _) ((x1.other (by omega) _) : Boxed _ _ _ _) (by decide) 0 _) (((x2.other (by omega) _).other (by omega) _) : Boxed _ _ _ _) (by decide) 0 _
    have hBB : Below w.heap.size w (((W.setCell ⟨w.heap.size, 0, none⟩ (.slice ad7 M c7)).setCell ⟨w.heap.size + 1, 0, none⟩ (.int .i64 0)).setCell ⟨w.heap.size + 1 + 1, 0, none⟩ (.int .i64 0)) := ((hB.setCell (p := ⟨w.heap.size, 0, none⟩) (Nat.le_refl _) _).setCell (p := ⟨w.heap.size + 1, 0, none⟩) (by show w.heap.size ≤ w.heap.size + 1; omega) _).setCell (p := ⟨w.heap.size + 1 + 1, 0, none⟩) (by show w.heap.size ≤ w.heap.size + 1 + 1; omega) _
    have hK' := (((KeepsOthers.setCell W ⟨w.heap.size, 0, none⟩ (.slice ad7 M c7)).trans (KeepsOthers.setCell _ ⟨w.heap.size + 1, 0, none⟩ (.int .i64 0))).trans (KeepsOthers.setCell _ ⟨w.heap.size + 1 + 1, 0, none⟩ (.int .i64 0))).same D _ hK rfl
    have HALL := Lib.hid hall
    clear hall hbx hrow x0 x1 x2 hB hkp
    gi_wp2
    refine ⟨by simp, .inl ⟨_, _, rfl, run_takeDeferred hK', ?_⟩⟩
    have hc0 := cell_kept y0.cell (grownBy_putObj' _ D (.deferred none)) (fun r e => by cases e; exact ⟨_, hK', rfl⟩)
    have hc1 := cell_kept y1.cell (grownBy_putObj' _ D (.deferred none)) (fun r e => by cases e; exact ⟨_, hK', rfl⟩)
    have hc2 := cell_kept y2.cell (grownBy_putObj' _ D (.deferred none)) (fun r e => by cases e; exact ⟨_, hK', rfl⟩)
    refine ⟨.tuple #[.slice ad7 M c7, .int .i64 0, .int .i64 0], by simp [results, Tryz.f26, go_sem, hc0, hc1, hc2], hBB.trans (belowK_b (w := w) (Nat.le_refl _) _ D _ _ (by omega) hK' rfl rfl), M, hrun, hMl, .inl ⟨fun k hk => HALL.out _ (List.mem_map.2 ⟨k, List.mem_range.2 hk, rfl⟩), ad7, c7, rfl, ownsRow_putObj hrow2 _ hK' rfl⟩⟩
  case stop =>
    rintro D c pre W hD ⟨k, hk, rfl⟩ ⟨⟨rfl, ini, last, e1, e2, x0, x1, x2⟩, hB⟩ hK
    have hk1 : 1 ≤ k := by
      have := congrArg List.length e1
      rw [upto_length, List.length_append] at this
      simp at this
      omega
    obtain ⟨q, rfl⟩ : ∃ q, k = q + 1 := ⟨k - 1, by omega⟩
    rw [upto_succ] at e1
    have hlast : itemV l q = last := by
      have := congrArg List.getLast? e1
      simpa using this
    have HMQ : Hid (M = q + 1) := by
      rcases Nat.lt_or_ge (q + 1) M with h1 | h1
      · exact absurd (hrun.2.1 q h1) (by rw [hlast]; exact e2)
      · unfold Hid; omega
    have HL : Hid (itemV l (M - 1) = last) := by unfold Hid; rw [HMQ.out]; exact hlast
    have HE2 := Lib.hid e2
    clear e1 hlast hk e2
    gi_wp2
    refine ⟨by simp, .inl ⟨_, _, rfl, run_takeDeferred hK, ?_⟩⟩
    have hc0 := cell_kept x0.cell (grownBy_putObj' _ D (.deferred none)) (fun r e => by cases e; exact ⟨_, hK, rfl⟩)
    have hc1 := cell_kept x1.cell (grownBy_putObj' _ D (.deferred none)) (fun r e => by cases e; exact ⟨_, hK, rfl⟩)
    have hc2 := cell_kept x2.cell (grownBy_putObj' _ D (.deferred none)) (fun r e => by cases e; exact ⟨_, hK, rfl⟩)
    refine ⟨.tuple #[.slice none 0 0, .int .i64 (last.2.2.1 : Int), .int .i64 (last.2.2.2 : Int)], by simp [results, Tryz.f26, go_sem, hc0, hc1, hc2], hB.trans (belowK_b (w := w) (Nat.le_refl _) _ D _ _ (by omega) hK rfl rfl), M, hrun, hMl, .inr ⟨by rw [HMQ.out]; omega, by rw [HL.out]; exact HE2.out, by rw [HL.out]⟩⟩
end Go.Proofs.YtmleeodfmmpdgaaGreatDoor
namespace Go.Proofs.YtmleeodfmmpdgaaGreatDoor
open Go.RowKit
theorem run_unique {l : List UInt8} {M N : Nat} (h : RunP l M) (hN : ∀ k, k < N → posV l k < l.length ∧ (itemV l k).2.2.2 = 0) (hE : l.length ≤ posV l N) : M = N := by
  rcases Nat.lt_trichotomy M N with h1 | h1 | h1
  · rcases h.2.2 with ⟨h2, _⟩ | ⟨h2, h3⟩
    · have := (hN M h1).1; omega
    · exact absurd (hN (M - 1) (by omega)).2 h3
  · exact h1
  · have := h.1 N h1; omega
theorem quotedV_none {l : List UInt8} {i : Nat} (h : endL (l.drop (i + 1)) = none) : quotedV l i = badN i 3 := by unfold quotedV; rw [h]
theorem quotedV_some {l : List UInt8} {i n : Nat} (h : endL (l.drop (i + 1)) = some n) : quotedV l i = if (unescV ((l.drop (i + 1)).take n)).2.2 ≠ 0 then badN (i + 1 + (unescV ((l.drop (i + 1)).take n)).2.1) 3 else if 400 < (unescV ((l.drop (i + 1)).take n)).1.length then badN i 6
      else if Lib.validD (unescV ((l.drop (i + 1)).take n)).1 = false then badN i 4 else ((2, (unescV ((l.drop (i + 1)).take n)).1, i), n + 2, 0, 0) := by unfold quotedV; rw [h]
end Go.Proofs.YtmleeodfmmpdgaaGreatDoor
namespace Go.Proofs.YtmleeodfmmpdgaaGreatDoor
open Go.RowKit
attribute [local go_sem] Ext.cell Ext.frozen
attribute [local go_sem ↓] Go.wp_at_zero Go.wp_at_succ
structure TkAt (w : World) (ad : Option Addr) (n : Nat) (xs : List Nx) (b off : Nat) : Prop where
  len : xs.length = n
  max : n ≤ 1000000
  adr : n ≠ 0 → ad = some ⟨b, off, none⟩
  c0 : ∀ i, i < n → w.cell? ⟨b, off + i * 3, none⟩ = some (.int .i64 ((xs.getD i (badN 0 0)).1.1 : Int))
  c1 : ∀ i, i < n → w.cell? ⟨b, off + i * 3 + 1, none⟩ = some (.string (bs (xs.getD i (badN 0 0)).1.2.1))
  c2 : ∀ i, i < n → w.cell? ⟨b, off + i * 3 + 2, none⟩ = some (.int .i64 ((xs.getD i (badN 0 0)).1.2.2 : Int))
theorem tkCells_len (xs : List Nx) : (tkCells xs).length = xs.length * 3 := by
  induction xs with
  | nil => rfl
  | cons x xs ih => simp only [tkCells, List.flatMap_cons, List.length_append, List.length_cons, List.length_nil] at ih ⊢; omega
theorem tkCells_at : ∀ (xs : List Nx) (i : Nat), i < xs.length → (tkCells xs)[i * 3]? = some (.int .i64 ((xs.getD i (badN 0 0)).1.1 : Int)) ∧ (tkCells xs)[i * 3 + 1]? = some (.string (bs (xs.getD i (badN 0 0)).1.2.1)) ∧ (tkCells xs)[i * 3 + 2]? = some (.int .i64 ((xs.getD i (badN 0 0)).1.2.2 : Int))
  | [], i, h => absurd h (Nat.not_lt_zero _)
  | x :: xs, 0, _ => ⟨rfl, rfl, rfl⟩
  | x :: xs, i + 1, h => by
    have := tkCells_at xs i (by simpa using h)
    rw [show (i + 1) * 3 = i * 3 + 1 + 1 + 1 by omega]
    exact this
theorem own_tk {w : World} {base : Nat} {E : TypeId} {ad : Option Addr} {n c : Nat} {xs : List Nx} (h : w.ownsRow base E 3 (.slice ad n c) n (tkCells xs)) (hm : n ≤ 1000000) : ∃ b, TkAt w ad n xs b 0 := by
  have hl : xs.length = n := by have := h.1; rw [tkCells_len] at this; omega
  obtain ⟨_, ⟨h1, h2⟩ | ⟨g, cap, cur, h1, h2, h3, h4, h5, h6, h7⟩⟩ := h
  · subst h2
    exact ⟨0, hl, hm, fun h => absurd rfl h, fun i hi => absurd hi (Nat.not_lt_zero _), fun i hi => absurd hi (Nat.not_lt_zero _), fun i hi => absurd hi (Nat.not_lt_zero _)⟩
  · injection h1 with e1 e2 e3
    subst e1
    have key : ∀ j v, j < n * 3 → (tkCells xs)[j]? = some v → w.cell? ⟨g, 0 + j, none⟩ = some v := fun j v hj hv => by
      rw [Nat.zero_add]
      rw [← h7, List.getElem?_take, if_pos hj] at hv
      simp only [World.cell?, h3]
      rw [Array.getElem?_toList] at hv
      simpa using hv
    exact ⟨g, hl, hm, fun _ => rfl, fun i hi => key _ _ (by omega) (tkCells_at xs i (by omega)).1,
      fun i hi => by have := key _ _ (by omega) (tkCells_at xs i (by omega)).2.1; rwa [← Nat.add_assoc] at this,
      fun i hi => by have := key _ _ (by omega) (tkCells_at xs i (by omega)).2.2; rwa [← Nat.add_assoc] at this⟩

end Go.Proofs.YtmleeodfmmpdgaaGreatDoor
