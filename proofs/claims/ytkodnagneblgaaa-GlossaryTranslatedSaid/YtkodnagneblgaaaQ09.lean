/- Walks: the index of terms, whole. -/
import Derived.Test.YtkodnagneblgaaaQ08
namespace Go.Proofs.Ytkodnagneblgaaa
open Go.RowKit Go.Maps Go.Sort
attribute [local go_sem] Ext.cell Ext.frozen
attribute [local go_sem ↓] Go.wp_at_zero Go.wp_at_succ
/-- an index in memory -/
structure IdxAt (w : World) (base M : Nat) (wv : Value) (svs : List Value) (hd : ByteArray → Value) (lists : List (List ByteArray)) : Prop where
  words : WordsAt w base wv svs lists
  gm : GM w M lists.length hd
  rows : ∀ s : ByteArray, s.size ≤ maxLen → ∃ ns, InR w base (hd s) ns ∧ SortG lists s ns
theorem IdxAt.below {w w' : World} {base M : Nat} {wv : Value} {svs : List Value} {hd : ByteArray → Value} {lists : List (List ByteArray)} (h : IdxAt w base M wv svs hd lists) (hb : Below w.heap.size w w') : IdxAt w' base M wv svs hd lists :=
  ⟨h.words.below hb, h.gm.same (hb.block _ h.gm.lt), fun s hs => by obtain ⟨ns, h1, h2⟩ := h.rows s hs; exact ⟨ns, own_kept_none h1 (grown_none hb), h2⟩⟩
theorem below_of_none {w w' : World} (h : w.grownBy w' none) : Below w.heap.size w w' := ⟨h.os, h.tape, h.output, h.size, fun k hk => h.block k hk (by simp)⟩
/-- 'next', its facts aside -/
theorem next_gr' {ops : Array Oper} {rest : List Oper} {o : Oper} {a : Act} {Q : Exit → Act → World → Prop} {w : World} (hg : o.guard = none) (it : Operand) (hop : o.op = Op.next it false) (M r n : Nat) (hd : ByteArray → Value) (left : Lit → Bool) (cnt : Nat)
    (hit : a.eval it = .pointer (some ⟨r, 0, none⟩)) (h : GR w M r n hd left cnt)
    (hDone : Hid (∀ kl, left kl = false) → wpList Try.prog ops Q rest (a.put o.dst (.tuple #[.bool false])) w)
    (hMore : ∀ (x : ByteArray) (w' : World) (cnt' : Nat), Hid (x.size ≤ maxLen ∧ left (.string x.data.toList) = true ∧ hd x ≠ .slice none 0 0 ∧ GR w' M r n hd (fun z => left z && !z.sameKey (.string x.data.toList)) cnt' ∧ cnt' < cnt ∧ w.grownBy w' (some r)) →
      (Instr.entry (.pointer (some ⟨r, 0, none⟩))).run Try.prog w' = .ok (.tuple #[.string x, hd x]) w' → wpList Try.prog ops Q rest (a.put o.dst (.tuple #[.bool true, .string x, hd x])) w') : wpList Try.prog ops Q (o :: rest) a w :=
  next_gr hg it hop M r n hd left cnt hit h hDone fun x w' cnt' h1 h2 h3 h4 h5 h6 _ h8 => hMore x w' cnt' ⟨h1, h2, h3, h4, h5, h6⟩ h8
theorem GR.cells {w : World} {M r n : Nat} {hd : ByteArray → Value} {left : Lit → Bool} {cnt : Nat} (h : GR w M r n hd left cnt) {k : Nat} {cur : Array Value} {T : TypeId} {fr : Nat × Nat} (hk : w.heap[k]? = some (.cells cur T fr)) : some k ≠ some M ∧ some k ≠ some r := by
  obtain ⟨D, ⟨es, clock, since, seen, c0, h1, _, _, _, h5, _⟩, _⟩ := h
  refine ⟨fun e => ?_, fun e => ?_⟩
  · injection e with e
    rw [e, h1] at hk
    cases hk
  · injection e with e
    rw [e, h5] at hk
    cases hk
theorem own_apart_iter {w w' : World} {M r n : Nat} {hd : ByteArray → Value} {left : Lit → Bool} {cnt : Nat} (h : GR w M r n hd left cnt) {base : Nat} {E : TypeId} {sz : Nat} {v : Value} {k : Nat} {xs : List Value} (hr : w.ownsRow base E sz v k xs) (hg : w.grownBy w' (some r)) : w'.ownsRow base E sz v k xs :=
  hr.kept hg (.inr (fun e => (h.apart hr).2 e.symm))
/-- the ranging under way: what the rows hold -/
structure R2 (w : World) (base xb M r n : Nat) (wv : Value) (svs : List Value) (hd : ByteArray → Value) (lists : List (List ByteArray)) (left : Lit → Bool) (cnt : Nat) (nsf : ByteArray → List Nat) : Prop where
  gr : GR w M r n hd left cnt
  box : w.heap[xb]? = some (.cells #[wv, .map (some M)] 80 (0, 0))
  words : WordsAt w base wv svs lists
  rows : ∀ s, InR w base (hd s) (nsf s)
  todo : ∀ s : ByteArray, s.size ≤ maxLen → left (.string s.data.toList) = true → nsf s = grp lists n s
  done : ∀ s : ByteArray, s.size ≤ maxLen → left (.string s.data.toList) = false → SortG lists s (nsf s)
theorem R2.iter {w w' : World} {base xb M r n : Nat} {wv : Value} {svs : List Value} {hd : ByteArray → Value} {lists : List (List ByteArray)} {left _left' : Lit → Bool} {cnt _cnt' : Nat} {nsf : ByteArray → List Nat} (h : R2 w base xb M r n wv svs hd lists left cnt nsf)
    (hg : w.grownBy w' (some r)) : w'.heap[xb]? = some (.cells #[wv, .map (some M)] 80 (0, 0)) ∧ WordsAt w' base wv svs lists ∧ ∀ s, InR w' base (hd s) (nsf s) :=
  ⟨(hg.block _ (Array.getElem?_eq_some_iff.1 h.box).1 (h.gr.cells h.box).2).trans h.box, ⟨own_apart_iter h.gr h.words.row hg, h.words.len, fun j hj => own_apart_iter h.gr (h.words.each j hj) hg⟩, fun s => own_apart_iter h.gr (h.rows s) hg⟩
/-- a group is sorted -/
theorem R2.sorted {w w2 w3 : World} {base xb M r n g cap : Nat} {wv : Value} {svs : List Value} {hd : ByteArray → Value} {lists : List (List ByteArray)} {left : Lit → Bool} {cnt cnt' : Nat} {nsf : ByteArray → List Nat} {x : ByteArray} {ns' : List Nat}
    (h : R2 w base xb M r n wv svs hd lists left cnt nsf) (ha : ∀ s t, s ≠ t → (hd s).ownBlock = none ∨ (hd s).ownBlock ≠ (hd t).ownBlock) (hg : w.grownBy w2 (some r)) (hgr : GR w2 M r n hd (fun z => left z && !z.sameKey (.string x.data.toList)) cnt') (hx : hd x = .slice (some ⟨g, 0, none⟩) (nsf x).length cap)
    (hg3 : w2.grownBy w3 (some g)) (hown : InR w3 base (hd x) ns') (hst : SortG lists x ns') : R2 w3 base xb M r n wv svs hd lists (fun z => left z && !z.sameKey (.string x.data.toList)) cnt' (fun s => if s = x then ns' else nsf s) := by
  obtain ⟨hb, hw, hr⟩ := h.iter (_left' := left) (_cnt' := cnt') hg
  have hrx := hr x
  have hbl : (hd x).ownBlock = some g := by rw [hx]; rfl
  have hg3' : w2.grownBy w3 (hd x).ownBlock := by rw [hbl]; exact hg3
  have hap := hgr.apart hrx
  rw [hbl] at hap
  refine ⟨hgr.kept hg3 hap.1 hap.2, row_stays hb hrx (by decide) hg3', hw.at_other hrx (by decide) (by decide) hg3', fun s => ?_, fun s hs hl => ?_, fun s hs hl => ?_⟩
  · by_cases e : s = x
    · simp only [e, if_true]; exact hown
    · simp only [e, if_false]; exact (hr s).kept hg3' (ha s x e)
  · simp only [Bool.and_eq_true, sameKey_str, Bool.not_eq_true', decide_eq_false_iff_not] at hl
    simp only [hl.2, if_false]
    exact h.todo s hs hl.1
  · by_cases e : s = x
    · simp only [e, if_true]; exact hst
    · simp only [e, if_false]
      refine h.done s hs ?_
      simpa [sameKey_str, e] using hl
set_option maxRecDepth 100000 in
set_option maxHeartbeats 8000000 in
theorem newIndex_second (lists : List (List ByteArray)) (ad : Option Addr) (n c : Nat) (w wr : World) (wv : Value) (svs : List Value) (hd : ByteArray → Value) (u4 u5 u6 u7 u8 u9 u10 u11 u12 u13 u14 u15 u16 u17 u18 u19 u20 u21 u22 u23 u24 u25 u26 u27 u28 u29 u30 u31 u32 u33 u34 u35 u36 u37 u38 u39 u40 u41 u42 u43 u44 u45 u46 u47 u48 u49 u50 u51 u52 u53 u54 : Value) (hll : lists.length = n) (hn : n ≤ 40) (hlw : ∀ i, lnW lists i ≤ 1000000000)
    (hix : IX wr w.heap.size (w.heap.size + 1 + 1) (w.heap.size + 1) n n wv svs hd lists) (hres : wr.heap[w.heap.size]? = some (.cells #[.slice none 0 0, .map none] 80 (0, 0))) (hbl : Below w.heap.size w wr) :
    (idxC 10).wp Try.prog (bodyPost Try.prog Try.f44 fun e w' => ∃ wv M svs hd, e = .returned (.agg #[wv, .map (some M)]) ∧ IdxAt w' w.heap.size M wv svs hd lists ∧ Below w.heap.size w w')
      ⟨#[.slice ad n c, undef, .pointer (some ⟨w.heap.size, 0, none⟩), .pointer (some ⟨w.heap.size + 1 + 1, 0, none⟩), u4, u5, u6, u7, u8, u9, u10, u11, u12, u13, u14, u15, u16, u17, u18, u19, u20, u21, u22, u23, u24, u25, u26, u27, u28, u29, u30, u31, u32, u33, u34, u35, u36, u37, u38, u39, u40, u41, u42, u43, u44, u45, u46, u47, u48, u49, u50, u51, u52, u53, u54], []⟩ wr := by
  obtain ⟨av, cv, rfl⟩ := hix.words.form
  have HIX := Lib.hid hix
  have HRES := Lib.hid hres
  have HB := Lib.hid hbl
  have HLL := Lib.hid hll
  have HLW := Lib.hid hlw
  have hmf : ∀ (fn : Fn) (first cap : Array Value) (w : World), (Instr.makeFunc fn first cap).run Try.prog w = .ok (.func fn first cap) w := fun _ _ _ _ => rfl
  have hc1 : wr.cell? ⟨w.heap.size + 1 + 1, 1, none⟩ = some (.map (some (w.heap.size + 1))) := by rw [Lib.cell_of_heap hix.box]; rfl
  clear hix hres hbl hll hlw
  dsimp only
  conv => arg 2; whnf
  go_wp2_with (first | (at_range; refine range_gm rfl _ rfl _ n hd rfl HIX.out.gm ?_; intro w0 left0 cnt0 hgr0 hleft0 hg0 hs0; have HGR0 := Lib.hid hgr0; have HL0 := Lib.hid hleft0; have HG0 := Lib.hid hg0; clear hgr0 hleft0 hg0 hs0))
  go_frame
  have HST : Hid (∃ nsf, R2 w0 w.heap.size (w.heap.size + 1 + 1) (w.heap.size + 1) wr.heap.size n (.slice av svs.length cv) svs hd lists left0 cnt0 nsf) := by
    have h0 := HIX.out.below (below_of_none HG0.out)
    have hwd := h0.words
    rw [List.take_of_length_le (by rw [HLL.out]; exact Nat.le_refl _)] at hwd
    refine ⟨fun s => grp lists n s, HGR0.out, h0.box, hwd, h0.rows, fun _ _ _ => rfl, fun s hs hl => ?_⟩
    have hnil := HL0.out s hs hl
    have h2 := h0.rows s
    rw [hnil] at h2
    have hlen : (grp lists n s).length = 0 := by
      rcases h2.2 with ⟨_, e⟩ | ⟨g, cap, cur, e, _⟩
      · exact e
      · cases e
    have he : grp lists n s = [] := List.eq_nil_of_length_eq_zero hlen
    refine ⟨fun j => by rw [HLL.out], ?_⟩
    show (grp lists n s).Pairwise _
    rw [he]
    exact List.Pairwise.nil
  have HRES0 : Hid (w0.heap[w.heap.size]? = some (.cells #[.slice none 0 0, .map none] 80 (0, 0))) := (HG0.out.block _ (Array.getElem?_eq_some_iff.1 HRES.out).1 (by simp)).trans HRES.out
  have HB0 : Hid (Below w.heap.size w w0) := HB.out.trans ((below_of_none HG0.out).mono HB.out.size)
  have HAP := Lib.hid HIX.out.apart
  have HNZ := Lib.hid HIX.out.nz
  obtain ⟨r, hr⟩ : ∃ r, wr.heap.size = r := ⟨_, rfl⟩
  rw [hr] at HST HGR0 ⊢
  have HR : Hid (w.heap.size ≤ r) := by rw [Hid, ← hr]; exact HB.out.size
  clear hc1 HL0 HG0 HRES HB HIX HGR0 hr
  go_loopw [8] (fun _ wq => ∃ left cnt nsf, R2 wq w.heap.size (w.heap.size + 1 + 1) (w.heap.size + 1) r n (.slice av svs.length cv) svs hd lists left cnt nsf ∧ wq.heap[w.heap.size]? = some (.cells #[.slice none 0 0, .map none] 80 (0, 0)) ∧ Below w.heap.size w wq) (fun _ wq => wq.rangeLeft (w.heap.size + 1) r)
  case atStart =>
    obtain ⟨nsf, h⟩ := HST.out
    exact ⟨left0, cnt0, nsf, h, HRES0.out, HB0.out⟩
  case round =>
    obtain ⟨left, cnt, nsf, hr2, hres, hbl⟩ := hrel
    have HR2 := Lib.hid hr2
    have HRES := Lib.hid hres
    have HB := Lib.hid hbl
    clear hr2 hres hbl HST HRES0 HB0
    have b0 : wr.cell? ⟨w.heap.size + 1 + 1, 0, none⟩ = some (.slice av svs.length cv) := by rw [Lib.cell_of_heap HR2.out.box]; rfl
    have b1 : wr.cell? ⟨w.heap.size + 1 + 1, 1, none⟩ = some (.map (some (w.heap.size + 1))) := by rw [Lib.cell_of_heap HR2.out.box]; rfl
    have b2 : wr.cell? ⟨w.heap.size, 0, none⟩ = some (.slice none 0 0) := by rw [Lib.cell_of_heap HRES.out]; rfl
    have b3 : wr.cell? ⟨w.heap.size, 1, none⟩ = some (.map none) := by rw [Lib.cell_of_heap HRES.out]; rfl
    have f2 : wr.frozen? ⟨w.heap.size, 0, none⟩ = false := by have := HRES.out; simp [World.frozen?, this]
    have f3 : wr.frozen? ⟨w.heap.size, 1, none⟩ = false := by have := HRES.out; simp [World.frozen?, this]
    go_wp2_with (first | (at_next; refine next_gr' rfl _ rfl (w.heap.size + 1) r n hd left cnt rfl HR2.out.gr (fun HL0 => ?_) (fun x w2 cnt2 HNX hen => ?_)))
    · have HFIN : Hid (IdxAt ((wr.setCell ⟨w.heap.size, 0, none⟩ (.slice av svs.length cv)).setCell ⟨w.heap.size, 1, none⟩ (.map (some (w.heap.size + 1)))) w.heap.size (w.heap.size + 1) (.slice av svs.length cv) svs hd lists) := by
        have h2 := HR2.out
        have g1 := grown_setCell wr w.heap.size 0 (.slice av svs.length cv)
        have e1 : (wr.setCell ⟨w.heap.size, 0, none⟩ (.slice av svs.length cv)).heap[w.heap.size]? = some (.cells #[.slice av svs.length cv, .map none] 80 (0, 0)) := by
          simp [World.setCell, Array.getElem?_modify, HRES.out]
        have g2 := grown_setCell (wr.setCell ⟨w.heap.size, 0, none⟩ (.slice av svs.length cv)) w.heap.size 1 (.map (some (w.heap.size + 1)))
        have w1 := h2.words.at_cells HRES.out (by decide) (by decide) g1
        have w2 := w1.at_cells e1 (by decide) (by decide) g2
        have m1 := h2.gr.gm.kept g1 (fun e => (h2.gr.cells HRES.out).1 e.symm)
        have m2 := m1.kept g2 (fun e => (h2.gr.cells HRES.out).1 e.symm)
        rw [← HLL.out] at m2
        exact ⟨w2, m2, fun s hs => ⟨nsf s, own_kept_at (own_kept_at (h2.rows s) HRES.out (by decide) g1) e1 (by decide) g2, h2.done s hs (HL0.out _)⟩⟩
      have HBF : Hid (Below w.heap.size w ((wr.setCell ⟨w.heap.size, 0, none⟩ (.slice av svs.length cv)).setCell ⟨w.heap.size, 1, none⟩ (.map (some (w.heap.size + 1))))) :=
        Bel.setCell (Bel.setCell HB.out _ _ (Nat.le_refl _)) _ _ (Nat.le_refl _)
      have hheap : ((wr.setCell ⟨w.heap.size, 0, none⟩ (.slice av svs.length cv)).setCell ⟨w.heap.size, 1, none⟩ (.map (some (w.heap.size + 1)))).heap[w.heap.size]? = some (.cells #[.slice av svs.length cv, .map (some (w.heap.size + 1))] 80 (0, 0)) := by
        simp [World.setCell, Array.getElem?_modify, HRES.out]
      refine bodyPost_ret (results_cell_row rfl _ _ w.heap.size 80 #[.slice av svs.length cv, .map (some (w.heap.size + 1))] (0, 0) _ rfl hheap Try.underlying80 rfl (by kernel_rfl)) rfl ?_
      exact ⟨_, _, svs, hd, rfl, HFIN.out, HBF.out⟩
    · obtain ⟨hxs, hlx, hnn, hgr2, hlt2, hg2⟩ := HNX.out
      have hng := (HNZ.out x).resolve_left hnn
      have hn1 : 0 < n := by
        obtain ⟨j, hj⟩ := List.exists_mem_of_ne_nil _ hng
        have := (grp_mem.1 hj).1
        omega
      obtain ⟨K, hK⟩ : ∃ K, n = K + 1 := ⟨n - 1, by omega⟩
      have hnx := HR2.out.todo x hxs hlx
      obtain ⟨hbx, hwd, hrw⟩ := HR2.out.iter (_left' := left) (_cnt' := cnt2) hg2
      have hrx : w2.ownsRow w.heap.size 3 1 (hd x) (nsf x).length ((nsf x).map fun (k : Nat) => Value.int .i64 (k : Int)) := hrw x
      have hlt : ∀ k ∈ nsf x, k < K + 1 := fun k hk => by rw [hnx] at hk; have := (grp_mem.1 hk).1; omega
      have hne : 0 < (nsf x).length := by rw [hnx]; exact List.length_pos_iff.2 hng
      obtain ⟨g, cap, hx⟩ : ∃ g cap, hd x = .slice (some ⟨g, 0, none⟩) (nsf x).length cap := by
        rcases hrx.2 with ⟨_, h0⟩ | ⟨g, cap, cur, h0, _⟩
        · omega
        · exact ⟨g, cap, h0⟩
      have hrx2 : w2.ownsRow w.heap.size 3 1 (.slice (some ⟨g, 0, none⟩) (nsf x).length cap) (nsf x).length ((finA K (nsf x)).toList.map encI) := by
        rw [finA_enc hlt, ← hx]; exact hrx
      have hhold : Holds encI w2 g 0 (finA K (nsf x)) := holds_row hrx2
      have hcmp : CmpAt Try.prog 51 #[.pointer (some ⟨w.heap.size + 1 + 1, 0, none⟩)] (fun x y : Fin (K + 1) => (lnW lists y.val : Int) - (lnW lists x.val : Int)) w2 g 0 (finA K (nsf x)).size := fun d q hd' a b => by
        have hg3 : w2.grownBy ((putRow encI w2 g 0 d).drewN q) (Value.ownBlock (.slice (some ⟨g, 0, none⟩) (nsf x).length cap)) := grown_putRow w2 g q d
        exact cmp_at K _ w.heap.size _ _ svs lists (by rw [HLL.out]; exact hK) _ (row_stays hbx hrx2 (by decide) hg3) (hwd.at_other hrx2 (by decide) (by decide) hg3) HLW.out a b
      have hsize := finA_size K (nsf x)
      have hrise : RiseO (zOf (finA K (nsf x))) 0 (finA K (nsf x)).size := by
        rw [hnx, ← HLL.out]
        exact rise_grp (by rw [HLL.out]; exact hK) x
      have hs40 : (finA K (nsf x)).size ≤ 40 := by
        rw [hsize, hnx]
        exact Nat.le_trans (grp_len _ _ _) hn
      have HSORT := Lib.hid (sortStable_any K (w.heap.size + 1 + 1) (fun x y : Fin (K + 1) => (lnW lists y.val : Int) - (lnW lists x.val : Int)) (RI lists) (fun _ => True) (ord_RI lists) w2 g 0 cap (finA K (nsf x)) (fun x y hxy => by
        rw [RI_nat]
        unfold RW
        constructor
        · intro h
          exact .inl (by omega)
        · intro h
          omega) hcmp hhold (by rw [hsize, hnx]; have := grp_len lists n x; omega) hs40 hrise (fun _ => trivial))
      have HDONE : Hid (∀ (q : Nat) (d' : Array (Fin (K + 1))), d'.size = (finA K (nsf x)).size → SortO (RI lists) (zOf d') 0 (finA K (nsf x)).size → MemO (zOf (finA K (nsf x))) (zOf d') 0 (finA K (nsf x)).size →
          R2 ((putRow encI w2 g 0 d').drewN q) w.heap.size (w.heap.size + 1 + 1) (w.heap.size + 1) r n (.slice av svs.length cv) svs hd lists (fun z => left z && !z.sameKey (.string x.data.toList)) cnt2 (fun s => if s = x then d'.toList.map Fin.val else nsf s) ∧ ((putRow encI w2 g 0 d').drewN q).heap[w.heap.size]? = some (.cells #[.slice none 0 0, .map none] 80 (0, 0)) ∧ Below w.heap.size w ((putRow encI w2 g 0 d').drewN q)) := fun q d' hs ht hm => by
        have hg3 : w2.grownBy ((putRow encI w2 g 0 d').drewN q) (some g) := grown_putRow w2 g q d'
        have hown : InR ((putRow encI w2 g 0 d').drewN q) w.heap.size (hd x) (d'.toList.map Fin.val) := by
          have h1 := own_putRow (q := q) hrx2 (show d'.size = (nsf x).length by rw [hs, hsize])
          unfold InR
          have e1 : (d'.toList.map Fin.val).length = (nsf x).length := by rw [List.length_map]; exact Array.length_toList.trans (hs.trans hsize)
          rw [hx, e1, List.map_map]
          exact h1
        refine ⟨HR2.out.sorted HAP.out hg2 hgr2 hx hg3 hown ?_, ?_, ?_⟩
        · rw [hsize, hnx, ← HLL.out] at ht hm
          exact sortG_of (by rw [HLL.out]; exact hK) (by rw [hs, hsize, hnx, HLL.out]) ht hm
        · have h0 : w2.heap[w.heap.size]? = some (.cells #[.slice none 0 0, .map none] 80 (0, 0)) := (hg2.block _ (Array.getElem?_eq_some_iff.1 HRES.out).1 (HR2.out.gr.cells HRES.out).2).trans HRES.out
          exact row_stays h0 hrx2 (by decide) hg3
        · have hr1 : w.heap.size ≤ r := HR.out
          have hb2 := HB.out.grown hg2 HB.out.size (fun j hj => by injection hj with hj; omega)
          exact hb2.grown hg3 hb2.size (fun j hj => by injection hj with hj; rw [← hj]; exact (hrx2.lt g rfl).1)
      have HLT : Hid (∀ W, (∃ nsf, R2 W w.heap.size (w.heap.size + 1 + 1) (w.heap.size + 1) r n (.slice av svs.length cv) svs hd lists (fun z => left z && !z.sameKey (.string x.data.toList)) cnt2 nsf) → W.rangeLeft (w.heap.size + 1) r < wr.rangeLeft (w.heap.size + 1) r) := fun W h => by
        obtain ⟨nsf, h⟩ := h
        rw [h.gr.left_eq, HR2.out.gr.left_eq]
        exact hlt2
      rw [hsize] at HSORT
      clear hxs hlx hnn hgr2 hlt2 hg2 hng hn1 hK hnx hbx hwd hrw hrx hlt hne hrx2 hhold hcmp hrise hs40 HNX
      rw [hx]
      clear hx
      generalize (nsf x).length = gl at *
      refine HSORT.out.mono ?_
      rintro e w3 ⟨rfl, q, d', hs, ht, hm, rfl⟩
      have HD := Lib.hid (HDONE.out q d' (by rw [hs, hsize]) (by rw [hsize]; exact ht) (by rw [hsize]; exact hm))
      clear hs ht hm
      go_wp2_with fail
      go_roundw
      case rel => exact ⟨_, cnt2, _, HD.out.1, HD.out.2.1, HD.out.2.2⟩
      case measure => exact HLT.out _ ⟨_, HD.out.1⟩
theorem newIndex_any (terms : List ByteArray) (ad : Option Addr) (n c : Nat) (w : World) (hs : Sl w ad n (strs terms)) (hn : n ≤ 40) (hz : ∀ s ∈ terms, s.size ≤ 1000000) :
    Calls Try.prog 44 #[.slice ad n c] w fun e w' => ∃ wv M svs hd, e = .returned (.agg #[wv, .map (some M)]) ∧ IdxAt w' w.heap.size M wv svs hd (terms.map wordsB) ∧ Below w.heap.size w w' := by
  have hl := hs.len
  rw [strs_length] at hl
  refine newIndex_first terms ad n c w _ hs (by omega) hz ?_
  intro wr wv svs hd u4 u5 u6 u7 u8 u9 u10 u11 u12 u13 u14 u15 u16 u17 u18 u19 u20 u21 u22 u23 u24 u25 u26 u27 u28 u29 u30 u31 u32 u33 u34 u35 u36 u37 u38 u39 u40 u41 u42 u43 u44 u45 u46 u47 u48 u49 u50 u51 u52 u53 u54 hix hres hbl
  refine newIndex_second (terms.map wordsB) ad n c w wr wv svs hd _ _ _ _ _ _ _ _ _ _ _ _ _ _ _ _ _ _ _ _ _ _ _ _ _ _ _ _ _ _ _ _ _ _ _ _ _ _ _ _ _ _ _ _ _ _ _ _ _ _ _ (by rw [List.length_map]; exact hl) hn (fun i => ?_) hix hres hbl
  unfold lnW
  rw [List.getD_eq_getElem?_getD, List.getElem?_map]
  cases hq : terms[i]? with
  | none => simp
  | some s =>
    have h1 := wordsB_le s
    have h2 := hz s (List.mem_of_getElem? hq)
    simp only [Option.map_some, Option.getD_some]
    omega
end Go.Proofs.Ytkodnagneblgaaa
/- Plain: the first match in a sorted group is the reference's best. -/
namespace Go.Proofs.Ytkodnagneblgaaa
/-- a term stands at the beginning of some words -/
def mtB (lists : List (List ByteArray)) (ws : List ByteArray) (i : Nat) : Bool := decide (lists.getD i [] ≠ [] ∧ lists.getD i [] = ws.take (lnW lists i))
/-- the best of the first k terms -/
def bestTo (lists : List (List ByteArray)) (ws : List ByteArray) : Nat → Option Nat
  | 0 => none
  | k + 1 => match bestTo lists ws k with
    | none => if mtB lists ws k then some k else none
    | some b => if mtB lists ws k && decide (lnW lists b < lnW lists k) then some k else some b
def bestV (lists : List (List ByteArray)) (ws : List ByteArray) : Option Nat := bestTo lists ws lists.length
theorem mtB_iff {lists : List (List ByteArray)} {ws : List ByteArray} {i : Nat} : mtB lists ws i = true ↔ lists.getD i [] ≠ [] ∧ lists.getD i [] = ws.take (lnW lists i) := decide_eq_true_iff
theorem mtB_lt {lists : List (List ByteArray)} {ws : List ByteArray} {i : Nat} (h : mtB lists ws i = true) : i < lists.length := by
  rcases Nat.lt_or_ge i lists.length with h' | h'
  · exact h'
  · have := (mtB_iff.1 h).1
    rw [List.getD_eq_getElem?_getD, List.getElem?_eq_none h'] at this
    exact absurd rfl this
/-- the best of those below k -/
def IsBest (lists : List (List ByteArray)) (ws : List ByteArray) (k b : Nat) : Prop := b < k ∧ mtB lists ws b = true ∧ ∀ j, j < k → mtB lists ws j = true → j ≠ b → RW lists b j
theorem bestTo_spec (lists : List (List ByteArray)) (ws : List ByteArray) : ∀ k, (bestTo lists ws k = none ∧ ∀ j, j < k → mtB lists ws j = false) ∨ ∃ b, bestTo lists ws k = some b ∧ IsBest lists ws k b
  | 0 => .inl ⟨rfl, fun j hj => absurd hj (Nat.not_lt_zero _)⟩
  | k + 1 => by
    rcases bestTo_spec lists ws k with ⟨e, h⟩ | ⟨b, e, h1, h2, h3⟩
    · cases hm : mtB lists ws k with
      | true =>
        refine .inr ⟨k, by simp [bestTo, e, hm], by omega, hm, fun j hj hmj hne => ?_⟩
        have := h j (by omega)
        rw [hmj] at this; cases this
      | false =>
        refine .inl ⟨by simp [bestTo, e, hm], fun j hj => ?_⟩
        rcases Nat.lt_or_ge j k with h' | h'
        · exact h j h'
        · rw [show j = k by omega]; exact hm
    · by_cases hc : mtB lists ws k = true ∧ lnW lists b < lnW lists k
      · refine .inr ⟨k, by simp [bestTo, e, hc.1, hc.2], by omega, hc.1, fun j hj hmj hne => ?_⟩
        by_cases hjb : j = b
        · rw [hjb]; exact .inl hc.2
        · have := h3 j (by omega) hmj hjb
          unfold RW at *
          omega
      · refine .inr ⟨b, ?_, by omega, h2, fun j hj hmj hne => ?_⟩
        · simp only [bestTo, e]
          rw [if_neg (by simpa using hc)]
        · rcases Nat.lt_or_ge j k with h' | h'
          · exact h3 j h' hmj hne
          · obtain rfl : j = k := by omega
            have : ¬ lnW lists b < lnW lists j := fun h => hc ⟨hmj, h⟩
            unfold RW
            omega
theorem best_unique {lists : List (List ByteArray)} {ws : List ByteArray} {k a b : Nat} (ha : IsBest lists ws k a) (hb : IsBest lists ws k b) : a = b := by
  rcases Decidable.em (a = b) with h | h
  · exact h
  · have h1 := ha.2.2 b hb.1 hb.2.1 (fun e => h e.symm)
    have h2 := hb.2.2 a ha.1 ha.2.1 h
    unfold RW at h1 h2
    omega
/-- a match begins with the first word -/
theorem mt_head {lists : List (List ByteArray)} {s : ByteArray} {r : List ByteArray} {i : Nat} (h : mtB lists (s :: r) i = true) : (lists.getD i []).head? = some s := by
  obtain ⟨h1, h2⟩ := mtB_iff.1 h
  cases hq : lists.getD i [] with
  | nil => exact absurd hq h1
  | cons x t =>
    rw [hq] at h2
    cases hl : lnW lists i with
    | zero => rw [hl] at h2; cases h2
    | succ m => rw [hl] at h2; injection h2 with h2 _; rw [h2]; rfl
/-- the first match of the group in order -/
theorem find_best {lists : List (List ByteArray)} {s : ByteArray} {r : List ByteArray} {ns : List Nat} (h : SortG lists s ns) : ns.find? (mtB lists (s :: r)) = bestV lists (s :: r) := by
  obtain ⟨h1, h2⟩ := h
  have hmem : ∀ j, mtB lists (s :: r) j = true → j ∈ ns := fun j hj => (h1 j).2 (grp_mem.2 ⟨mtB_lt hj, mt_head hj⟩)
  rcases bestTo_spec lists (s :: r) lists.length with ⟨e, h⟩ | ⟨b, e, hb⟩
  · unfold bestV
    rw [e, List.find?_eq_none]
    intro x hx hmx
    rw [h x (mtB_lt hmx)] at hmx
    cases hmx
  · unfold bestV
    rw [e]
    cases hq : ns.find? (mtB lists (s :: r)) with
    | none =>
      rw [List.find?_eq_none] at hq
      exact absurd hb.2.1 (hq b (hmem b hb.2.1))
    | some a =>
      have ha := List.find?_some hq
      obtain ⟨_, l1, l2, e2, hbef⟩ := List.find?_eq_some_iff_append.1 hq
      have : IsBest lists (s :: r) lists.length a := ⟨mtB_lt ha, ha, fun j _ hmj hne => by
        have hj := hmem j hmj
        rw [e2] at hj h2
        rcases List.mem_append.1 hj with hj | hj
        · have := hbef j hj
          rw [hmj] at this
          cases this
        · rcases List.mem_cons.1 hj with hj | hj
          · exact absurd hj hne
          · exact (List.pairwise_cons.1 (List.pairwise_append.1 h2).2.1).1 j hj⟩
      rw [best_unique this hb]
end Go.Proofs.Ytkodnagneblgaaa
/- Walks: the term that is found at the beginning of some words. -/
namespace Go.Proofs.Ytkodnagneblgaaa
open Go.RowKit Go.Maps Go.Sort
attribute [local go_sem] Ext.cell Ext.frozen
attribute [local go_sem ↓] Go.wp_at_zero Go.wp_at_succ
/-- the result of at -/
def atI : Option Nat → Int
  | none => -1
  | some i => (i : Int)
theorem find_at {α : Type} {p : α → Bool} {d : α} : ∀ {l : List α} {k : Nat}, (∀ j, j < k → p (l.getD j d) = false) → k < l.length → p (l.getD k d) = true → l.find? p = some (l.getD k d)
  | [], _, _, hk, _ => absurd hk (Nat.not_lt_zero _)
  | x :: l, 0, _, _, hp => by
    have : p x = true := hp
    rw [List.find?_cons_of_pos this]; rfl
  | x :: l, k + 1, h, hk, hp => by
    have h0 : p x = false := h 0 (Nat.succ_pos _)
    rw [List.find?_cons_of_neg (by rw [h0]; simp)]
    have := find_at (l := l) (k := k) (d := d) (fun j hj => h (j + 1) (by omega)) (by simpa using hk) hp
    rw [this]; rfl
theorem find_no {α : Type} {p : α → Bool} {d : α} {l : List α} (h : ∀ j, j < l.length → p (l.getD j d) = false) : l.find? p = none := by
  rw [List.find?_eq_none]
  intro x hx hpx
  obtain ⟨j, hj, rfl⟩ := List.getElem_of_mem hx
  have := h j hj
  rw [List.getD_eq_getElem?_getD, List.getElem?_eq_getElem hj] at this
  simp only [Option.getD_some] at this
  rw [this] at hpx
  cases hpx
theorem take_of_mt {lists : List (List ByteArray)} {ws : List ByteArray} {i : Nat} (hne : lists.getD i [] ≠ []) : mtB lists ws i = decide ((lists.getD i []).take (lnW lists i) = ws.take (lnW lists i)) := by
  unfold mtB
  have : (lists.getD i []).take (lnW lists i) = lists.getD i [] := List.take_of_length_le (Nat.le_refl _)
  rw [this]
  by_cases h : lists.getD i [] = ws.take (lnW lists i)
  · rw [decide_eq_true h, decide_eq_true ⟨hne, h⟩]
  · rw [decide_eq_false h, decide_eq_false (fun e => h e.2)]
theorem mt_long {lists : List (List ByteArray)} {ws : List ByteArray} {i : Nat} (h : ws.length < lnW lists i) : mtB lists ws i = false := by
  unfold mtB
  refine decide_eq_false (fun e => ?_)
  have := congrArg List.length e.2
  rw [List.length_take] at this
  unfold lnW at h this
  omega
theorem InR.sl {w : World} {base : Nat} {ad : Option Addr} {n c : Nat} {ns : List Nat} (h : InR w base (.slice ad n c) ns) : ns.length = n ∧ Sl w ad n (ns.map fun (k : Nat) => Value.int .i64 (k : Int)) := by
  have hn : ns.length = n := by
    rcases h.2 with ⟨e, h0⟩ | ⟨g, cap, cur, e, _⟩
    · injection e with _ e2 _; omega
    · injection e with _ e2 _; exact e2.symm
  unfold InR at h
  rw [hn] at h
  exact ⟨hn, Own.sl h⟩
set_option maxRecDepth 100000 in
set_option maxHeartbeats 8000000 in
theorem at_any (lists : List (List ByteArray)) (w : World) (base M : Nat) (wv : Value) (svs : List Value) (hd : ByteArray → Value) (hI : IdxAt w base M wv svs hd lists) (hL : ∀ i, lnW lists i ≤ 1000000000) (wb wo n c : Nat) (ws : List ByteArray) (hws : ws.length = n) (hn : 0 < n) (hnc : n ≤ c) (_hc9 : c ≤ 9223372036854775807)
    (hcell : ∀ j, j < n → w.cell? ⟨wb, wo + j, none⟩ = some (.string (ws.getD j .empty))) (hsz : ∀ s ∈ ws, s.size ≤ 1000000) :
    Calls Try.prog 45 #[.agg #[wv, .map (some M)], .slice (some ⟨wb, wo, none⟩) n c] w fun e w' => e = .returned (.int .i64 (atI (bestV lists ws))) ∧ Below w.heap.size w w' := by
  obtain ⟨av, cv, rfl⟩ := hI.words.form
  obtain ⟨s0, rs, hws0⟩ : ∃ s0 rs, ws = s0 :: rs := by
    cases ws with
    | nil => simp at hws; omega
    | cons a b => exact ⟨a, b, rfl⟩
  have hs0 : s0.size ≤ maxLen := by have := hsz s0 (by rw [hws0]; simp); unfold maxLen; omega
  obtain ⟨ns, hns, hsort⟩ := hI.rows s0 hs0
  have hlook := fun W (hb : Below w.heap.size w W) => (hI.below hb).gm.look s0 hs0
  have hfb := find_best (r := rs) hsort
  rw [← hws0] at hfb
  have hmem : ∀ k, k < ns.length → ns.getD k 0 < lists.length ∧ lists.getD (ns.getD k 0) [] ≠ [] := fun k hk => by
    have h1 := (hsort.1 (ns.getD k 0)).1 (getD_mem ns k 0 hk)
    obtain ⟨h2, h3⟩ := grp_mem.1 h1
    exact ⟨h2, fun e => by rw [e] at h3; cases h3⟩
  obtain ⟨hv, hhv⟩ : ∃ hv, hd s0 = hv := ⟨_, rfl⟩
  rw [hhv] at hns
  have hlook2 : ∀ W, Below w.heap.size w W → (Instr.lookup 78 (.map (some M)) (.string s0) false).run Try.prog W = .ok hv W := fun W hb => by rw [← hhv]; exact hlook W hb
  obtain ⟨ad3, c3, rfl⟩ : ∃ ad3 c3, hv = .slice ad3 ns.length c3 := own_form hns
  obtain ⟨_, hnsl⟩ := InR.sl hns
  have hw0 : w.cell? ⟨wb, wo, none⟩ = some (.string s0) := by
    have := hcell 0 hn
    rw [Nat.add_zero, hws0] at this
    exact this
  have hwlt : wb < w.heap.size := World.block_lt_of_cell? w _ hw0
  have HLK := Lib.hid hlook2
  have HFB := Lib.hid hfb
  have HMEM := Lib.hid hmem
  have HNS := Lib.hid hnsl
  have hmx := hnsl.max
  have HW := Lib.hid hI.words
  have HCELL := Lib.hid hcell
  have HWS := Lib.hid hws
  have HLN := Lib.hid hL
  have HEQ := Lib.hid Try.slices_Equal_string
  have hn0 : (0 : Int) < (n : Int) := by omega
  have hw1 : (w.alloc (.cells #[.slice av svs.length cv, .map (some M)] 80)).cell? ⟨wb, wo, none⟩ = some (.string s0) := Lib.cell?_alloc_some _ hw0
  clear hI hws0 hs0 hns hsort hlook hlook2 hfb hmem hhv hsz hnsl hcell hws hL hw0
  go_enter Try.func45, Try.ntmps45
  go_upto_region 1 with (fail)
  have HLQ := fun q => HLK.out ((w.alloc (.cells #[.slice av svs.length cv, .map (some M)] 80)).drewN q) (Bel.drewN (Bel.alloc (Bel.refl _) _) q)
  have HB0 : Hid (Below w.heap.size w (w.alloc (.cells #[.slice av svs.length cv, .map (some M)] 80))) := Bel.alloc (Bel.refl _) _
  have hx0 : (w.alloc (.cells #[.slice av svs.length cv, .map (some M)] 80)).cell? ⟨w.heap.size, 0, none⟩ = some (.slice av svs.length cv) := by rw [Lib.cell_of_heap (heap_alloc_new w _)]; rfl
  have hx1 : (w.alloc (.cells #[.slice av svs.length cv, .map (some M)] 80)).cell? ⟨w.heap.size, 1, none⟩ = some (.map (some M)) := by rw [Lib.cell_of_heap (heap_alloc_new w _)]; rfl
  generalize w.alloc (.cells #[.slice av svs.length cv, .map (some M)] 80) = w1 at *
  go_quiet (fail)
  go_wp2_with fail
  have HB1 : Hid (Below w.heap.size w (w1.drewN nq)) := Bel.drewN HB0.out nq
  have hq0 : (w1.drewN nq).cell? ⟨w.heap.size, 0, none⟩ = some (.slice av svs.length cv) := hx0
  clear HB0 hx0 hx1 HLQ hw1
  generalize w1.drewN nq = w2 at *
  have HX0 := Lib.hid hq0
  clear hq0
  go_loopw [15] (fun u wr => ∃ k : Nat, u = .int .i64 (k : Int) ∧ k ≤ ns.length ∧ (∀ j, j < k → mtB lists ws (ns.getD j 0) = false) ∧ Below w.heap.size w wr ∧ wr.cell? ⟨w.heap.size, 0, none⟩ = some (.slice av svs.length cv)) (fun u _ => ns.length - (intOf u).toNat)
  case atStart => exact ⟨0, rfl, Nat.zero_le _, fun j hj => absurd hj (Nat.not_lt_zero _), HB1.out, HX0.out⟩
  case round =>
    obtain ⟨k, rfl, hk, hno, hbl, hx⟩ := hrel
    have HNO := Lib.hid hno
    have HB := Lib.hid hbl
    clear hno hbl HX0 HB1
    by_cases hlt : k < ns.length
    · obtain ⟨hil, hie⟩ := HMEM.out k hlt
      obtain ⟨b3, o3, hsa3⟩ := HNS.out.below HB.out
      have hix3 := fun W => hsa3.ix (c := c3) 93 3 Try.underlying93 cellsInt hlt W
      have hc3 := hsa3.cell k hlt
      have hc3' : wr.cell? ⟨b3, o3 + k, none⟩ = some (.int .i64 ((ns.getD k 0 : Nat) : Int)) := by
        rw [hc3, List.getD_eq_getElem?_getD, List.getElem?_map, List.getD_eq_getElem?_getD, List.getElem?_eq_getElem hlt]; rfl
      have HTN : Hid (mtB lists ws (ns.getD k 0) = true → atI (bestV lists ws) = ((ns.getD k 0 : Nat) : Int)) := fun h => by
        rw [← HFB.out, find_at (d := 0) HNO.out hlt h]; rfl
      have HNX : Hid (mtB lists ws (ns.getD k 0) = false → ∀ j, j < k + 1 → mtB lists ws (ns.getD j 0) = false) := fun h j hj => by
        by_cases e : j = k
        · rw [e]; exact h
        · exact HNO.out j (by omega)
      have HTK := Lib.hid (take_of_mt (ws := ws) hie)
      have HLG : Hid (n < lnW lists (ns.getD k 0) → mtB lists ws (ns.getD k 0) = false) := fun h => mt_long (by rw [HWS.out]; exact h)
      have HWW := HW.out.below HB.out
      have hsl := HWW.len
      have hlnp : 0 < lnW lists (ns.getD k 0) := List.length_pos_iff.2 hie
      have hlnb := HLN.out (ns.getD k 0)
      obtain ⟨ad5, c5, e5⟩ := (HWW.each _ hil).form
      have HROW5 := HWW.each _ hil
      rw [e5] at HROW5
      obtain ⟨b5, o5, hsa5⟩ := Own.sl HROW5
      have ha5 := hsa5.adr (by unfold lnW at hlnp; omega)
      subst ha5
      obtain ⟨b4, o4, hsa4⟩ := Own.sl HWW.row
      have hix4 := fun W => hsa4.ix (c := cv) 74 39 Try.underlying74 cellsStrs (show ns.getD k 0 < svs.length by omega) W
      have hc4 := hsa4.cell (ns.getD k 0) (by omega)
      rw [e5] at hc4
      have HC5 : Hid (∀ j, j < (lists.getD (ns.getD k 0) []).length → wr.cell? ⟨b5, o5 + j, none⟩ = some (.string ((lists.getD (ns.getD k 0) []).getD j .empty))) := fun j hj => by
        rw [hsa5.cell j hj, strs_getD _ _ hj]
      have HC6 : Hid (∀ j, j < ws.length → wr.cell? ⟨wb, wo + j, none⟩ = some (.string (ws.getD j .empty))) := fun j hj => by
        rw [HWS.out] at hj
        exact (HB.out.cell (p := ⟨wb, wo + j, none⟩) hwlt).trans (HCELL.out j hj)
      have HLW : Hid ((lists.getD (ns.getD k 0) []).length = lnW lists (ns.getD k 0)) := rfl
      have hlne : (lists.getD (ns.getD k 0) []).length = lnW lists (ns.getD k 0) := rfl
      rw [hlne] at hc4
      have HEQ1 : Hid (lnW lists (ns.getD k 0) ≤ n → ∀ d, Calls Try.prog 52 #[.slice (some ⟨b5, o5, none⟩) (lnW lists (ns.getD k 0)) c5, .slice (some ⟨wb, wo, none⟩) (lnW lists (ns.getD k 0)) d] wr fun e w' => e = .returned (.bool (mtB lists ws (ns.getD k 0))) ∧ ∃ q, w' = wr.drewN q) := fun h d => by
        have := HEQ.out b5 o5 (lnW lists (ns.getD k 0)) c5 wb wo (lnW lists (ns.getD k 0)) d (lists.getD (ns.getD k 0) []) ws wr (Nat.le_refl _) (by rw [HWS.out]; exact h) (by omega) (by omega) HC5.out HC6.out
        rw [HTK.out]
        exact this
      have hlz : (k : Int) < (ns.length : Int) := by omega
      clear hsa3 hc3 hsa4 hsa5 HC5 HC6 HROW5 HWW e5 hil hie HTK hlne hsl
      generalize mtB lists ws (ns.getD k 0) = mt at *
      generalize lnW lists (ns.getD k 0) = ln at *
      generalize ns.getD k 0 = ik at *
      by_cases hln : ln ≤ n
      · have hlz2 : (ln : Int) ≤ (n : Int) := by omega
        have dlz2 : decide ((ln : Int) ≤ (n : Int)) = true := decide_eq_true hlz2
        have HE := Lib.hid (HEQ1.out hln)
        clear HEQ1 HLG
        go_wp2_with fail
        refine (HE.out _).mono ?_
        rintro e w3 ⟨rfl, q3, rfl⟩
        have HBQ : Hid (Below w.heap.size w (wr.drewN q3)) := Bel.drewN HB.out q3
        have hx3 : (wr.drewN q3).cell? ⟨w.heap.size, 0, none⟩ = some (.slice av svs.length cv) := hx
        have HX3 := Lib.hid hx3
        clear hx3
        cases mt with
        | true =>
          have HT := Lib.hid (HTN.out rfl)
          go_wp2_with fail
          go_ret
          exact ⟨by rw [HT.out]; rfl, HBQ.out⟩
        | false =>
          have HN2 := Lib.hid (HNX.out rfl)
          go_wp2_with fail
          go_roundw
          case rel => exact ⟨k + 1, by go_num, by omega, HN2.out, HBQ.out, HX3.out⟩
          case measure => simp [intOf]; omega
      · have hlz2 : ¬ (ln : Int) ≤ (n : Int) := by omega
        have dlz2 : decide ((ln : Int) ≤ (n : Int)) = false := decide_eq_false hlz2
        have HN2 := Lib.hid (HNX.out (HLG.out (by omega)))
        clear HEQ1 HLG HTN HNX
        go_wp2_with fail
        go_roundw
        case rel => exact ⟨k + 1, by go_num, by omega, HN2.out, HB.out, hx⟩
        case measure => simp [intOf]; omega
    · obtain rfl : k = ns.length := by omega
      have HV : Hid (atI (bestV lists ws) = -1) := by
        rw [Hid, ← HFB.out, find_no (d := 0) HNO.out]; rfl
      go_wp2_with fail
      go_ret
      exact ⟨by rw [HV.out]; rfl, HB.out⟩
end Go.Proofs.Ytkodnagneblgaaa
