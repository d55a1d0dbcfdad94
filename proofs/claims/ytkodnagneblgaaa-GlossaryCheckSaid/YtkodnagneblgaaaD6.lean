/- Walks: the index of terms, whole. -/
import Derived.Test.YtkodnagneblgaaaD5
namespace Go.Proofs.Ytkodnagneblgaaa
open Go.RowKit Go.Maps Go.Sort
attribute [local go_sem] Ext.cell Ext.frozen
attribute [local go_sem ↓] Go.wp_at_zero Go.wp_at_succ
/-- an index in memory -/
structure IdxAt (w : World) (base M : Nat) (wv : Value) (svs : List Value) (hd : ByteArray → Value) (lists : List (List ByteArray)) : Prop where
  words : WordsAt w base wv svs lists
  gm : GM w M lists.length hd
  rows : ∀ s : ByteArray, s.size ≤ maxLen → ∃ ns, InR w base (hd s) ns ∧ SortG lists s ns
theorem IdxAt.below {w w' : World} {base M : Nat} {wv : Value} {svs : List Value} {hd : ByteArray → Value} {lists : List (List ByteArray)} (h : IdxAt w base M wv svs hd lists) (hb : Below w.heap.size w w') : IdxAt w' base M wv svs hd lists :=
  ⟨h.words.below hb, h.gm.same (hb.block _ h.gm.lt), fun s hs => by obtain ⟨ns, h1, h2⟩ := h.rows s hs; exact ⟨ns, own_kept_none h1 (grown_none hb), h2⟩⟩
theorem below_of_none {w w' : World} (h : w.grownBy w' none) : Below w.heap.size w w' := ⟨h.os, h.tape, h.output, h.size, fun k hk => h.block k hk (by simp)⟩
/-- 'next', its facts aside -/
theorem next_gr' {ops : Array Oper} {rest : List Oper} {o : Oper} {a : Act} {Q : Exit → Act → World → Prop} {w : World} (hg : o.guard = none) (it : Operand) (hop : o.op = Op.next it false) (M r n : Nat) (hd : ByteArray → Value) (left : Lit → Bool) (cnt : Nat)
    (hit : a.eval it = .pointer (some ⟨r, 0, none⟩)) (h : GR w M r n hd left cnt)
    (hDone : Hid (∀ kl, left kl = false) → wpList Try.prog ops Q rest (a.put o.dst (.tuple #[.bool false])) w)
    (hMore : ∀ (x : ByteArray) (w' : World) (cnt' : Nat), Hid (x.size ≤ maxLen ∧ left (.string x.data.toList) = true ∧ hd x ≠ .slice none 0 0 ∧ GR w' M r n hd (fun z => left z && !z.sameKey (.string x.data.toList)) cnt' ∧ cnt' < cnt ∧ w.grownBy w' (some r)) →
      (Instr.entry (.pointer (some ⟨r, 0, none⟩))).run Try.prog w' = .ok (.tuple #[.string x, hd x]) w' → wpList Try.prog ops Q rest (a.put o.dst (.tuple #[.bool true, .string x, hd x])) w') : wpList Try.prog ops Q (o :: rest) a w :=
  next_gr hg it hop M r n hd left cnt hit h hDone fun x w' cnt' h1 h2 h3 h4 h5 h6 _ h8 => hMore x w' cnt' ⟨h1, h2, h3, h4, h5, h6⟩ h8
theorem GR.cells {w : World} {M r n : Nat} {hd : ByteArray → Value} {left : Lit → Bool} {cnt : Nat} (h : GR w M r n hd left cnt) {k : Nat} {cur : Array Value} {T : TypeId} {fr : Nat × Nat} (hk : w.heap[k]? = some (.cells cur T fr)) : some k ≠ some M ∧ some k ≠ some r := by
  obtain ⟨D, ⟨es, clock, since, seen, c0, h1, _, _, _, h5, _⟩, _⟩ := h
  refine ⟨fun e => ?_, fun e => ?_⟩
  · injection e with e
    rw [e, h1] at hk
    cases hk
  · injection e with e
    rw [e, h5] at hk
    cases hk
theorem own_apart_iter {w w' : World} {M r n : Nat} {hd : ByteArray → Value} {left : Lit → Bool} {cnt : Nat} (h : GR w M r n hd left cnt) {base : Nat} {E : TypeId} {sz : Nat} {v : Value} {k : Nat} {xs : List Value} (hr : w.ownsRow base E sz v k xs) (hg : w.grownBy w' (some r)) : w'.ownsRow base E sz v k xs :=
  hr.kept hg (.inr (fun e => (h.apart hr).2 e.symm))
/-- the ranging under way: what the rows hold -/
structure R2 (w : World) (base xb M r n : Nat) (wv : Value) (svs : List Value) (hd : ByteArray → Value) (lists : List (List ByteArray)) (left : Lit → Bool) (cnt : Nat) (nsf : ByteArray → List Nat) : Prop where
  gr : GR w M r n hd left cnt
  box : w.heap[xb]? = some (.cells #[wv, .map (some M)] 80 (0, 0))
  words : WordsAt w base wv svs lists
  rows : ∀ s, InR w base (hd s) (nsf s)
  todo : ∀ s : ByteArray, s.size ≤ maxLen → left (.string s.data.toList) = true → nsf s = grp lists n s
  done : ∀ s : ByteArray, s.size ≤ maxLen → left (.string s.data.toList) = false → SortG lists s (nsf s)
theorem R2.iter {w w' : World} {base xb M r n : Nat} {wv : Value} {svs : List Value} {hd : ByteArray → Value} {lists : List (List ByteArray)} {left _left' : Lit → Bool} {cnt _cnt' : Nat} {nsf : ByteArray → List Nat} (h : R2 w base xb M r n wv svs hd lists left cnt nsf)
    (hg : w.grownBy w' (some r)) : w'.heap[xb]? = some (.cells #[wv, .map (some M)] 80 (0, 0)) ∧ WordsAt w' base wv svs lists ∧ ∀ s, InR w' base (hd s) (nsf s) :=
  ⟨(hg.block _ (Array.getElem?_eq_some_iff.1 h.box).1 (h.gr.cells h.box).2).trans h.box, ⟨own_apart_iter h.gr h.words.row hg, h.words.len, fun j hj => own_apart_iter h.gr (h.words.each j hj) hg⟩, fun s => own_apart_iter h.gr (h.rows s) hg⟩
/-- a group is sorted -/
theorem R2.sorted {w w2 w3 : World} {base xb M r n g cap : Nat} {wv : Value} {svs : List Value} {hd : ByteArray → Value} {lists : List (List ByteArray)} {left : Lit → Bool} {cnt cnt' : Nat} {nsf : ByteArray → List Nat} {x : ByteArray} {ns' : List Nat}
    (h : R2 w base xb M r n wv svs hd lists left cnt nsf) (ha : ∀ s t, s ≠ t → (hd s).ownBlock = none ∨ (hd s).ownBlock ≠ (hd t).ownBlock) (hg : w.grownBy w2 (some r)) (hgr : GR w2 M r n hd (fun z => left z && !z.sameKey (.string x.data.toList)) cnt') (hx : hd x = .slice (some ⟨g, 0, none⟩) (nsf x).length cap)
    (hg3 : w2.grownBy w3 (some g)) (hown : InR w3 base (hd x) ns') (hst : SortG lists x ns') : R2 w3 base xb M r n wv svs hd lists (fun z => left z && !z.sameKey (.string x.data.toList)) cnt' (fun s => if s = x then ns' else nsf s) := by
  obtain ⟨hb, hw, hr⟩ := h.iter (_left' := left) (_cnt' := cnt') hg
  have hrx := hr x
  have hbl : (hd x).ownBlock = some g := by rw [hx]; rfl
  have hg3' : w2.grownBy w3 (hd x).ownBlock := by rw [hbl]; exact hg3
  have hap := hgr.apart hrx
  rw [hbl] at hap
  refine ⟨hgr.kept hg3 hap.1 hap.2, row_stays hb hrx (by decide) hg3', hw.at_other hrx (by decide) (by decide) hg3', fun s => ?_, fun s hs hl => ?_, fun s hs hl => ?_⟩
  · by_cases e : s = x
    · simp only [e, if_true]; exact hown
    · simp only [e, if_false]; exact (hr s).kept hg3' (ha s x e)
  · simp only [Bool.and_eq_true, sameKey_str, Bool.not_eq_true', decide_eq_false_iff_not] at hl
    simp only [hl.2, if_false]
    exact h.todo s hs hl.1
  · by_cases e : s = x
    · simp only [e, if_true]; exact hst
    · simp only [e, if_false]
      refine h.done s hs ?_
      simpa [sameKey_str, e] using hl
set_option maxRecDepth 100000 in
set_option maxHeartbeats 8000000 in
theorem newIndex_second (lists : List (List ByteArray)) (ad : Option Addr) (n c : Nat) (w wr : World) (wv : Value) (svs : List Value) (hd : ByteArray → Value) (u4 u5 u6 u7 u8 u9 u10 u11 u12 u13 u14 u15 u16 u17 u18 u19 u20 u21 u22 u23 u24 u25 u26 u27 u28 u29 u30 u31 u32 u33 u34 u35 u36 u37 u38 u39 u40 u41 u42 u43 u44 u45 u46 u47 u48 u49 u50 u51 u52 u53 u54 : Value) (hll : lists.length = n) (hn : n ≤ 40) (hlw : ∀ i, lnW lists i ≤ 1000000000)
    (hix : IX wr w.heap.size (w.heap.size + 1 + 1) (w.heap.size + 1) n n wv svs hd lists) (hres : wr.heap[w.heap.size]? = some (.cells #[.slice none 0 0, .map none] 80 (0, 0))) (hbl : Below w.heap.size w wr) :
    (idxC 10).wp Try.prog (bodyPost Try.prog Try.f44 fun e w' => ∃ wv M svs hd, e = .returned (.agg #[wv, .map (some M)]) ∧ IdxAt w' w.heap.size M wv svs hd lists ∧ Below w.heap.size w w')
      ⟨#[.slice ad n c, undef, .pointer (some ⟨w.heap.size, 0, none⟩), .pointer (some ⟨w.heap.size + 1 + 1, 0, none⟩), u4, u5, u6, u7, u8, u9, u10, u11, u12, u13, u14, u15, u16, u17, u18, u19, u20, u21, u22, u23, u24, u25, u26, u27, u28, u29, u30, u31, u32, u33, u34, u35, u36, u37, u38, u39, u40, u41, u42, u43, u44, u45, u46, u47, u48, u49, u50, u51, u52, u53, u54], []⟩ wr := by
  obtain ⟨av, cv, rfl⟩ := hix.words.form
  have HIX := Lib.hid hix
  have HRES := Lib.hid hres
  have HB := Lib.hid hbl
  have HLL := Lib.hid hll
  have HLW := Lib.hid hlw
  have hmf : ∀ (fn : Fn) (first cap : Array Value) (w : World), (Instr.makeFunc fn first cap).run Try.prog w = .ok (.func fn first cap) w := fun _ _ _ _ => rfl
  have hc1 : wr.cell? ⟨w.heap.size + 1 + 1, 1, none⟩ = some (.map (some (w.heap.size + 1))) := by rw [Lib.cell_of_heap hix.box]; rfl
  clear hix hres hbl hll hlw
  dsimp only
  conv => arg 2; whnf
  go_wp2_with (first | (at_range; refine range_gm rfl _ rfl _ n hd rfl HIX.out.gm ?_; intro w0 left0 cnt0 hgr0 hleft0 hg0 hs0; have HGR0 := Lib.hid hgr0; have HL0 := Lib.hid hleft0; have HG0 := Lib.hid hg0; clear hgr0 hleft0 hg0 hs0))
  go_frame
  have HST : Hid (∃ nsf, R2 w0 w.heap.size (w.heap.size + 1 + 1) (w.heap.size + 1) wr.heap.size n (.slice av svs.length cv) svs hd lists left0 cnt0 nsf) := by
    have h0 := HIX.out.below (below_of_none HG0.out)
    have hwd := h0.words
    rw [List.take_of_length_le (by rw [HLL.out]; exact Nat.le_refl _)] at hwd
    refine ⟨fun s => grp lists n s, HGR0.out, h0.box, hwd, h0.rows, fun _ _ _ => rfl, fun s hs hl => ?_⟩
    have hnil := HL0.out s hs hl
    have h2 := h0.rows s
    rw [hnil] at h2
    have hlen : (grp lists n s).length = 0 := by
      rcases h2.2 with ⟨_, e⟩ | ⟨g, cap, cur, e, _⟩
      · exact e
      · cases e
    have he : grp lists n s = [] := List.eq_nil_of_length_eq_zero hlen
    refine ⟨fun j => by rw [HLL.out], ?_⟩
    show (grp lists n s).Pairwise _
    rw [he]
    exact List.Pairwise.nil
  have HRES0 : Hid (w0.heap[w.heap.size]? = some (.cells #[.slice none 0 0, .map none] 80 (0, 0))) := (HG0.out.block _ (Array.getElem?_eq_some_iff.1 HRES.out).1 (by simp)).trans HRES.out
  have HB0 : Hid (Below w.heap.size w w0) := HB.out.trans ((below_of_none HG0.out).mono HB.out.size)
  have HAP := Lib.hid HIX.out.apart
  have HNZ := Lib.hid HIX.out.nz
  obtain ⟨r, hr⟩ : ∃ r, wr.heap.size = r := ⟨_, rfl⟩
  rw [hr] at HST HGR0 ⊢
  have HR : Hid (w.heap.size ≤ r) := by rw [Hid, ← hr]; exact HB.out.size
  clear hc1 HL0 HG0 HRES HB HIX HGR0 hr
  go_loopw [8] (fun _ wq => ∃ left cnt nsf, R2 wq w.heap.size (w.heap.size + 1 + 1) (w.heap.size + 1) r n (.slice av svs.length cv) svs hd lists left cnt nsf ∧ wq.heap[w.heap.size]? = some (.cells #[.slice none 0 0, .map none] 80 (0, 0)) ∧ Below w.heap.size w wq) (fun _ wq => wq.rangeLeft (w.heap.size + 1) r)
  case atStart =>
    obtain ⟨nsf, h⟩ := HST.out
    exact ⟨left0, cnt0, nsf, h, HRES0.out, HB0.out⟩
  case round =>
    obtain ⟨left, cnt, nsf, hr2, hres, hbl⟩ := hrel
    have HR2 := Lib.hid hr2
    have HRES := Lib.hid hres
    have HB := Lib.hid hbl
    clear hr2 hres hbl HST HRES0 HB0
    have b0 : wr.cell? ⟨w.heap.size + 1 + 1, 0, none⟩ = some (.slice av svs.length cv) := by rw [Lib.cell_of_heap HR2.out.box]; rfl
    have b1 : wr.cell? ⟨w.heap.size + 1 + 1, 1, none⟩ = some (.map (some (w.heap.size + 1))) := by rw [Lib.cell_of_heap HR2.out.box]; rfl
    have b2 : wr.cell? ⟨w.heap.size, 0, none⟩ = some (.slice none 0 0) := by rw [Lib.cell_of_heap HRES.out]; rfl
    have b3 : wr.cell? ⟨w.heap.size, 1, none⟩ = some (.map none) := by rw [Lib.cell_of_heap HRES.out]; rfl
    have f2 : wr.frozen? ⟨w.heap.size, 0, none⟩ = false := by have := HRES.out; simp [World.frozen?, this]
    have f3 : wr.frozen? ⟨w.heap.size, 1, none⟩ = false := by have := HRES.out; simp [World.frozen?, this]
    go_wp2_with (first | (at_next; refine next_gr' rfl _ rfl (w.heap.size + 1) r n hd left cnt rfl HR2.out.gr (fun HL0 => ?_) (fun x w2 cnt2 HNX hen => ?_)))
    · have HFIN : Hid (IdxAt ((wr.setCell ⟨w.heap.size, 0, none⟩ (.slice av svs.length cv)).setCell ⟨w.heap.size, 1, none⟩ (.map (some (w.heap.size + 1)))) w.heap.size (w.heap.size + 1) (.slice av svs.length cv) svs hd lists) := by
        have h2 := HR2.out
        have g1 := grown_setCell wr w.heap.size 0 (.slice av svs.length cv)
        have e1 : (wr.setCell ⟨w.heap.size, 0, none⟩ (.slice av svs.length cv)).heap[w.heap.size]? = some (.cells #[.slice av svs.length cv, .map none] 80 (0, 0)) := by
          simp [World.setCell, Array.getElem?_modify, HRES.out]
        have g2 := grown_setCell (wr.setCell ⟨w.heap.size, 0, none⟩ (.slice av svs.length cv)) w.heap.size 1 (.map (some (w.heap.size + 1)))
        have w1 := h2.words.at_cells HRES.out (by decide) (by decide) g1
        have w2 := w1.at_cells e1 (by decide) (by decide) g2
        have m1 := h2.gr.gm.kept g1 (fun e => (h2.gr.cells HRES.out).1 e.symm)
        have m2 := m1.kept g2 (fun e => (h2.gr.cells HRES.out).1 e.symm)
        rw [← HLL.out] at m2
        exact ⟨w2, m2, fun s hs => ⟨nsf s, own_kept_at (own_kept_at (h2.rows s) HRES.out (by decide) g1) e1 (by decide) g2, h2.done s hs (HL0.out _)⟩⟩
      have HBF : Hid (Below w.heap.size w ((wr.setCell ⟨w.heap.size, 0, none⟩ (.slice av svs.length cv)).setCell ⟨w.heap.size, 1, none⟩ (.map (some (w.heap.size + 1))))) :=
        Bel.setCell (Bel.setCell HB.out _ _ (Nat.le_refl _)) _ _ (Nat.le_refl _)
      have hheap : ((wr.setCell ⟨w.heap.size, 0, none⟩ (.slice av svs.length cv)).setCell ⟨w.heap.size, 1, none⟩ (.map (some (w.heap.size + 1)))).heap[w.heap.size]? = some (.cells #[.slice av svs.length cv, .map (some (w.heap.size + 1))] 80 (0, 0)) := by
        simp [World.setCell, Array.getElem?_modify, HRES.out]
      refine bodyPost_ret (results_cell_row rfl _ _ w.heap.size 80 #[.slice av svs.length cv, .map (some (w.heap.size + 1))] (0, 0) _ rfl hheap Try.underlying80 rfl (by kernel_rfl)) rfl ?_
      exact ⟨_, _, svs, hd, rfl, HFIN.out, HBF.out⟩
    · obtain ⟨hxs, hlx, hnn, hgr2, hlt2, hg2⟩ := HNX.out
      have hng := (HNZ.out x).resolve_left hnn
      have hn1 : 0 < n := by
        obtain ⟨j, hj⟩ := List.exists_mem_of_ne_nil _ hng
        have := (grp_mem.1 hj).1
        omega
      obtain ⟨K, hK⟩ : ∃ K, n = K + 1 := ⟨n - 1, by omega⟩
      have hnx := HR2.out.todo x hxs hlx
      obtain ⟨hbx, hwd, hrw⟩ := HR2.out.iter (_left' := left) (_cnt' := cnt2) hg2
      have hrx : w2.ownsRow w.heap.size 3 1 (hd x) (nsf x).length ((nsf x).map fun (k : Nat) => Value.int .i64 (k : Int)) := hrw x
      have hlt : ∀ k ∈ nsf x, k < K + 1 := fun k hk => by rw [hnx] at hk; have := (grp_mem.1 hk).1; omega
      have hne : 0 < (nsf x).length := by rw [hnx]; exact List.length_pos_iff.2 hng
      obtain ⟨g, cap, hx⟩ : ∃ g cap, hd x = .slice (some ⟨g, 0, none⟩) (nsf x).length cap := by
        rcases hrx.2 with ⟨_, h0⟩ | ⟨g, cap, cur, h0, _⟩
        · omega
        · exact ⟨g, cap, h0⟩
      have hrx2 : w2.ownsRow w.heap.size 3 1 (.slice (some ⟨g, 0, none⟩) (nsf x).length cap) (nsf x).length ((finA K (nsf x)).toList.map encI) := by
        rw [finA_enc hlt, ← hx]; exact hrx
      have hhold : Holds encI w2 g 0 (finA K (nsf x)) := holds_row hrx2
      have hcmp : CmpAt Try.prog 51 #[.pointer (some ⟨w.heap.size + 1 + 1, 0, none⟩)] (fun x y : Fin (K + 1) => (lnW lists y.val : Int) - (lnW lists x.val : Int)) w2 g 0 (finA K (nsf x)).size := fun d q hd' a b => by
        have hg3 : w2.grownBy ((putRow encI w2 g 0 d).drewN q) (Value.ownBlock (.slice (some ⟨g, 0, none⟩) (nsf x).length cap)) := grown_putRow w2 g q d
        exact cmp_at K _ w.heap.size _ _ svs lists (by rw [HLL.out]; exact hK) _ (row_stays hbx hrx2 (by decide) hg3) (hwd.at_other hrx2 (by decide) (by decide) hg3) HLW.out a b
      have hsize := finA_size K (nsf x)
      have hrise : RiseO (zOf (finA K (nsf x))) 0 (finA K (nsf x)).size := by
        rw [hnx, ← HLL.out]
        exact rise_grp (by rw [HLL.out]; exact hK) x
      have hs40 : (finA K (nsf x)).size ≤ 40 := by
        rw [hsize, hnx]
        exact Nat.le_trans (grp_len _ _ _) hn
      have HSORT := Lib.hid (sortStable_any K (w.heap.size + 1 + 1) (fun x y : Fin (K + 1) => (lnW lists y.val : Int) - (lnW lists x.val : Int)) (RI lists) (fun _ => True) (ord_RI lists) w2 g 0 cap (finA K (nsf x)) (fun x y hxy => by
        rw [RI_nat]
        unfold RW
        constructor
        · intro h
          exact .inl (by omega)
        · intro h
          omega) hcmp hhold (by rw [hsize, hnx]; have := grp_len lists n x; omega) hs40 hrise (fun _ => trivial))
      have HDONE : Hid (∀ (q : Nat) (d' : Array (Fin (K + 1))), d'.size = (finA K (nsf x)).size → SortO (RI lists) (zOf d') 0 (finA K (nsf x)).size → MemO (zOf (finA K (nsf x))) (zOf d') 0 (finA K (nsf x)).size →
          R2 ((putRow encI w2 g 0 d').drewN q) w.heap.size (w.heap.size + 1 + 1) (w.heap.size + 1) r n (.slice av svs.length cv) svs hd lists (fun z => left z && !z.sameKey (.string x.data.toList)) cnt2 (fun s => if s = x then d'.toList.map Fin.val else nsf s) ∧ ((putRow encI w2 g 0 d').drewN q).heap[w.heap.size]? = some (.cells #[.slice none 0 0, .map none] 80 (0, 0)) ∧ Below w.heap.size w ((putRow encI w2 g 0 d').drewN q)) := fun q d' hs ht hm => by
        have hg3 : w2.grownBy ((putRow encI w2 g 0 d').drewN q) (some g) := grown_putRow w2 g q d'
        have hown : InR ((putRow encI w2 g 0 d').drewN q) w.heap.size (hd x) (d'.toList.map Fin.val) := by
          have h1 := own_putRow (q := q) hrx2 (show d'.size = (nsf x).length by rw [hs, hsize])
          unfold InR
          have e1 : (d'.toList.map Fin.val).length = (nsf x).length := by rw [List.length_map]; exact Array.length_toList.trans (hs.trans hsize)
          rw [hx, e1, List.map_map]
          exact h1
        refine ⟨HR2.out.sorted HAP.out hg2 hgr2 hx hg3 hown ?_, ?_, ?_⟩
        · rw [hsize, hnx, ← HLL.out] at ht hm
          exact sortG_of (by rw [HLL.out]; exact hK) (by rw [hs, hsize, hnx, HLL.out]) ht hm
        · have h0 : w2.heap[w.heap.size]? = some (.cells #[.slice none 0 0, .map none] 80 (0, 0)) := (hg2.block _ (Array.getElem?_eq_some_iff.1 HRES.out).1 (HR2.out.gr.cells HRES.out).2).trans HRES.out
          exact row_stays h0 hrx2 (by decide) hg3
        · have hr1 : w.heap.size ≤ r := HR.out
          have hb2 := HB.out.grown hg2 HB.out.size (fun j hj => by injection hj with hj; omega)
          exact hb2.grown hg3 hb2.size (fun j hj => by injection hj with hj; rw [← hj]; exact (hrx2.lt g rfl).1)
      have HLT : Hid (∀ W, (∃ nsf, R2 W w.heap.size (w.heap.size + 1 + 1) (w.heap.size + 1) r n (.slice av svs.length cv) svs hd lists (fun z => left z && !z.sameKey (.string x.data.toList)) cnt2 nsf) → W.rangeLeft (w.heap.size + 1) r < wr.rangeLeft (w.heap.size + 1) r) := fun W h => by
        obtain ⟨nsf, h⟩ := h
        rw [h.gr.left_eq, HR2.out.gr.left_eq]
        exact hlt2
      rw [hsize] at HSORT
      clear hxs hlx hnn hgr2 hlt2 hg2 hng hn1 hK hnx hbx hwd hrw hrx hlt hne hrx2 hhold hcmp hrise hs40 HNX
      rw [hx]
      clear hx
      generalize (nsf x).length = gl at *
      refine HSORT.out.mono ?_
      rintro e w3 ⟨rfl, q, d', hs, ht, hm, rfl⟩
      have HD := Lib.hid (HDONE.out q d' (by rw [hs, hsize]) (by rw [hsize]; exact ht) (by rw [hsize]; exact hm))
      clear hs ht hm
      go_wp2_with fail
      go_roundw
      case rel => exact ⟨_, cnt2, _, HD.out.1, HD.out.2.1, HD.out.2.2⟩
      case measure => exact HLT.out _ ⟨_, HD.out.1⟩
theorem newIndex_any (terms : List ByteArray) (ad : Option Addr) (n c : Nat) (w : World) (hs : Sl w ad n (strs terms)) (hn : n ≤ 40) (hz : ∀ s ∈ terms, s.size ≤ 1000000) :
    Calls Try.prog 44 #[.slice ad n c] w fun e w' => ∃ wv M svs hd, e = .returned (.agg #[wv, .map (some M)]) ∧ IdxAt w' w.heap.size M wv svs hd (terms.map wordsB) ∧ Below w.heap.size w w' := by
  have hl := hs.len
  rw [strs_length] at hl
  refine newIndex_first terms ad n c w _ hs (by omega) hz ?_
  intro wr wv svs hd u4 u5 u6 u7 u8 u9 u10 u11 u12 u13 u14 u15 u16 u17 u18 u19 u20 u21 u22 u23 u24 u25 u26 u27 u28 u29 u30 u31 u32 u33 u34 u35 u36 u37 u38 u39 u40 u41 u42 u43 u44 u45 u46 u47 u48 u49 u50 u51 u52 u53 u54 hix hres hbl
  refine newIndex_second (terms.map wordsB) ad n c w wr wv svs hd _ _ _ _ _ _ _ _ _ _ _ _ _ _ _ _ _ _ _ _ _ _ _ _ _ _ _ _ _ _ _ _ _ _ _ _ _ _ _ _ _ _ _ _ _ _ _ _ _ _ _ (by rw [List.length_map]; exact hl) hn (fun i => ?_) hix hres hbl
  unfold lnW
  rw [List.getD_eq_getElem?_getD, List.getElem?_map]
  cases hq : terms[i]? with
  | none => simp
  | some s =>
    have h1 := wordsB_le s
    have h2 := hz s (List.mem_of_getElem? hq)
    simp only [Option.map_some, Option.getD_some]
    omega
end Go.Proofs.Ytkodnagneblgaaa
