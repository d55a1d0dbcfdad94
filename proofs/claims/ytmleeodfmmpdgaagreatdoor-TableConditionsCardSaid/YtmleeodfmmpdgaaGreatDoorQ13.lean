/- Walks: the program's reader of tables: the next token, the first error. -/
import Derived.Test.YtmleeodfmmpdgaaGreatDoorQ12
import Derived.Deep.DrawnRows
import Derived.Deep.CutBlock
import Derived.Deep.DeepCutAuto
import Derived.Deep.RegionHeld3
import Derived.Test.YtmleeodfmmpdgaaGreatDoorQ02
import Derived.Test.YtmleeodfmmpdgaaGreatDoorQ01
import Derived.Deep.QuietTactic
import Derived.BigQuiet
namespace Go.Proofs.YtmleeodfmmpdgaaGreatDoor
open Go.RowKit
attribute [local go_sem] Ext.cell Ext.frozen
attribute [local go_sem ↓] Go.wp_at_zero Go.wp_at_succ
def tokV (t : Tz) : Value := .agg #[.int .i64 t.1, .string (bs t.2.1), .int .i64 t.2.2]
def Rd (w : World) (b : Nat) (E : Int) (r : RS) : Prop :=
  ∃ ad c tb off, Cel w b 67 [.slice ad r.l.length c, .int .i64 E, .int .i64 r.pos, .int .i64 r.e] ∧ TzAt w ad r.l.length r.l tb off ∧ (r.l ≠ [] → tb < b) ∧ r.l.length ≤ c ∧ c ≤ 9223372036854775807 ∧ ∀ t ∈ r.l, t.2.1.length ≤ 200000
theorem TzAt.same {w w' : World} {ad : Option Addr} {n : Nat} {xs : List Tz} {b off : Nat} (h : TzAt w ad n xs b off) (hs : n ≠ 0 → w'.heap[b]? = w.heap[b]?) : TzAt w' ad n xs b off :=
  ⟨h.len, h.max, h.adr, fun i hi => (World.cell?_of_block (hs (by omega))).trans (h.c0 i hi), fun i hi => (World.cell?_of_block (hs (by omega))).trans (h.c1 i hi), fun i hi => (World.cell?_of_block (hs (by omega))).trans (h.c2 i hi)⟩
theorem Rd.lt {w : World} {b : Nat} {E : Int} {r : RS} (h : Rd w b E r) : b < w.heap.size := by
  obtain ⟨_, _, _, _, h1, _⟩ := h
  exact h1.lt
theorem Rd.kp {w w' : World} {b : Nat} {E : Int} {r : RS} (h : Rd w b E r) {P : Nat → Bool} (k : Kp P w w') (hp : ∀ i, i ≤ b → P i = false) : Rd w' b E r := by
  obtain ⟨ad, c, tb, off, h1, h2, h3, h4, h5, h6⟩ := h
  refine ⟨ad, c, tb, off, h1.kp k (hp b (Nat.le_refl _)), h2.same fun hn => k.block tb ?_ (hp tb ?_), h3, h4, h5, h6⟩
  · have := h3 (fun e => hn (by rw [e]; rfl))
    have := h1.lt
    omega
  · have := h3 (fun e => hn (by rw [e]; rfl))
    omega
theorem Rd.below {w w' : World} {b : Nat} {E : Int} {r : RS} (h : Rd w b E r) (k : Below w.heap.size w w') : Rd w' b E r := h.kp (P := fun _ => false) (kp_below k) (fun _ _ => rfl)
theorem cTok : Tryz.prog.cellsOf 109 = 3 := by kernel_rfl
theorem TzAt.first {w : World} {ad : Option Addr} {t : Tz} {l : List Tz} {b off : Nat} (h : TzAt w ad (l.length + 1) (t :: l) b off) (c : Nat) :
    ad = some ⟨b, off, none⟩ ∧ (∀ W, (Instr.indexAt 62 (.slice (some ⟨b, off, none⟩) (l.length + 1) c) (.int .i64 0)).run Tryz.prog W = .ok (.pointer (some ⟨b, off, none⟩)) W) ∧ w.cell? ⟨b, off, none⟩ = some (.int .i64 t.1) ∧ w.cell? ⟨b, off + 1, none⟩ = some (.string (bs t.2.1)) ∧ w.cell? ⟨b, off + 2, none⟩ = some (.int .i64 t.2.2) := by
  have h2 := h.adr (by omega)
  subst h2
  have k0 := h.c0 0 (by omega)
  have k1 := h.c1 0 (by omega)
  have k2 := h.c2 0 (by omega)
  rw [Nat.zero_mul, Nat.add_zero] at k0 k1 k2
  exact ⟨rfl, fun W => by simpa using h.ixT 62 109 Tryz.underlying62 cTok (i := 0) (by omega) c W, k0, k1, k2⟩
set_option maxRecDepth 20000 in
set_option maxHeartbeats 1000000 in
theorem peek_any (b : Nat) (E : Int) (r : RS) (w : World) (h : Rd w b E r) : Calls Tryz.prog 55 #[.pointer (some ⟨b, 0, none⟩)] w fun e w' => e = .returned (tokV (r.peek E)) ∧ Below w.heap.size w w' := by
  obtain ⟨ad, c, tb, off, hc, ht, _, _, _, _⟩ := h
  have hb := hc.lt
  have c0 := hc.cell 0
  have c1 := hc.cell 1
  obtain ⟨l, p, e⟩ := r
  simp only [List.getElem?_cons_zero, List.getElem?_cons_succ] at c0 c1
  cases l with
  | nil =>
    clear hc ht
    go_enter Tryz.func55, Tryz.ntmps55
    go_wp2_with fail
    refine bodyPost_ret (results_cell_row rfl _ _ w.heap.size 109 _ (0, 0) _ rfl (heap_alloc_new w _) Tryz.underlying109 rfl (by kernel_rfl)) rfl ?_
    exact ⟨rfl, Bel.alloc (Bel.refl w) _⟩
  | cons t l =>
    obtain ⟨rfl, hix, k0, k1, k2⟩ := ht.first c
    have hlt : tb < w.heap.size := World.block_lt_of_cell? _ _ k0
    have hlz : ¬ ((l.length : Int) + 1) = 0 := by omega
    rw [List.length_cons] at c0
    clear hc ht
    show Calls _ _ _ _ fun e w' => e = .returned (tokV t) ∧ _
    unfold tokV
    obtain ⟨k, s, f⟩ := t
    simp only at k0 k1 k2 ⊢
    generalize bs s = S at *
    go_enter Tryz.func55, Tryz.ntmps55
    go_wp2_with fail
    refine bodyPost_ret (results_cell_row rfl _ _ w.heap.size 109 _ (0, 0) _ rfl (heap_alloc_new w _) Tryz.underlying109 rfl (by kernel_rfl)) rfl ?_
    exact ⟨rfl, Bel.alloc (Bel.refl w) _⟩
theorem Rd.cells {w : World} {b : Nat} {E : Int} {r : RS} (h : Rd w b E r) : w.cell? ⟨b, 2, none⟩ = some (.int .i64 r.pos) ∧ w.cell? ⟨b, 3, none⟩ = some (.int .i64 r.e) ∧ w.frozen? ⟨b, 2, none⟩ = false ∧ w.frozen? ⟨b, 3, none⟩ = false ∧ w.frozen? ⟨b, 0, none⟩ = false := by
  obtain ⟨_, _, _, _, h1, _⟩ := h
  exact ⟨h1.cell 2, h1.cell 3, h1.frz 2, h1.frz 3, h1.frz 0⟩
theorem Rd.err {w : World} {b : Nat} {E : Int} {r : RS} (h : Rd w b E r) (p e : Int) : Rd ((w.setCell ⟨b, 2, none⟩ (.int .i64 p)).setCell ⟨b, 3, none⟩ (.int .i64 e)) b E { r with pos := p, e := e } := by
  obtain ⟨ad, c, tb, off, h1, h2, h3, h4, h5, h6⟩ := h
  refine ⟨ad, c, tb, off, (h1.set 2 _).set 3 _, h2.same fun hn => ?_, h3, h4, h5, h6⟩
  have := h3 (fun e => hn (by rw [e]; rfl))
  rw [Below.heap_setCell _ _ _ _ (by show tb ≠ b; omega), Below.heap_setCell _ _ _ _ (by show tb ≠ b; omega)]
def RdP (b : Nat) (E : Int) (v : Value) (r : RS) (w : World) (e : Ending) (w' : World) : Prop := e = .returned v ∧ Rd w' b E r ∧ Kp (oneP b) w w'
set_option maxRecDepth 20000 in
set_option maxHeartbeats 1000000 in
theorem failAt_any (b : Nat) (E : Int) (r : RS) (p e : Int) (w : World) (h : Rd w b E r) : Calls Tryz.prog 59 #[.pointer (some ⟨b, 0, none⟩), .int .i64 p, .int .i64 e] w (RdP b E (.tuple #[]) (r.failAt p e) w) := by
  obtain ⟨c2, c3, f2, f3, _⟩ := h.cells
  have hb := h.lt
  have HR := Lib.hid h
  unfold RdP RS.failAt
  by_cases he : r.e = 0
  · rw [if_pos he]
    have hz : (r.e == 0) = true := by simpa using he
    have HE := Lib.hid (h.err p e)
    have HK : Hid (Kp (oneP b) w ((w.setCell ⟨b, 2, none⟩ (.int .i64 p)).setCell ⟨b, 3, none⟩ (.int .i64 e))) := ((Kp.refl _ w).set (p := ⟨b, 2, none⟩) (oneP_self b) _).set (p := ⟨b, 3, none⟩) (oneP_self b) _
    rw [he] at c3
    clear h he hz
    go_enter Tryz.func59, Tryz.ntmps59
    go_wp2_with fail
    go_end0
    exact ⟨rfl, HE.out, HK.out⟩
  · rw [if_neg he]
    have hz : (r.e == 0) = false := by simpa using he
    clear h
    go_enter Tryz.func59, Tryz.ntmps59
    go_wp2_with fail
    go_end0
    exact ⟨rfl, HR.out, Kp.refl _ _⟩
set_option maxRecDepth 20000 in
set_option maxHeartbeats 1000000 in
theorem fail_any (b : Nat) (E : Int) (r : RS) (e : Int) (w : World) (h : Rd w b E r) : Calls Tryz.prog 62 #[.pointer (some ⟨b, 0, none⟩), .int .i64 e] w (RdP b E (.tuple #[]) (r.fail E e) w) := by
  have HP := Lib.hid (peek_any b E r w h)
  have HF := Lib.hid (fun W (g : Rd W b E r) => failAt_any b E r (r.peek E).2.2 e W g)
  have HR := Lib.hid h
  unfold RdP at HF ⊢
  unfold RS.fail
  clear h
  unfold tokV at HP
  generalize r.peek E = t at *
  obtain ⟨k, s, f⟩ := t
  simp only at HP HF ⊢
  generalize bs s = S at *
  have hfd : ∀ W : World, (Instr.field 109 (.agg #[.int .i64 k, .string S, .int .i64 f]) 2).run Tryz.prog W = .ok (.int .i64 f) W := fun _ => by kernel_rfl
  go_enter Tryz.func62, Tryz.ntmps62
  go_wp2_with fail
  refine HP.out.mono ?_
  rintro _ w1 ⟨rfl, hb⟩
  have HB := Lib.hid hb
  clear hb
  go_wp2_with fail
  refine (HF.out _ (HR.out.below HB.out)).mono ?_
  rintro _ w2 ⟨rfl, hr, hk⟩
  have HR2 := Lib.hid hr
  have HK2 := Lib.hid ((kp_below HB.out).trans hk)
  clear hr hk
  go_wp2_with fail
  go_end0
  exact ⟨rfl, HR2.out, HK2.out⟩
theorem Rd.dropped {w : World} {b : Nat} {E : Int} {r : RS} (h : Rd w b E r) (hne : r.l ≠ []) : ∃ tb off l c, w.cell? ⟨b, 0, none⟩ = some (.slice (some ⟨tb, off, none⟩) (l + 1) c) ∧ l + 1 ≤ c ∧ c ≤ 9223372036854775807 ∧
    ∀ o c', (l ≠ 0 → o = off + 3) → l ≤ c' → c' ≤ 9223372036854775807 → Rd (w.setCell ⟨b, 0, none⟩ (.slice (some ⟨tb, o, none⟩) l c')) b E r.drop := by
  obtain ⟨ad, c, tb, off, h1, h2, h3, h4, h5, h6⟩ := h
  obtain ⟨l, p, e⟩ := r
  cases l with
  | nil => exact absurd rfl hne
  | cons t l =>
    have c0 := h1.cell 0
    obtain rfl := h2.adr (by simp)
    refine ⟨tb, off, l.length, c, c0, h4, h5, fun o c' ho hc1 hc2 => ?_⟩
    have hset := h1.set 0 (.slice (some ⟨tb, o, none⟩) l.length c')
    have htb := h3 (by simp)
    have hl := h2.max
    rw [List.length_cons] at hl h4
    show Rd _ b E ⟨l, p, e⟩
    have hkeep := fun i => World.cell?_of_block (a := ⟨tb, i, none⟩) (Below.heap_setCell w ⟨b, 0, none⟩ (.slice (some ⟨tb, o, none⟩) l.length c') tb (by show tb ≠ b; omega))
    have key : ∀ i j, off + (i + 1) * 3 + j = off + 3 + i * 3 + j := fun i j => by omega
    refine ⟨_, c', tb, o, hset, ⟨rfl, by show l.length ≤ _; omega, fun _ => rfl, fun i hi => ?_, fun i hi => ?_, fun i hi => ?_⟩, fun _ => htb, hc1, hc2, fun x hx => h6 x (List.mem_cons_of_mem _ hx)⟩
    · have := h2.c0 (i + 1) (Nat.succ_lt_succ hi)
      rw [show off + (i + 1) * 3 = off + 3 + i * 3 by omega] at this
      have hi' : i < l.length := hi
      obtain rfl : o = off + 3 := ho (by omega)
      exact (hkeep _).trans this
    · have := h2.c1 (i + 1) (Nat.succ_lt_succ hi)
      rw [key] at this
      have hi' : i < l.length := hi
      obtain rfl : o = off + 3 := ho (by omega)
      exact (hkeep _).trans this
    · have := h2.c2 (i + 1) (Nat.succ_lt_succ hi)
      rw [key] at this
      have hi' : i < l.length := hi
      obtain rfl : o = off + 3 := ho (by omega)
      exact (hkeep _).trans this
set_option maxRecDepth 20000 in
set_option maxHeartbeats 2000000 in
theorem take_any (b : Nat) (E k : Int) (hk : k ≠ 0) (r : RS) (w : World) (h : Rd w b E r) : Calls Tryz.prog 118 #[.pointer (some ⟨b, 0, none⟩), .int .i64 k] w (RdP b E (.string (bs (r.take E k).1)) (r.take E k).2 w) := by
  have HP := Lib.hid (peek_any b E r w h)
  have HF := Lib.hid (fun W (g : Rd W b E r) => fail_any b E r 3 W g)
  have HR := Lib.hid h
  have HNE : Hid ((r.peek E).1 = k → r.l ≠ []) := fun e hn => by
    unfold RS.peek at e
    rw [hn] at e
    exact hk e.symm
  have HOK := Lib.hid (@RS.take_ok E k r)
  have HER := Lib.hid (@RS.take_err E k r)
  have HNO := Lib.hid (@RS.take_no E k r)
  unfold RdP at HF ⊢
  clear h
  unfold tokV at HP
  generalize r.take E k = res at *
  generalize r.peek E = t at *
  obtain ⟨k', s, f⟩ := t
  simp only at HP HNE HOK HER HNO
  obtain ⟨rv, rr⟩ := res
  simp only
  go_enter Tryz.func118, Tryz.ntmps118
  go_wp2_with fail
  refine HP.out.mono ?_
  rintro _ w1 ⟨rfl, hb⟩
  have HB := Lib.hid hb
  have HR1 := Lib.hid (HR.out.below hb)
  clear hb HR HP
  go_upto_region 2 with (fail)
  have HK2 : Hid (Kp (oneP b) w (w1.alloc (.cells #[.int .i64 k', .string (bs s), .int .i64 f] 109))) := kp_below (HB.out.alloc HB.out.size _)
  have HR2 := Lib.hid (HR1.out.below (Bel.alloc (Bel.refl w1) (.cells #[.int .i64 k', .string (bs s), .int .i64 f] 109)))
  have HX : Hid (Cel (w1.alloc (.cells #[.int .i64 k', .string (bs s), .int .i64 f] 109)) w1.heap.size 109 [.int .i64 k', .string (bs s), .int .i64 f]) := Cel.new w1 _ _
  have hbB : b < w1.heap.size := HR1.out.lt
  generalize w1.alloc (.cells #[.int .i64 k', .string (bs s), .int .i64 f] 109) = w2 at *
  obtain ⟨B, hB⟩ : ∃ B, w1.heap.size = B := ⟨_, rfl⟩
  rw [hB] at HX hbB ⊢
  clear hB HB HR1
  have x0 := HX.out.cell 0
  simp only [List.getElem?_cons_zero] at x0
  by_cases hkk : k' = k
  · subst hkk
    have hne := HNE.out rfl
    obtain ⟨c2, c3, f2, f3, f0⟩ := HR2.out.cells
    obtain ⟨tb, off, l, c, c0, hlc, hc9, hdr⟩ := HR2.out.dropped hne
    have x1 := HX.out.cell 1
    simp only [List.getElem?_cons_zero, List.getElem?_cons_succ] at x1
    by_cases he : r.e = 0
    · have h1 := HOK.out rfl he
      injection h1 with h1 h2
      have H1 : Hid (bs s = bs rv) := by rw [Hid, h1]
      have H2 := Lib.hid h2
      have hz : (r.e == 0) = true := by simpa using he
      rw [he] at c3
      have HDR := Lib.hid hdr
      clear hdr hne HNE HF h1 h2 HOK HER HNO he hz
      generalize bs s = S at *
      by_cases hc1 : c = 1
      · obtain rfl : l = 0 := by omega
        subst hc1
        go_wp2_with fail
        all_goals
          go_ret
          exact ⟨by rw [← H1.out]; rfl, by rw [H2.out]; exact HDR.out _ _ (by omega) (by omega) (by omega), HK2.out.set (p := ⟨b, 0, none⟩) (oneP_self b) _⟩
      · go_wp2_with fail
        all_goals
          go_ret
          exact ⟨by rw [← H1.out]; rfl, by rw [H2.out]; exact HDR.out _ _ (by omega) (by omega) (by omega), HK2.out.set (p := ⟨b, 0, none⟩) (oneP_self b) _⟩
    · have h1 := HER.out rfl he
      injection h1 with h1 h2
      have H1 : Hid (bs rv = .empty) := by rw [Hid, h1]; rfl
      have H2 := Lib.hid h2
      have hz : (r.e == 0) = false := by simpa using he
      clear hdr hne HNE HF h1 h2 HOK HER HNO
      generalize bs s = S at *
      go_wp2_with fail
      go_ret
      exact ⟨by rw [H1.out]; rfl, by rw [H2.out]; exact HR2.out, HK2.out⟩
  · have h1 := HNO.out hkk
    injection h1 with h1 h2
    have H1 : Hid (bs rv = .empty) := by rw [Hid, h1]; rfl
    have H2 := Lib.hid h2
    have hz : (k' == k) = false := by simpa using hkk
    have hne3 : Hid (rr.e ≠ 0) := by rw [Hid, h2]; exact RS.fail_e E (by decide) r
    rw [← h2] at HF
    clear HNE h1 h2 HOK HER HNO
    generalize bs s = S at *
    go_wp2_with fail
    refine (HF.out _ HR2.out).mono ?_
    rintro _ w3 ⟨rfl, hr3, hk3⟩
    have HR3 := Lib.hid hr3
    have HK3 := Lib.hid (HK2.out.trans hk3)
    obtain ⟨c2, c3, f2, f3, f0⟩ := HR3.out.cells
    have hne4 : (rr.e == 0) = false := by simpa using hne3.out
    clear hr3 hk3
    go_wp2_with fail
    go_ret
    exact ⟨by rw [H1.out]; rfl, HR3.out, HK3.out⟩
end Go.Proofs.YtmleeodfmmpdgaaGreatDoor
namespace Go.Proofs.YtmleeodfmmpdgaaGreatDoor
open Go.RowKit

theorem RowsOf.get {α : Type} {C : World → (Nat → Value) → α → Prop} {w : World} {l : List α} {f : Nat → Nat → Value} (h : ∀ i x, l[i]? = some x → C w (f i) x) {i : Nat} (hi : i < l.length) (d : α) : C w (f i) (l.getD i d) :=
  h i _ (by rw [List.getElem?_eq_getElem hi]; simp [List.getD, List.getElem?_eq_getElem hi])
theorem all_getD {α : Type} {q : α → Bool} {l : List α} (d : α) (h : ∀ i, i < l.length → q (l.getD i d) = true) : l.all q = true := by
  rw [List.all_eq_true]
  intro x hx
  obtain ⟨i, hi, rfl⟩ := List.getElem_of_mem hx
  have := h i hi
  rwa [show l.getD i d = l[i] from by simp [List.getD, List.getElem?_eq_getElem hi]] at this
theorem all_not {α : Type} {q : α → Bool} {l : List α} (d : α) {i : Nat} (hi : i < l.length) (h : q (l.getD i d) = false) : l.all q = false := by
  rw [← Bool.not_eq_true, List.all_eq_true]
  intro hc
  rw [hc _ (getD_mem l i d hi)] at h
  cases h
theorem relN_getD {c : List (List Rel)} {k : Nat} (hk : k < c.length) : relN (c.take (k + 1)) = relN (c.take k) + (c.getD k []).length :=
  relN_take (by simp [List.getD, List.getElem?_eq_getElem hk])
theorem validC_no {c : List (List Rel)} {k : Nat} (hk : k < c.length) (h : listOk (c.getD k []) = false) : validC c = false := by
  unfold validC
  rw [all_not [] hk h]
  rfl
theorem validC_end {c : List (List Rel)} (h : ∀ i, i < c.length → listOk (c.getD i []) = true) : validC c = (decide (0 < c.length) && decide (relN c ≤ 6)) := by
  unfold validC
  rw [all_getD [] h]
  cases c <;> simp
end Go.Proofs.YtmleeodfmmpdgaaGreatDoor
namespace Go.Proofs.YtmleeodfmmpdgaaGreatDoor
open Go.RowKit
attribute [local go_sem] Ext.cell Ext.frozen
attribute [local go_sem ↓] Go.wp_at_zero Go.wp_at_succ

theorem wp_at_worldT {P : Program} {c : Code} {Q : Exit → Act → World → Prop} {a : Act} {w : World} (h : ∀ W, W = w → c.wp P Q a W) : c.wp P Q a w := h w rfl
theorem great_any (op : Int) (w : World) : Calls Tryz.prog 253 #[.int .i64 op] w fun e w' => e = .returned (.int .i64 (greatV op)) ∧ w = w' := by
  by_cases h3 : op = 3
  · subst h3
    go_enter Tryz.func253, Tryz.ntmps253
    go_wp2_with fail
    go_ret
    exact ⟨rfl, rfl⟩
  · by_cases h4 : op = 4
    · subst h4
      go_enter Tryz.func253, Tryz.ntmps253
      go_wp2_with fail
      go_ret
      exact ⟨rfl, rfl⟩
    · have HO : Hid (greatV op = 100) := by unfold Hid greatV; rw [if_neg (by omega)]
      have e3 : (op == 3) = false := by simpa using h3
      have e4 : (op == 4) = false := by simpa using h4
      clear h3 h4
      go_enter Tryz.func253, Tryz.ntmps253
      go_wp2_with fail
      go_ret
      exact ⟨ret_int HO.out.symm, rfl⟩
theorem bound_any (op : Int) (w : World) : Calls Tryz.prog 142 #[.int .i64 op] w fun e w' => e = .returned (.int .i64 (greatV op)) ∧ w = w' := by
  by_cases h3 : op = 3
  · subst h3
    go_enter Tryz.func142, Tryz.ntmps142
    go_wp2_with fail
    go_ret
    exact ⟨rfl, rfl⟩
  · by_cases h4 : op = 4
    · subst h4
      go_enter Tryz.func142, Tryz.ntmps142
      go_wp2_with fail
      go_ret
      exact ⟨rfl, rfl⟩
    · have HO : Hid (greatV op = 100) := by unfold Hid greatV; rw [if_neg (by omega)]
      have e3 : (op == 3) = false := by simpa using h3
      have e4 : (op == 4) = false := by simpa using h4
      clear h3 h4
      go_enter Tryz.func142, Tryz.ntmps142
      go_wp2_with fail
      go_ret
      exact ⟨ret_int HO.out.symm, rfl⟩
def modsL : List Int := [2, 3, 4, 5, 6, 10, 20, 25, 50, 100]
theorem sl_made (w : World) (l : List Value) (e : TypeId) (hl : l.length ≤ 9223372036854775807) : Sl (w.alloc (.cells l.toArray e)) (some ⟨w.heap.size, 0, none⟩) l.length l :=
  ⟨w.heap.size, 0, rfl, hl, fun _ => rfl, fun i hi => by simp [go_sem, List.getD, List.getElem?_eq_getElem hi]⟩
theorem perm_any (op md : Int) (w : World) : Calls Tryz.prog 252 #[.int .i64 op, .int .i64 md] w fun e w' => e = .returned (.bool (permV op md)) ∧ Below w.heap.size w w' := by
  by_cases h12 : op = 1 ∨ op = 2
  · have HO : Hid (permV op md = modsL.contains md) := by unfold Hid permV; rw [if_pos h12]; rfl
    have HC : Hid (∀ e, Calls Tryz.prog 294 #[.slice (some ⟨w.heap.size, 0, none⟩) 10 10, .int .i64 md] (w.alloc (.cells #[.int .i64 2, .int .i64 3, .int .i64 4, .int .i64 5, .int .i64 6, .int .i64 10, .int .i64 20, .int .i64 25, .int .i64 50, .int .i64 100] e)) fun e' w' => e' = .returned (.bool (modsL.contains md)) ∧ w.alloc (.cells #[.int .i64 2, .int .i64 3, .int .i64 4, .int .i64 5, .int .i64 6, .int .i64 10, .int .i64 20, .int .i64 25, .int .i64 50, .int .i64 100] e) = w') := fun e => contains_int _ 10 10 modsL md _ (sl_made w (ints modsL) e (by decide))
    generalize modsL.contains md = q at *
    rcases h12 with h | h
    all_goals
      subst h
      go_enter Tryz.func252, Tryz.ntmps252
      go_wp2_with (go_at_call 294; refine (HC.out _).mono ?_; rintro e _ ⟨rfl, rfl⟩)
      go_ret
      exact ⟨by rw [HO.out]; rfl, (Below.refl _ _).alloc (Nat.le_refl _) _⟩
  · by_cases h56 : op = 5 ∨ op = 6
    · have HO : Hid (permV op md = (md == 10 || md == 100)) := by
        unfold Hid permV
        rw [if_neg h12, if_pos h56]
        rw [Bool.eq_iff_iff]
        simp
      cases h10 : (md == 10)
      all_goals
        cases h100 : (md == 100)
        all_goals
          rw [Hid, h10, h100] at HO
          have HO := Lib.hid HO
          rcases h56 with h | h
          all_goals
            subst h
            go_enter Tryz.func252, Tryz.ntmps252
            go_wp2_with fail
            go_ret
            exact ⟨by rw [HO.out]; rfl, Below.refl _ _⟩
    · have HO : Hid (permV op md = false) := by unfold Hid permV; rw [if_neg h12, if_neg h56]
      have e1 : (op == 1) = false := by simpa using fun h => h12 (.inl h)
      have e2 : (op == 2) = false := by simpa using fun h => h12 (.inr h)
      have e5 : (op == 5) = false := by simpa using fun h => h56 (.inl h)
      have e6 : (op == 6) = false := by simpa using fun h => h56 (.inr h)
      clear h12 h56
      go_enter Tryz.func252, Tryz.ntmps252
      go_wp2_with fail
      go_ret
      exact ⟨by rw [HO.out]; rfl, Below.refl _ _⟩

set_option maxRecDepth 20000 in
theorem rhas_int (ad : Option Addr) (n c : Nat) (l : List Int) (x : Int) (w : World) (hr : Sl w ad n (ints l)) :
    Calls Tryz.prog 140 #[.slice ad n c, .int .i64 x] w fun e w' => e = .returned (.bool (l.contains x)) ∧ w = w' := by
  rw [← any_contains l x 0]
  obtain ⟨b, off, hr⟩ := hr
  have hn : l.length = n := by have := hr.len; rwa [ints_length] at this
  have HN := Lib.hid hn
  have HR := Lib.hid hr
  have hm := hr.max
  clear hr hn
  obtain ⟨q, hq⟩ : ∃ q, anyP (fun i => decide (l.getD i 0 = x)) l.length = q := ⟨_, rfl⟩
  rw [hq]
  rw [HN.out] at hq
  have HQ := Lib.hid hq
  clear hq
  go_enter Tryz.func140, Tryz.ntmps140
  go_wp2_with fail
  go_loop [5] (fun v => ∃ k : Nat, v = .int .i64 (k : Int) ∧ k ≤ n ∧ (∀ i, i < k → decide (l.getD i 0 = x) = false)) (fun v => n - (intOf v).toNat)
  case atStart => exact ⟨0, rfl, Nat.zero_le _, fun i hi => absurd hi (Nat.not_lt_zero _)⟩
  case round =>
    obtain ⟨k, rfl, hkn, hm0⟩ := hrel
    have HM := Lib.hid hm0
    clear hm0
    by_cases hlt : k < n
    · have hix := fun W => HR.out.ix 182 3 Tryz.underlying182 (by kernel_rfl) hlt (c := c) W
      have hc := HR.out.cell k hlt
      rw [ints_getD _ _ (by rw [HN.out]; exact hlt)] at hc
      by_cases he : l.getD k 0 = x
      · have HE := Lib.hid (decide_eq_true he)
        have HO : Hid (q = true) := HQ.out.symm.trans (List.any_eq_true.2 ⟨k, List.mem_range.2 hlt, HE.out⟩)
        generalize l.getD k 0 = y at hc he
        have e1 : (y == x) = true := by rw [he]; simp
        clear he
        go_wp2_with fail
        go_ret
        exact ⟨by rw [HO.out]; rfl, rfl⟩
      · have HE := Lib.hid (decide_eq_false he)
        generalize l.getD k 0 = y at hc he
        have e1 : (y == x) = false := by rw [beq_eq_false_iff_ne]; exact fun e => he e
        clear he
        go_wp2_with fail
        go_round
        case rel =>
          refine ⟨k + 1, by go_num, by omega, fun i hi => ?_⟩
          by_cases e : i = k
          · subst e; exact HE.out
          · exact HM.out i (by omega)
        case measure => simp [intOf]; omega
    · obtain rfl : k = n := by omega
      have HO : Hid (q = false) := HQ.out.symm.trans (by
        unfold anyP
        rw [← Bool.not_eq_true, List.any_eq_true]
        rintro ⟨i, hi, hp⟩
        rw [HM.out i (List.mem_range.1 hi)] at hp
        cases hp)
      go_wp2_with fail
      go_ret
      exact ⟨by rw [HO.out]; rfl, rfl⟩

def modsV (op : Int) : List Int := if op = 1 ∨ op = 2 then modsL else if op = 5 ∨ op = 6 then [10, 100] else []
theorem permV_mods (op md : Int) : permV op md = (modsV op).contains md := by
  unfold permV modsV
  split
  · rfl
  · split <;> rfl
theorem mods_any (op : Int) (w : World) : Calls Tryz.prog 141 #[.int .i64 op] w fun e w' => ∃ ad n c, e = .returned (.slice ad n c) ∧ Sl w' ad n (ints (modsV op)) ∧ Below w.heap.size w w' := by
  by_cases h12 : op = 1 ∨ op = 2
  · have HO : Hid (modsV op = modsL) := if_pos h12
    rw [HO.out]
    rcases h12 with h | h
    all_goals
      subst h
      go_enter Tryz.func141, Tryz.ntmps141
      go_wp2_with fail
      go_ret
      exact ⟨_, _, _, rfl, sl_made w (ints modsL) _ (by decide), (Below.refl _ _).alloc (Nat.le_refl _) _⟩
  · by_cases h56 : op = 5 ∨ op = 6
    · have HO : Hid (modsV op = [10, 100]) := by unfold Hid modsV; rw [if_neg h12, if_pos h56]
      rw [HO.out]
      rcases h56 with h | h
      all_goals
        subst h
        go_enter Tryz.func141, Tryz.ntmps141
        go_wp2_with fail
        go_ret
        exact ⟨_, _, _, rfl, sl_made w (ints [10, 100]) _ (by decide), (Below.refl _ _).alloc (Nat.le_refl _) _⟩
    · have HO : Hid (modsV op = []) := by unfold Hid modsV; rw [if_neg h12, if_neg h56]
      rw [HO.out]
      have e1 : (op == 1) = false := by simpa using fun h => h12 (.inl h)
      have e2 : (op == 2) = false := by simpa using fun h => h12 (.inr h)
      have e5 : (op == 5) = false := by simpa using fun h => h56 (.inl h)
      have e6 : (op == 6) = false := by simpa using fun h => h56 (.inr h)
      clear h12 h56
      go_enter Tryz.func141, Tryz.ntmps141
      go_wp2_with fail
      go_ret
      exact ⟨none, 0, 0, rfl, ⟨0, 0, rfl, Nat.zero_le _, fun h => absurd rfl h, fun i hi => absurd hi (Nat.not_lt_zero _)⟩, Below.refl _ _⟩
def classL : List ByteArray := [bs [122, 101, 114, 111], bs [111, 110, 101], bs [116, 119, 111], bs [102, 101, 119], bs [109, 97, 110, 121]]
theorem classes_any (w : World) : Calls Tryz.prog 19 #[] w fun e w' => ∃ ad n c, e = .returned (.slice ad n c) ∧ Sl w' ad n (strs classL) ∧ Below w.heap.size w w' := by
  go_enter Tryz.func19, Tryz.ntmps19
  go_wp2_with fail
  go_ret
  exact ⟨_, _, _, rfl, sl_made w (strs classL) _ (by decide), (Below.refl _ _).alloc (Nat.le_refl _) _⟩
theorem bs_beq (s t : List UInt8) : ((bs s).toList == (bs t).toList) = decide (s = t) := by
  rw [bs_toList, bs_toList, Bool.eq_iff_iff, beq_iff_eq, decide_eq_true_eq]
set_option maxRecDepth 20000 in
set_option maxHeartbeats 2000000 in
theorem is_any (b : Nat) (E k : Int) (s : List UInt8) (r : RS) (w : World) (h : Rd w b E r) : Calls Tryz.prog 56 #[.pointer (some ⟨b, 0, none⟩), .int .i64 k, .string (bs s)] w fun e w' => e = .returned (.bool (r.is E k s)) ∧ Below w.heap.size w w' := by
  have HP := Lib.hid (peek_any b E r w h)
  have HR := Lib.hid h
  have HV : Hid (r.is E k s = (decide (r.e = 0) && (decide ((r.peek E).1 = k) && decide ((r.peek E).2.1 = s)))) := rfl
  clear h
  unfold tokV at HP
  generalize r.is E k s = res at *
  generalize r.peek E = t at *
  obtain ⟨k', s', f⟩ := t
  simp only at HP HV
  have hq := bs_beq s' s
  generalize decide (s' = s) = q3 at *
  generalize bs s' = S at *
  generalize bs s = S2 at *
  go_enter Tryz.func56, Tryz.ntmps56
  go_wp2_with fail
  refine HP.out.mono ?_
  rintro _ w1 ⟨rfl, hb⟩
  have HB := Lib.hid hb
  have HR1 := Lib.hid (HR.out.below hb)
  clear hb HR HP
  go_upto_region 2 with (fail)
  have HB2 : Hid (Below w.heap.size w (w1.alloc (.cells #[.int .i64 k', .string S, .int .i64 f] 109))) := HB.out.alloc HB.out.size _
  have HR2 := Lib.hid (HR1.out.below (Bel.alloc (Bel.refl w1) (.cells #[.int .i64 k', .string S, .int .i64 f] 109)))
  have HX : Hid (Cel (w1.alloc (.cells #[.int .i64 k', .string S, .int .i64 f] 109)) w1.heap.size 109 [.int .i64 k', .string S, .int .i64 f]) := Cel.new w1 _ _
  have hbB : b < w1.heap.size := HR1.out.lt
  generalize w1.alloc (.cells #[.int .i64 k', .string S, .int .i64 f] 109) = w2 at *
  obtain ⟨B, hB⟩ : ∃ B, w1.heap.size = B := ⟨_, rfl⟩
  rw [hB] at HX hbB ⊢
  clear hB HB HR1
  have x0 := HX.out.cell 0
  have x1 := HX.out.cell 1
  have x2 := HX.out.cell 2
  simp only [List.getElem?_cons_zero, List.getElem?_cons_succ] at x0 x1 x2
  obtain ⟨c2, c3, f2, f3, f0⟩ := HR2.out.cells
  by_cases he : r.e = 0
  · have hz : (r.e == 0) = true := by simpa using he
    have hz2 : decide (r.e = 0) = true := decide_eq_true he
    rw [hz2, Bool.true_and] at HV
    by_cases hk : k' = k
    · have hy : (k' == k) = true := by simpa using hk
      have hy2 : decide (k' = k) = true := decide_eq_true hk
      rw [hy2, Bool.true_and] at HV
      cases q3 <;>
      (go_wp2_with fail
       go_ret
       exact ⟨by rw [HV.out]; rfl, HB2.out⟩)
    · have hy : (k' == k) = false := by simpa using hk
      have hy2 : decide (k' = k) = false := decide_eq_false hk
      rw [hy2, Bool.false_and] at HV
      go_wp2_with fail
      go_ret
      exact ⟨by rw [HV.out]; rfl, HB2.out⟩
  · have hz : (r.e == 0) = false := by simpa using he
    have hz2 : decide (r.e = 0) = false := decide_eq_false he
    rw [hz2, Bool.false_and] at HV
    go_wp2_with fail
    go_ret
    exact ⟨by rw [HV.out]; rfl, HB2.out⟩
theorem word_any (b : Nat) (E : Int) (r : RS) (w : World) (h : Rd w b E r) : Calls Tryz.prog 57 #[.pointer (some ⟨b, 0, none⟩)] w (RdP b E (.string (bs (r.word E).1)) (r.word E).2 w) := by
  have HT := Lib.hid (take_any b E 1 (by decide) r w h)
  unfold RS.word
  unfold RdP at HT ⊢
  clear h
  go_enter Tryz.func57, Tryz.ntmps57
  go_wp2_with fail
  refine HT.out.mono ?_
  rintro _ w1 ⟨rfl, hr, hk⟩
  have HR := Lib.hid hr
  have HK := Lib.hid hk
  clear hr hk
  go_wp2_with fail
  go_ret
  exact ⟨rfl, HR.out, HK.out⟩
set_option maxRecDepth 20000 in
set_option maxHeartbeats 2000000 in
theorem mark_any (b : Nat) (E : Int) (s : List UInt8) (r : RS) (w : World) (h : Rd w b E r) : Calls Tryz.prog 60 #[.pointer (some ⟨b, 0, none⟩), .string (bs s)] w (RdP b E (.tuple #[]) (r.mark E s) w) := by
  have HI := Lib.hid (is_any b E 3 s r w h)
  have HF := Lib.hid (fun W (g : Rd W b E r) => fail_any b E r 3 W g)
  have HT := Lib.hid (fun r W (g : Rd W b E r) => take_any b E 3 (by decide) r W g)
  have HR := Lib.hid h
  have HV : Hid (r.mark E s = ((if r.is E 3 s then r else r.fail E 3).take E 3).2) := rfl
  unfold RdP at HF HT ⊢
  clear h
  generalize r.mark E s = res at *
  generalize r.is E 3 s = q at *
  generalize bs s = S at *
  go_enter Tryz.func60, Tryz.ntmps60
  go_wp2_with fail
  refine HI.out.mono ?_
  rintro _ w1 ⟨rfl, hb⟩
  have HB := Lib.hid hb
  have HR1 := Lib.hid (HR.out.below hb)
  clear hb HR HI
  cases q with
  | true =>
    rw [if_pos rfl] at HV
    go_wp2_with fail
    refine (HT.out _ _ HR1.out).mono ?_
    rintro _ w3 ⟨rfl, hr, hk⟩
    have HR3 := Lib.hid hr
    have HK3 := Lib.hid ((kp_below HB.out).trans hk)
    clear hr hk
    go_wp2_with fail
    go_end0
    exact ⟨rfl, by rw [HV.out]; exact HR3.out, HK3.out⟩
  | false =>
    rw [if_neg (by simp)] at HV
    go_wp2_with fail
    refine (HF.out _ HR1.out).mono ?_
    rintro _ w2 ⟨rfl, hr, hk⟩
    have HR2 := Lib.hid hr
    have HK2 := Lib.hid ((kp_below HB.out).trans hk)
    clear hr hk
    go_wp2_with fail
    refine (HT.out _ _ HR2.out).mono ?_
    rintro _ w3 ⟨rfl, hr, hk⟩
    have HR3 := Lib.hid hr
    have HK3 := Lib.hid (HK2.out.trans hk)
    clear hr hk
    go_wp2_with fail
    go_end0
    exact ⟨rfl, by rw [HV.out]; exact HR3.out, HK3.out⟩
theorem infoStrT : (Tryz.prog.info? 9).map (fun i => (i.zero, i.size, i.bytes)) = some (some (.string .empty), 1, 16) := by kernel_rfl
theorem appStrT {ops : Array Oper} {rest : List Oper} {o : Oper} {a : Act} {Q : Exit → Act → World → Prop} {w : World}
    (hgd : o.guard = none) (s x : Operand) (ho : o.op = .call { callee := .builtin .append, args := #[s, x], argTypes := #[44, 44] })
    (base : Nat) (ad : Option Addr) (n c : Nat) (xs : List Value) (hs : a.eval s = .slice ad n c) (hown : w.ownsRow base 9 1 (.slice ad n c) n xs)
    (y : Value) (E' : TypeId) (hx : a.eval x = .slice (some ⟨w.heap.size, 0, none⟩) 1 1) (hy : y.oneCell' = true)
    (h63 : n + 1 ≤ maxLen) (hbytes : (n + 1) * 16 ≤ 140737488355328) (hbase : base ≤ w.heap.size)
    (h : ∀ ad' c' w', w'.ownsRow base 9 1 (.slice ad' (n + 1) c') (n + 1) (xs ++ [y]) → Below base w w' → w.grownBy w' (Value.ownBlock (.slice ad n c)) → w.heap.size < w'.heap.size →
      wpList Tryz.prog ops Q rest (a.put o.dst (.slice ad' (n + 1) c')) w') : wpList Tryz.prog ops Q (o :: rest) a (w.alloc (.cells #[y] E')) := by
  obtain ⟨i0, hi, hz0, hz1, hz2⟩ := info_parts infoStrT
  exact wpList_app 44 9 16 Tryz.underlying44 i0 _ hi hz0 hz1 hz2 rfl hgd s x ho base ad n c xs hs hown y E' hx hy h63 hbytes hbase h

end Go.Proofs.YtmleeodfmmpdgaaGreatDoor
