/- Plain: the numbers of what is read lie in their range. -/
import Derived.Test.YtmleeodfmmpdgaaGreatDoorQ27
import Derived.Test.YtmleeodfmmpdgaaGreatDoorQ23
import Derived.Test.YtmleeodfmmpdgaaGreatDoorQ24
import Derived.Test.YtmleeodfmmpdgaaGreatDoorQ25
import Derived.Deep.DrawnRows
import Derived.Test.YtmleeodfmmpdgaaGreatDoorQ22
import Derived.Test.YtmleeodfmmpdgaaGreatDoorQ05
import Derived.Deep.DeepCutAuto
namespace Go.Proofs.YtmleeodfmmpdgaaGreatDoor
end Go.Proofs.YtmleeodfmmpdgaaGreatDoor
namespace Go.Proofs.YtmleeodfmmpdgaaGreatDoor
open Go.RowKit
attribute [local go_sem] Ext.cell Ext.frozen
attribute [local go_sem ↓] Go.wp_at_zero Go.wp_at_succ
def aw12 : List UInt8 := [97, 108, 105, 97, 115, 32, 105, 119, 32, 104, 101, 59]
theorem aw12_pos : posV aw12 0 = 0 ∧ posV aw12 1 = 6 ∧ posV aw12 2 = 9 ∧ posV aw12 3 = 11 ∧ posV aw12 4 = 12 := by decide +kernel
theorem aw12_items : itemV aw12 0 = ((1, [97, 108, 105, 97, 115], 0), 5, 0, 0) ∧ itemV aw12 1 = ((1, [105, 119], 6), 2, 0, 0) ∧ itemV aw12 2 = ((1, [104, 101], 9), 2, 0, 0) ∧ itemV aw12 3 = ((3, [59], 11), 1, 0, 0) := by decide +kernel
theorem aw12_run : runM aw12 = 4 := by
  obtain ⟨p0, p1, p2, p3, p4⟩ := aw12_pos
  obtain ⟨i0, i1, i2, i3⟩ := aw12_items
  refine run_unique (runM_ok aw12).1 (fun k hk => ?_) (by rw [p4]; decide)
  match k, hk with
  | 0, _ => exact ⟨by rw [p0]; decide, by rw [i0]⟩
  | 1, _ => exact ⟨by rw [p1]; decide, by rw [i1]⟩
  | 2, _ => exact ⟨by rw [p2]; decide, by rw [i2]⟩
  | 3, _ => exact ⟨by rw [p3]; decide, by rw [i3]⟩
theorem aw12_toks : toksV aw12 = ([(1, [97, 108, 105, 97, 115], 0), (1, [105, 119], 6), (1, [104, 101], 9), (3, [59], 11)], 0, 0) := by
  obtain ⟨i0, i1, i2, i3⟩ := aw12_items
  have hu : upto (itemV aw12) 4 = [itemV aw12 0, itemV aw12 1, itemV aw12 2, itemV aw12 3] := rfl
  unfold toksV
  rw [aw12_run, if_pos]
  · rw [hu, i0, i1, i2, i3]
    rfl
  · rw [allOk_iff]
    intro k hk
    match k, hk with
    | 0, _ => rw [i0]
    | 1, _ => rw [i1]
    | 2, _ => rw [i2]
    | 3, _ => rw [i3]
theorem aw12_parse : tParse aw12 = (⟨[], [⟨bs [105, 119], bs [104, 101]⟩], []⟩, 0, 0) := by
  unfold tParse
  rw [if_neg (by decide), aw12_toks]
  rfl
theorem aw12_read (w : World) (hM : MaxLen w) (hU : TabU w) : Calls Tryz.prog 11 #[.string (bs aw12)] w (ParseP w (tParse aw12)) := by
  have ht : (toksV aw12).1 = [(1, [97, 108, 105, 97, 115], 0), (1, [105, 119], 6), (1, [104, 101], 9), (3, [59], 11)] := by rw [aw12_toks]
  refine tparse_gen aw12 (by decide) w hM hU (fun t q => (t = tb0 ∧ q = ⟨(toksV aw12).1, 0, 0⟩) ∨ q.l = []) (.inl ⟨rfl, rfl⟩) ?_ ?_
  · rintro t q (⟨rfl, rfl⟩ | h) _ hne
    · rw [ht]
      exact .inr rfl
    · exact absurd h hne
  · rintro t q (⟨rfl, rfl⟩ | h) _ hne b base T w hr hb hl hM h0 h1 h2
    · exact part_alias b _ base T tb0 _ w hr hb hl hM h0 h1 h2 (by rw [ht]; rfl) (by rw [ht]; rfl)
    · exact absurd h hne
theorem RowsOf.shape {α : Type} {k : Nat} {C : World → (Nat → Value) → α → Prop} {w : World} {v : Value} {l : List α} (h : RowsOf k C w v l) : ∃ ad c, v = .slice ad l.length c := by
  obtain ⟨ad, c, _, _, _, h, _⟩ := h
  exact ⟨ad, c, h⟩
theorem one_al {w : World} {v : Value} {a : Al} (h : RowsOf 2 AlC w v [a]) : ∃ ad c b off, v = .slice ad 1 c ∧ (∀ W, (Instr.indexAt 24 (.slice ad 1 c) (.int .i64 0)).run Tryz.prog W = .ok (.pointer (some ⟨b, off, none⟩)) W) ∧ w.cell? ⟨b, off, none⟩ = some (.string a.fro) ∧ w.cell? ⟨b, off + 1, none⟩ = some (.string a.dst) := by
  obtain ⟨ad, c, f, b, off, rfl, hr, _, _, _, hC⟩ := h.opn
  have h0 := hC 0 (by simp)
  have hi := hr.ix (P := Tryz.prog) 24 61 Tryz.underlying24 cellsAlV (by decide) (i := 0) (by simp) c
  have e0 := hr.cell 0 0 (by simp) (by decide)
  have e1 := hr.cell 0 1 (by simp) (by decide)
  rw [h0.c0.1] at e0
  rw [h0.c1.1] at e1
  simp only [Nat.zero_mul, Nat.add_zero] at hi e0 e1
  exact ⟨ad, c, b, off, rfl, hi, e0, e1⟩
set_option maxRecDepth 20000 in
set_option maxHeartbeats 4000000 in
theorem awake12_any (w : World) (hM : MaxLen w) (hU : TabU w) : Calls Tryz.prog 10 #[] w fun e w' => e = .returned (.bool true) ∧ Below w.heap.size w w' := by
  have HP : Hid (Calls Tryz.prog 11 #[.string ⟨#[97, 108, 105, 97, 115, 32, 105, 119, 32, 104, 101, 59]⟩] w (ParseP w (tParse aw12))) := aw12_read w hM hU
  rw [aw12_parse] at HP
  unfold ParseP at HP
  have hq := fun W => eq_AlP ⟨#[105, 119]⟩ ⟨#[104, 101]⟩ ⟨#[105, 119]⟩ ⟨#[104, 101]⟩ W (by decide) (by decide) (by decide) (by decide)
  rw [decide_eq_true (by exact ⟨rfl, rfl⟩)] at hq
  clear hM hU
  go_enter Tryz.func10, Tryz.ntmps10
  go_wp2_with fail
  refine HP.out.mono ?_
  rintro e w1 ⟨f, rfl, ht, hb⟩
  obtain ⟨ad, c, b, off, h1, hix, e0, e1⟩ := one_al ht.c1
  have e0 := (see_all _ _ _) _ _ e0
  have e1 := (see_all _ _ _) _ _ e1
  replace e0 : w1.cell? ⟨b, off, none⟩ = some (.string ⟨#[105, 119]⟩) := e0
  replace e1 : w1.cell? ⟨b, off + 1, none⟩ = some (.string ⟨#[104, 101]⟩) := e1
  have hbl := World.block_lt_of_cell? w1 _ e0
  replace hbl : b < w1.heap.size := hbl
  obtain ⟨a0, k0, h0⟩ := ht.c0.shape
  obtain ⟨a2, k2, h2⟩ := ht.c2.shape
  simp only [List.length_nil] at h0 h2
  rw [h0, h1, h2]
  have HB := Lib.hid hb
  clear ht h0 h1 h2 hb
  go_wp2_with fail
  go_ret
  exact ⟨rfl, HB.out.alloc HB.out.size _⟩
theorem wp_at_worldF {P : Program} {c : Code} {Q : Exit → Act → World → Prop} {a : Act} {w : World} (h : ∀ W, W = w → c.wp P Q a W) : c.wp P Q a w := h w rfl
theorem words_lit (T : TypeId) (l : List ByteArray) (cs : Array Value) (hcs : cs = (l.map Value.string).toArray) (h0 : l.length ≤ 1000) (hz : ∀ s ∈ l, s.size ≤ 200000) (W0 : World) (b : Nat) (hb : W0.heap.size = b) :
    Calls Tryz.prog 45 #[.slice (some ⟨b, 0, none⟩) l.length l.length] (W0.alloc (.cells cs T)) fun e w' => e = .returned (.bool (okWs l)) ∧ Below W0.heap.size W0 w' :=
  (pwords_any _ l _ (lit_rows W0 l cs T hcs h0 (fun s hs => Nat.le_trans (hz s hs) (by omega)) b hb) hz).mono fun _ _ h => ⟨h.1, ((Below.refl _ _).alloc (Nat.le_refl _) _).trans (h.2.mono (by simp))⟩
theorem texts_lit (T : TypeId) (l : List ByteArray) (cs : Array Value) (hcs : cs = (l.map Value.string).toArray) (h0 : l.length ≤ 1000) (hz : ∀ s ∈ l, s.size ≤ 200000) (W0 : World) (hU : TabU W0) (b : Nat) (hb : W0.heap.size = b) :
    Calls Tryz.prog 96 #[.slice (some ⟨b, 0, none⟩) l.length l.length] (W0.alloc (.cells cs T)) fun e w' => e = .returned (.bool (okXs l)) ∧ Below W0.heap.size W0 w' :=
  (ptexts_any _ l _ (lit_rows W0 l cs T hcs h0 (fun s hs => Nat.le_trans (hz s hs) (by omega)) b hb) hz (hU.below ((Below.refl _ _).alloc (Nat.le_refl _) _))).mono fun _ _ h => ⟨h.1, ((Below.refl _ _).alloc (Nat.le_refl _) _).trans (h.2.mono (by simp))⟩
set_option maxRecDepth 20000 in
set_option maxHeartbeats 8000000 in
theorem rules1_any (x : Nat → Value) (r : ByteArray × List (List Rel)) (w : World) (h : RuleC w x r) (hl : r.2.length ≤ 30) : Calls Tryz.prog 150 #[.agg #[x 0, x 1]] w fun e w' => e = .returned (.bool (okRule r)) ∧ Below w.heap.size w w' := by
  obtain ⟨h0, h1⟩ := h
  have HT := Lib.hid tclasses_any
  have HCT := Lib.hid (fun ad n c W (g : Sl W ad n (strs classL)) => contains_str ad n c classL r.1 W g)
  have HV : Hid (∀ W, Below w.heap.size w W → Calls Tryz.prog 152 #[x 1] W fun e w' => e = .returned (.bool (validC r.2)) ∧ Below W.heap.size W w') := fun W hb => cvalid_any (x 1) r.2 W (h1.below hb) hl
  have HO : Hid (okRule r = (classL.contains r.1 && validC r.2)) := rfl
  obtain ⟨ad, c, hv⟩ := RowsOf.shape h1
  rw [HO.out, h0]
  rw [hv] at HV ⊢
  clear h1 h0 hv HO hl
  generalize classL.contains r.1 = p at *
  generalize validC r.2 = q at *
  generalize r.1 = s at *
  generalize r.2.length = n at *
  obtain ⟨A, hA⟩ : ∃ A, w.heap.size = A := ⟨_, rfl⟩
  go_enter Tryz.func150, Tryz.ntmps150
  go_wp2_with fail
  refine wp_at_worldF ?_
  intro wa hwa
  have a0 : wa.cell? ⟨A, 0, none⟩ = some (.string s) := by rw [hwa, ← hA]; simp [go_sem]
  have a1 : wa.cell? ⟨A, 1, none⟩ = some (.slice ad n c) := by rw [hwa, ← hA]; simp [go_sem]
  have HBA : Hid (Below w.heap.size w wa) := by rw [hwa]; exact (Below.refl _ _).alloc (Nat.le_refl _) _
  have hAz : A < wa.heap.size := World.block_lt_of_cell? _ _ a0
  clear hwa
  refine wp_region_held_drew (S := (fun w' => w'.cell? ⟨A, 0, none⟩ = some (.string s) ∧ w'.cell? ⟨A, 1, none⟩ = some (.slice ad n c))) (by kernel_rfl) ?_ (fun hHeld => ?_)
  · go_keep
  refine wpAnyH_take (i := 1) (v := ?_) rfl (by kernel_rfl) (by kernel_rfl) (by kernel_rfl) (fun _ _ _ h => h) (Or.inl ⟨by kernel_rfl, ?_⟩) hHeld ?_
  rotate_left
  · (intro wx hSw; (try dsimp only at hSw); go_simp; try with_reducible rfl)
  refine wpAnyH_take (i := 2) (v := ?_) rfl (by kernel_rfl) (by kernel_rfl) (by kernel_rfl) (fun _ _ _ h => h) (Or.inl ⟨by kernel_rfl, ?_⟩) hHeld ?_
  rotate_left
  · (intro wx hSw; (try dsimp only at hSw); go_simp; try with_reducible rfl)
  simp only [Act.put, List.getElem_toArray, List.getElem_cons_succ, List.getElem_cons_zero, List.setIfInBounds_toArray, List.set_cons_zero, List.set_cons_succ]
  refine wpAnyH_ready (rs := [0]) (by kernel_rfl) (by simp) ?_
  refine AllReadyH.cons rfl (fun K hK => ?_) AllReadyH.nil
  go_simp
  refine (HT.out _).mono ?_
  rintro e w2 ⟨ad2, n2, c2, rfl, hs2, hb2⟩
  have hb2 : Below wa.heap.size wa w2 := (Below.refl _ _).drew.trans hb2
  have k0 := (hb2.cell (p := ⟨A, 0, none⟩) hAz).trans a0
  have k1 := (hb2.cell (p := ⟨A, 1, none⟩) hAz).trans a1
  have HB2 : Hid (Below w.heap.size w w2) := HBA.out.trans (hb2.mono HBA.out.size)
  have hAz2 : A < w2.heap.size := Nat.lt_of_lt_of_le hAz hb2.size
  have HS2 := Lib.hid hs2
  clear hs2 hb2
  go_simp
  clear hHeld
  refine hK.out _ _ ?_ (fun hHeld => ?_)
  · exact ⟨k0, k1⟩
  clear hK K
  refine wpAnyH_ready (rs := [3]) (by kernel_rfl) (by simp) ?_
  refine AllReadyH.cons rfl (fun K hK => ?_) AllReadyH.nil
  go_simp
  refine (HCT.out _ _ _ _ HS2.out).mono ?_
  rintro e _ ⟨rfl, rfl⟩
  go_simp
  clear hHeld
  refine hK.out _ _ ?_ (fun hHeld => ?_)
  · exact ⟨k0, k1⟩
  clear hK K
  cases p with
  | false =>
    refine wpAnyH_take (i := 4) (v := ?_) rfl (by kernel_rfl) (by kernel_rfl) (by kernel_rfl) (fun _ _ _ h => h) (Or.inl ⟨by kernel_rfl, ?_⟩) hHeld ?_
    rotate_left
    · (intro wx hSw; (try dsimp only at hSw); go_simp; try with_reducible rfl)
    refine wpAnyH_take (i := 5) rfl (by kernel_rfl) (by kernel_rfl) (by kernel_rfl) (fun _ _ _ h => h) (Or.inr ⟨by kernel_rfl, rfl⟩) hHeld ?_
    refine wpAnyH_take (i := 6) rfl (by kernel_rfl) (by kernel_rfl) (by kernel_rfl) (fun _ _ _ h => h) (Or.inr ⟨by kernel_rfl, rfl⟩) hHeld ?_
    refine wpAnyH_take (i := 7) rfl (by kernel_rfl) (by kernel_rfl) (by kernel_rfl) (fun _ _ _ h => h) (Or.inr ⟨by kernel_rfl, rfl⟩) hHeld ?_
    refine wpAnyH_take (i := 8) (v := ?_) rfl (by kernel_rfl) (by kernel_rfl) (by kernel_rfl) (fun _ _ _ h => h) (Or.inl ⟨by kernel_rfl, ?_⟩) hHeld ?_
    rotate_left
    · (intro wx hSw; (try dsimp only at hSw); go_simp; try with_reducible rfl)
    refine wpAnyH_take (i := 9) (v := ?_) rfl (by kernel_rfl) (by kernel_rfl) (by kernel_rfl) (fun _ _ _ h => h) (Or.inl ⟨by kernel_rfl, ?_⟩) hHeld ?_
    rotate_left
    · (intro wx hSw; (try dsimp only at hSw); go_simp; try with_reducible rfl)
    simp only [Act.put, List.getElem_toArray, List.getElem_cons_succ, List.getElem_cons_zero, List.setIfInBounds_toArray, List.set_cons_zero, List.set_cons_succ]
    refine wpAnyH_done (by kernel_rfl) ?_ _
    clear hHeld
    go_wp2_with fail
    go_ret
    exact ⟨rfl, HB2.out⟩
  | true =>
    refine wpAnyH_take (i := 4) (v := ?_) rfl (by kernel_rfl) (by kernel_rfl) (by kernel_rfl) (fun _ _ _ h => h) (Or.inl ⟨by kernel_rfl, ?_⟩) hHeld ?_
    rotate_left
    · (intro wx hSw; (try dsimp only at hSw); go_simp; try with_reducible rfl)
    refine wpAnyH_take (i := 5) (v := ?_) rfl (by kernel_rfl) (by kernel_rfl) (by kernel_rfl) (fun _ _ _ h => h) (Or.inl ⟨by kernel_rfl, ?_⟩) hHeld ?_
    rotate_left
    · (intro wx hSw; (try dsimp only at hSw); go_simp; try with_reducible rfl)
    refine wpAnyH_take (i := 6) (v := ?_) rfl (by kernel_rfl) (by kernel_rfl) (by kernel_rfl) (fun _ _ _ h => h) (Or.inl ⟨by kernel_rfl, ?_⟩) hHeld ?_
    rotate_left
    · (intro wx hSw; (try dsimp only at hSw); go_simp; try with_reducible rfl)
    simp only [Act.put, List.getElem_toArray, List.getElem_cons_succ, List.getElem_cons_zero, List.setIfInBounds_toArray, List.set_cons_zero, List.set_cons_succ]
    refine wpAnyH_ready (rs := [7]) (by kernel_rfl) (by simp) ?_
    refine AllReadyH.cons rfl (fun K hK => ?_) AllReadyH.nil
    go_simp
    refine (HV.out _ HB2.out).mono ?_
    rintro e w3 ⟨rfl, hb3⟩
    have m0 := (hb3.cell (p := ⟨A, 0, none⟩) hAz2).trans k0
    have m1 := (hb3.cell (p := ⟨A, 1, none⟩) hAz2).trans k1
    have HB3 : Hid (Below w.heap.size w w3) := HB2.out.trans (hb3.mono HB2.out.size)
    clear hb3
    go_simp
    clear hHeld
    refine hK.out _ _ ?_ (fun hHeld => ?_)
    · exact ⟨m0, m1⟩
    clear hK K
    refine wpAnyH_take (i := 8) (v := ?_) rfl (by kernel_rfl) (by kernel_rfl) (by kernel_rfl) (fun _ _ _ h => h) (Or.inl ⟨by kernel_rfl, ?_⟩) hHeld ?_
    rotate_left
    · (intro wx hSw; (try dsimp only at hSw); go_simp; try with_reducible rfl)
    refine wpAnyH_take (i := 9) (v := ?_) rfl (by kernel_rfl) (by kernel_rfl) (by kernel_rfl) (fun _ _ _ h => h) (Or.inl ⟨by kernel_rfl, ?_⟩) hHeld ?_
    rotate_left
    · (intro wx hSw; (try dsimp only at hSw); go_simp; try with_reducible rfl)
    simp only [Act.put, List.getElem_toArray, List.getElem_cons_succ, List.getElem_cons_zero, List.setIfInBounds_toArray, List.set_cons_zero, List.set_cons_succ]
    refine wpAnyH_done (by kernel_rfl) ?_ _
    clear hHeld
    go_wp2_with fail
    go_ret
    exact ⟨by cases q <;> rfl, HB3.out⟩
set_option maxRecDepth 20000 in
set_option maxHeartbeats 8000000 in
theorem pat1_any (x : Nat → Value) (y : Lp) (w : World) (h : LpC w x y) (hz : ∀ s ∈ [y.style, y.two, y.start, y.mid, y.fin], s.size ≤ 200000) (hU : TabU w) : Calls Tryz.prog 160 #[.agg #[x 0, x 1, x 2, x 3, x 4]] w fun e w' => e = .returned (.bool (okLp y)) ∧ Below w.heap.size w w' := by
  have HO : Hid (okLp y = (okWs [y.style] && okXs [y.two, y.start, y.mid, y.fin])) := rfl
  have HW : Hid (∀ W0, Below w.heap.size w W0 → ∀ b, W0.heap.size = b → Calls Tryz.prog 45 #[.slice (some ⟨b, 0, none⟩) 1 1] (W0.alloc (.cells #[.string (y.style)] 9)) fun e w' => e = .returned (.bool (okWs [y.style])) ∧ Below W0.heap.size W0 w') := fun W0 _ b hb => words_lit 9 [y.style] _ rfl (by simp) (fun s hs => hz s (List.mem_append_left [y.two, y.start, y.mid, y.fin] hs)) W0 b hb
  have HT : Hid (∀ W0, Below w.heap.size w W0 → ∀ b, W0.heap.size = b → Calls Tryz.prog 96 #[.slice (some ⟨b, 0, none⟩) 4 4] (W0.alloc (.cells #[.string (y.two), .string (y.start), .string (y.mid), .string (y.fin)] 9)) fun e w' => e = .returned (.bool (okXs [y.two, y.start, y.mid, y.fin])) ∧ Below W0.heap.size W0 w') := fun W0 hb0 b hb => texts_lit 9 [y.two, y.start, y.mid, y.fin] _ rfl (by simp) (fun s hs => hz s (List.mem_append_right [y.style] hs)) W0 (hU.below hb0) b hb
  rw [HO.out, h.c0.1, h.c1.1, h.c2.1, h.c3.1, h.c4.1]
  clear h hz hU HO
  generalize okWs [y.style] = p at *
  generalize okXs [y.two, y.start, y.mid, y.fin] = q at *
  generalize y.style = a0 at *
  generalize y.two = a1 at *
  generalize y.start = a2 at *
  generalize y.mid = a3 at *
  generalize y.fin = a4 at *
  go_enter Tryz.func160, Tryz.ntmps160
  go_upto_region 1 with (fail)
  refine wp_at_worldF ?_
  intro wa hwa
  have HX : Hid (Cel wa w.heap.size 130 [.string a0, .string a1, .string a2, .string a3, .string a4]) := by rw [hwa]; exact Cel.new w [.string a0, .string a1, .string a2, .string a3, .string a4] 130
  have HB : Hid (Below w.heap.size w wa) := by rw [hwa]; exact (Below.refl _ _).alloc (Nat.le_refl _) _
  have hz := HB.out.size
  clear hwa
  have x0 := HX.out.cell 0
  have x1 := HX.out.cell 1
  have x2 := HX.out.cell 2
  have x3 := HX.out.cell 3
  have x4 := HX.out.cell 4
  have hlx := HX.out.lt
  simp only [List.getElem?_cons_zero, List.getElem?_cons_succ] at x0 x1 x2 x3 x4
  go_wp2_with fail
  refine (HW.out _ HB.out _ (by first | rfl | simp)).mono ?_
  rintro e w2 ⟨rfl, hb⟩
  replace HX := Lib.hid (HX.out.below hb)
  replace HB := Lib.hid (HB.out.trans (hb.mono HB.out.size))
  clear hb hlx x0 x1 x2 x3 x4
  have x0 := HX.out.cell 0
  have x1 := HX.out.cell 1
  have x2 := HX.out.cell 2
  have x3 := HX.out.cell 3
  have x4 := HX.out.cell 4
  have hlx := HX.out.lt
  simp only [List.getElem?_cons_zero, List.getElem?_cons_succ] at x0 x1 x2 x3 x4
  cases p with
  | false =>
    go_wp2_with fail
    go_ret
    exact ⟨rfl, HB.out⟩
  | true =>
    go_wp2_with fail
    refine (HT.out _ HB.out _ (by first | rfl | simp)).mono ?_
    rintro e w3 ⟨rfl, hb⟩
    replace HX := Lib.hid (HX.out.below hb)
    replace HB := Lib.hid (HB.out.trans (hb.mono HB.out.size))
    clear hb hlx x0 x1 x2 x3 x4
    have x0 := HX.out.cell 0
    have x1 := HX.out.cell 1
    have x2 := HX.out.cell 2
    have x3 := HX.out.cell 3
    have x4 := HX.out.cell 4
    have hlx := HX.out.lt
    simp only [List.getElem?_cons_zero, List.getElem?_cons_succ] at x0 x1 x2 x3 x4
    cases q with
    | false =>
      go_wp2_with fail
      go_ret
      exact ⟨rfl, HB.out⟩
    | true =>
      go_wp2_with fail
      go_ret
      exact ⟨rfl, HB.out⟩
set_option maxRecDepth 20000 in
set_option maxHeartbeats 8000000 in
theorem pat3_any (x : Nat → Value) (y : Dp) (w : World) (h : DpC w x y) (hz : ∀ s ∈ [y.skel, y.pat], s.size ≤ 200000) (hU : TabU w) : Calls Tryz.prog 165 #[.agg #[x 0, x 1]] w fun e w' => e = .returned (.bool (okDp y)) ∧ Below w.heap.size w w' := by
  have HO : Hid (okDp y = (okWs [y.skel] && okXs [y.pat])) := rfl
  have HW : Hid (∀ W0, Below w.heap.size w W0 → ∀ b, W0.heap.size = b → Calls Tryz.prog 45 #[.slice (some ⟨b, 0, none⟩) 1 1] (W0.alloc (.cells #[.string (y.skel)] 9)) fun e w' => e = .returned (.bool (okWs [y.skel])) ∧ Below W0.heap.size W0 w') := fun W0 _ b hb => words_lit 9 [y.skel] _ rfl (by simp) (fun s hs => hz s (List.mem_append_left [y.pat] hs)) W0 b hb
  have HT : Hid (∀ W0, Below w.heap.size w W0 → ∀ b, W0.heap.size = b → Calls Tryz.prog 96 #[.slice (some ⟨b, 0, none⟩) 1 1] (W0.alloc (.cells #[.string (y.pat)] 9)) fun e w' => e = .returned (.bool (okXs [y.pat])) ∧ Below W0.heap.size W0 w') := fun W0 hb0 b hb => texts_lit 9 [y.pat] _ rfl (by simp) (fun s hs => hz s (List.mem_append_right [y.skel] hs)) W0 (hU.below hb0) b hb
  rw [HO.out, h.c0.1, h.c1.1]
  clear h hz hU HO
  generalize okWs [y.skel] = p at *
  generalize okXs [y.pat] = q at *
  generalize y.skel = a0 at *
  generalize y.pat = a1 at *
  go_enter Tryz.func165, Tryz.ntmps165
  go_upto_region 1 with (fail)
  refine wp_at_worldF ?_
  intro wa hwa
  have HX : Hid (Cel wa w.heap.size 134 [.string a0, .string a1]) := by rw [hwa]; exact Cel.new w [.string a0, .string a1] 134
  have HB : Hid (Below w.heap.size w wa) := by rw [hwa]; exact (Below.refl _ _).alloc (Nat.le_refl _) _
  have hz := HB.out.size
  clear hwa
  have x0 := HX.out.cell 0
  have x1 := HX.out.cell 1
  have hlx := HX.out.lt
  simp only [List.getElem?_cons_zero, List.getElem?_cons_succ] at x0 x1
  go_wp2_with fail
  refine (HW.out _ HB.out _ (by first | rfl | simp)).mono ?_
  rintro e w2 ⟨rfl, hb⟩
  replace HX := Lib.hid (HX.out.below hb)
  replace HB := Lib.hid (HB.out.trans (hb.mono HB.out.size))
  clear hb hlx x0 x1
  have x0 := HX.out.cell 0
  have x1 := HX.out.cell 1
  have hlx := HX.out.lt
  simp only [List.getElem?_cons_zero, List.getElem?_cons_succ] at x0 x1
  cases p with
  | false =>
    go_wp2_with fail
    go_ret
    exact ⟨rfl, HB.out⟩
  | true =>
    go_wp2_with fail
    refine (HT.out _ HB.out _ (by first | rfl | simp)).mono ?_
    rintro e w3 ⟨rfl, hb⟩
    replace HX := Lib.hid (HX.out.below hb)
    replace HB := Lib.hid (HB.out.trans (hb.mono HB.out.size))
    clear hb hlx x0 x1
    have x0 := HX.out.cell 0
    have x1 := HX.out.cell 1
    have hlx := HX.out.lt
    simp only [List.getElem?_cons_zero, List.getElem?_cons_succ] at x0 x1
    cases q with
    | false =>
      go_wp2_with fail
      go_ret
      exact ⟨rfl, HB.out⟩
    | true =>
      go_wp2_with fail
      go_ret
      exact ⟨rfl, HB.out⟩
theorem classU_eq : unitL = classU := rfl
theorem cell_al {w : World} {o : Obj} {p : Addr} {v : Value} (h : w.cell? p = some v) : (w.alloc o).cell? p = some v := by
  have hlt := World.block_lt_of_cell? _ _ h
  exact (((Below.refl w.heap.size w).alloc (Nat.le_refl _) o).cell hlt).trans h
set_option maxRecDepth 20000 in
set_option maxHeartbeats 8000000 in
theorem pat2_any (x : Nat → Value) (y : Up) (w : World) (h : UpC w x y) (hz : ∀ s ∈ [y.unit, y.cls, y.pat], s.size ≤ 200000) (hU : TabU w) : Calls Tryz.prog 162 #[.agg #[x 0, x 1, x 2]] w fun e w' => e = .returned (.bool (okUp y)) ∧ Below w.heap.size w w' := by
  have HO : Hid (okUp y = (okWs [y.unit] && (classU.contains y.cls && okXs [y.pat]))) := rfl
  have HCU := Lib.hid uclasses_any
  have HCT := Lib.hid (fun ad n c W (g : Sl W ad n (strs unitL)) => contains_str ad n c unitL y.cls W g)
  rw [Hid, classU_eq] at HCU HCT
  have HCU := Lib.hid HCU
  have HCT := Lib.hid HCT
  have HW : Hid (∀ W0, Below w.heap.size w W0 → ∀ b, W0.heap.size = b → Calls Tryz.prog 45 #[.slice (some ⟨b, 0, none⟩) 1 1] (W0.alloc (.cells #[.string (y.unit)] 9)) fun e w' => e = .returned (.bool (okWs [y.unit])) ∧ Below W0.heap.size W0 w') := fun W0 _ b hb => words_lit 9 [y.unit] _ rfl (by simp) (fun s hs => hz s (List.mem_append_left [y.cls, y.pat] hs)) W0 b hb
  have HT : Hid (∀ W0, Below w.heap.size w W0 → ∀ b, W0.heap.size = b → Calls Tryz.prog 96 #[.slice (some ⟨b, 0, none⟩) 1 1] (W0.alloc (.cells #[.string (y.pat)] 9)) fun e w' => e = .returned (.bool (okXs [y.pat])) ∧ Below W0.heap.size W0 w') := fun W0 hb0 b hb => texts_lit 9 [y.pat] _ rfl (by simp) (fun s hs => hz s (List.mem_append_right [y.unit, y.cls] hs)) W0 (hU.below hb0) b hb
  rw [HO.out, h.c0.1, h.c1.1, h.c2.1]
  clear h hz hU HO
  generalize okWs [y.unit] = p at *
  generalize classU.contains y.cls = q at *
  generalize okXs [y.pat] = r at *
  generalize y.unit = a0 at *
  generalize y.cls = a1 at *
  generalize y.pat = a2 at *
  obtain ⟨A, hA⟩ : ∃ A, w.heap.size = A := ⟨_, rfl⟩
  go_enter Tryz.func162, Tryz.ntmps162
  go_wp2_with fail
  refine wp_at_worldF ?_
  intro wa hwa
  have k0 : wa.cell? ⟨A, 0, none⟩ = some (.string a0) := by rw [hwa, ← hA]; simp [go_sem]
  have k1 : wa.cell? ⟨A, 1, none⟩ = some (.string a1) := by rw [hwa, ← hA]; simp [go_sem]
  have k2 : wa.cell? ⟨A, 2, none⟩ = some (.string a2) := by rw [hwa, ← hA]; simp [go_sem]
  have HB : Hid (Below w.heap.size w wa) := by rw [hwa]; exact (Below.refl _ _).alloc (Nat.le_refl _) _
  have hAz : A < wa.heap.size := World.block_lt_of_cell? _ _ k0
  clear hwa
  refine wp_region_held_drew (S := (fun w' => w'.cell? ⟨A, 0, none⟩ = some (.string a0) ∧ w'.cell? ⟨A, 1, none⟩ = some (.string a1) ∧ w'.cell? ⟨A, 2, none⟩ = some (.string a2))) (by kernel_rfl) ?_ (fun hHeld => ?_)
  · go_keep
  refine wpAnyH_take (i := 0) (v := ?_) rfl (by kernel_rfl) (by kernel_rfl) (by kernel_rfl) (fun _ _ _ h => h) (Or.inl ⟨by kernel_rfl, ?_⟩) hHeld ?_
  rotate_left
  · (intro wx hSw; (try dsimp only at hSw); go_simp; try with_reducible rfl)
  refine wpAnyH_take (i := 1) (v := ?_) rfl (by kernel_rfl) (by kernel_rfl) (by kernel_rfl) (fun _ _ _ h => h) (Or.inl ⟨by kernel_rfl, ?_⟩) hHeld ?_
  rotate_left
  · (intro wx hSw; (try dsimp only at hSw); go_simp; try with_reducible rfl)
  simp only [Act.put, List.getElem_toArray, List.getElem_cons_succ, List.getElem_cons_zero, List.setIfInBounds_toArray, List.set_cons_zero, List.set_cons_succ]
  replace HB : Hid (Below w.heap.size w wa.drew) := HB.out.drew
  replace k0 : wa.drew.cell? ⟨A, 0, none⟩ = some (.string a0) := k0
  replace k1 : wa.drew.cell? ⟨A, 1, none⟩ = some (.string a1) := k1
  replace k2 : wa.drew.cell? ⟨A, 2, none⟩ = some (.string a2) := k2
  replace hAz : A < wa.drew.heap.size := hAz
  generalize wa.drew = wd at *
  refine wpAnyH_ready (rs := [2]) (by kernel_rfl) (by simp) ?_
  refine AllReadyH.cons rfl (fun K hK => ?_) AllReadyH.nil
  go_simp
  clear hHeld
  refine hK.out _ _ ?_ (fun hHeld => ?_)
  · exact ⟨cell_al k0, cell_al k1, cell_al k2⟩
  clear hK K
  refine wpAnyH_ready (rs := [3]) (by kernel_rfl) (by simp) ?_
  refine AllReadyH.cons rfl (fun K hK => ?_) AllReadyH.nil
  go_simp
  refine (HW.out _ HB.out _ (by first | rfl | simp)).mono ?_
  rintro e w2 ⟨rfl, hb⟩
  replace k0 := (Below.cell hb (p := ⟨A, 0, none⟩) hAz).trans k0
  replace k1 := (Below.cell hb (p := ⟨A, 1, none⟩) hAz).trans k1
  replace k2 := (Below.cell hb (p := ⟨A, 2, none⟩) hAz).trans k2
  replace HB : Hid (Below w.heap.size w w2) := HB.out.trans (hb.mono HB.out.size)
  replace hAz : A < w2.heap.size := Nat.lt_of_lt_of_le hAz hb.size
  clear hb
  go_simp
  clear hHeld
  refine hK.out _ _ ?_ (fun hHeld => ?_)
  · exact ⟨k0, k1, k2⟩
  clear hK K
  cases p with
  | false =>
    refine wpAnyH_take (i := 4) (v := ?_) rfl (by kernel_rfl) (by kernel_rfl) (by kernel_rfl) (fun _ _ _ h => h) (Or.inl ⟨by kernel_rfl, ?_⟩) hHeld ?_
    rotate_left
    · (intro wx hSw; (try dsimp only at hSw); go_simp; try with_reducible rfl)
    refine wpAnyH_take (i := 5) rfl (by kernel_rfl) (by kernel_rfl) (by kernel_rfl) (fun _ _ _ h => h) (Or.inr ⟨by kernel_rfl, rfl⟩) hHeld ?_
    refine wpAnyH_take (i := 6) rfl (by kernel_rfl) (by kernel_rfl) (by kernel_rfl) (fun _ _ _ h => h) (Or.inr ⟨by kernel_rfl, rfl⟩) hHeld ?_
    refine wpAnyH_take (i := 7) rfl (by kernel_rfl) (by kernel_rfl) (by kernel_rfl) (fun _ _ _ h => h) (Or.inr ⟨by kernel_rfl, rfl⟩) hHeld ?_
    refine wpAnyH_take (i := 8) rfl (by kernel_rfl) (by kernel_rfl) (by kernel_rfl) (fun _ _ _ h => h) (Or.inr ⟨by kernel_rfl, rfl⟩) hHeld ?_
    refine wpAnyH_take (i := 9) (v := ?_) rfl (by kernel_rfl) (by kernel_rfl) (by kernel_rfl) (fun _ _ _ h => h) (Or.inl ⟨by kernel_rfl, ?_⟩) hHeld ?_
    rotate_left
    · (intro wx hSw; (try dsimp only at hSw); go_simp; try with_reducible rfl)
    refine wpAnyH_take (i := 10) (v := ?_) rfl (by kernel_rfl) (by kernel_rfl) (by kernel_rfl) (fun _ _ _ h => h) (Or.inl ⟨by kernel_rfl, ?_⟩) hHeld ?_
    rotate_left
    · (intro wx hSw; (try dsimp only at hSw); go_simp; try with_reducible rfl)
    refine wpAnyH_take (i := 11) rfl (by kernel_rfl) (by kernel_rfl) (by kernel_rfl) (fun _ _ _ h => h) (Or.inr ⟨by kernel_rfl, rfl⟩) hHeld ?_
    refine wpAnyH_take (i := 12) rfl (by kernel_rfl) (by kernel_rfl) (by kernel_rfl) (fun _ _ _ h => h) (Or.inr ⟨by kernel_rfl, rfl⟩) hHeld ?_
    refine wpAnyH_take (i := 13) rfl (by kernel_rfl) (by kernel_rfl) (by kernel_rfl) (fun _ _ _ h => h) (Or.inr ⟨by kernel_rfl, rfl⟩) hHeld ?_
    refine wpAnyH_take (i := 14) rfl (by kernel_rfl) (by kernel_rfl) (by kernel_rfl) (fun _ _ _ h => h) (Or.inr ⟨by kernel_rfl, rfl⟩) hHeld ?_
    refine wpAnyH_take (i := 15) (v := ?_) rfl (by kernel_rfl) (by kernel_rfl) (by kernel_rfl) (fun _ _ _ h => h) (Or.inl ⟨by kernel_rfl, ?_⟩) hHeld ?_
    rotate_left
    · (intro wx hSw; (try dsimp only at hSw); go_simp; try with_reducible rfl)
    refine wpAnyH_take (i := 16) (v := ?_) rfl (by kernel_rfl) (by kernel_rfl) (by kernel_rfl) (fun _ _ _ h => h) (Or.inl ⟨by kernel_rfl, ?_⟩) hHeld ?_
    rotate_left
    · (intro wx hSw; (try dsimp only at hSw); go_simp; try with_reducible rfl)
    simp only [Act.put, List.getElem_toArray, List.getElem_cons_succ, List.getElem_cons_zero, List.setIfInBounds_toArray, List.set_cons_zero, List.set_cons_succ]
    refine wpAnyH_done (by kernel_rfl) ?_ _
    clear hHeld
    go_wp2_with fail
    go_ret
    exact ⟨rfl, HB.out⟩
  | true =>
    refine wpAnyH_take (i := 4) (v := ?_) rfl (by kernel_rfl) (by kernel_rfl) (by kernel_rfl) (fun _ _ _ h => h) (Or.inl ⟨by kernel_rfl, ?_⟩) hHeld ?_
    rotate_left
    · (intro wx hSw; (try dsimp only at hSw); go_simp; try with_reducible rfl)
    refine wpAnyH_take (i := 6) (v := ?_) rfl (by kernel_rfl) (by kernel_rfl) (by kernel_rfl) (fun _ _ _ h => h) (Or.inl ⟨by kernel_rfl, ?_⟩) hHeld ?_
    rotate_left
    · (intro wx hSw; (try dsimp only at hSw); go_simp; try with_reducible rfl)
    refine wpAnyH_take (i := 7) (v := ?_) rfl (by kernel_rfl) (by kernel_rfl) (by kernel_rfl) (fun _ _ _ h => h) (Or.inl ⟨by kernel_rfl, ?_⟩) hHeld ?_
    rotate_left
    · (intro wx hSw; (try dsimp only at hSw); go_simp; try with_reducible rfl)
    simp only [Act.put, List.getElem_toArray, List.getElem_cons_succ, List.getElem_cons_zero, List.setIfInBounds_toArray, List.set_cons_zero, List.set_cons_succ]
    refine wpAnyH_ready (rs := [5]) (by kernel_rfl) (by simp) ?_
    refine AllReadyH.cons rfl (fun K hK => ?_) AllReadyH.nil
    go_simp
    refine (HCU.out _).mono ?_
    rintro e w3 ⟨ad2, n2, c2, rfl, hs2, hb⟩
    replace k0 := (Below.cell hb (p := ⟨A, 0, none⟩) hAz).trans k0
    replace k1 := (Below.cell hb (p := ⟨A, 1, none⟩) hAz).trans k1
    replace k2 := (Below.cell hb (p := ⟨A, 2, none⟩) hAz).trans k2
    replace HB : Hid (Below w.heap.size w w3) := HB.out.trans (hb.mono HB.out.size)
    replace hAz : A < w3.heap.size := Nat.lt_of_lt_of_le hAz hb.size
    have HS2 := Lib.hid hs2
    clear hs2 hb
    go_simp
    clear hHeld
    refine hK.out _ _ ?_ (fun hHeld => ?_)
    · exact ⟨k0, k1, k2⟩
    clear hK K
    refine wpAnyH_ready (rs := [8]) (by kernel_rfl) (by simp) ?_
    refine AllReadyH.cons rfl (fun K hK => ?_) AllReadyH.nil
    go_simp
    refine (HCT.out _ _ _ _ HS2.out).mono ?_
    rintro e _ ⟨rfl, rfl⟩
    go_simp
    clear hHeld
    refine hK.out _ _ ?_ (fun hHeld => ?_)
    · exact ⟨k0, k1, k2⟩
    clear hK K
    cases q with
    | false =>
      refine wpAnyH_take (i := 9) (v := ?_) rfl (by kernel_rfl) (by kernel_rfl) (by kernel_rfl) (fun _ _ _ h => h) (Or.inl ⟨by kernel_rfl, ?_⟩) hHeld ?_
      rotate_left
      · (intro wx hSw; (try dsimp only at hSw); go_simp; try with_reducible rfl)
      refine wpAnyH_take (i := 10) (v := ?_) rfl (by kernel_rfl) (by kernel_rfl) (by kernel_rfl) (fun _ _ _ h => h) (Or.inl ⟨by kernel_rfl, ?_⟩) hHeld ?_
      rotate_left
      · (intro wx hSw; (try dsimp only at hSw); go_simp; try with_reducible rfl)
      refine wpAnyH_take (i := 11) rfl (by kernel_rfl) (by kernel_rfl) (by kernel_rfl) (fun _ _ _ h => h) (Or.inr ⟨by kernel_rfl, rfl⟩) hHeld ?_
      refine wpAnyH_take (i := 12) rfl (by kernel_rfl) (by kernel_rfl) (by kernel_rfl) (fun _ _ _ h => h) (Or.inr ⟨by kernel_rfl, rfl⟩) hHeld ?_
      refine wpAnyH_take (i := 13) rfl (by kernel_rfl) (by kernel_rfl) (by kernel_rfl) (fun _ _ _ h => h) (Or.inr ⟨by kernel_rfl, rfl⟩) hHeld ?_
      refine wpAnyH_take (i := 14) rfl (by kernel_rfl) (by kernel_rfl) (by kernel_rfl) (fun _ _ _ h => h) (Or.inr ⟨by kernel_rfl, rfl⟩) hHeld ?_
      refine wpAnyH_take (i := 15) (v := ?_) rfl (by kernel_rfl) (by kernel_rfl) (by kernel_rfl) (fun _ _ _ h => h) (Or.inl ⟨by kernel_rfl, ?_⟩) hHeld ?_
      rotate_left
      · (intro wx hSw; (try dsimp only at hSw); go_simp; try with_reducible rfl)
      refine wpAnyH_take (i := 16) (v := ?_) rfl (by kernel_rfl) (by kernel_rfl) (by kernel_rfl) (fun _ _ _ h => h) (Or.inl ⟨by kernel_rfl, ?_⟩) hHeld ?_
      rotate_left
      · (intro wx hSw; (try dsimp only at hSw); go_simp; try with_reducible rfl)
      simp only [Act.put, List.getElem_toArray, List.getElem_cons_succ, List.getElem_cons_zero, List.setIfInBounds_toArray, List.set_cons_zero, List.set_cons_succ]
      refine wpAnyH_done (by kernel_rfl) ?_ _
      clear hHeld
      go_wp2_with fail
      go_ret
      exact ⟨rfl, HB.out⟩
    | true =>
      refine wpAnyH_take (i := 9) (v := ?_) rfl (by kernel_rfl) (by kernel_rfl) (by kernel_rfl) (fun _ _ _ h => h) (Or.inl ⟨by kernel_rfl, ?_⟩) hHeld ?_
      rotate_left
      · (intro wx hSw; (try dsimp only at hSw); go_simp; try with_reducible rfl)
      refine wpAnyH_take (i := 10) (v := ?_) rfl (by kernel_rfl) (by kernel_rfl) (by kernel_rfl) (fun _ _ _ h => h) (Or.inl ⟨by kernel_rfl, ?_⟩) hHeld ?_
      rotate_left
      · (intro wx hSw; (try dsimp only at hSw); go_simp; try with_reducible rfl)
      refine wpAnyH_take (i := 11) (v := ?_) rfl (by kernel_rfl) (by kernel_rfl) (by kernel_rfl) (fun _ _ _ h => h) (Or.inl ⟨by kernel_rfl, ?_⟩) hHeld ?_
      rotate_left
      · (intro wx hSw; (try dsimp only at hSw); go_simp; try with_reducible rfl)
      refine wpAnyH_take (i := 12) (v := ?_) rfl (by kernel_rfl) (by kernel_rfl) (by kernel_rfl) (fun _ _ _ h => h) (Or.inl ⟨by kernel_rfl, ?_⟩) hHeld ?_
      rotate_left
      · (intro wx hSw; (try dsimp only at hSw); go_simp; try with_reducible rfl)
      simp only [Act.put, List.getElem_toArray, List.getElem_cons_succ, List.getElem_cons_zero, List.setIfInBounds_toArray, List.set_cons_zero, List.set_cons_succ]
      refine wpAnyH_ready (rs := [13]) (by kernel_rfl) (by simp) ?_
      refine AllReadyH.cons rfl (fun K hK => ?_) AllReadyH.nil
      go_simp
      clear hHeld
      refine hK.out _ _ ?_ (fun hHeld => ?_)
      · exact ⟨cell_al k0, cell_al k1, cell_al k2⟩
      clear hK K
      refine wpAnyH_ready (rs := [14]) (by kernel_rfl) (by simp) ?_
      refine AllReadyH.cons rfl (fun K hK => ?_) AllReadyH.nil
      go_simp
      refine (HT.out _ HB.out _ (by first | rfl | simp)).mono ?_
      rintro e w5 ⟨rfl, hb⟩
      replace k0 := (Below.cell hb (p := ⟨A, 0, none⟩) hAz).trans k0
      replace k1 := (Below.cell hb (p := ⟨A, 1, none⟩) hAz).trans k1
      replace k2 := (Below.cell hb (p := ⟨A, 2, none⟩) hAz).trans k2
      replace HB : Hid (Below w.heap.size w w5) := HB.out.trans (hb.mono HB.out.size)
      replace hAz : A < w5.heap.size := Nat.lt_of_lt_of_le hAz hb.size
      clear hb
      go_simp
      clear hHeld
      refine hK.out _ _ ?_ (fun hHeld => ?_)
      · exact ⟨k0, k1, k2⟩
      clear hK K
      refine wpAnyH_take (i := 15) (v := ?_) rfl (by kernel_rfl) (by kernel_rfl) (by kernel_rfl) (fun _ _ _ h => h) (Or.inl ⟨by kernel_rfl, ?_⟩) hHeld ?_
      rotate_left
      · (intro wx hSw; (try dsimp only at hSw); go_simp; try with_reducible rfl)
      refine wpAnyH_take (i := 16) (v := ?_) rfl (by kernel_rfl) (by kernel_rfl) (by kernel_rfl) (fun _ _ _ h => h) (Or.inl ⟨by kernel_rfl, ?_⟩) hHeld ?_
      rotate_left
      · (intro wx hSw; (try dsimp only at hSw); go_simp; try with_reducible rfl)
      simp only [Act.put, List.getElem_toArray, List.getElem_cons_succ, List.getElem_cons_zero, List.setIfInBounds_toArray, List.set_cons_zero, List.set_cons_succ]
      refine wpAnyH_done (by kernel_rfl) ?_ _
      clear hHeld
      go_wp2_with fail
      go_ret
      exact ⟨by cases r <;> rfl, HB.out⟩
theorem titoa_any (n : Int) (h0 : 0 ≤ n) (h1 : n ≤ 1000) (w : World) (ht : TabTen w) : Calls Tryz.prog 34 #[.int .i64 n] w fun e w' => e = .returned (.string (bs (Lib.itoa n))) ∧ Below w.heap.size w w' :=
  (ItoaOk.any (n := n) (by omega) (by omega) ht).2 w (Below.refl _ _)
set_option maxRecDepth 20000 in
set_option maxHeartbeats 8000000 in
theorem tspan_any (s : Int × Int) (w : World) (h : 0 ≤ s.1 ∧ s.1 ≤ s.2 ∧ s.2 ≤ 100) (hT : TabTen w) : Calls Tryz.prog 240 #[.agg #[.int .i64 s.1, .int .i64 s.2]] w fun e w' => e = .returned (.string (bs (spanT s))) ∧ Below w.heap.size w w' := by
  obtain ⟨a, b⟩ := s
  simp only at h ⊢
  have HA : Hid (∀ W, Below w.heap.size w W → Calls Tryz.prog 34 #[.int .i64 a] W fun e w' => e = .returned (.string (bs (Lib.itoa a))) ∧ Below W.heap.size W w') := fun W hb => titoa_any a (by omega) (by omega) W (hT.below hb)
  have HC : Hid (∀ W, Below w.heap.size w W → Calls Tryz.prog 34 #[.int .i64 b] W fun e w' => e = .returned (.string (bs (Lib.itoa b))) ∧ Below W.heap.size W w') := fun W hb => titoa_any b (by omega) (by omega) W (hT.below hb)
  have za : (bs (Lib.itoa a)).size ≤ 21 := by rw [bs_size]; exact itoaZ_le (by omega) (by omega)
  have zb : (bs (Lib.itoa b)).size ≤ 21 := by rw [bs_size]; exact itoaZ_le (by omega) (by omega)
  have HEQ : Hid (a = b → spanT (a, b) = Lib.itoa a) := fun e => by unfold spanT; rw [if_pos e]
  have HNE : Hid (¬ a = b → bs (spanT (a, b)) = bs (Lib.itoa a) ++ ⟨#[46, 46]⟩ ++ bs (Lib.itoa b)) := fun e => by
    unfold spanT
    rw [if_neg e, show (⟨#[46, 46]⟩ : ByteArray) = bs [46, 46] from rfl, bs_append, bs_append]
  clear h hT
  generalize spanT (a, b) = T at *
  generalize Lib.itoa a = A at *
  generalize Lib.itoa b = C at *
  have zd : (⟨#[46, 46]⟩ : ByteArray).size = 2 := rfl
  have a1 := fun w => run_string_add_sum (P := Tryz.prog) (w := w) (bs A) ⟨#[46, 46]⟩ (by omega)
  have a2 := fun w => run_string_add_sum (P := Tryz.prog) (w := w) (bs A ++ ⟨#[46, 46]⟩) (bs C) (by rw [ByteArray.size_append]; omega)
  clear za zb zd
  by_cases e : a = b
  · have HT := Lib.hid (HEQ.out e)
    have b1 : (a == b) = true := beq_iff_eq.2 e
    have b2 := decide_eq_true e
    clear HEQ HNE e
    go_enter Tryz.func240, Tryz.ntmps240
    go_wp2_with fail
    refine (HA.out _ ((Below.refl _ _).alloc (Nat.le_refl _) _)).mono ?_
    rintro e w' ⟨rfl, hb⟩
    go_wp2_with fail
    go_ret
    exact ⟨by rw [HT.out]; rfl, ((Below.refl _ _).alloc (Nat.le_refl _) _).trans (hb.mono (by simp))⟩
  · have HT := Lib.hid (HNE.out e)
    have b1 : (a == b) = false := beq_eq_false_iff_ne.2 e
    have b2 := decide_eq_false e
    clear HEQ HNE e
    go_enter Tryz.func240, Tryz.ntmps240
    go_upto_region 3 with (fail)
    refine wp_at_worldF ?_
    intro wa hwa
    have HX : Hid (Cel wa w.heap.size 152 [.int .i64 a, .int .i64 b]) := by rw [hwa]; exact Cel.new w [.int .i64 a, .int .i64 b] 152
    have HB : Hid (Below w.heap.size w wa) := by rw [hwa]; exact (Below.refl _ _).alloc (Nat.le_refl _) _
    have hz := HB.out.size
    clear hwa
    have x0 := HX.out.cell 0
    have x1 := HX.out.cell 1
    have hlx := HX.out.lt
    simp only [List.getElem?_cons_zero, List.getElem?_cons_succ] at x0 x1
    replace HA : Hid (∀ W, Below wa.heap.size wa W → Calls Tryz.prog 34 #[.int .i64 a] W fun e w' => e = .returned (.string (bs A)) ∧ Below W.heap.size W w') := fun W g => HA.out W (HB.out.trans (g.mono hz))
    replace HC : Hid (∀ W, Below wa.heap.size wa W → Calls Tryz.prog 34 #[.int .i64 b] W fun e w' => e = .returned (.string (bs C)) ∧ Below W.heap.size W w') := fun W g => HC.out W (HB.out.trans (g.mono hz))
    refine wp_region_ext (by kernel_rfl) (by kernel_rfl) ?_
    repeat (go_big_quiet_step (first | exact Calls.ext (HA.out _ (Subtype.property _)) | exact Calls.ext (HC.out _ (Subtype.property _))))
    refine wpQuiet_nil ?_
    intro _ hw'
    obtain ⟨X9, hw''⟩ := hw'
    subst hw''
    go_wp2_with fail
    go_ret
    exact ⟨by rw [HT.out]; rfl, HB.out.trans (X9.2.mono hz)⟩
theorem own_le {w : World} {base : Nat} {E : TypeId} {ad : Option Addr} {n c : Nat} {xs : List Value} (h : w.ownsRow base E 1 (.slice ad n c) n xs) : n ≤ c := by
  rcases h.2 with ⟨h1, h0⟩ | ⟨g, cap, cur, h1, _, _, h4, _⟩
  · omega
  · injection h1 with _ _ h3
    omega
set_option maxRecDepth 20000 in
set_option maxHeartbeats 8000000 in
theorem trel_any (x : Nat → Value) (r : Rel) (w : World) (h : RelC w x r) (hp : RelF r) (hT : TabTen w) : Calls Tryz.prog 188 #[.agg #[x 0, x 1, x 2, x 3]] w fun e w' => e = .returned (.string (bs (relT r))) ∧ Below w.heap.size w w' := by
  obtain ⟨h0, h1, h2, h3⟩ := h
  obtain ⟨op, md, neg, sp⟩ := r
  simp only at h0 h1 h2 h3
  obtain ⟨ad, c, f, b, off, hv, hr, _, _, _, hf⟩ := h3.opn
  obtain ⟨n, hnn⟩ : ∃ n, sp.length = n := ⟨_, rfl⟩
  have hop : 1 ≤ op ∧ op ≤ 6 := hp.op
  have hmd : 0 ≤ md ∧ md ≤ 100 := hp.md
  have hlen : 1 ≤ sp.length ∧ sp.length ≤ 4 := hp.len
  have hspz : ∀ s ∈ sp, 0 ≤ s.1 ∧ s.1 ≤ s.2 ∧ s.2 ≤ 100 := hp.sp
  have hjz := spansT_le hp
  rw [hnn] at hr hlen hv
  have HLN := Lib.hid hnn
  have HR := Lib.hid hr
  have HF := Lib.hid hf
  obtain ⟨i0, hi0, hz0, hz1, hz2⟩ := info_parts infoS
  have HI := Lib.hid hi0
  have HZ0 := Lib.hid hz0
  have HZ1 := Lib.hid hz1
  have HZ2 := Lib.hid hz2
  have HSP : Hid (∀ s ∈ sp, ∀ W, Below w.heap.size w W → Calls Tryz.prog 240 #[.agg #[.int .i64 s.1, .int .i64 s.2]] W fun e w' => e = .returned (.string (bs (spanT s))) ∧ Below W.heap.size W w') := fun s hs W hb => tspan_any s W (hspz s hs) (hT.below hb)
  have HM : Hid (∀ W, Below w.heap.size w W → Calls Tryz.prog 34 #[.int .i64 md] W fun e w' => e = .returned (.string (bs (Lib.itoa md))) ∧ Below W.heap.size W w') := fun W hb => titoa_any md (by omega) (by omega) W (hT.below hb)
  have zm : (bs (Lib.itoa md)).size ≤ 21 := by rw [bs_size]; exact itoaZ_le (by omega) (by omega)
  have HRT : Hid (relT ⟨op, md, neg, sp⟩ = letT op ++ (if md ≠ 0 then [32, 37, 32] ++ Lib.itoa md else []) ++ (if neg then [32, 33, 61, 32] else [32, 61, 32]) ++ Lib.join (sp.map spanT) [44]) := rfl
  have HMP : Hid ((sp.map spanT) = (sp.map (fun s => bs (spanT s))).map (·.data.toList)) := by rw [Hid, List.map_map]; rfl
  have HJ : Hid (∀ W ad n c, Sl W ad n (strs (sp.map (fun s => bs (spanT s)))) → n ≤ 1000 → n ≤ c → Calls Tryz.prog 83 #[.slice ad n c, .string ⟨#[44]⟩] W fun e w' => e = .returned (.string (bs (Lib.join (sp.map spanT) [44]))) ∧ Below W.heap.size W w') := fun W ad n c hs h1 h2 => by
    rw [HMP.out]
    exact join_sl ad n c _ W hs (fun e => by rw [List.map_eq_nil_iff] at e; rw [e] at hnn; simp at hnn; omega) (by omega) h2 ⟨#[44]⟩ (by rw [← HMP.out]; exact Nat.le_trans hjz (by omega))
  have zj : (bs (Lib.join (sp.map spanT) [44])).size ≤ 180 := by rw [bs_size]; exact hjz
  have hfirst : (letT op ++ (if md ≠ 0 then [32, 37, 32] ++ Lib.itoa md else []) ++ (if neg then [32, 33, 61, 32] else [32, 61, 32])).length ≤ 60 := by
    have := itoaZ_le (n := md) (by omega) (by omega)
    have : (letT op).length = 1 := rfl
    simp only [List.length_append]
    split <;> split <;> simp only [List.length_append, List.length_cons, List.length_nil] <;> omega
  rw [h0, h1, h2, hv]
  generalize relT ⟨op, md, neg, sp⟩ = RT at *
  clear h0 h1 h2 h3 hv hp hT hr hf hnn hi0 hz0 hz1 hz2 HMP hspz hjz
  generalize Lib.join (sp.map spanT) [44] = J at *
  generalize Lib.itoa md = M at *
  have zl : (bs (letT op)).size = 1 := rfl
  have HSL : Hid (∀ W, (Instr.slice 9 (.string ⟨#[32, 110, 105, 118, 119, 102, 116]⟩) (some (.int .i64 op)) (some (.int .i64 (op + 1))) none).run Tryz.prog W = .ok (.string (bs (letT op))) W) := by
    intro W
    obtain rfl | rfl | rfl | rfl | rfl | rfl : op = 1 ∨ op = 2 ∨ op = 3 ∨ op = 4 ∨ op = 5 ∨ op = 6 := by omega
    all_goals kernel_rfl
  have hsl := HSL.out
  generalize letT op = L at *
  obtain ⟨P1, hP1⟩ : ∃ P1, L ++ (if md ≠ 0 then [32, 37, 32] ++ M else []) = P1 := ⟨_, rfl⟩
  obtain ⟨P, hP⟩ : ∃ P, P1 ++ (if neg then [32, 33, 61, 32] else [32, 61, 32]) = P := ⟨_, rfl⟩
  rw [Hid, hP1, hP] at HRT
  replace HRT := Lib.hid HRT
  rw [hP1, hP] at hfirst
  have hp1 : (bs P1).size ≤ 60 := by rw [bs_size]; rw [← hP, List.length_append] at hfirst; omega
  have HP1 := Lib.hid hP1
  have HP := Lib.hid hP
  clear hP1 hP
  obtain ⟨A, hA⟩ : ∃ A, w.heap.size = A := ⟨_, rfl⟩
  go_enter Tryz.func188, Tryz.ntmps188
  go_upto_if 15 with (fail)
  refine wp_at_worldF ?_
  intro wa hwa
  have HB : Hid (Below w.heap.size w wa) := by rw [hwa]; exact (Below.refl _ _).alloc (Nat.le_refl _) _
  have HX : Hid (Cel wa A 94 [.int .i64 op, .int .i64 md, .bool neg, .slice ad n c]) := by rw [hwa, ← hA]; exact Cel.new w [.int .i64 op, .int .i64 md, .bool neg, .slice ad n c] 94
  clear hwa
  have x1 := HX.out.cell 1
  simp only [List.getElem?_cons_zero, List.getElem?_cons_succ] at x1
  have hlx := HX.out.lt
  go_cut [3] (fun u wx => u = .string (bs P1) ∧ Cel wx A 94 [.int .i64 op, .int .i64 md, .bool neg, .slice ad n c] ∧ Below w.heap.size w wx)
  case first =>
    by_cases e : md = 0
    · have hp := HP1.out
      rw [if_neg (show ¬ md ≠ 0 from fun g => g e), List.append_nil] at hp
      have b1 : (md != 0) = false := by rw [bne, beq_iff_eq.2 e]; rfl
      have HQ := Lib.hid hp
      clear e hp HM
      rw [b1]
      go_wp2_with fail
      go_meet
      exact ⟨by rw [HQ.out], HX.out, HB.out⟩
    · have hp := HP1.out
      rw [if_pos e] at hp
      have b1 : (md != 0) = true := by rw [bne, beq_eq_false_iff_ne.2 e]; rfl
      have zp : (⟨#[32, 37, 32]⟩ : ByteArray).size = 3 := rfl
      have a1 := fun w => run_string_add_sum (P := Tryz.prog) (w := w) ⟨#[32, 37, 32]⟩ (bs M) (by omega)
      have a2 := fun w => run_string_add_sum (P := Tryz.prog) (w := w) (bs L) (⟨#[32, 37, 32]⟩ ++ bs M) (by rw [ByteArray.size_append]; omega)
      have HQ : Hid (bs L ++ (⟨#[32, 37, 32]⟩ ++ bs M) = bs P1) := by rw [Hid, ← hp, show (⟨#[32, 37, 32]⟩ : ByteArray) = bs [32, 37, 32] from rfl, bs_append, bs_append]
      rw [HQ.out] at a2
      clear e hp zp HQ
      rw [b1]
      go_wp2_with fail
      refine (HM.out _ HB.out).mono ?_
      rintro e wb ⟨rfl, hb⟩
      replace HX := Lib.hid (HX.out.below hb)
      replace HB := Lib.hid (HB.out.trans (hb.mono HB.out.size))
      clear hb
      go_wp2_with fail
      go_meet
      exact ⟨rfl, HX.out, HB.out⟩
  case rest =>
    obtain ⟨rfl, hx, hb⟩ := hcut
    replace HX := Lib.hid hx
    replace HB := Lib.hid hb
    clear hx hb x1 hlx HM
    have x2 := HX.out.cell 2
    simp only [List.getElem?_cons_zero, List.getElem?_cons_succ] at x2
    have hlx := HX.out.lt
    go_upto_if 23 with (fail)
    go_cut [3] (fun u wx => u = .string (bs P) ∧ Cel wx A 94 [.int .i64 op, .int .i64 md, .bool neg, .slice ad n c] ∧ Below w.heap.size w wx)
    case first =>
      cases neg with
      | true =>
        have zn : (⟨#[32, 33, 61, 32]⟩ : ByteArray).size = 4 := rfl
        have a3 := fun w => run_string_add_sum (P := Tryz.prog) (w := w) (bs P1) ⟨#[32, 33, 61, 32]⟩ (by omega)
        have HQ : Hid (bs P1 ++ ⟨#[32, 33, 61, 32]⟩ = bs P) := by rw [Hid, ← HP.out, if_pos rfl, show (⟨#[32, 33, 61, 32]⟩ : ByteArray) = bs [32, 33, 61, 32] from rfl, bs_append]
        rw [HQ.out] at a3
        clear zn HQ
        go_wp2_with fail
        go_meet
        exact ⟨rfl, HX.out, HB.out⟩
      | false =>
        have zn : (⟨#[32, 61, 32]⟩ : ByteArray).size = 3 := rfl
        have a3 := fun w => run_string_add_sum (P := Tryz.prog) (w := w) (bs P1) ⟨#[32, 61, 32]⟩ (by omega)
        have HQ : Hid (bs P1 ++ ⟨#[32, 61, 32]⟩ = bs P) := by rw [Hid, ← HP.out, if_neg (show ¬ (false = true) by simp), show (⟨#[32, 61, 32]⟩ : ByteArray) = bs [32, 61, 32] from rfl, bs_append]
        rw [HQ.out] at a3
        clear zn HQ
        go_wp2_with fail
        go_meet
        exact ⟨rfl, HX.out, HB.out⟩
    case rest =>
      obtain ⟨rfl, hx, hb⟩ := hcut
      replace HX := Lib.hid hx
      replace HB := Lib.hid hb
      clear hx hb x2 hlx HP1 HP hp1 zl zm
      have zs : (bs P).size ≤ 60 := by rw [bs_size]; exact hfirst
      have a4 := fun w => run_string_add_sum (P := Tryz.prog) (w := w) (bs P) (bs J) (by omega)
      clear zj zs
      have hz := HB.out.size
      have hcel3 := HX.out.cell 3
      simp only [List.getElem?_cons_zero, List.getElem?_cons_succ] at hcel3
      have hlx := HX.out.lt
      go_wp2_with fail
      go_loopw [4, 31] (fun u i wr => ∃ (k : Nat) (ad' : Option Addr) (c' : Nat), i = .int .i64 (k : Int) ∧ k ≤ n ∧ u = .slice ad' k c' ∧ wr.ownsRow w.heap.size 9 1 (.slice ad' k c') k (strs ((sp.take k).map (fun s => bs (spanT s)))) ∧ Below w.heap.size w wr) (fun _ i _ => n - (intOf i).toNat)
      case atStart => exact ⟨0, none, 0, rfl, Nat.zero_le _, rfl, World.ownsRow_nil _ _ _ _, HB.out⟩
      case round =>
        obtain ⟨k, ad', c', rfl, hkn, rfl, hown, hbl⟩ := hrel
        have HOWN := Lib.hid hown
        have HBL := Lib.hid hbl
        have hzr := hbl.size
        clear hown hbl
        by_cases hlt : k < n
        · have hrr := HR.out.below HBL.out
          have hix := fun W => hrr.ix 92 152 Tryz.underlying92 (by kernel_rfl) (by omega) hlt c W
          have c0 := hrr.cell k 0 hlt (by omega)
          have c1 := hrr.cell k 1 hlt (by omega)
          have hkl : k < sp.length := by rw [HLN.out]; exact hlt
          obtain ⟨e0, e1⟩ := HF.out k hkl
          rw [e0, Nat.add_zero] at c0
          rw [e1] at c1
          have HTS : Hid ((sp.take (k + 1)).map (fun s => bs (spanT s)) = (sp.take k).map (fun s => bs (spanT s)) ++ [bs (spanT sp[k])]) := by
            unfold Hid
            rw [List.take_succ_eq_append_getElem hkl, List.map_append]
            rfl
          have HEC := Lib.hid (HSP.out sp[k] (List.getElem_mem hkl))
          clear hrr e0 e1
          generalize bs (spanT sp[k]) = q at *
          generalize sp[k] = s at *
          obtain ⟨s1, s2⟩ := s
          simp only at c0 c1
          replace HEC : Hid (∀ W, Below w.heap.size w W → Calls Tryz.prog 240 #[.agg #[.int .i64 s1, .int .i64 s2]] W fun e w' => e = .returned (.string q) ∧ Below W.heap.size W w') := HEC.out
          go_wp2_with fail
          refine (HEC.out _ (HBL.out.alloc hzr _)).mono ?_
          rintro e w2 ⟨rfl, hb2⟩
          replace hb2 := ((Below.refl wr.heap.size wr).alloc (Nat.le_refl _) _).trans (hb2.mono (by simp))
          have HOV := Lib.hid (own_below2 HOWN.out hb2)
          have HBV := Lib.hid (HBL.out.trans (hb2.mono hzr))
          have hzV := HBV.out.size
          clear hb2 HOWN HEC
          go_wp2_with (at_builtin; refine wpList_app 44 9 16 Tryz.underlying44 i0 _ HI.out HZ0.out HZ1.out HZ2.out rfl rfl _ _ rfl w.heap.size ad' k c' _ rfl HOV.out _ _ rfl rfl (by unfold maxLen; omega) (by omega) hzV ?_; intro ad6 c6 w3 hown3 hb3 hg3 hz3; have HOWN3 := Lib.hid hown3; have HB3 := Lib.hid hb3; clear hown3 hb3 hg3 hz3)
          go_roundw
          case rel => exact ⟨k + 1, ad6, c6, by go_num, by omega, rfl, by rw [HTS.out, strs_app]; exact HOWN3.out, HBV.out.trans HB3.out⟩
          case measure => simp [intOf]; omega
        · obtain rfl : k = n := by omega
          have HE : Hid (wr.ownsRow w.heap.size 9 1 (.slice ad' k c') k (strs (sp.map (fun s => bs (spanT s))))) := by
            have := HOWN.out
            rwa [List.take_of_length_le (by rw [HLN.out]; exact Nat.le_refl _)] at this
          have HJ2 := Lib.hid (HJ.out wr ad' k c' (Own.sl HE.out) (by omega) (own_le HE.out))
          go_wp2_with fail
          refine HJ2.out.mono ?_
          rintro e w5 ⟨rfl, hb5⟩
          have HB5 : Hid (Below w.heap.size w w5) := HBL.out.trans (hb5.mono hzr)
          clear hb5
          go_wp2_with fail
          go_ret
          exact ⟨by rw [HRT.out, ← bs_append]; rfl, HB5.out⟩
end Go.Proofs.YtmleeodfmmpdgaaGreatDoor
