/- Walks: the index of terms: the first loop. -/
import Derived.Test.YtkodnagneblgaaaQ07
namespace Go.Proofs.Ytkodnagneblgaaa
open Go.RowKit Go.Maps Go.Sort
attribute [local go_sem] Ext.cell Ext.frozen
attribute [local go_sem ↓] Go.wp_at_zero Go.wp_at_succ
theorem wp_at_worldG {P : Program} {c : Code} {Q : Exit → Act → World → Prop} {a : Act} {w : World} (h : ∀ W, W = w → c.wp P Q a W) : c.wp P Q a w := h w rfl
theorem infoInts : (Try.prog.info? 3).map (fun i => (i.zero, i.size, i.bytes)) = some (some (.int .i64 0), 1, 8) := by kernel_rfl
/-- a block of one type stays while a row of another grows -/
theorem row_stays {w w' : World} {k : Nat} {cur : Array Value} {T : TypeId} {fr : Nat × Nat} (hk : w.heap[k]? = some (.cells cur T fr)) {b : Nat} {E : TypeId} {s : Nat} {v : Value} {n : Nat} {xs : List Value} (h : w.ownsRow b E s v n xs) (hE : T ≠ E) (hg : w.grownBy w' v.ownBlock) :
    w'.heap[k]? = some (.cells cur T fr) := (hg.block _ (Array.getElem?_eq_some_iff.1 hk).1 (by
  intro e
  rcases h.2 with ⟨h0, _⟩ | ⟨g, cap, cur', h0, _, h3, _⟩
  · rw [h0] at e; cases e
  · rw [h0] at e
    injection e with e
    have e : k = g := e
    subst e
    rw [hk] at h3
    injection h3 with h3
    injection h3 with _ h4
    exact hE h4)).trans hk
section
variable {P : Program} {T E : TypeId} {z : Value} {bytes : Nat}
/-- an append that tells where the row lies, as a step of a region -/
theorem step_app_at {w : World} {ops : Array Oper} {o : Oper} {a : Act} {K : Act → World → Prop} {Q : Exit → Act → World → Prop} {R : Prop} (hgd : o.guard = none) (s x : Operand) (ho : o.op = .call { callee := .builtin .append, args := #[s, x], argTypes := #[T, T] })
    (hT : P.underlying T = some (.slice E)) (info : (P.info? E).map (fun i => (i.zero, i.size, i.bytes)) = some (some z, 1, bytes)) (hzs : z.cells.size = 1)
    (base : Nat) (v : Value) (n : Nat) (xs : List Value) (hs : a.eval s = v) (hown : w.ownsRow base E 1 v n xs) (ad : Addr) (m c : Nat) (news : List Value) (hx : a.eval x = .slice (some ad) m c) (hl : news.length = m * 1)
    (hnews : ∀ j u, news[j]? = some u → w.cell? (ad.add j) = some u) (h1 : ∀ u ∈ news, u.oneCell' = true) (h63 : n + m ≤ maxLen) (hbytes : (n + m) * bytes ≤ 140737488355328) (hbase : base ≤ w.heap.size)
    (h : ∀ v' w', w'.ownsRow base E 1 v' (n + m) (xs ++ news) → w.grownBy w' v.ownBlock → (v'.ownBlock = v.ownBlock ∨ v'.ownBlock = some w.heap.size) → K (a.put o.dst v') w') :
    if Region.wanted o (yielded ops a.tmps) = true then Oper.wp P o a w K Q else R := by
  have hw : Region.wanted o (yielded ops a.tmps) = true := by simp [Region.wanted, hgd]
  rw [if_pos hw]
  obtain ⟨i0, hi, hz0, hz1, hz2⟩ := info_parts info
  obtain ⟨v', w', hr, h2, h3, _, h5⟩ := run_append_own_at (P := P) w base T o.type E i0 z 1 bytes hT hi hz0 hz1 hz2 hzs (by omega) v n xs hown ad m c news hl hnews h1 h63 hbytes hbase
  unfold Oper.wp execOp
  simp only [ho, resolve, invoke, builtin, Sem.run_bind, Sem.run_pure, Result.andThen_ok, List.map_toArray, List.map_cons, List.map_nil, hs, hx, hr]
  exact h v' w' h2 h3 h5
end
noncomputable def idxC (n : Nat) : Code := fromReg n ((Try.f44.body).getD .skip)
set_option maxRecDepth 100000 in
set_option maxHeartbeats 8000000 in
theorem newIndex_first (terms : List ByteArray) (ad : Option Addr) (n c : Nat) (w : World) (RR : Ending → World → Prop) (hs : Sl w ad n (strs terms)) (hn : n ≤ 1000) (hz : ∀ s ∈ terms, s.size ≤ 1000000)
    (hnext : ∀ (wr : World) (wv : Value) (svs : List Value) (hd : ByteArray → Value) (u4 u5 u6 u7 u8 u9 u10 u11 u12 u13 u14 u15 u16 u17 u18 u19 u20 u21 u22 u23 u24 u25 u26 u27 u28 u29 u30 u31 u32 u33 u34 u35 u36 u37 u38 u39 u40 u41 u42 u43 u44 u45 u46 u47 u48 u49 u50 u51 u52 u53 u54 : Value), IX wr w.heap.size (w.heap.size + 1 + 1) (w.heap.size + 1) n n wv svs hd (terms.map wordsB) → wr.heap[w.heap.size]? = some (.cells #[.slice none 0 0, .map none] 80 (0, 0)) → Below w.heap.size w wr →
      (idxC 10).wp Try.prog (bodyPost Try.prog Try.f44 RR) ⟨#[.slice ad n c, undef, .pointer (some ⟨w.heap.size, 0, none⟩), .pointer (some ⟨w.heap.size + 1 + 1, 0, none⟩), u4, u5, u6, u7, u8, u9, u10, u11, u12, u13, u14, u15, u16, u17, u18, u19, u20, u21, u22, u23, u24, u25, u26, u27, u28, u29, u30, u31, u32, u33, u34, u35, u36, u37, u38, u39, u40, u41, u42, u43, u44, u45, u46, u47, u48, u49, u50, u51, u52, u53, u54], []⟩ wr) :
    Calls Try.prog 44 #[.slice ad n c] w RR := by
  have hl := hs.len
  rw [strs_length] at hl
  have HS := Lib.hid hs
  have HN := Lib.hid hnext
  have HZ := Lib.hid hz
  have HL := Lib.hid hl
  have HWD := Lib.hid words_any
  have HLL : Hid ((terms.map wordsB).length = n) := by rw [Hid, List.length_map]; exact hl
  have hmm := @run_makeMap Try.prog
  clear hs hnext hz hl
  go_enter Try.func44, Try.ntmps44
  go_wp2_with fail
  rename_i K9 hK9
  have HK9 := Lib.hid hK9
  clear hK9
  refine wp_at_worldG ?_
  intro W0 hW0
  have hst : IX W0 w.heap.size (w.heap.size + 1 + 1) (w.heap.size + 1) 0 0 (.slice none 0 0) [] (fun _ => .slice none 0 0) (terms.map wordsB) := by
    have e1 := GM.made (w.alloc (.cells #[.slice none 0 0, .map none] 80))
    rw [World.size_alloc] at e1
    have e2 := heap_alloc_new ((w.alloc (.cells #[.slice none 0 0, .map none] 80)).alloc (.map #[] 0)) (.cells #[.slice none 0 0, .map (some (w.heap.size + 1))] 80)
    rw [World.size_alloc, World.size_alloc] at e2
    rw [hW0]
    exact IX.start e2 (e1.same (Below.heap_alloc _ _ _ (by simp))) (by omega) (by omega) (by simp; omega) _
  have hrs : W0.heap[w.heap.size]? = some (.cells #[.slice none 0 0, .map none] 80 (0, 0)) := by
    rw [hW0]
    exact (Below.heap_alloc _ _ _ (by simp; omega)).trans ((Below.heap_alloc _ _ _ (by simp)).trans (heap_alloc_new w _))
  have hbl : Below w.heap.size w W0 := by rw [hW0]; show Bel w _; exact (((Bel.refl _).alloc _).alloc _).alloc _
  have HST := Lib.hid hst
  have HRS := Lib.hid hrs
  have HBL := Lib.hid hbl
  clear hW0 hst hrs hbl
  go_loopw [13] (fun u wr => ∃ (i : Nat) (wv : Value) (svs : List Value) (hd : ByteArray → Value), u = .int .i64 (i : Int) ∧ i ≤ n ∧ IX wr w.heap.size (w.heap.size + 1 + 1) (w.heap.size + 1) i i wv svs hd (terms.map wordsB) ∧ wr.heap[w.heap.size]? = some (.cells #[.slice none 0 0, .map none] 80 (0, 0)) ∧ Below w.heap.size w wr) (fun u _ => n - (intOf u).toNat)
  case atStart => exact ⟨0, _, _, _, rfl, Nat.zero_le _, HST.out, HRS.out, HBL.out⟩
  case round =>
    obtain ⟨i, wv, svs, hd, rfl, hin, hix, hres, hbl⟩ := hrel
    have HIX := Lib.hid hix
    have HRES := Lib.hid hres
    have HB := Lib.hid hbl
    clear hix hres hbl HST HRS HBL
    by_cases hlt : i < n
    · obtain ⟨b0, o0, hsa⟩ := HS.out.below HB.out
      have hix0 := fun W => hsa.ix (c := c) 39 9 Try.underlying39 cellsStr hlt W
      have hc0 := hsa.cell i hlt
      rw [strs_getD _ _ (by rw [HL.out]; exact hlt)] at hc0
      have hsz := HZ.out (terms.getD i .empty) (getD_mem _ _ _ (by rw [HL.out]; exact hlt))
      have HLI : Hid ((terms.map wordsB).getD i [] = wordsB (terms.getD i .empty)) := by
        rw [Hid, List.getD_eq_getElem?_getD, List.getElem?_map, List.getD_eq_getElem?_getD, List.getElem?_eq_getElem (by rw [HL.out]; exact hlt)]
        rfl
      have hlz : (i : Int) < (n : Int) := by omega
      have HSZ1 := Lib.hid hsz
      clear hsa hsz
      generalize terms.getD i .empty = st at *
      go_wp2_with fail
      refine (HWD.out st _ HSZ1.out).mono ?_
      rintro e W1 ⟨aw, cw, rfl, hown1, hb1⟩
      have HIX1 := Lib.hid (HIX.out.below hb1)
      have HRES1 : Hid (W1.heap[w.heap.size]? = some (.cells #[.slice none 0 0, .map none] 80 (0, 0))) := (hb1.block _ (Array.getElem?_eq_some_iff.1 HRES.out).1).trans HRES.out
      have HB1 := Lib.hid (HB.out.trans (hb1.mono HB.out.size))
      have HOW1 : Hid (StrR W1 w.heap.size (.slice aw (wordsB st).length cw) (wordsB st)) := Own.rebase hown1 HB.out.size
      clear hown1 hb1 hix0 hc0 HIX HRES HB
      obtain ⟨av, cv, rfl⟩ := HIX1.out.words.form
      have hsl : svs.length = i := by
        have := HIX1.out.words.len
        rw [List.length_take, HLL.out, Nat.min_eq_left hin] at this
        exact this
      have HSL := Lib.hid hsl
      have hbx : W1.cell? ⟨w.heap.size + 1 + 1, 0, none⟩ = some (.slice av svs.length cv) := by rw [Lib.cell_of_heap HIX1.out.box]; rfl
      have HBS := HIX1.out.bs
      obtain ⟨lw, hlw⟩ : ∃ lw, (wordsB st).length = lw := ⟨_, rfl⟩
      rw [hlw] at HOW1 ⊢
      have HLW := Lib.hid hlw
      clear hlw hsl
      go_upto_region 7 with (at_builtin; refine appStrs rfl _ _ rfl w.heap.size _ _ _ _ rfl HIX1.out.words.row _ _ rfl rfl (by have := HSL.out; unfold maxLen; omega) (by have := HSL.out; omega) HBS ?_; intro ad6 c6 w3 hown3 hb3 hg3 hz3; have HOWN3 := Lib.hid hown3; have HG3 := Lib.hid hg3; have hbx3 : w3.cell? ⟨w.heap.size + 1 + 1, 0, none⟩ = some (.slice av svs.length cv) := (by rw [Lib.cell_of_heap (row_stays HIX1.out.box HIX1.out.words.row (by decide) hg3)]; rfl); have hfx3 : w3.frozen? ⟨w.heap.size + 1 + 1, 0, none⟩ = false := (by have := row_stays HIX1.out.box HIX1.out.words.row (by decide) hg3; simp [World.frozen?, this]); clear hown3 hb3 hg3 hz3)
      refine wp_at_worldG ?_
      intro W4 hW4
      have HOW4 : Hid (StrR W4 w.heap.size (.slice aw lw cw) (wordsB st)) := by
        rw [Hid, hW4]
        exact own_kept_at (own_other HOW1.out HIX1.out.words.row (by decide) HG3.out) (row_stays HIX1.out.box HIX1.out.words.row (by decide) HG3.out) (by decide) (grown_setCell _ _ _ _)
      have HIX4 : Hid (IX W4 w.heap.size (w.heap.size + 1 + 1) (w.heap.size + 1) (i + 1) i (.slice ad6 (svs.length + 1) c6) (svs ++ [.slice aw lw cw]) hd (terms.map wordsB)) := by
        rw [Hid, hW4]
        exact HIX1.out.push (by rw [HLL.out]; exact hlt) (by rw [HLI.out]; exact HOW1.out) HG3.out HOWN3.out
      have HRES4 : Hid (W4.heap[w.heap.size]? = some (.cells #[.slice none 0 0, .map none] 80 (0, 0))) := by
        have h3 := row_stays HRES1.out HIX1.out.words.row (by decide) HG3.out
        rw [Hid, hW4]
        exact ((grown_setCell w3 (w.heap.size + 1 + 1) 0 _).block _ (Array.getElem?_eq_some_iff.1 h3).1 (by intro e; injection e with e; omega)).trans h3
      have HB4 : Hid (Below w.heap.size w W4) := by
        rw [Hid, hW4]
        have h3 := HB1.out.grown HG3.out HB1.out.size (fun j hj => (HIX1.out.words.row.lt j hj).1)
        exact h3.grown (grown_setCell w3 (w.heap.size + 1 + 1) 0 _) h3.size (fun j hj => by injection hj with hj; omega)
      have HSL2 : Hid ((svs ++ [Value.slice aw lw cw]).length = i + 1) := by rw [Hid, List.length_append, HSL.out]; rfl
      clear hW4 HOWN3 HG3 hbx3 hfx3 hbx HIX1 HRES1 HB1 HOW1 HBS
      generalize (svs ++ [Value.slice aw lw cw]) = svs2 at *
      rcases Decidable.em (wordsB st = []) with hw0 | hw0
      · have hl0 : lw = 0 := by rw [← HLW.out, hw0]; rfl
        subst hl0
        have HIX5 := Lib.hid (HIX4.out.skip (HLI.out.trans hw0))
        clear hw0
        go_wp2_with fail
        go_roundw
        case rel => exact ⟨i + 1, _, svs2, hd, by go_num, by omega, HIX5.out, HRES4.out, HB4.out⟩
        case measure => simp [intOf]; omega
      · have hlp : 0 < lw := by rw [← HLW.out]; exact List.length_pos_iff.2 hw0
        have hlz2 : (0 : Int) < (lw : Int) := by omega
        obtain ⟨s0, hs0⟩ : ∃ s0, (wordsB st).getD 0 .empty = s0 := ⟨_, rfl⟩
        have HHD : Hid (((terms.map wordsB).getD i []).head? = some s0) := by
          rw [Hid, HLI.out, ← hs0]
          cases hq : wordsB st with
          | nil => exact absurd hq hw0
          | cons x r => rfl
        have HSZ0 : Hid (s0.size ≤ maxLen) := by
          rw [Hid, ← hs0]
          have h1 := wordsB_size st _ (getD_mem (wordsB st) 0 .empty (by rw [HLW.out]; exact hlp))
          have h2 := HSZ1.out
          unfold maxLen
          omega
        obtain ⟨sb, so, hsa⟩ := Own.sl (HLW.out ▸ HOW4.out : W4.ownsRow w.heap.size 9 1 (.slice aw lw cw) lw (strs (wordsB st)))
        have haw := hsa.adr (by omega)
        have hc4 := hsa.cell 0 hlp
        rw [strs_getD _ _ (by rw [HLW.out]; exact hlp), hs0, Nat.add_zero] at hc4
        have hi4 : ∀ W, (Instr.indexAt 39 (.slice aw lw cw) (.int .i64 0)).run Try.prog W = .ok (.pointer (some ⟨sb, so, none⟩)) W := fun W => by
          have := hsa.ix (c := cw) 39 9 Try.underlying39 cellsStr hlp W
          rwa [Nat.add_zero] at this
        have HROW : Hid (W4.ownsRow w.heap.size 3 1 (hd s0) (grp (terms.map wordsB) i s0).length ((grp (terms.map wordsB) i s0).map fun (k : Nat) => Value.int .i64 (k : Int))) := HIX4.out.rows s0
        have HKS : Hid (∀ w6, W4.grownBy w6 (hd s0).ownBlock → w6.cell? ⟨sb, so, none⟩ = some (.string s0)) := fun w6 hg => by
          refine hg.cell hc4 ?_
          have h2 := own_apart HOW4.out HROW.out (by decide)
          rw [haw] at h2
          rcases h2 with h | h
          · cases h
          · exact h
        have HLOOK : Hid (∀ W, Bel W4 W → (Instr.lookup 78 (.map (some (w.heap.size + 1))) (.string s0) false).run Try.prog W = .ok (hd s0) W) := fun W hb => (HIX4.out.below hb).gm.look s0 HSZ0.out
        have HPUT : Hid (∀ w6 v', W4.grownBy w6 (hd s0).ownBlock → w6.ownsRow w.heap.size 3 1 v' ((grp (terms.map wordsB) i s0).length + 1) ((grp (terms.map wordsB) i s0).map (fun (k : Nat) => Value.int .i64 (k : Int)) ++ [.int .i64 (i : Int)]) → (v'.ownBlock = (hd s0).ownBlock ∨ ∃ q, v'.ownBlock = some q ∧ W4.heap.size ≤ q) →
            ∃ w7, (Instr.mapUpdate 78 (.map (some (w.heap.size + 1))) (.string s0) v').run Try.prog w6 = .ok () w7 ∧ IX w7 w.heap.size (w.heap.size + 1 + 1) (w.heap.size + 1) (i + 1) (i + 1) (.slice ad6 (svs.length + 1) c6) svs2 (updH hd s0 v') (terms.map wordsB) ∧ w6.grownBy w7 (some (w.heap.size + 1))) := fun w6 v' hg ho hl => HIX4.out.put HHD.out HSZ0.out (by unfold maxLen; omega) hg ho hl
        have HHV : Hid (hd s0 = hd s0) := rfl
        have hgl := grp_len (terms.map wordsB) i s0
        have u1 : W4.drew.cell? ⟨w.heap.size + 1 + 1, 1, none⟩ = some (.map (some (w.heap.size + 1))) := by
          have := HIX4.out.box
          rw [Lib.cell_of_heap (show W4.drew.heap[_]? = _ from this)]; rfl
        have u2 : W4.drew.cell? ⟨sb, so, none⟩ = some (.string s0) := hc4
        have u3 := HLOOK.out W4.drew (Bel.drew (Bel.refl _))
        subst haw
        clear hs0 hw0 hsa hlp
        generalize (grp (terms.map wordsB) i s0).map (fun (k : Nat) => Value.int .i64 (k : Int)) = gxs at *
        generalize (grp (terms.map wordsB) i s0).length = gl at *
        obtain ⟨hv, hhv⟩ : ∃ hv, hd s0 = hv := ⟨_, rfl⟩
        rw [hhv] at HROW HKS HLOOK HPUT u3
        replace HHV : Hid (hd s0 = hv) := hhv
        clear hhv
        go_upto_region 8 with (fail)
        refine wp_region_until 14 (fun w' => w'.cell? ⟨w.heap.size + 1 + 1, 1, none⟩ = some (.map (some (w.heap.size + 1))) ∧ w'.cell? ⟨sb, so, none⟩ = some (.string s0) ∧ (Instr.lookup 78 (.map (some (w.heap.size + 1))) (.string s0) false).run Try.prog w' = .ok hv w') (by kernel_rfl) ⟨u1, u2, u3⟩ (fun hS0 => ?_)
        refine wpAnyG_take (i := 0) (v := ?_) rfl (by kernel_rfl) (by kernel_rfl) (by kernel_rfl) (fun _ _ _ h => h) (by kernel_rfl) (by decide) (by kernel_rfl) (Or.inl ⟨by kernel_rfl, ?_⟩) hS0 ?_
        rotate_left
        · (intro wx hSw; obtain ⟨t1, t2, t3⟩ := hSw; go_simp; try with_reducible rfl)
        simp only [Act.put, List.getElem_toArray, List.getElem_cons_zero, List.setIfInBounds_toArray, List.set_cons_zero, List.set_cons_succ]
        refine wpAnyG_take (i := 1) (v := ?_) rfl (by kernel_rfl) (by kernel_rfl) (by kernel_rfl) (fun _ _ _ h => h) (by kernel_rfl) (by decide) (by kernel_rfl) (Or.inl ⟨by kernel_rfl, ?_⟩) hS0 ?_
        rotate_left
        · (intro wx hSw; obtain ⟨t1, t2, t3⟩ := hSw; go_simp; try with_reducible rfl)
        simp only [Act.put, List.getElem_toArray, List.getElem_cons_succ, List.getElem_cons_zero, List.setIfInBounds_toArray, List.set_cons_zero, List.set_cons_succ]
        refine wpAnyG_take (i := 2) (v := ?_) rfl (by kernel_rfl) (by kernel_rfl) (by kernel_rfl) (fun _ _ _ h => h) (by kernel_rfl) (by decide) (by kernel_rfl) (Or.inl ⟨by kernel_rfl, ?_⟩) hS0 ?_
        rotate_left
        · (intro wx hSw; obtain ⟨t1, t2, t3⟩ := hSw; go_simp; try with_reducible rfl)
        simp only [Act.put, List.getElem_toArray, List.getElem_cons_succ, List.getElem_cons_zero, List.setIfInBounds_toArray, List.set_cons_zero, List.set_cons_succ]
        refine wpAnyG_take (i := 3) (v := ?_) rfl (by kernel_rfl) (by kernel_rfl) (by kernel_rfl) (fun _ _ _ h => h) (by kernel_rfl) (by decide) (by kernel_rfl) (Or.inl ⟨by kernel_rfl, ?_⟩) hS0 ?_
        rotate_left
        · (intro wx hSw; obtain ⟨t1, t2, t3⟩ := hSw; go_simp; try with_reducible rfl)
        simp only [Act.put, List.getElem_toArray, List.getElem_cons_succ, List.getElem_cons_zero, List.setIfInBounds_toArray, List.set_cons_zero, List.set_cons_succ]
        refine wpAnyG_take (i := 4) (v := ?_) rfl (by kernel_rfl) (by kernel_rfl) (by kernel_rfl) (fun _ _ _ h => h) (by kernel_rfl) (by decide) (by kernel_rfl) (Or.inl ⟨by kernel_rfl, ?_⟩) hS0 ?_
        rotate_left
        · (intro wx hSw; obtain ⟨t1, t2, t3⟩ := hSw; go_simp; try with_reducible rfl)
        simp only [Act.put, List.getElem_toArray, List.getElem_cons_succ, List.getElem_cons_zero, List.setIfInBounds_toArray, List.set_cons_zero, List.set_cons_succ]
        refine wpAnyG_take (i := 5) (v := ?_) rfl (by kernel_rfl) (by kernel_rfl) (by kernel_rfl) (fun _ _ _ h => h) (by kernel_rfl) (by decide) (by kernel_rfl) (Or.inl ⟨by kernel_rfl, ?_⟩) hS0 ?_
        rotate_left
        · (intro wx hSw; obtain ⟨t1, t2, t3⟩ := hSw; go_simp; try with_reducible rfl)
        simp only [Act.put, List.getElem_toArray, List.getElem_cons_succ, List.getElem_cons_zero, List.setIfInBounds_toArray, List.set_cons_zero, List.set_cons_succ]
        refine wpAnyG_take (i := 6) (v := ?_) rfl (by kernel_rfl) (by kernel_rfl) (by kernel_rfl) (fun _ _ _ h => h) (by kernel_rfl) (by decide) (by kernel_rfl) (Or.inl ⟨by kernel_rfl, ?_⟩) hS0 ?_
        rotate_left
        · (intro wx hSw; obtain ⟨t1, t2, t3⟩ := hSw; go_simp; try with_reducible rfl)
        simp only [Act.put, List.getElem_toArray, List.getElem_cons_succ, List.getElem_cons_zero, List.setIfInBounds_toArray, List.set_cons_zero, List.set_cons_succ]
        refine wpAnyG_take (i := 7) (v := ?_) rfl (by kernel_rfl) (by kernel_rfl) (by kernel_rfl) (fun _ _ _ h => h) (by kernel_rfl) (by decide) (by kernel_rfl) (Or.inl ⟨by kernel_rfl, ?_⟩) hS0 ?_
        rotate_left
        · (intro wx hSw; obtain ⟨t1, t2, t3⟩ := hSw; go_simp; try with_reducible rfl)
        simp only [Act.put, List.getElem_toArray, List.getElem_cons_succ, List.getElem_cons_zero, List.setIfInBounds_toArray, List.set_cons_zero, List.set_cons_succ]
        refine wpAnyG_take (i := 8) (v := ?_) rfl (by kernel_rfl) (by kernel_rfl) (by kernel_rfl) (fun _ _ _ h => h) (by kernel_rfl) (by decide) (by kernel_rfl) (Or.inl ⟨by kernel_rfl, ?_⟩) hS0 ?_
        rotate_left
        · (intro wx hSw; obtain ⟨t1, t2, t3⟩ := hSw; go_simp; try with_reducible rfl)
        simp only [Act.put, List.getElem_toArray, List.getElem_cons_succ, List.getElem_cons_zero, List.setIfInBounds_toArray, List.set_cons_zero, List.set_cons_succ]
        refine wpAnyG_take (i := 9) (v := ?_) rfl (by kernel_rfl) (by kernel_rfl) (by kernel_rfl) (fun _ _ _ h => h) (by kernel_rfl) (by decide) (by kernel_rfl) (Or.inl ⟨by kernel_rfl, ?_⟩) hS0 ?_
        rotate_left
        · (intro wx hSw; obtain ⟨t1, t2, t3⟩ := hSw; go_simp; try with_reducible rfl)
        simp only [Act.put, List.getElem_toArray, List.getElem_cons_succ, List.getElem_cons_zero, List.setIfInBounds_toArray, List.set_cons_zero, List.set_cons_succ]
        refine wpAnyG_take (i := 10) (v := ?_) rfl (by kernel_rfl) (by kernel_rfl) (by kernel_rfl) (fun _ _ _ h => h) (by kernel_rfl) (by decide) (by kernel_rfl) (Or.inl ⟨by kernel_rfl, ?_⟩) hS0 ?_
        rotate_left
        · (intro wx hSw; obtain ⟨t1, t2, t3⟩ := hSw; go_simp; try with_reducible rfl)
        simp only [Act.put, List.getElem_toArray, List.getElem_cons_succ, List.getElem_cons_zero, List.setIfInBounds_toArray, List.set_cons_zero, List.set_cons_succ]
        refine wpAnyG_take (i := 11) (v := ?_) rfl (by kernel_rfl) (by kernel_rfl) (by kernel_rfl) (fun _ _ _ h => h) (by kernel_rfl) (by decide) (by kernel_rfl) (Or.inl ⟨by kernel_rfl, ?_⟩) hS0 ?_
        rotate_left
        · (intro wx hSw; obtain ⟨t1, t2, t3⟩ := hSw; go_simp; try with_reducible rfl)
        simp only [Act.put, List.getElem_toArray, List.getElem_cons_succ, List.getElem_cons_zero, List.setIfInBounds_toArray, List.set_cons_zero, List.set_cons_succ]
        refine wpAnyG_ready (rs := [12]) (by kernel_rfl) (by simp) ?_
        refine AllReadyG.cons rfl (fun K hK => ?_) AllReadyG.nil
        go_simp
        refine hK.out _ _ (fun _ => ⟨Lib.cell?_alloc_some _ u1, Lib.cell?_alloc_some _ u2, HLOOK.out _ (Bel.alloc (Bel.drew (Bel.refl _)) _)⟩) (fun _ => ?_)
        clear hK K
        refine wpAnyG_ready (rs := [13]) (by kernel_rfl) (by simp) ?_
        refine AllReadyG.cons rfl (fun K hK => ?_) AllReadyG.nil
        refine step_app_at rfl (.tmp 39) (.tmp 41) rfl Try.underlying93 infoInts rfl w.heap.size hv _ _ rfl (own_below HROW.out (Bel.alloc (Bel.drew (Bel.refl _)) _)) ⟨W4.heap.size, 0, none⟩ 1 1 [.int .i64 (i : Int)] rfl rfl (cell_one_new _ _ _) (by intro u hu; rw [List.mem_singleton.1 hu]; rfl) (by unfold maxLen; omega) (by omega) (Nat.le_trans HIX4.out.bs (by simp)) ?_
        intro v' w6 hown6 hg6 hloc6
        have HO6 := Lib.hid hown6
        have HG6 : Hid (W4.grownBy w6 hv.ownBlock) := ⟨hg6.os, hg6.tape, hg6.output, by have := hg6.size; simp at this; omega, fun k hk hne => (hg6.block k (by simp; omega) hne).trans (Below.heap_alloc W4.drew _ _ hk)⟩
        have HLC6 : Hid (v'.ownBlock = hv.ownBlock ∨ ∃ q, v'.ownBlock = some q ∧ W4.heap.size ≤ q) := by
          rcases hloc6 with h | h
          · exact .inl h
          · exact .inr ⟨_, h, by simp⟩
        clear hown6 hg6 hloc6
        have hk1 : w6.cell? ⟨w.heap.size + 1 + 1, 1, none⟩ = some (.map (some (w.heap.size + 1))) := by
          rw [Lib.cell_of_heap (row_stays HIX4.out.box HROW.out (by decide) HG6.out)]; rfl
        have hk2 : w6.cell? ⟨sb, so, none⟩ = some (.string s0) := HKS.out w6 HG6.out
        have hk3 : (Instr.lookup 78 (.map (some (w.heap.size + 1))) (.string s0) false).run Try.prog w6 = .ok hv w6 := by
          rw [← HHV.out]
          exact (HIX4.out.gm.kept HG6.out (HIX4.out.gm.apart HROW.out)).look s0 HSZ0.out
        refine hK.out _ _ (fun _ => ⟨hk1, hk2, hk3⟩) (fun _ => ?_)
        clear hK K hk2 hk3
        simp only [Act.put, List.getElem_toArray, List.getElem_cons_succ, List.getElem_cons_zero, List.setIfInBounds_toArray, List.set_cons_zero, List.set_cons_succ]
        refine wpAnyG_ready (rs := [14]) (by kernel_rfl) (by simp) ?_
        refine AllReadyG.cons rfl (fun K hK => ?_) AllReadyG.nil
        obtain ⟨w7, hrun7, hix7, hg7⟩ := HPUT.out w6 v' HG6.out HO6.out HLC6.out
        have HIX7 := Lib.hid hix7
        have HR7 : Hid (w7.heap[w.heap.size]? = some (.cells #[.slice none 0 0, .map none] 80 (0, 0))) := (hg7.block _ (by have := (Array.getElem?_eq_some_iff.1 (row_stays HRES4.out HROW.out (by decide) HG6.out)).1; exact this) (by intro e; injection e with e; omega)).trans (row_stays HRES4.out HROW.out (by decide) HG6.out)
        have HB7 : Hid (Below w.heap.size w w7) := Below.grown (HB4.out.grown HG6.out HB4.out.size (fun j hj => (HROW.out.lt j hj).1)) hg7 (HB4.out.grown HG6.out HB4.out.size (fun j hj => (HROW.out.lt j hj).1)).size (fun j hj => by injection hj with hj; omega)
        clear hix7 hg7
        go_simp
        refine hK.out _ _ (fun h => by cases h) (fun _ => ?_)
        clear hK K hrun7
        refine wpAnyG_done (by kernel_rfl) ?_ _
        go_wp2_with fail
        go_roundw
        case rel => exact ⟨i + 1, _, svs2, _, by go_num, by omega, HIX7.out, HR7.out, HB7.out⟩
        case measure => simp [intOf]; omega
    · obtain rfl : i = n := by omega
      go_wp2_with fail
      refine HK9.out _ _ ?_
      exact HN.out wr wv svs hd _ _ _ _ _ _ _ _ _ _ _ _ _ _ _ _ _ _ _ _ _ _ _ _ _ _ _ _ _ _ _ _ _ _ _ _ _ _ _ _ _ _ _ _ _ _ _ _ _ _ _ HIX.out HRES.out HB.out
end Go.Proofs.Ytkodnagneblgaaa
/- A range over a map of slices; a row of numbers before and behind the sort. -/
namespace Go.Proofs.Ytkodnagneblgaaa
open Go.RowKit Go.Maps Go.Sort
theorem grown_none_but {w w' : World} (h : w.grownBy w' none) (row : Option Nat) : w.grownBy w' row := h.but row
/-- 'range' -/
theorem range_gm {ops : Array Oper} {rest : List Oper} {o : Oper} {a : Act} {Q : Exit → Act → World → Prop} {w : World} (hg : o.guard = none) (m : Operand) (hop : o.op = Op.range 78 m) (M n : Nat) (hd : ByteArray → Value)
    (hm : a.eval m = .map (some M)) (h : GM w M n hd)
    (hK : ∀ w' left cnt, GR w' M w.heap.size n hd left cnt → (∀ s : ByteArray, s.size ≤ maxLen → left (.string s.data.toList) = false → hd s = .slice none 0 0) → w.grownBy w' none → w'.heap.size = w.heap.size + 1 →
      wpList Try.prog ops Q rest (a.put o.dst (.pointer (some ⟨w.heap.size, 0, none⟩))) w') : wpList Try.prog ops Q (o :: rest) a w := by
  obtain ⟨D, h1, h2, h3, h4⟩ := h
  refine wpList_range_own w hg m 78 hop 9 93 lawStr Try.underlying78 hdR M n D hm h1 ?_
  intro w' hr hgr hsz
  refine hK w' _ _ ⟨D, hr, h3, h4⟩ (fun s hs hl => ?_) hgr hsz
  have := h3 s hs
  rw [atKey_of_not_has hl] at this
  exact hdR_inj this (show hdR (.slice none 0 0) = some (.nil, []) from rfl)
/-- 'next' -/
theorem next_gr {ops : Array Oper} {rest : List Oper} {o : Oper} {a : Act} {Q : Exit → Act → World → Prop} {w : World} (hg : o.guard = none) (it : Operand) (hop : o.op = Op.next it false) (M r n : Nat) (hd : ByteArray → Value) (left : Lit → Bool) (cnt : Nat)
    (hit : a.eval it = .pointer (some ⟨r, 0, none⟩)) (h : GR w M r n hd left cnt)
    (hDone : (∀ kl, left kl = false) → wpList Try.prog ops Q rest (a.put o.dst (.tuple #[.bool false])) w)
    (hMore : ∀ (x : ByteArray) (w' : World) (cnt' : Nat), x.size ≤ maxLen → left (.string x.data.toList) = true → hd x ≠ .slice none 0 0 → GR w' M r n hd (fun z => left z && !z.sameKey (.string x.data.toList)) cnt' → cnt' < cnt → w.grownBy w' (some r) → w'.heap.size = w.heap.size →
      (Instr.entry (.pointer (some ⟨r, 0, none⟩))).run Try.prog w' = .ok (.tuple #[.string x, hd x]) w' → wpList Try.prog ops Q rest (a.put o.dst (.tuple #[.bool true, .string x, hd x])) w') : wpList Try.prog ops Q (o :: rest) a w := by
  obtain ⟨D, h1, h3, h4⟩ := h
  refine wpList_next_ranges (α := ByteArray) (β := Value) w hg it hop 9 lawStr hdR Value.string id (fun key kl hk => ?_) (fun v y _ => ⟨v, rfl⟩) M r n D left cnt hit h1 (fun _ hl => hDone hl) ?_
  · unfold keyOf at hk
    cases key <;> simp [Try.underlying9, mapKey] at hk
    exact ⟨_, rfl⟩
  · intro x c kl y w' cnt' hkey hlk hv hat hrg hlt hgr hsz hen
    have hxs : x.size ≤ maxLen ∧ kl = .string x.data.toList := by
      unfold keyOf at hkey
      simp [Try.underlying9, mapKey] at hkey
      exact ⟨hkey.1, hkey.2.symm⟩
    obtain ⟨hx, rfl⟩ := hxs
    have hcx : c = hd x := by
      have e1 := h3 x hx
      rw [hat] at e1
      have e2 := hdR_places hv
      rw [e2] at hv
      exact hdR_inj hv e1
    subst hcx
    exact hMore x w' cnt' hx hlk (h4 x hx (has_true_of_atKey hat)) ⟨D, hrg, h3, h4⟩ hlt hgr hsz hen
theorem GR.left_eq {w : World} {M r n : Nat} {hd : ByteArray → Value} {left : Lit → Bool} {cnt : Nat} (h : GR w M r n hd left cnt) : w.rangeLeft M r = cnt := by
  obtain ⟨D, h1, _⟩ := h
  exact h1.left_eq
theorem GR.lt {w : World} {M r n : Nat} {hd : ByteArray → Value} {left : Lit → Bool} {cnt : Nat} (h : GR w M r n hd left cnt) : r < w.heap.size := by
  obtain ⟨D, h1, _⟩ := h
  exact h1.lt
theorem sameKey_str {s x : ByteArray} : (Lit.string s.data.toList).sameKey (.string x.data.toList) = decide (s = x) := by
  by_cases h : s = x
  · subst h
    rw [decide_eq_true rfl]
    simp [Lit.sameKey]
  · rw [decide_eq_false h]
    exact sameKey_ne (fun e => h (by injection e with e; exact ByteArray.ext (Array.ext' e)))
/-- ahead in the order of the terms: more words, or as many and the less number -/
def RW (lists : List (List ByteArray)) (x y : Nat) : Prop := lnW lists y < lnW lists x ∨ (lnW lists x = lnW lists y ∧ x < y)
def RI (lists : List (List ByteArray)) (x y : Int) : Prop := lnW lists y.toNat < lnW lists x.toNat ∨ (lnW lists x.toNat = lnW lists y.toNat ∧ x < y)
theorem ord_RI (lists : List (List ByteArray)) : Ord (RI lists) (fun _ => True) where
  tr := fun x y z h1 h2 => by unfold RI at *; omega
  tot := fun x y _ _ h => by unfold RI; omega
theorem RI_nat {lists : List (List ByteArray)} {x y : Nat} : RI lists (x : Int) (y : Int) ↔ RW lists x y := by
  unfold RI RW
  simp
/-- the members of a group, in order -/
def SortG (lists : List (List ByteArray)) (s : ByteArray) (ns : List Nat) : Prop := (∀ j, j ∈ ns ↔ j ∈ grp lists lists.length s) ∧ ns.Pairwise (RW lists)
/-- the row as the sort sees it -/
def finA (K : Nat) (ns : List Nat) : Array (Fin (K + 1)) := (ns.map (Fin.ofNat (K + 1))).toArray
theorem finA_size (K : Nat) (ns : List Nat) : (finA K ns).size = ns.length := by simp [finA]
theorem finA_at {K : Nat} {ns : List Nat} (h : ∀ k ∈ ns, k < K + 1) {j : Nat} (hj : j < ns.length) : zOf (finA K ns) j = ((ns.getD j 0 : Nat) : Int) := by
  unfold zOf finA
  have hm := h _ (getD_mem ns j 0 hj)
  rw [getElem!_pos _ j (by simpa using hj)]
  simp only [List.getElem_toArray, List.getElem_map, Fin.ofNat]
  rw [List.getD_eq_getElem?_getD, List.getElem?_eq_getElem hj] at hm ⊢
  simp only [Option.getD_some] at hm ⊢
  rw [Nat.mod_eq_of_lt hm]
theorem finA_enc {K : Nat} {ns : List Nat} (h : ∀ k ∈ ns, k < K + 1) : (finA K ns).toList.map encI = ns.map fun (k : Nat) => Value.int .i64 (k : Int) := by
  unfold finA
  rw [List.map_map]
  refine List.map_congr_left fun k hk => ?_
  simp only [Function.comp, encI, Fin.ofNat]
  rw [Nat.mod_eq_of_lt (h k hk)]
theorem holds_row {K : Nat} {w : World} {base g n cap : Nat} {d : Array (Fin (K + 1))} (h : w.ownsRow base 3 1 (.slice (some ⟨g, 0, none⟩) n cap) n (d.toList.map encI)) : Holds encI w g 0 d := by
  obtain ⟨hl, ⟨h1, _⟩ | ⟨g', cap', cur, h1, h2, h3, h4, h5, h6, h7⟩⟩ := h
  · cases h1
  · injection h1 with e1 e2 e3
    injection e1 with e1
    injection e1 with e1
    subst e1
    intro j hj
    refine ⟨?_, by simp [World.frozen?, h3]⟩
    have hk : (d.toList.map encI)[j]? = some (encI d[j]!) := by
      rw [List.getElem?_map, Array.getElem?_toList, Array.getElem?_eq_getElem hj, getElem!_pos d j hj]; rfl
    rw [← h7, List.getElem?_take] at hk
    simp only [World.cell?, h3, Nat.zero_add]
    split at hk
    · simpa using hk
    · cases hk
theorem own_putRow {K : Nat} {w : World} {base g n cap q : Nat} {xs : List Value} {d' : Array (Fin (K + 1))} (h : w.ownsRow base 3 1 (.slice (some ⟨g, 0, none⟩) n cap) n xs) (hd : d'.size = n) :
    ((putRow encI w g 0 d').drewN q).ownsRow base 3 1 (.slice (some ⟨g, 0, none⟩) n cap) n (d'.toList.map encI) := by
  obtain ⟨hl, ⟨h1, _⟩ | ⟨g', cap', cur, h1, h2, h3, h4, h5, h6, h7⟩⟩ := h
  · cases h1
  · injection h1 with e1 e2 e3
    injection e1 with e1
    injection e1 with e1
    subst e1 e3
    refine ⟨by simp [hd], .inr ⟨g, cap, putCells encI 0 d' cur, rfl, h2, ?_, h4, h5, by simp [putCells, h6], ?_⟩⟩
    · show (putRow encI w g 0 d').heap[g]? = _
      simp [putRow, mapBlock, Array.getElem?_modify, h3, onCells]
    · rw [Nat.mul_one]
      apply List.ext_getElem?
      intro j
      by_cases hj : j < n
      · rw [List.getElem?_take_of_lt hj, Array.getElem?_toList]
        have hj2 : j < cur.size := by omega
        simp [putCells, hj2, hd, hj]
      · rw [List.getElem?_take_eq_none (by omega), List.getElem?_eq_none (by simp [hd]; omega)]
theorem grown_putRow {K : Nat} (w : World) (g q : Nat) (d' : Array (Fin (K + 1))) : w.grownBy ((putRow encI w g 0 d').drewN q) (some g) := by
  refine ⟨rfl, rfl, rfl, ?_, fun k hk hne => ?_⟩
  · show w.heap.size ≤ (putRow encI w g 0 d').heap.size
    simp [putRow, mapBlock]
  · have : g ≠ k := fun e => hne (by rw [e])
    show (putRow encI w g 0 d').heap[k]? = _
    simp [putRow, mapBlock, Array.getElem?_modify, this]
/-- what the sort leaves is the group in order -/
theorem sortG_of {K : Nat} {lists : List (List ByteArray)} (hK : lists.length = K + 1) {s : ByteArray} {d' : Array (Fin (K + 1))} (hsz : d'.size = (grp lists lists.length s).length)
    (ht : SortO (RI lists) (zOf d') 0 (grp lists lists.length s).length) (hm : MemO (zOf (finA K (grp lists lists.length s))) (zOf d') 0 (grp lists lists.length s).length) : SortG lists s (d'.toList.map Fin.val) := by
  have hlt : ∀ k ∈ grp lists lists.length s, k < K + 1 := fun k hk => by have := (grp_mem.1 hk).1; omega
  have hz : ∀ j, j < d'.size → zOf d' j = ((d'.toList.map Fin.val).getD j 0 : Nat) := fun j hj => by
    unfold zOf
    rw [getElem!_pos d' j hj, List.getD_eq_getElem?_getD, List.getElem?_map, Array.getElem?_toList, Array.getElem?_eq_getElem hj]; rfl
  refine ⟨fun j => ⟨fun hj => ?_, fun hj => ?_⟩, ?_⟩
  · obtain ⟨x, hx, rfl⟩ := List.mem_map.1 hj
    obtain ⟨i, hi, rfl⟩ := List.getElem_of_mem hx
    have hi' : i < d'.size := by simpa using hi
    obtain ⟨y, y1, y2, ey⟩ := hm.1 i (Nat.zero_le _) (by omega)
    rw [finA_at hlt y2] at ey
    have : ((d'.toList[i]).val : Int) = zOf d' i := by unfold zOf; rw [getElem!_pos d' i hi']; rfl
    rw [ey] at this
    have h2 : (d'.toList[i]).val = (grp lists lists.length s).getD y 0 := by omega
    rw [h2]
    exact getD_mem _ _ _ y2
  · obtain ⟨y, hy, rfl⟩ := List.getElem_of_mem hj
    obtain ⟨i, i1, i2, ei⟩ := hm.2 y (Nat.zero_le _) hy
    rw [finA_at hlt hy, hz i (by omega)] at ei
    have h2 : (grp lists lists.length s)[y] = (d'.toList.map Fin.val).getD i 0 := by
      have : (grp lists lists.length s).getD y 0 = (grp lists lists.length s)[y] := by rw [List.getD_eq_getElem?_getD, List.getElem?_eq_getElem hy]; rfl
      omega
    rw [h2]
    exact getD_mem _ _ _ (by simp; omega)
  · rw [List.pairwise_iff_getElem]
    intro i j hi hj hij
    have hi' : i < d'.size := by simpa using hi
    have hj' : j < d'.size := by simpa using hj
    have := ht i j (Nat.zero_le _) hij (by omega)
    rw [hz i hi', hz j hj'] at this
    have h1 := RI_nat.1 this
    rw [List.getD_eq_getElem?_getD, List.getElem?_eq_getElem hi, List.getD_eq_getElem?_getD, List.getElem?_eq_getElem hj] at h1
    simpa using h1
theorem rise_grp {K : Nat} {lists : List (List ByteArray)} (hK : lists.length = K + 1) (s : ByteArray) : RiseO (zOf (finA K (grp lists lists.length s))) 0 (finA K (grp lists lists.length s)).size := by
  have hlt : ∀ k ∈ grp lists lists.length s, k < K + 1 := fun k hk => by have := (grp_mem.1 hk).1; omega
  rw [finA_size]
  intro i j _ hij hj
  rw [finA_at hlt (by omega), finA_at hlt hj]
  have hp : (grp lists lists.length s).Pairwise (· < ·) := List.Pairwise.filter _ List.pairwise_lt_range
  have := List.pairwise_iff_getElem.1 hp i j (by omega) hj hij
  rw [List.getD_eq_getElem?_getD, List.getElem?_eq_getElem (by omega), List.getD_eq_getElem?_getD, List.getElem?_eq_getElem hj]
  simp only [Option.getD_some]
  omega
end Go.Proofs.Ytkodnagneblgaaa
