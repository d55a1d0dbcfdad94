/- Walks: the index of terms: the first loop. -/
import Derived.Test.YtkodnagneblgaaaD3
namespace Go.Proofs.Ytkodnagneblgaaa
open Go.RowKit Go.Maps Go.Sort
attribute [local go_sem] Ext.cell Ext.frozen
attribute [local go_sem ↓] Go.wp_at_zero Go.wp_at_succ
theorem wp_at_worldG {P : Program} {c : Code} {Q : Exit → Act → World → Prop} {a : Act} {w : World} (h : ∀ W, W = w → c.wp P Q a W) : c.wp P Q a w := h w rfl
theorem infoInts : (Try.prog.info? 3).map (fun i => (i.zero, i.size, i.bytes)) = some (some (.int .i64 0), 1, 8) := by kernel_rfl
/-- a block of one type stays while a row of another grows -/
theorem row_stays {w w' : World} {k : Nat} {cur : Array Value} {T : TypeId} {fr : Nat × Nat} (hk : w.heap[k]? = some (.cells cur T fr)) {b : Nat} {E : TypeId} {s : Nat} {v : Value} {n : Nat} {xs : List Value} (h : w.ownsRow b E s v n xs) (hE : T ≠ E) (hg : w.grownBy w' v.ownBlock) :
    w'.heap[k]? = some (.cells cur T fr) := (hg.block _ (Array.getElem?_eq_some_iff.1 hk).1 (by
  intro e
  rcases h.2 with ⟨h0, _⟩ | ⟨g, cap, cur', h0, _, h3, _⟩
  · rw [h0] at e; cases e
  · rw [h0] at e
    injection e with e
    have e : k = g := e
    subst e
    rw [hk] at h3
    injection h3 with h3
    injection h3 with _ h4
    exact hE h4)).trans hk
section
variable {P : Program} {T E : TypeId} {z : Value} {bytes : Nat}
/-- an append that tells where the row lies, as a step of a region -/
theorem step_app_at {w : World} {ops : Array Oper} {o : Oper} {a : Act} {K : Act → World → Prop} {Q : Exit → Act → World → Prop} {R : Prop} (hgd : o.guard = none) (s x : Operand) (ho : o.op = .call { callee := .builtin .append, args := #[s, x], argTypes := #[T, T] })
    (hT : P.underlying T = some (.slice E)) (info : (P.info? E).map (fun i => (i.zero, i.size, i.bytes)) = some (some z, 1, bytes)) (hzs : z.cells.size = 1)
    (base : Nat) (v : Value) (n : Nat) (xs : List Value) (hs : a.eval s = v) (hown : w.ownsRow base E 1 v n xs) (ad : Addr) (m c : Nat) (news : List Value) (hx : a.eval x = .slice (some ad) m c) (hl : news.length = m * 1)
    (hnews : ∀ j u, news[j]? = some u → w.cell? (ad.add j) = some u) (h1 : ∀ u ∈ news, u.oneCell' = true) (h63 : n + m ≤ maxLen) (hbytes : (n + m) * bytes ≤ 140737488355328) (hbase : base ≤ w.heap.size)
    (h : ∀ v' w', w'.ownsRow base E 1 v' (n + m) (xs ++ news) → w.grownBy w' v.ownBlock → (v'.ownBlock = v.ownBlock ∨ v'.ownBlock = some w.heap.size) → K (a.put o.dst v') w') :
    if Region.wanted o (yielded ops a.tmps) = true then Oper.wp P o a w K Q else R := by
  have hw : Region.wanted o (yielded ops a.tmps) = true := by simp [Region.wanted, hgd]
  rw [if_pos hw]
  obtain ⟨i0, hi, hz0, hz1, hz2⟩ := info_parts info
  obtain ⟨v', w', hr, h2, h3, _, h5⟩ := run_append_own_at (P := P) w base T o.type E i0 z 1 bytes hT hi hz0 hz1 hz2 hzs (by omega) v n xs hown ad m c news hl hnews h1 h63 hbytes hbase
  unfold Oper.wp execOp
  simp only [ho, resolve, invoke, builtin, Sem.run_bind, Sem.run_pure, Result.andThen_ok, List.map_toArray, List.map_cons, List.map_nil, hs, hx, hr]
  exact h v' w' h2 h3 h5
end
noncomputable def idxC (n : Nat) : Code := fromReg n ((Try.f44.body).getD .skip)
set_option maxRecDepth 100000 in
set_option maxHeartbeats 8000000 in
theorem newIndex_first (terms : List ByteArray) (ad : Option Addr) (n c : Nat) (w : World) (RR : Ending → World → Prop) (hs : Sl w ad n (strs terms)) (hn : n ≤ 1000) (hz : ∀ s ∈ terms, s.size ≤ 1000000)
    (hnext : ∀ (wr : World) (wv : Value) (svs : List Value) (hd : ByteArray → Value) (u4 u5 u6 u7 u8 u9 u10 u11 u12 u13 u14 u15 u16 u17 u18 u19 u20 u21 u22 u23 u24 u25 u26 u27 u28 u29 u30 u31 u32 u33 u34 u35 u36 u37 u38 u39 u40 u41 u42 u43 u44 u45 u46 u47 u48 u49 u50 u51 u52 u53 u54 : Value), IX wr w.heap.size (w.heap.size + 1 + 1) (w.heap.size + 1) n n wv svs hd (terms.map wordsB) → wr.heap[w.heap.size]? = some (.cells #[.slice none 0 0, .map none] 80 (0, 0)) → Below w.heap.size w wr →
      (idxC 10).wp Try.prog (bodyPost Try.prog Try.f44 RR) ⟨#[.slice ad n c, undef, .pointer (some ⟨w.heap.size, 0, none⟩), .pointer (some ⟨w.heap.size + 1 + 1, 0, none⟩), u4, u5, u6, u7, u8, u9, u10, u11, u12, u13, u14, u15, u16, u17, u18, u19, u20, u21, u22, u23, u24, u25, u26, u27, u28, u29, u30, u31, u32, u33, u34, u35, u36, u37, u38, u39, u40, u41, u42, u43, u44, u45, u46, u47, u48, u49, u50, u51, u52, u53, u54], []⟩ wr) :
    Calls Try.prog 44 #[.slice ad n c] w RR := by
  have hl := hs.len
  rw [strs_length] at hl
  have HS := Lib.hid hs
  have HN := Lib.hid hnext
  have HZ := Lib.hid hz
  have HL := Lib.hid hl
  have HWD := Lib.hid words_any
  have HLL : Hid ((terms.map wordsB).length = n) := by rw [Hid, List.length_map]; exact hl
  have hmm := @run_makeMap Try.prog
  clear hs hnext hz hl
  go_enter Try.func44, Try.ntmps44
  go_wp2_with fail
  rename_i K9 hK9
  have HK9 := Lib.hid hK9
  clear hK9
  refine wp_at_worldG ?_
  intro W0 hW0
  have hst : IX W0 w.heap.size (w.heap.size + 1 + 1) (w.heap.size + 1) 0 0 (.slice none 0 0) [] (fun _ => .slice none 0 0) (terms.map wordsB) := by
    have e1 := GM.made (w.alloc (.cells #[.slice none 0 0, .map none] 80))
    rw [World.size_alloc] at e1
    have e2 := heap_alloc_new ((w.alloc (.cells #[.slice none 0 0, .map none] 80)).alloc (.map #[] 0)) (.cells #[.slice none 0 0, .map (some (w.heap.size + 1))] 80)
    rw [World.size_alloc, World.size_alloc] at e2
    rw [hW0]
    exact IX.start e2 (e1.same (Below.heap_alloc _ _ _ (by simp))) (by omega) (by omega) (by simp; omega) _
  have hrs : W0.heap[w.heap.size]? = some (.cells #[.slice none 0 0, .map none] 80 (0, 0)) := by
    rw [hW0]
    exact (Below.heap_alloc _ _ _ (by simp; omega)).trans ((Below.heap_alloc _ _ _ (by simp)).trans (heap_alloc_new w _))
  have hbl : Below w.heap.size w W0 := by rw [hW0]; show Bel w _; exact (((Bel.refl _).alloc _).alloc _).alloc _
  have HST := Lib.hid hst
  have HRS := Lib.hid hrs
  have HBL := Lib.hid hbl
  clear hW0 hst hrs hbl
  go_loopw [13] (fun u wr => ∃ (i : Nat) (wv : Value) (svs : List Value) (hd : ByteArray → Value), u = .int .i64 (i : Int) ∧ i ≤ n ∧ IX wr w.heap.size (w.heap.size + 1 + 1) (w.heap.size + 1) i i wv svs hd (terms.map wordsB) ∧ wr.heap[w.heap.size]? = some (.cells #[.slice none 0 0, .map none] 80 (0, 0)) ∧ Below w.heap.size w wr) (fun u _ => n - (intOf u).toNat)
  case atStart => exact ⟨0, _, _, _, rfl, Nat.zero_le _, HST.out, HRS.out, HBL.out⟩
  case round =>
    obtain ⟨i, wv, svs, hd, rfl, hin, hix, hres, hbl⟩ := hrel
    have HIX := Lib.hid hix
    have HRES := Lib.hid hres
    have HB := Lib.hid hbl
    clear hix hres hbl HST HRS HBL
    by_cases hlt : i < n
    · obtain ⟨b0, o0, hsa⟩ := HS.out.below HB.out
      have hix0 := fun W => hsa.ix (c := c) 39 9 Try.underlying39 cellsStr hlt W
      have hc0 := hsa.cell i hlt
      rw [strs_getD _ _ (by rw [HL.out]; exact hlt)] at hc0
      have hsz := HZ.out (terms.getD i .empty) (getD_mem _ _ _ (by rw [HL.out]; exact hlt))
      have HLI : Hid ((terms.map wordsB).getD i [] = wordsB (terms.getD i .empty)) := by
        rw [Hid, List.getD_eq_getElem?_getD, List.getElem?_map, List.getD_eq_getElem?_getD, List.getElem?_eq_getElem (by rw [HL.out]; exact hlt)]
        rfl
      have hlz : (i : Int) < (n : Int) := by omega
      have HSZ1 := Lib.hid hsz
      clear hsa hsz
      generalize terms.getD i .empty = st at *
      go_wp2_with fail
      refine (HWD.out st _ HSZ1.out).mono ?_
      rintro e W1 ⟨aw, cw, rfl, hown1, hb1⟩
      have HIX1 := Lib.hid (HIX.out.below hb1)
      have HRES1 : Hid (W1.heap[w.heap.size]? = some (.cells #[.slice none 0 0, .map none] 80 (0, 0))) := (hb1.block _ (Array.getElem?_eq_some_iff.1 HRES.out).1).trans HRES.out
      have HB1 := Lib.hid (HB.out.trans (hb1.mono HB.out.size))
      have HOW1 : Hid (StrR W1 w.heap.size (.slice aw (wordsB st).length cw) (wordsB st)) := Own.rebase hown1 HB.out.size
      clear hown1 hb1 hix0 hc0 HIX HRES HB
      obtain ⟨av, cv, rfl⟩ := HIX1.out.words.form
      have hsl : svs.length = i := by
        have := HIX1.out.words.len
        rw [List.length_take, HLL.out, Nat.min_eq_left hin] at this
        exact this
      have HSL := Lib.hid hsl
      have hbx : W1.cell? ⟨w.heap.size + 1 + 1, 0, none⟩ = some (.slice av svs.length cv) := by rw [Lib.cell_of_heap HIX1.out.box]; rfl
      have HBS := HIX1.out.bs
      obtain ⟨lw, hlw⟩ : ∃ lw, (wordsB st).length = lw := ⟨_, rfl⟩
      rw [hlw] at HOW1 ⊢
      have HLW := Lib.hid hlw
      clear hlw hsl
      go_upto_region 7 with (at_builtin; refine appStrs rfl _ _ rfl w.heap.size _ _ _ _ rfl HIX1.out.words.row _ _ rfl rfl (by have := HSL.out; unfold maxLen; omega) (by have := HSL.out; omega) HBS ?_; intro ad6 c6 w3 hown3 hb3 hg3 hz3; have HOWN3 := Lib.hid hown3; have HG3 := Lib.hid hg3; have hbx3 : w3.cell? ⟨w.heap.size + 1 + 1, 0, none⟩ = some (.slice av svs.length cv) := (by rw [Lib.cell_of_heap (row_stays HIX1.out.box HIX1.out.words.row (by decide) hg3)]; rfl); have hfx3 : w3.frozen? ⟨w.heap.size + 1 + 1, 0, none⟩ = false := (by have := row_stays HIX1.out.box HIX1.out.words.row (by decide) hg3; simp [World.frozen?, this]); clear hown3 hb3 hg3 hz3)
      refine wp_at_worldG ?_
      intro W4 hW4
      have HOW4 : Hid (StrR W4 w.heap.size (.slice aw lw cw) (wordsB st)) := by
        rw [Hid, hW4]
        exact own_kept_at (own_other HOW1.out HIX1.out.words.row (by decide) HG3.out) (row_stays HIX1.out.box HIX1.out.words.row (by decide) HG3.out) (by decide) (grown_setCell _ _ _ _)
      have HIX4 : Hid (IX W4 w.heap.size (w.heap.size + 1 + 1) (w.heap.size + 1) (i + 1) i (.slice ad6 (svs.length + 1) c6) (svs ++ [.slice aw lw cw]) hd (terms.map wordsB)) := by
        rw [Hid, hW4]
        exact HIX1.out.push (by rw [HLL.out]; exact hlt) (by rw [HLI.out]; exact HOW1.out) HG3.out HOWN3.out
      have HRES4 : Hid (W4.heap[w.heap.size]? = some (.cells #[.slice none 0 0, .map none] 80 (0, 0))) := by
        have h3 := row_stays HRES1.out HIX1.out.words.row (by decide) HG3.out
        rw [Hid, hW4]
        exact ((grown_setCell w3 (w.heap.size + 1 + 1) 0 _).block _ (Array.getElem?_eq_some_iff.1 h3).1 (by intro e; injection e with e; omega)).trans h3
      have HB4 : Hid (Below w.heap.size w W4) := by
        rw [Hid, hW4]
        have h3 := HB1.out.grown HG3.out HB1.out.size (fun j hj => (HIX1.out.words.row.lt j hj).1)
        exact h3.grown (grown_setCell w3 (w.heap.size + 1 + 1) 0 _) h3.size (fun j hj => by injection hj with hj; omega)
      have HSL2 : Hid ((svs ++ [Value.slice aw lw cw]).length = i + 1) := by rw [Hid, List.length_append, HSL.out]; rfl
      clear hW4 HOWN3 HG3 hbx3 hfx3 hbx HIX1 HRES1 HB1 HOW1 HBS
      generalize (svs ++ [Value.slice aw lw cw]) = svs2 at *
      rcases Decidable.em (wordsB st = []) with hw0 | hw0
      · have hl0 : lw = 0 := by rw [← HLW.out, hw0]; rfl
        subst hl0
        have HIX5 := Lib.hid (HIX4.out.skip (HLI.out.trans hw0))
        clear hw0
        go_wp2_with fail
        go_roundw
        case rel => exact ⟨i + 1, _, svs2, hd, by go_num, by omega, HIX5.out, HRES4.out, HB4.out⟩
        case measure => simp [intOf]; omega
      · have hlp : 0 < lw := by rw [← HLW.out]; exact List.length_pos_iff.2 hw0
        have hlz2 : (0 : Int) < (lw : Int) := by omega
        obtain ⟨s0, hs0⟩ : ∃ s0, (wordsB st).getD 0 .empty = s0 := ⟨_, rfl⟩
        have HHD : Hid (((terms.map wordsB).getD i []).head? = some s0) := by
          rw [Hid, HLI.out, ← hs0]
          cases hq : wordsB st with
          | nil => exact absurd hq hw0
          | cons x r => rfl
        have HSZ0 : Hid (s0.size ≤ maxLen) := by
          rw [Hid, ← hs0]
          have h1 := wordsB_size st _ (getD_mem (wordsB st) 0 .empty (by rw [HLW.out]; exact hlp))
          have h2 := HSZ1.out
          unfold maxLen
          omega
        obtain ⟨sb, so, hsa⟩ := Own.sl (HLW.out ▸ HOW4.out : W4.ownsRow w.heap.size 9 1 (.slice aw lw cw) lw (strs (wordsB st)))
        have haw := hsa.adr (by omega)
        have hc4 := hsa.cell 0 hlp
        rw [strs_getD _ _ (by rw [HLW.out]; exact hlp), hs0, Nat.add_zero] at hc4
        have hi4 : ∀ W, (Instr.indexAt 39 (.slice aw lw cw) (.int .i64 0)).run Try.prog W = .ok (.pointer (some ⟨sb, so, none⟩)) W := fun W => by
          have := hsa.ix (c := cw) 39 9 Try.underlying39 cellsStr hlp W
          rwa [Nat.add_zero] at this
        have HROW : Hid (W4.ownsRow w.heap.size 3 1 (hd s0) (grp (terms.map wordsB) i s0).length ((grp (terms.map wordsB) i s0).map fun (k : Nat) => Value.int .i64 (k : Int))) := HIX4.out.rows s0
        have HKS : Hid (∀ w6, W4.grownBy w6 (hd s0).ownBlock → w6.cell? ⟨sb, so, none⟩ = some (.string s0)) := fun w6 hg => by
          refine hg.cell hc4 ?_
          have h2 := own_apart HOW4.out HROW.out (by decide)
          rw [haw] at h2
          rcases h2 with h | h
          · cases h
          · exact h
        have HLOOK : Hid (∀ W, Bel W4 W → (Instr.lookup 78 (.map (some (w.heap.size + 1))) (.string s0) false).run Try.prog W = .ok (hd s0) W) := fun W hb => (HIX4.out.below hb).gm.look s0 HSZ0.out
        have HPUT : Hid (∀ w6 v', W4.grownBy w6 (hd s0).ownBlock → w6.ownsRow w.heap.size 3 1 v' ((grp (terms.map wordsB) i s0).length + 1) ((grp (terms.map wordsB) i s0).map (fun (k : Nat) => Value.int .i64 (k : Int)) ++ [.int .i64 (i : Int)]) → (v'.ownBlock = (hd s0).ownBlock ∨ ∃ q, v'.ownBlock = some q ∧ W4.heap.size ≤ q) →
            ∃ w7, (Instr.mapUpdate 78 (.map (some (w.heap.size + 1))) (.string s0) v').run Try.prog w6 = .ok () w7 ∧ IX w7 w.heap.size (w.heap.size + 1 + 1) (w.heap.size + 1) (i + 1) (i + 1) (.slice ad6 (svs.length + 1) c6) svs2 (updH hd s0 v') (terms.map wordsB) ∧ w6.grownBy w7 (some (w.heap.size + 1))) := fun w6 v' hg ho hl => HIX4.out.put HHD.out HSZ0.out (by unfold maxLen; omega) hg ho hl
        have HHV : Hid (hd s0 = hd s0) := rfl
        have hgl := grp_len (terms.map wordsB) i s0
        have u1 : W4.drew.cell? ⟨w.heap.size + 1 + 1, 1, none⟩ = some (.map (some (w.heap.size + 1))) := by
          have := HIX4.out.box
          rw [Lib.cell_of_heap (show W4.drew.heap[_]? = _ from this)]; rfl
        have u2 : W4.drew.cell? ⟨sb, so, none⟩ = some (.string s0) := hc4
        have u3 := HLOOK.out W4.drew (Bel.drew (Bel.refl _))
        subst haw
        clear hs0 hw0 hsa hlp
        generalize (grp (terms.map wordsB) i s0).map (fun (k : Nat) => Value.int .i64 (k : Int)) = gxs at *
        generalize (grp (terms.map wordsB) i s0).length = gl at *
        obtain ⟨hv, hhv⟩ : ∃ hv, hd s0 = hv := ⟨_, rfl⟩
        rw [hhv] at HROW HKS HLOOK HPUT u3
        replace HHV : Hid (hd s0 = hv) := hhv
        clear hhv
        go_upto_region 8 with (fail)
        refine wp_region_until 14 (fun w' => w'.cell? ⟨w.heap.size + 1 + 1, 1, none⟩ = some (.map (some (w.heap.size + 1))) ∧ w'.cell? ⟨sb, so, none⟩ = some (.string s0) ∧ (Instr.lookup 78 (.map (some (w.heap.size + 1))) (.string s0) false).run Try.prog w' = .ok hv w') (by kernel_rfl) ⟨u1, u2, u3⟩ (fun hS0 => ?_)
        refine wpAnyG_take (i := 0) (v := ?_) rfl (by kernel_rfl) (by kernel_rfl) (by kernel_rfl) (fun _ _ _ h => h) (by kernel_rfl) (by decide) (by kernel_rfl) (Or.inl ⟨by kernel_rfl, ?_⟩) hS0 ?_
        rotate_left
        · (intro wx hSw; obtain ⟨t1, t2, t3⟩ := hSw; go_simp; try with_reducible rfl)
        simp only [Act.put, List.getElem_toArray, List.getElem_cons_zero, List.setIfInBounds_toArray, List.set_cons_zero, List.set_cons_succ]
        refine wpAnyG_take (i := 1) (v := ?_) rfl (by kernel_rfl) (by kernel_rfl) (by kernel_rfl) (fun _ _ _ h => h) (by kernel_rfl) (by decide) (by kernel_rfl) (Or.inl ⟨by kernel_rfl, ?_⟩) hS0 ?_
        rotate_left
        · (intro wx hSw; obtain ⟨t1, t2, t3⟩ := hSw; go_simp; try with_reducible rfl)
        simp only [Act.put, List.getElem_toArray, List.getElem_cons_succ, List.getElem_cons_zero, List.setIfInBounds_toArray, List.set_cons_zero, List.set_cons_succ]
        refine wpAnyG_take (i := 2) (v := ?_) rfl (by kernel_rfl) (by kernel_rfl) (by kernel_rfl) (fun _ _ _ h => h) (by kernel_rfl) (by decide) (by kernel_rfl) (Or.inl ⟨by kernel_rfl, ?_⟩) hS0 ?_
        rotate_left
        · (intro wx hSw; obtain ⟨t1, t2, t3⟩ := hSw; go_simp; try with_reducible rfl)
        simp only [Act.put, List.getElem_toArray, List.getElem_cons_succ, List.getElem_cons_zero, List.setIfInBounds_toArray, List.set_cons_zero, List.set_cons_succ]
        refine wpAnyG_take (i := 3) (v := ?_) rfl (by kernel_rfl) (by kernel_rfl) (by kernel_rfl) (fun _ _ _ h => h) (by kernel_rfl) (by decide) (by kernel_rfl) (Or.inl ⟨by kernel_rfl, ?_⟩) hS0 ?_
        rotate_left
        · (intro wx hSw; obtain ⟨t1, t2, t3⟩ := hSw; go_simp; try with_reducible rfl)
        simp only [Act.put, List.getElem_toArray, List.getElem_cons_succ, List.getElem_cons_zero, List.setIfInBounds_toArray, List.set_cons_zero, List.set_cons_succ]
        refine wpAnyG_take (i := 4) (v := ?_) rfl (by kernel_rfl) (by kernel_rfl) (by kernel_rfl) (fun _ _ _ h => h) (by kernel_rfl) (by decide) (by kernel_rfl) (Or.inl ⟨by kernel_rfl, ?_⟩) hS0 ?_
        rotate_left
        · (intro wx hSw; obtain ⟨t1, t2, t3⟩ := hSw; go_simp; try with_reducible rfl)
        simp only [Act.put, List.getElem_toArray, List.getElem_cons_succ, List.getElem_cons_zero, List.setIfInBounds_toArray, List.set_cons_zero, List.set_cons_succ]
        refine wpAnyG_take (i := 5) (v := ?_) rfl (by kernel_rfl) (by kernel_rfl) (by kernel_rfl) (fun _ _ _ h => h) (by kernel_rfl) (by decide) (by kernel_rfl) (Or.inl ⟨by kernel_rfl, ?_⟩) hS0 ?_
        rotate_left
        · (intro wx hSw; obtain ⟨t1, t2, t3⟩ := hSw; go_simp; try with_reducible rfl)
        simp only [Act.put, List.getElem_toArray, List.getElem_cons_succ, List.getElem_cons_zero, List.setIfInBounds_toArray, List.set_cons_zero, List.set_cons_succ]
        refine wpAnyG_take (i := 6) (v := ?_) rfl (by kernel_rfl) (by kernel_rfl) (by kernel_rfl) (fun _ _ _ h => h) (by kernel_rfl) (by decide) (by kernel_rfl) (Or.inl ⟨by kernel_rfl, ?_⟩) hS0 ?_
        rotate_left
        · (intro wx hSw; obtain ⟨t1, t2, t3⟩ := hSw; go_simp; try with_reducible rfl)
        simp only [Act.put, List.getElem_toArray, List.getElem_cons_succ, List.getElem_cons_zero, List.setIfInBounds_toArray, List.set_cons_zero, List.set_cons_succ]
        refine wpAnyG_take (i := 7) (v := ?_) rfl (by kernel_rfl) (by kernel_rfl) (by kernel_rfl) (fun _ _ _ h => h) (by kernel_rfl) (by decide) (by kernel_rfl) (Or.inl ⟨by kernel_rfl, ?_⟩) hS0 ?_
        rotate_left
        · (intro wx hSw; obtain ⟨t1, t2, t3⟩ := hSw; go_simp; try with_reducible rfl)
        simp only [Act.put, List.getElem_toArray, List.getElem_cons_succ, List.getElem_cons_zero, List.setIfInBounds_toArray, List.set_cons_zero, List.set_cons_succ]
        refine wpAnyG_take (i := 8) (v := ?_) rfl (by kernel_rfl) (by kernel_rfl) (by kernel_rfl) (fun _ _ _ h => h) (by kernel_rfl) (by decide) (by kernel_rfl) (Or.inl ⟨by kernel_rfl, ?_⟩) hS0 ?_
        rotate_left
        · (intro wx hSw; obtain ⟨t1, t2, t3⟩ := hSw; go_simp; try with_reducible rfl)
        simp only [Act.put, List.getElem_toArray, List.getElem_cons_succ, List.getElem_cons_zero, List.setIfInBounds_toArray, List.set_cons_zero, List.set_cons_succ]
        refine wpAnyG_take (i := 9) (v := ?_) rfl (by kernel_rfl) (by kernel_rfl) (by kernel_rfl) (fun _ _ _ h => h) (by kernel_rfl) (by decide) (by kernel_rfl) (Or.inl ⟨by kernel_rfl, ?_⟩) hS0 ?_
        rotate_left
        · (intro wx hSw; obtain ⟨t1, t2, t3⟩ := hSw; go_simp; try with_reducible rfl)
        simp only [Act.put, List.getElem_toArray, List.getElem_cons_succ, List.getElem_cons_zero, List.setIfInBounds_toArray, List.set_cons_zero, List.set_cons_succ]
        refine wpAnyG_take (i := 10) (v := ?_) rfl (by kernel_rfl) (by kernel_rfl) (by kernel_rfl) (fun _ _ _ h => h) (by kernel_rfl) (by decide) (by kernel_rfl) (Or.inl ⟨by kernel_rfl, ?_⟩) hS0 ?_
        rotate_left
        · (intro wx hSw; obtain ⟨t1, t2, t3⟩ := hSw; go_simp; try with_reducible rfl)
        simp only [Act.put, List.getElem_toArray, List.getElem_cons_succ, List.getElem_cons_zero, List.setIfInBounds_toArray, List.set_cons_zero, List.set_cons_succ]
        refine wpAnyG_take (i := 11) (v := ?_) rfl (by kernel_rfl) (by kernel_rfl) (by kernel_rfl) (fun _ _ _ h => h) (by kernel_rfl) (by decide) (by kernel_rfl) (Or.inl ⟨by kernel_rfl, ?_⟩) hS0 ?_
        rotate_left
        · (intro wx hSw; obtain ⟨t1, t2, t3⟩ := hSw; go_simp; try with_reducible rfl)
        simp only [Act.put, List.getElem_toArray, List.getElem_cons_succ, List.getElem_cons_zero, List.setIfInBounds_toArray, List.set_cons_zero, List.set_cons_succ]
        refine wpAnyG_ready (rs := [12]) (by kernel_rfl) (by simp) ?_
        refine AllReadyG.cons rfl (fun K hK => ?_) AllReadyG.nil
        go_simp
        refine hK.out _ _ (fun _ => ⟨Lib.cell?_alloc_some _ u1, Lib.cell?_alloc_some _ u2, HLOOK.out _ (Bel.alloc (Bel.drew (Bel.refl _)) _)⟩) (fun _ => ?_)
        clear hK K
        refine wpAnyG_ready (rs := [13]) (by kernel_rfl) (by simp) ?_
        refine AllReadyG.cons rfl (fun K hK => ?_) AllReadyG.nil
        refine step_app_at rfl (.tmp 39) (.tmp 41) rfl Try.underlying93 infoInts rfl w.heap.size hv _ _ rfl (own_below HROW.out (Bel.alloc (Bel.drew (Bel.refl _)) _)) ⟨W4.heap.size, 0, none⟩ 1 1 [.int .i64 (i : Int)] rfl rfl (cell_one_new _ _ _) (by intro u hu; rw [List.mem_singleton.1 hu]; rfl) (by unfold maxLen; omega) (by omega) (Nat.le_trans HIX4.out.bs (by simp)) ?_
        intro v' w6 hown6 hg6 hloc6
        have HO6 := Lib.hid hown6
        have HG6 : Hid (W4.grownBy w6 hv.ownBlock) := ⟨hg6.os, hg6.tape, hg6.output, by have := hg6.size; simp at this; omega, fun k hk hne => (hg6.block k (by simp; omega) hne).trans (Below.heap_alloc W4.drew _ _ hk)⟩
        have HLC6 : Hid (v'.ownBlock = hv.ownBlock ∨ ∃ q, v'.ownBlock = some q ∧ W4.heap.size ≤ q) := by
          rcases hloc6 with h | h
          · exact .inl h
          · exact .inr ⟨_, h, by simp⟩
        clear hown6 hg6 hloc6
        have hk1 : w6.cell? ⟨w.heap.size + 1 + 1, 1, none⟩ = some (.map (some (w.heap.size + 1))) := by
          rw [Lib.cell_of_heap (row_stays HIX4.out.box HROW.out (by decide) HG6.out)]; rfl
        have hk2 : w6.cell? ⟨sb, so, none⟩ = some (.string s0) := HKS.out w6 HG6.out
        have hk3 : (Instr.lookup 78 (.map (some (w.heap.size + 1))) (.string s0) false).run Try.prog w6 = .ok hv w6 := by
          rw [← HHV.out]
          exact (HIX4.out.gm.kept HG6.out (HIX4.out.gm.apart HROW.out)).look s0 HSZ0.out
        refine hK.out _ _ (fun _ => ⟨hk1, hk2, hk3⟩) (fun _ => ?_)
        clear hK K hk2 hk3
        simp only [Act.put, List.getElem_toArray, List.getElem_cons_succ, List.getElem_cons_zero, List.setIfInBounds_toArray, List.set_cons_zero, List.set_cons_succ]
        refine wpAnyG_ready (rs := [14]) (by kernel_rfl) (by simp) ?_
        refine AllReadyG.cons rfl (fun K hK => ?_) AllReadyG.nil
        obtain ⟨w7, hrun7, hix7, hg7⟩ := HPUT.out w6 v' HG6.out HO6.out HLC6.out
        have HIX7 := Lib.hid hix7
        have HR7 : Hid (w7.heap[w.heap.size]? = some (.cells #[.slice none 0 0, .map none] 80 (0, 0))) := (hg7.block _ (by have := (Array.getElem?_eq_some_iff.1 (row_stays HRES4.out HROW.out (by decide) HG6.out)).1; exact this) (by intro e; injection e with e; omega)).trans (row_stays HRES4.out HROW.out (by decide) HG6.out)
        have HB7 : Hid (Below w.heap.size w w7) := Below.grown (HB4.out.grown HG6.out HB4.out.size (fun j hj => (HROW.out.lt j hj).1)) hg7 (HB4.out.grown HG6.out HB4.out.size (fun j hj => (HROW.out.lt j hj).1)).size (fun j hj => by injection hj with hj; omega)
        clear hix7 hg7
        go_simp
        refine hK.out _ _ (fun h => by cases h) (fun _ => ?_)
        clear hK K hrun7
        refine wpAnyG_done (by kernel_rfl) ?_ _
        go_wp2_with fail
        go_roundw
        case rel => exact ⟨i + 1, _, svs2, _, by go_num, by omega, HIX7.out, HR7.out, HB7.out⟩
        case measure => simp [intOf]; omega
    · obtain rfl : i = n := by omega
      go_wp2_with fail
      refine HK9.out _ _ ?_
      exact HN.out wr wv svs hd _ _ _ _ _ _ _ _ _ _ _ _ _ _ _ _ _ _ _ _ _ _ _ _ _ _ _ _ _ _ _ _ _ _ _ _ _ _ _ _ _ _ _ _ _ _ _ _ _ _ _ HIX.out HRES.out HB.out
end Go.Proofs.Ytkodnagneblgaaa
