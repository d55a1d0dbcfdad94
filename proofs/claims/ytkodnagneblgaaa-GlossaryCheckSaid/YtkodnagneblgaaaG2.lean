/- Walks: the sources and the targets of terms, by the reference. -/
import Derived.Test.YtkodnagneblgaaaG1
namespace Go.Proofs.Ytkodnagneblgaaa
open Go.RowKit Go.Maps Go.Sort
attribute [local go_sem] Ext.cell Ext.frozen
attribute [local go_sem ↓] Go.wp_at_zero Go.wp_at_succ
set_option maxRecDepth 100000 in
set_option maxHeartbeats 8000000 in
theorem rstrings_any (ts : List Tm) (ad : Option Addr) (n c : Nat) (w : World) (ht : TmAt w ad n ts) (hn : n ≤ 1000) :
    Calls Try.prog 27 #[.slice ad n c] w fun e w' => ∃ v1 v2, e = .returned (.tuple #[v1, v2]) ∧ Two w' w.heap.size v1 (ts.map (·.s)) v2 (ts.map (·.t)) ∧ Below w.heap.size w w' := by
  have HT := Lib.hid ht
  have HL := Lib.hid ht.1
  clear ht
  go_enter Try.func27, Try.ntmps27
  go_wp2_with fail
  have HT0 := Lib.hid (Two.start w w.heap.size)
  go_loopw [4, 5, 6] (fun r1 r2 u wr => ∃ (i : Nat) (v1 v2 : Value), u = .int .i64 (i : Int) ∧ v1 = r1 ∧ v2 = r2 ∧ i ≤ n ∧ Two wr w.heap.size v1 ((ts.take i).map (·.s)) v2 ((ts.take i).map (·.t)) ∧ Below w.heap.size w wr) (fun _ _ u _ => n - (intOf u).toNat)
  case atStart => exact ⟨0, _, _, rfl, rfl, rfl, Nat.zero_le _, HT0.out, Below.refl _ _⟩
  case round =>
    obtain ⟨i, v1, v2, rfl, hr1, hr2, hin, htw, hbl⟩ := hrel
    subst hr1
    subst hr2
    have HTW := Lib.hid htw
    have HBW := Lib.hid hbl
    have hzr := hbl.size
    clear htw hbl HT0
    by_cases hlt : i < n
    · obtain ⟨_, tb, tq, hrw⟩ := HT.out
      have hix := fun W => hrw.ix 22 48 Try.underlying22 cellsRTm (by omega) hlt c W
      have h0 := hrw.cell i 0 hlt (by omega)
      have h1 := hrw.cell i 1 hlt (by omega)
      rw [Nat.add_zero] at h0
      simp only [tmC] at h0 h1
      have hbt := World.block_lt_of_cell? w _ h0
      simp only at hbt
      have hne1 : v1.ownBlock ≠ some tb := fun e => by
        have := (World.ownsRow.lt HTW.out.r1 _ e).1
        omega
      have hne2 : v2.ownBlock ≠ some tb := fun e => by
        have := (World.ownsRow.lt HTW.out.r2 _ e).1
        omega
      have HTK1 := Lib.hid (map_take_succ (·.s) ts i (by rw [HL.out]; exact hlt))
      have HTK2 := Lib.hid (map_take_succ (·.t) ts i (by rw [HL.out]; exact hlt))
      have HLX : Hid (((ts.take i).map (·.s)).length ≤ 100000) := by rw [Hid, List.length_map, List.length_take]; omega
      have HLY : Hid (((ts.take i).map (·.t)).length ≤ 100000) := by rw [Hid, List.length_map, List.length_take]; omega
      have hlz : (i : Int) < (n : Int) := by omega
      clear hrw hbt
      generalize (ts.take i).map (·.s) = xs at *
      generalize (ts.take i).map (·.t) = ys at *
      generalize ts.getD i tm0 = x at *
      obtain ⟨s, t, f⟩ := x
      simp only at h0 h1 HTK1 HTK2
      have HBS : w.heap.size ≤ w.heap.size := Nat.le_refl _
      have u1 : wr.drew.cell? ⟨tb, tq + i * 3, none⟩ = some (.string s) := cell_later HBW.out h0
      have u2 : wr.drew.cell? ⟨tb, tq + i * 3 + 1, none⟩ = some (.string t) := cell_later HBW.out h1
      clear h0 h1
      go_upto_region 5 with (fail)
      refine wp_region_until 17 (fun w' => w'.cell? ⟨tb, tq + i * 3, none⟩ = some (.string s) ∧ w'.cell? ⟨tb, tq + i * 3 + 1, none⟩ = some (.string t)) (by kernel_rfl) ⟨u1, u2⟩ (fun hS0 => ?_)
      have p0T := HTW.out.below (Bel.drew (Bel.refl wr))
      have p0B : Below w.heap.size w wr.drew := Below.drew HBW.out
      have p0c1 := u1
      have p0c2 := u2
      have p0v1 : True := trivial
      refine wpAnyG_take (i := 0) (v := ?_) rfl (by kernel_rfl) (by kernel_rfl) (by kernel_rfl) (fun _ _ _ h => h) (by kernel_rfl) (by decide) (by kernel_rfl) (Or.inl ⟨by kernel_rfl, ?_⟩) hS0 ?_
      rotate_left
      · (intro wx hSw; obtain ⟨t1, t2⟩ := hSw; go_simp; try with_reducible rfl)
      try simp only [Act.put, List.getElem_toArray, List.getElem_cons_zero, List.setIfInBounds_toArray, List.set_cons_zero, List.set_cons_succ]
      refine wpAnyG_take (i := 1) (v := ?_) rfl (by kernel_rfl) (by kernel_rfl) (by kernel_rfl) (fun _ _ _ h => h) (by kernel_rfl) (by decide) (by kernel_rfl) (Or.inl ⟨by kernel_rfl, ?_⟩) hS0 ?_
      rotate_left
      · (intro wx hSw; obtain ⟨t1, t2⟩ := hSw; go_simp; try with_reducible rfl)
      try simp only [Act.put, List.getElem_toArray, List.getElem_cons_succ, List.getElem_cons_zero, List.setIfInBounds_toArray, List.set_cons_zero, List.set_cons_succ]
      refine wpAnyG_take (i := 2) (v := ?_) rfl (by kernel_rfl) (by kernel_rfl) (by kernel_rfl) (fun _ _ _ h => h) (by kernel_rfl) (by decide) (by kernel_rfl) (Or.inl ⟨by kernel_rfl, ?_⟩) hS0 ?_
      rotate_left
      · (intro wx hSw; obtain ⟨t1, t2⟩ := hSw; go_simp; try with_reducible rfl)
      try simp only [Act.put, List.getElem_toArray, List.getElem_cons_succ, List.getElem_cons_zero, List.setIfInBounds_toArray, List.set_cons_zero, List.set_cons_succ]
      refine wpAnyG_take (i := 3) (v := ?_) rfl (by kernel_rfl) (by kernel_rfl) (by kernel_rfl) (fun _ _ _ h => h) (by kernel_rfl) (by decide) (by kernel_rfl) (Or.inl ⟨by kernel_rfl, ?_⟩) hS0 ?_
      rotate_left
      · (intro wx hSw; obtain ⟨t1, t2⟩ := hSw; go_simp; try with_reducible rfl)
      try simp only [Act.put, List.getElem_toArray, List.getElem_cons_succ, List.getElem_cons_zero, List.setIfInBounds_toArray, List.set_cons_zero, List.set_cons_succ]
      refine wpAnyG_take (i := 4) (v := ?_) rfl (by kernel_rfl) (by kernel_rfl) (by kernel_rfl) (fun _ _ _ h => h) (by kernel_rfl) (by decide) (by kernel_rfl) (Or.inl ⟨by kernel_rfl, ?_⟩) hS0 ?_
      rotate_left
      · (intro wx hSw; obtain ⟨t1, t2⟩ := hSw; go_simp; try with_reducible rfl)
      try simp only [Act.put, List.getElem_toArray, List.getElem_cons_succ, List.getElem_cons_zero, List.setIfInBounds_toArray, List.set_cons_zero, List.set_cons_succ]
      refine wpAnyG_take (i := 5) (v := ?_) rfl (by kernel_rfl) (by kernel_rfl) (by kernel_rfl) (fun _ _ _ h => h) (by kernel_rfl) (by decide) (by kernel_rfl) (Or.inl ⟨by kernel_rfl, ?_⟩) hS0 ?_
      rotate_left
      · (intro wx hSw; obtain ⟨t1, t2⟩ := hSw; go_simp; try with_reducible rfl)
      try simp only [Act.put, List.getElem_toArray, List.getElem_cons_succ, List.getElem_cons_zero, List.setIfInBounds_toArray, List.set_cons_zero, List.set_cons_succ]
      refine wpAnyG_take (i := 8) (v := ?_) rfl (by kernel_rfl) (by kernel_rfl) (by kernel_rfl) (fun _ _ _ h => h) (by kernel_rfl) (by decide) (by kernel_rfl) (Or.inl ⟨by kernel_rfl, ?_⟩) hS0 ?_
      rotate_left
      · (intro wx hSw; obtain ⟨t1, t2⟩ := hSw; go_simp; try with_reducible rfl)
      try simp only [Act.put, List.getElem_toArray, List.getElem_cons_succ, List.getElem_cons_zero, List.setIfInBounds_toArray, List.set_cons_zero, List.set_cons_succ]
      refine wpAnyG_take (i := 9) (v := ?_) rfl (by kernel_rfl) (by kernel_rfl) (by kernel_rfl) (fun _ _ _ h => h) (by kernel_rfl) (by decide) (by kernel_rfl) (Or.inl ⟨by kernel_rfl, ?_⟩) hS0 ?_
      rotate_left
      · (intro wx hSw; obtain ⟨t1, t2⟩ := hSw; go_simp; try with_reducible rfl)
      try simp only [Act.put, List.getElem_toArray, List.getElem_cons_succ, List.getElem_cons_zero, List.setIfInBounds_toArray, List.set_cons_zero, List.set_cons_succ]
      refine wpAnyG_take (i := 10) (v := ?_) rfl (by kernel_rfl) (by kernel_rfl) (by kernel_rfl) (fun _ _ _ h => h) (by kernel_rfl) (by decide) (by kernel_rfl) (Or.inl ⟨by kernel_rfl, ?_⟩) hS0 ?_
      rotate_left
      · (intro wx hSw; obtain ⟨t1, t2⟩ := hSw; go_simp; try with_reducible rfl)
      try simp only [Act.put, List.getElem_toArray, List.getElem_cons_succ, List.getElem_cons_zero, List.setIfInBounds_toArray, List.set_cons_zero, List.set_cons_succ]
      refine wpAnyG_take (i := 11) (v := ?_) rfl (by kernel_rfl) (by kernel_rfl) (by kernel_rfl) (fun _ _ _ h => h) (by kernel_rfl) (by decide) (by kernel_rfl) (Or.inl ⟨by kernel_rfl, ?_⟩) hS0 ?_
      rotate_left
      · (intro wx hSw; obtain ⟨t1, t2⟩ := hSw; go_simp; try with_reducible rfl)
      try simp only [Act.put, List.getElem_toArray, List.getElem_cons_succ, List.getElem_cons_zero, List.setIfInBounds_toArray, List.set_cons_zero, List.set_cons_succ]
      refine wpAnyG_take (i := 12) (v := ?_) rfl (by kernel_rfl) (by kernel_rfl) (by kernel_rfl) (fun _ _ _ h => h) (by kernel_rfl) (by decide) (by kernel_rfl) (Or.inl ⟨by kernel_rfl, ?_⟩) hS0 ?_
      rotate_left
      · (intro wx hSw; obtain ⟨t1, t2⟩ := hSw; go_simp; try with_reducible rfl)
      try simp only [Act.put, List.getElem_toArray, List.getElem_cons_succ, List.getElem_cons_zero, List.setIfInBounds_toArray, List.set_cons_zero, List.set_cons_succ]
      refine wpAnyG_take (i := 13) (v := ?_) rfl (by kernel_rfl) (by kernel_rfl) (by kernel_rfl) (fun _ _ _ h => h) (by kernel_rfl) (by decide) (by kernel_rfl) (Or.inl ⟨by kernel_rfl, ?_⟩) hS0 ?_
      rotate_left
      · (intro wx hSw; obtain ⟨t1, t2⟩ := hSw; go_simp; try with_reducible rfl)
      try simp only [Act.put, List.getElem_toArray, List.getElem_cons_succ, List.getElem_cons_zero, List.setIfInBounds_toArray, List.set_cons_zero, List.set_cons_succ]
      generalize wr.drew = p0 at *
      refine wpAnyG_ready (rs := [6, 14]) (by kernel_rfl) (by simp) ?_
      refine AllReadyG.cons rfl (fun K hK => ?_) (AllReadyG.cons rfl (fun K hK => ?_) AllReadyG.nil)
      · go_simp
        have p1T := p0T.below (Bel.alloc (Bel.refl p0) (.cells #[.string s] 9))
        have p1B := Below.alloc p0B p0B.size (.cells #[.string s] 9)
        have p1s : (World.alloc p0 (.cells #[.string s] 9)).heap[p0.heap.size]? = some (.cells #[.string s] 9 (0, 0)) := heap_alloc_new p0 _
        have p1z : (World.alloc p0 (.cells #[.string s] 9)).heap.size = p0.heap.size + 1 := World.size_alloc _ _
        have p1c1 := Lib.cell?_alloc_some (.cells #[.string s] 9) p0c1
        have p1c2 := Lib.cell?_alloc_some (.cells #[.string s] 9) p0c2
        have p1k := Below.heap_alloc p0 (.cells #[.string s] 9)
        refine hK.out _ _ (fun _ => ⟨p1c1, p1c2⟩) (fun _ => ?_)
        clear hK K
        generalize World.alloc p0 (.cells #[.string s] 9) = p1 at *
        try simp only [Act.put, List.getElem_toArray, List.getElem_cons_succ, List.getElem_cons_zero, List.setIfInBounds_toArray, List.set_cons_zero, List.set_cons_succ]
        refine wpAnyG_ready (rs := [7, 14]) (by kernel_rfl) (by simp) ?_
        refine AllReadyG.cons rfl (fun K hK => ?_) (AllReadyG.cons rfl (fun K hK => ?_) AllReadyG.nil)
        · refine step_two rfl (.tmp 13) (.tmp 19) rfl w.heap.size _ _ _ _ rfl p1T p0.heap.size s rfl p1s (HLX.out) (by have := p1B.size; have := HBS; omega) ?_
          intro p2v p2 p2t p2g p2b
          have p2c1 := p2g.cell p1c1 (fun e => hne1 e.symm)
          have p2c2 := p2g.cell p1c2 (fun e => hne1 e.symm)
          have p2B : Below w.heap.size w p2 := p1B.grown p2g (by have := p1B.size; have := HBS; omega) (fun k hk => (World.ownsRow.lt p1T.r1 k hk).1)
          have p2T := p2t
          refine hK.out _ _ (fun _ => ⟨p2c1, p2c2⟩) (fun _ => ?_)
          clear hK K
          try simp only [Act.put, List.getElem_toArray, List.getElem_cons_succ, List.getElem_cons_zero, List.setIfInBounds_toArray, List.set_cons_zero, List.set_cons_succ]
          refine wpAnyG_ready (rs := [14]) (by kernel_rfl) (by simp) ?_
          refine AllReadyG.cons rfl (fun K hK => ?_) AllReadyG.nil
          go_simp
          have p3T := p2T.below (Bel.alloc (Bel.refl p2) (.cells #[.string t] 9))
          have p3B := Below.alloc p2B p2B.size (.cells #[.string t] 9)
          have p3t : (World.alloc p2 (.cells #[.string t] 9)).heap[p2.heap.size]? = some (.cells #[.string t] 9 (0, 0)) := heap_alloc_new p2 _
          have p3z : (World.alloc p2 (.cells #[.string t] 9)).heap.size = p2.heap.size + 1 := World.size_alloc _ _
          have p3c1 := Lib.cell?_alloc_some (.cells #[.string t] 9) p2c1
          have p3c2 := Lib.cell?_alloc_some (.cells #[.string t] 9) p2c2
          have p3k := Below.heap_alloc p2 (.cells #[.string t] 9)
          refine hK.out _ _ (fun _ => ⟨p3c1, p3c2⟩) (fun _ => ?_)
          clear hK K
          generalize World.alloc p2 (.cells #[.string t] 9) = p3 at *
          try simp only [Act.put, List.getElem_toArray, List.getElem_cons_succ, List.getElem_cons_zero, List.setIfInBounds_toArray, List.set_cons_zero, List.set_cons_succ]
          refine wpAnyG_ready (rs := [15]) (by kernel_rfl) (by simp) ?_
          refine AllReadyG.cons rfl (fun K hK => ?_) AllReadyG.nil
          refine step_two rfl (.tmp 21) (.tmp 27) rfl w.heap.size _ _ _ _ rfl p3T.swap p2.heap.size t rfl p3t (HLY.out) (by have := p3B.size; have := HBS; omega) ?_
          intro p4v p4 p4t p4g p4b
          have p4c1 := p4g.cell p3c1 (fun e => hne2 e.symm)
          have p4c2 := p4g.cell p3c2 (fun e => hne2 e.symm)
          have p4B : Below w.heap.size w p4 := p3B.grown p4g (by have := p3B.size; have := HBS; omega) (fun k hk => (World.ownsRow.lt p3T.r2 k hk).1)
          have p4T := p4t.swap
          refine hK.out _ _ (fun _ => ⟨p4c1, p4c2⟩) (fun _ => ?_)
          clear hK K
          try simp only [Act.put, List.getElem_toArray, List.getElem_cons_succ, List.getElem_cons_zero, List.setIfInBounds_toArray, List.set_cons_zero, List.set_cons_succ]
          refine wpAnyG_take (i := 16) (v := ?_) rfl (by kernel_rfl) (by kernel_rfl) (by kernel_rfl) (fun _ _ _ h => h) (by kernel_rfl) (by decide) (by kernel_rfl) (Or.inl ⟨by kernel_rfl, ?_⟩) ⟨p4c1, p4c2⟩ ?_
          rotate_left
          · (intro wx hSw; obtain ⟨t1, t2⟩ := hSw; go_simp; try with_reducible rfl)
          try simp only [Act.put, List.getElem_toArray, List.getElem_cons_succ, List.getElem_cons_zero, List.setIfInBounds_toArray, List.set_cons_zero, List.set_cons_succ]
          refine wpAnyG_ready (rs := [17]) (by kernel_rfl) (by simp) ?_
          refine AllReadyG.cons rfl (fun K hK => ?_) AllReadyG.nil
          go_simp
          refine hK.out _ _ (fun h => by cases h) (fun _ => ?_)
          clear hK K
          refine wpAnyG_done (by kernel_rfl) ?_ _
          have HTE := Lib.hid p4T
          have HBE := Lib.hid p4B
          clear p4T p4B
          go_wp2_with fail
          go_roundw
          case rel => exact ⟨i + 1, _, _, by go_num, rfl, rfl, by omega, by rw [HTK1.out, HTK2.out]; exact HTE.out, HBE.out⟩
          case measure => simp [intOf]; omega
        · go_simp
          have p2T := p1T.below (Bel.alloc (Bel.refl p1) (.cells #[.string t] 9))
          have p2B := Below.alloc p1B p1B.size (.cells #[.string t] 9)
          have p2t : (World.alloc p1 (.cells #[.string t] 9)).heap[p1.heap.size]? = some (.cells #[.string t] 9 (0, 0)) := heap_alloc_new p1 _
          have p2z : (World.alloc p1 (.cells #[.string t] 9)).heap.size = p1.heap.size + 1 := World.size_alloc _ _
          have p2c1 := Lib.cell?_alloc_some (.cells #[.string t] 9) p1c1
          have p2c2 := Lib.cell?_alloc_some (.cells #[.string t] 9) p1c2
          have p2k := Below.heap_alloc p1 (.cells #[.string t] 9)
          refine hK.out _ _ (fun _ => ⟨p2c1, p2c2⟩) (fun _ => ?_)
          clear hK K
          generalize World.alloc p1 (.cells #[.string t] 9) = p2 at *
          try simp only [Act.put, List.getElem_toArray, List.getElem_cons_succ, List.getElem_cons_zero, List.setIfInBounds_toArray, List.set_cons_zero, List.set_cons_succ]
          rw [p1z] at p2t
          have p2s := (p2k _ (Array.getElem?_eq_some_iff.1 p1s).1).trans p1s
          refine wpAnyG_ready (rs := [7]) (by kernel_rfl) (by simp) ?_
          refine AllReadyG.cons rfl (fun K hK => ?_) AllReadyG.nil
          refine step_two rfl (.tmp 13) (.tmp 19) rfl w.heap.size _ _ _ _ rfl p2T p0.heap.size s rfl p2s (HLX.out) (by have := p2B.size; have := HBS; omega) ?_
          intro p3v p3 p3t p3g p3b
          have p3c1 := p3g.cell p2c1 (fun e => hne1 e.symm)
          have p3c2 := p3g.cell p2c2 (fun e => hne1 e.symm)
          have p3B : Below w.heap.size w p3 := p2B.grown p3g (by have := p2B.size; have := HBS; omega) (fun k hk => (World.ownsRow.lt p2T.r1 k hk).1)
          have p3T := p3t
          refine hK.out _ _ (fun _ => ⟨p3c1, p3c2⟩) (fun _ => ?_)
          clear hK K
          try simp only [Act.put, List.getElem_toArray, List.getElem_cons_succ, List.getElem_cons_zero, List.setIfInBounds_toArray, List.set_cons_zero, List.set_cons_succ]
          have p3t := (p3g.block _ (Array.getElem?_eq_some_iff.1 p2t).1 (fun e => (Two.far p1T (by omega)) e.symm)).trans p2t
          refine wpAnyG_ready (rs := [15]) (by kernel_rfl) (by simp) ?_
          refine AllReadyG.cons rfl (fun K hK => ?_) AllReadyG.nil
          refine step_two rfl (.tmp 21) (.tmp 27) rfl w.heap.size _ _ _ _ rfl p3T.swap (p0.heap.size + 1) t rfl p3t (HLY.out) (by have := p3B.size; have := HBS; omega) ?_
          intro p4v p4 p4t p4g p4b
          have p4c1 := p4g.cell p3c1 (fun e => hne2 e.symm)
          have p4c2 := p4g.cell p3c2 (fun e => hne2 e.symm)
          have p4B : Below w.heap.size w p4 := p3B.grown p4g (by have := p3B.size; have := HBS; omega) (fun k hk => (World.ownsRow.lt p3T.r2 k hk).1)
          have p4T := p4t.swap
          refine hK.out _ _ (fun _ => ⟨p4c1, p4c2⟩) (fun _ => ?_)
          clear hK K
          try simp only [Act.put, List.getElem_toArray, List.getElem_cons_succ, List.getElem_cons_zero, List.setIfInBounds_toArray, List.set_cons_zero, List.set_cons_succ]
          refine wpAnyG_take (i := 16) (v := ?_) rfl (by kernel_rfl) (by kernel_rfl) (by kernel_rfl) (fun _ _ _ h => h) (by kernel_rfl) (by decide) (by kernel_rfl) (Or.inl ⟨by kernel_rfl, ?_⟩) ⟨p4c1, p4c2⟩ ?_
          rotate_left
          · (intro wx hSw; obtain ⟨t1, t2⟩ := hSw; go_simp; try with_reducible rfl)
          try simp only [Act.put, List.getElem_toArray, List.getElem_cons_succ, List.getElem_cons_zero, List.setIfInBounds_toArray, List.set_cons_zero, List.set_cons_succ]
          refine wpAnyG_ready (rs := [17]) (by kernel_rfl) (by simp) ?_
          refine AllReadyG.cons rfl (fun K hK => ?_) AllReadyG.nil
          go_simp
          refine hK.out _ _ (fun h => by cases h) (fun _ => ?_)
          clear hK K
          refine wpAnyG_done (by kernel_rfl) ?_ _
          have HTE := Lib.hid p4T
          have HBE := Lib.hid p4B
          clear p4T p4B
          go_wp2_with fail
          go_roundw
          case rel => exact ⟨i + 1, _, _, by go_num, rfl, rfl, by omega, by rw [HTK1.out, HTK2.out]; exact HTE.out, HBE.out⟩
          case measure => simp [intOf]; omega
      · go_simp
        have p1T := p0T.below (Bel.alloc (Bel.refl p0) (.cells #[.string t] 9))
        have p1B := Below.alloc p0B p0B.size (.cells #[.string t] 9)
        have p1t : (World.alloc p0 (.cells #[.string t] 9)).heap[p0.heap.size]? = some (.cells #[.string t] 9 (0, 0)) := heap_alloc_new p0 _
        have p1z : (World.alloc p0 (.cells #[.string t] 9)).heap.size = p0.heap.size + 1 := World.size_alloc _ _
        have p1c1 := Lib.cell?_alloc_some (.cells #[.string t] 9) p0c1
        have p1c2 := Lib.cell?_alloc_some (.cells #[.string t] 9) p0c2
        have p1k := Below.heap_alloc p0 (.cells #[.string t] 9)
        refine hK.out _ _ (fun _ => ⟨p1c1, p1c2⟩) (fun _ => ?_)
        clear hK K
        generalize World.alloc p0 (.cells #[.string t] 9) = p1 at *
        try simp only [Act.put, List.getElem_toArray, List.getElem_cons_succ, List.getElem_cons_zero, List.setIfInBounds_toArray, List.set_cons_zero, List.set_cons_succ]
        refine wpAnyG_ready (rs := [6]) (by kernel_rfl) (by simp) ?_
        refine AllReadyG.cons rfl (fun K hK => ?_) AllReadyG.nil
        go_simp
        have p2T := p1T.below (Bel.alloc (Bel.refl p1) (.cells #[.string s] 9))
        have p2B := Below.alloc p1B p1B.size (.cells #[.string s] 9)
        have p2s : (World.alloc p1 (.cells #[.string s] 9)).heap[p1.heap.size]? = some (.cells #[.string s] 9 (0, 0)) := heap_alloc_new p1 _
        have p2z : (World.alloc p1 (.cells #[.string s] 9)).heap.size = p1.heap.size + 1 := World.size_alloc _ _
        have p2c1 := Lib.cell?_alloc_some (.cells #[.string s] 9) p1c1
        have p2c2 := Lib.cell?_alloc_some (.cells #[.string s] 9) p1c2
        have p2k := Below.heap_alloc p1 (.cells #[.string s] 9)
        refine hK.out _ _ (fun _ => ⟨p2c1, p2c2⟩) (fun _ => ?_)
        clear hK K
        generalize World.alloc p1 (.cells #[.string s] 9) = p2 at *
        try simp only [Act.put, List.getElem_toArray, List.getElem_cons_succ, List.getElem_cons_zero, List.setIfInBounds_toArray, List.set_cons_zero, List.set_cons_succ]
        rw [p1z] at p2s
        have p2t := (p2k _ (Array.getElem?_eq_some_iff.1 p1t).1).trans p1t
        refine wpAnyG_ready (rs := [7]) (by kernel_rfl) (by simp) ?_
        refine AllReadyG.cons rfl (fun K hK => ?_) AllReadyG.nil
        refine step_two rfl (.tmp 13) (.tmp 19) rfl w.heap.size _ _ _ _ rfl p2T (p0.heap.size + 1) s rfl p2s (HLX.out) (by have := p2B.size; have := HBS; omega) ?_
        intro p3v p3 p3t p3g p3b
        have p3c1 := p3g.cell p2c1 (fun e => hne1 e.symm)
        have p3c2 := p3g.cell p2c2 (fun e => hne1 e.symm)
        have p3B : Below w.heap.size w p3 := p2B.grown p3g (by have := p2B.size; have := HBS; omega) (fun k hk => (World.ownsRow.lt p2T.r1 k hk).1)
        have p3T := p3t
        refine hK.out _ _ (fun _ => ⟨p3c1, p3c2⟩) (fun _ => ?_)
        clear hK K
        try simp only [Act.put, List.getElem_toArray, List.getElem_cons_succ, List.getElem_cons_zero, List.setIfInBounds_toArray, List.set_cons_zero, List.set_cons_succ]
        have p3t := (p3g.block _ (Array.getElem?_eq_some_iff.1 p2t).1 (fun e => (Two.far p0T (Nat.le_refl _)) e.symm)).trans p2t
        refine wpAnyG_ready (rs := [15]) (by kernel_rfl) (by simp) ?_
        refine AllReadyG.cons rfl (fun K hK => ?_) AllReadyG.nil
        refine step_two rfl (.tmp 21) (.tmp 27) rfl w.heap.size _ _ _ _ rfl p3T.swap p0.heap.size t rfl p3t (HLY.out) (by have := p3B.size; have := HBS; omega) ?_
        intro p4v p4 p4t p4g p4b
        have p4c1 := p4g.cell p3c1 (fun e => hne2 e.symm)
        have p4c2 := p4g.cell p3c2 (fun e => hne2 e.symm)
        have p4B : Below w.heap.size w p4 := p3B.grown p4g (by have := p3B.size; have := HBS; omega) (fun k hk => (World.ownsRow.lt p3T.r2 k hk).1)
        have p4T := p4t.swap
        refine hK.out _ _ (fun _ => ⟨p4c1, p4c2⟩) (fun _ => ?_)
        clear hK K
        try simp only [Act.put, List.getElem_toArray, List.getElem_cons_succ, List.getElem_cons_zero, List.setIfInBounds_toArray, List.set_cons_zero, List.set_cons_succ]
        refine wpAnyG_take (i := 16) (v := ?_) rfl (by kernel_rfl) (by kernel_rfl) (by kernel_rfl) (fun _ _ _ h => h) (by kernel_rfl) (by decide) (by kernel_rfl) (Or.inl ⟨by kernel_rfl, ?_⟩) ⟨p4c1, p4c2⟩ ?_
        rotate_left
        · (intro wx hSw; obtain ⟨t1, t2⟩ := hSw; go_simp; try with_reducible rfl)
        try simp only [Act.put, List.getElem_toArray, List.getElem_cons_succ, List.getElem_cons_zero, List.setIfInBounds_toArray, List.set_cons_zero, List.set_cons_succ]
        refine wpAnyG_ready (rs := [17]) (by kernel_rfl) (by simp) ?_
        refine AllReadyG.cons rfl (fun K hK => ?_) AllReadyG.nil
        go_simp
        refine hK.out _ _ (fun h => by cases h) (fun _ => ?_)
        clear hK K
        refine wpAnyG_done (by kernel_rfl) ?_ _
        have HTE := Lib.hid p4T
        have HBE := Lib.hid p4B
        clear p4T p4B
        go_wp2_with fail
        go_roundw
        case rel => exact ⟨i + 1, _, _, by go_num, rfl, rfl, by omega, by rw [HTK1.out, HTK2.out]; exact HTE.out, HBE.out⟩
        case measure => simp [intOf]; omega
    · obtain rfl : i = n := by omega
      have htw := HTW.out
      rw [List.take_of_length_le (by rw [HL.out]; exact Nat.le_refl _)] at htw
      have HTE := Lib.hid htw
      clear htw HTW
      go_wp2_with fail
      go_ret2
      exact ⟨_, _, rfl, HTE.out, HBW.out⟩
end Go.Proofs.Ytkodnagneblgaaa
