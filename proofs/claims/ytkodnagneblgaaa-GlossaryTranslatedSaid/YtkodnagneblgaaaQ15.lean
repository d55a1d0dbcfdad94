/- Walks: the sources and the targets of terms, by the reference. -/
import Derived.Test.YtkodnagneblgaaaQ14
namespace Go.Proofs.Ytkodnagneblgaaa
open Go.RowKit Go.Maps Go.Sort
attribute [local go_sem] Ext.cell Ext.frozen
attribute [local go_sem ↓] Go.wp_at_zero Go.wp_at_succ
set_option maxRecDepth 100000 in
set_option maxHeartbeats 8000000 in
theorem rstrings_any (ts : List Tm) (ad : Option Addr) (n c : Nat) (w : World) (ht : TmAt w ad n ts) (hn : n ≤ 1000) :
    Calls Try.prog 27 #[.slice ad n c] w fun e w' => ∃ v1 v2, e = .returned (.tuple #[v1, v2]) ∧ Two w' w.heap.size v1 (ts.map (·.s)) v2 (ts.map (·.t)) ∧ Below w.heap.size w w' := by
  have HT := Lib.hid ht
  have HL := Lib.hid ht.1
  clear ht
  go_enter Try.func27, Try.ntmps27
  go_wp2_with fail
  have HT0 := Lib.hid (Two.start w w.heap.size)
  go_loopw [4, 5, 6] (fun r1 r2 u wr => ∃ (i : Nat) (v1 v2 : Value), u = .int .i64 (i : Int) ∧ v1 = r1 ∧ v2 = r2 ∧ i ≤ n ∧ Two wr w.heap.size v1 ((ts.take i).map (·.s)) v2 ((ts.take i).map (·.t)) ∧ Below w.heap.size w wr) (fun _ _ u _ => n - (intOf u).toNat)
  case atStart => exact ⟨0, _, _, rfl, rfl, rfl, Nat.zero_le _, HT0.out, Below.refl _ _⟩
  case round =>
    obtain ⟨i, v1, v2, rfl, hr1, hr2, hin, htw, hbl⟩ := hrel
    subst hr1
    subst hr2
    have HTW := Lib.hid htw
    have HBW := Lib.hid hbl
    have hzr := hbl.size
    clear htw hbl HT0
    by_cases hlt : i < n
    · obtain ⟨_, tb, tq, hrw⟩ := HT.out
      have hix := fun W => hrw.ix 22 48 Try.underlying22 cellsRTm (by omega) hlt c W
      have h0 := hrw.cell i 0 hlt (by omega)
      have h1 := hrw.cell i 1 hlt (by omega)
      rw [Nat.add_zero] at h0
      simp only [tmC] at h0 h1
      have hbt := World.block_lt_of_cell? w _ h0
      simp only at hbt
      have hne1 : v1.ownBlock ≠ some tb := fun e => by
        have := (World.ownsRow.lt HTW.out.r1 _ e).1
        omega
      have hne2 : v2.ownBlock ≠ some tb := fun e => by
        have := (World.ownsRow.lt HTW.out.r2 _ e).1
        omega
      have HTK1 := Lib.hid (map_take_succ (·.s) ts i (by rw [HL.out]; exact hlt))
      have HTK2 := Lib.hid (map_take_succ (·.t) ts i (by rw [HL.out]; exact hlt))
      have HLX : Hid (((ts.take i).map (·.s)).length ≤ 100000) := by rw [Hid, List.length_map, List.length_take]; omega
      have HLY : Hid (((ts.take i).map (·.t)).length ≤ 100000) := by rw [Hid, List.length_map, List.length_take]; omega
      have hlz : (i : Int) < (n : Int) := by omega
      clear hrw hbt
      generalize (ts.take i).map (·.s) = xs at *
      generalize (ts.take i).map (·.t) = ys at *
      generalize ts.getD i tm0 = x at *
      obtain ⟨s, t, f⟩ := x
      simp only at h0 h1 HTK1 HTK2
      have HBS : w.heap.size ≤ w.heap.size := Nat.le_refl _
      have u1 : wr.drew.cell? ⟨tb, tq + i * 3, none⟩ = some (.string s) := cell_later HBW.out h0
      have u2 : wr.drew.cell? ⟨tb, tq + i * 3 + 1, none⟩ = some (.string t) := cell_later HBW.out h1
      clear h0 h1
      go_upto_region 5 with (fail)
      refine wp_region_until 17 (fun w' => w'.cell? ⟨tb, tq + i * 3, none⟩ = some (.string s) ∧ w'.cell? ⟨tb, tq + i * 3 + 1, none⟩ = some (.string t)) (by kernel_rfl) ⟨u1, u2⟩ (fun hS0 => ?_)
      have p0T := HTW.out.below (Bel.drew (Bel.refl wr))
      have p0B : Below w.heap.size w wr.drew := Below.drew HBW.out
      have p0c1 := u1
      have p0c2 := u2
      have p0v1 : True := trivial
      refine wpAnyG_take (i := 0) (v := ?_) rfl (by kernel_rfl) (by kernel_rfl) (by kernel_rfl) (fun _ _ _ h => h) (by kernel_rfl) (by decide) (by kernel_rfl) (Or.inl ⟨by kernel_rfl, ?_⟩) hS0 ?_
      rotate_left
      · (intro wx hSw; obtain ⟨t1, t2⟩ := hSw; go_simp; try with_reducible rfl)
      try simp only [Act.put, List.getElem_toArray, List.getElem_cons_zero, List.setIfInBounds_toArray, List.set_cons_zero, List.set_cons_succ]
      refine wpAnyG_take (i := 1) (v := ?_) rfl (by kernel_rfl) (by kernel_rfl) (by kernel_rfl) (fun _ _ _ h => h) (by kernel_rfl) (by decide) (by kernel_rfl) (Or.inl ⟨by kernel_rfl, ?_⟩) hS0 ?_
      rotate_left
      · (intro wx hSw; obtain ⟨t1, t2⟩ := hSw; go_simp; try with_reducible rfl)
      try simp only [Act.put, List.getElem_toArray, List.getElem_cons_succ, List.getElem_cons_zero, List.setIfInBounds_toArray, List.set_cons_zero, List.set_cons_succ]
      refine wpAnyG_take (i := 2) (v := ?_) rfl (by kernel_rfl) (by kernel_rfl) (by kernel_rfl) (fun _ _ _ h => h) (by kernel_rfl) (by decide) (by kernel_rfl) (Or.inl ⟨by kernel_rfl, ?_⟩) hS0 ?_
      rotate_left
      · (intro wx hSw; obtain ⟨t1, t2⟩ := hSw; go_simp; try with_reducible rfl)
      try simp only [Act.put, List.getElem_toArray, List.getElem_cons_succ, List.getElem_cons_zero, List.setIfInBounds_toArray, List.set_cons_zero, List.set_cons_succ]
      refine wpAnyG_take (i := 3) (v := ?_) rfl (by kernel_rfl) (by kernel_rfl) (by kernel_rfl) (fun _ _ _ h => h) (by kernel_rfl) (by decide) (by kernel_rfl) (Or.inl ⟨by kernel_rfl, ?_⟩) hS0 ?_
      rotate_left
      · (intro wx hSw; obtain ⟨t1, t2⟩ := hSw; go_simp; try with_reducible rfl)
      try simp only [Act.put, List.getElem_toArray, List.getElem_cons_succ, List.getElem_cons_zero, List.setIfInBounds_toArray, List.set_cons_zero, List.set_cons_succ]
      refine wpAnyG_take (i := 4) (v := ?_) rfl (by kernel_rfl) (by kernel_rfl) (by kernel_rfl) (fun _ _ _ h => h) (by kernel_rfl) (by decide) (by kernel_rfl) (Or.inl ⟨by kernel_rfl, ?_⟩) hS0 ?_
      rotate_left
      · (intro wx hSw; obtain ⟨t1, t2⟩ := hSw; go_simp; try with_reducible rfl)
      try simp only [Act.put, List.getElem_toArray, List.getElem_cons_succ, List.getElem_cons_zero, List.setIfInBounds_toArray, List.set_cons_zero, List.set_cons_succ]
      refine wpAnyG_take (i := 5) (v := ?_) rfl (by kernel_rfl) (by kernel_rfl) (by kernel_rfl) (fun _ _ _ h => h) (by kernel_rfl) (by decide) (by kernel_rfl) (Or.inl ⟨by kernel_rfl, ?_⟩) hS0 ?_
      rotate_left
      · (intro wx hSw; obtain ⟨t1, t2⟩ := hSw; go_simp; try with_reducible rfl)
      try simp only [Act.put, List.getElem_toArray, List.getElem_cons_succ, List.getElem_cons_zero, List.setIfInBounds_toArray, List.set_cons_zero, List.set_cons_succ]
      refine wpAnyG_take (i := 8) (v := ?_) rfl (by kernel_rfl) (by kernel_rfl) (by kernel_rfl) (fun _ _ _ h => h) (by kernel_rfl) (by decide) (by kernel_rfl) (Or.inl ⟨by kernel_rfl, ?_⟩) hS0 ?_
      rotate_left
      · (intro wx hSw; obtain ⟨t1, t2⟩ := hSw; go_simp; try with_reducible rfl)
      try simp only [Act.put, List.getElem_toArray, List.getElem_cons_succ, List.getElem_cons_zero, List.setIfInBounds_toArray, List.set_cons_zero, List.set_cons_succ]
      refine wpAnyG_take (i := 9) (v := ?_) rfl (by kernel_rfl) (by kernel_rfl) (by kernel_rfl) (fun _ _ _ h => h) (by kernel_rfl) (by decide) (by kernel_rfl) (Or.inl ⟨by kernel_rfl, ?_⟩) hS0 ?_
      rotate_left
      · (intro wx hSw; obtain ⟨t1, t2⟩ := hSw; go_simp; try with_reducible rfl)
      try simp only [Act.put, List.getElem_toArray, List.getElem_cons_succ, List.getElem_cons_zero, List.setIfInBounds_toArray, List.set_cons_zero, List.set_cons_succ]
      refine wpAnyG_take (i := 10) (v := ?_) rfl (by kernel_rfl) (by kernel_rfl) (by kernel_rfl) (fun _ _ _ h => h) (by kernel_rfl) (by decide) (by kernel_rfl) (Or.inl ⟨by kernel_rfl, ?_⟩) hS0 ?_
      rotate_left
      · (intro wx hSw; obtain ⟨t1, t2⟩ := hSw; go_simp; try with_reducible rfl)
      try simp only [Act.put, List.getElem_toArray, List.getElem_cons_succ, List.getElem_cons_zero, List.setIfInBounds_toArray, List.set_cons_zero, List.set_cons_succ]
      refine wpAnyG_take (i := 11) (v := ?_) rfl (by kernel_rfl) (by kernel_rfl) (by kernel_rfl) (fun _ _ _ h => h) (by kernel_rfl) (by decide) (by kernel_rfl) (Or.inl ⟨by kernel_rfl, ?_⟩) hS0 ?_
      rotate_left
      · (intro wx hSw; obtain ⟨t1, t2⟩ := hSw; go_simp; try with_reducible rfl)
      try simp only [Act.put, List.getElem_toArray, List.getElem_cons_succ, List.getElem_cons_zero, List.setIfInBounds_toArray, List.set_cons_zero, List.set_cons_succ]
      refine wpAnyG_take (i := 12) (v := ?_) rfl (by kernel_rfl) (by kernel_rfl) (by kernel_rfl) (fun _ _ _ h => h) (by kernel_rfl) (by decide) (by kernel_rfl) (Or.inl ⟨by kernel_rfl, ?_⟩) hS0 ?_
      rotate_left
      · (intro wx hSw; obtain ⟨t1, t2⟩ := hSw; go_simp; try with_reducible rfl)
      try simp only [Act.put, List.getElem_toArray, List.getElem_cons_succ, List.getElem_cons_zero, List.setIfInBounds_toArray, List.set_cons_zero, List.set_cons_succ]
      refine wpAnyG_take (i := 13) (v := ?_) rfl (by kernel_rfl) (by kernel_rfl) (by kernel_rfl) (fun _ _ _ h => h) (by kernel_rfl) (by decide) (by kernel_rfl) (Or.inl ⟨by kernel_rfl, ?_⟩) hS0 ?_
      rotate_left
      · (intro wx hSw; obtain ⟨t1, t2⟩ := hSw; go_simp; try with_reducible rfl)
      try simp only [Act.put, List.getElem_toArray, List.getElem_cons_succ, List.getElem_cons_zero, List.setIfInBounds_toArray, List.set_cons_zero, List.set_cons_succ]
      generalize wr.drew = p0 at *
      refine wpAnyG_ready (rs := [6, 14]) (by kernel_rfl) (by simp) ?_
      refine AllReadyG.cons rfl (fun K hK => ?_) (AllReadyG.cons rfl (fun K hK => ?_) AllReadyG.nil)
      · go_simp
        have p1T := p0T.below (Bel.alloc (Bel.refl p0) (.cells #[.string s] 9))
        have p1B := Below.alloc p0B p0B.size (.cells #[.string s] 9)
        have p1s : (World.alloc p0 (.cells #[.string s] 9)).heap[p0.heap.size]? = some (.cells #[.string s] 9 (0, 0)) := heap_alloc_new p0 _
        have p1z : (World.alloc p0 (.cells #[.string s] 9)).heap.size = p0.heap.size + 1 := World.size_alloc _ _
        have p1c1 := Lib.cell?_alloc_some (.cells #[.string s] 9) p0c1
        have p1c2 := Lib.cell?_alloc_some (.cells #[.string s] 9) p0c2
        have p1k := Below.heap_alloc p0 (.cells #[.string s] 9)
        refine hK.out _ _ (fun _ => ⟨p1c1, p1c2⟩) (fun _ => ?_)
        clear hK K
        generalize World.alloc p0 (.cells #[.string s] 9) = p1 at *
        try simp only [Act.put, List.getElem_toArray, List.getElem_cons_succ, List.getElem_cons_zero, List.setIfInBounds_toArray, List.set_cons_zero, List.set_cons_succ]
        refine wpAnyG_ready (rs := [7, 14]) (by kernel_rfl) (by simp) ?_
        refine AllReadyG.cons rfl (fun K hK => ?_) (AllReadyG.cons rfl (fun K hK => ?_) AllReadyG.nil)
        · refine step_two rfl (.tmp 13) (.tmp 19) rfl w.heap.size _ _ _ _ rfl p1T p0.heap.size s rfl p1s (HLX.out) (by have := p1B.size; have := HBS; omega) ?_
          intro p2v p2 p2t p2g p2b
          have p2c1 := p2g.cell p1c1 (fun e => hne1 e.symm)
          have p2c2 := p2g.cell p1c2 (fun e => hne1 e.symm)
          have p2B : Below w.heap.size w p2 := p1B.grown p2g (by have := p1B.size; have := HBS; omega) (fun k hk => (World.ownsRow.lt p1T.r1 k hk).1)
          have p2T := p2t
          refine hK.out _ _ (fun _ => ⟨p2c1, p2c2⟩) (fun _ => ?_)
          clear hK K
          try simp only [Act.put, List.getElem_toArray, List.getElem_cons_succ, List.getElem_cons_zero, List.setIfInBounds_toArray, List.set_cons_zero, List.set_cons_succ]
          refine wpAnyG_ready (rs := [14]) (by kernel_rfl) (by simp) ?_
          refine AllReadyG.cons rfl (fun K hK => ?_) AllReadyG.nil
          go_simp
          have p3T := p2T.below (Bel.alloc (Bel.refl p2) (.cells #[.string t] 9))
          have p3B := Below.alloc p2B p2B.size (.cells #[.string t] 9)
          have p3t : (World.alloc p2 (.cells #[.string t] 9)).heap[p2.heap.size]? = some (.cells #[.string t] 9 (0, 0)) := heap_alloc_new p2 _
          have p3z : (World.alloc p2 (.cells #[.string t] 9)).heap.size = p2.heap.size + 1 := World.size_alloc _ _
          have p3c1 := Lib.cell?_alloc_some (.cells #[.string t] 9) p2c1
          have p3c2 := Lib.cell?_alloc_some (.cells #[.string t] 9) p2c2
          have p3k := Below.heap_alloc p2 (.cells #[.string t] 9)
          refine hK.out _ _ (fun _ => ⟨p3c1, p3c2⟩) (fun _ => ?_)
          clear hK K
          generalize World.alloc p2 (.cells #[.string t] 9) = p3 at *
          try simp only [Act.put, List.getElem_toArray, List.getElem_cons_succ, List.getElem_cons_zero, List.setIfInBounds_toArray, List.set_cons_zero, List.set_cons_succ]
          refine wpAnyG_ready (rs := [15]) (by kernel_rfl) (by simp) ?_
          refine AllReadyG.cons rfl (fun K hK => ?_) AllReadyG.nil
          refine step_two rfl (.tmp 21) (.tmp 27) rfl w.heap.size _ _ _ _ rfl p3T.swap p2.heap.size t rfl p3t (HLY.out) (by have := p3B.size; have := HBS; omega) ?_
          intro p4v p4 p4t p4g p4b
          have p4c1 := p4g.cell p3c1 (fun e => hne2 e.symm)
          have p4c2 := p4g.cell p3c2 (fun e => hne2 e.symm)
          have p4B : Below w.heap.size w p4 := p3B.grown p4g (by have := p3B.size; have := HBS; omega) (fun k hk => (World.ownsRow.lt p3T.r2 k hk).1)
          have p4T := p4t.swap
          refine hK.out _ _ (fun _ => ⟨p4c1, p4c2⟩) (fun _ => ?_)
          clear hK K
          try simp only [Act.put, List.getElem_toArray, List.getElem_cons_succ, List.getElem_cons_zero, List.setIfInBounds_toArray, List.set_cons_zero, List.set_cons_succ]
          refine wpAnyG_take (i := 16) (v := ?_) rfl (by kernel_rfl) (by kernel_rfl) (by kernel_rfl) (fun _ _ _ h => h) (by kernel_rfl) (by decide) (by kernel_rfl) (Or.inl ⟨by kernel_rfl, ?_⟩) ⟨p4c1, p4c2⟩ ?_
          rotate_left
          · (intro wx hSw; obtain ⟨t1, t2⟩ := hSw; go_simp; try with_reducible rfl)
          try simp only [Act.put, List.getElem_toArray, List.getElem_cons_succ, List.getElem_cons_zero, List.setIfInBounds_toArray, List.set_cons_zero, List.set_cons_succ]
          refine wpAnyG_ready (rs := [17]) (by kernel_rfl) (by simp) ?_
          refine AllReadyG.cons rfl (fun K hK => ?_) AllReadyG.nil
          go_simp
          refine hK.out _ _ (fun h => by cases h) (fun _ => ?_)
          clear hK K
          refine wpAnyG_done (by kernel_rfl) ?_ _
          have HTE := Lib.hid p4T
          have HBE := Lib.hid p4B
          clear p4T p4B
          go_wp2_with fail
          go_roundw
          case rel => exact ⟨i + 1, _, _, by go_num, rfl, rfl, by omega, by rw [HTK1.out, HTK2.out]; exact HTE.out, HBE.out⟩
          case measure => simp [intOf]; omega
        · go_simp
          have p2T := p1T.below (Bel.alloc (Bel.refl p1) (.cells #[.string t] 9))
          have p2B := Below.alloc p1B p1B.size (.cells #[.string t] 9)
          have p2t : (World.alloc p1 (.cells #[.string t] 9)).heap[p1.heap.size]? = some (.cells #[.string t] 9 (0, 0)) := heap_alloc_new p1 _
          have p2z : (World.alloc p1 (.cells #[.string t] 9)).heap.size = p1.heap.size + 1 := World.size_alloc _ _
          have p2c1 := Lib.cell?_alloc_some (.cells #[.string t] 9) p1c1
          have p2c2 := Lib.cell?_alloc_some (.cells #[.string t] 9) p1c2
          have p2k := Below.heap_alloc p1 (.cells #[.string t] 9)
          refine hK.out _ _ (fun _ => ⟨p2c1, p2c2⟩) (fun _ => ?_)
          clear hK K
          generalize World.alloc p1 (.cells #[.string t] 9) = p2 at *
          try simp only [Act.put, List.getElem_toArray, List.getElem_cons_succ, List.getElem_cons_zero, List.setIfInBounds_toArray, List.set_cons_zero, List.set_cons_succ]
          rw [p1z] at p2t
          have p2s := (p2k _ (Array.getElem?_eq_some_iff.1 p1s).1).trans p1s
          refine wpAnyG_ready (rs := [7]) (by kernel_rfl) (by simp) ?_
          refine AllReadyG.cons rfl (fun K hK => ?_) AllReadyG.nil
          refine step_two rfl (.tmp 13) (.tmp 19) rfl w.heap.size _ _ _ _ rfl p2T p0.heap.size s rfl p2s (HLX.out) (by have := p2B.size; have := HBS; omega) ?_
          intro p3v p3 p3t p3g p3b
          have p3c1 := p3g.cell p2c1 (fun e => hne1 e.symm)
          have p3c2 := p3g.cell p2c2 (fun e => hne1 e.symm)
          have p3B : Below w.heap.size w p3 := p2B.grown p3g (by have := p2B.size; have := HBS; omega) (fun k hk => (World.ownsRow.lt p2T.r1 k hk).1)
          have p3T := p3t
          refine hK.out _ _ (fun _ => ⟨p3c1, p3c2⟩) (fun _ => ?_)
          clear hK K
          try simp only [Act.put, List.getElem_toArray, List.getElem_cons_succ, List.getElem_cons_zero, List.setIfInBounds_toArray, List.set_cons_zero, List.set_cons_succ]
          have p3t := (p3g.block _ (Array.getElem?_eq_some_iff.1 p2t).1 (fun e => (Two.far p1T (by omega)) e.symm)).trans p2t
          refine wpAnyG_ready (rs := [15]) (by kernel_rfl) (by simp) ?_
          refine AllReadyG.cons rfl (fun K hK => ?_) AllReadyG.nil
          refine step_two rfl (.tmp 21) (.tmp 27) rfl w.heap.size _ _ _ _ rfl p3T.swap (p0.heap.size + 1) t rfl p3t (HLY.out) (by have := p3B.size; have := HBS; omega) ?_
          intro p4v p4 p4t p4g p4b
          have p4c1 := p4g.cell p3c1 (fun e => hne2 e.symm)
          have p4c2 := p4g.cell p3c2 (fun e => hne2 e.symm)
          have p4B : Below w.heap.size w p4 := p3B.grown p4g (by have := p3B.size; have := HBS; omega) (fun k hk => (World.ownsRow.lt p3T.r2 k hk).1)
          have p4T := p4t.swap
          refine hK.out _ _ (fun _ => ⟨p4c1, p4c2⟩) (fun _ => ?_)
          clear hK K
          try simp only [Act.put, List.getElem_toArray, List.getElem_cons_succ, List.getElem_cons_zero, List.setIfInBounds_toArray, List.set_cons_zero, List.set_cons_succ]
          refine wpAnyG_take (i := 16) (v := ?_) rfl (by kernel_rfl) (by kernel_rfl) (by kernel_rfl) (fun _ _ _ h => h) (by kernel_rfl) (by decide) (by kernel_rfl) (Or.inl ⟨by kernel_rfl, ?_⟩) ⟨p4c1, p4c2⟩ ?_
          rotate_left
          · (intro wx hSw; obtain ⟨t1, t2⟩ := hSw; go_simp; try with_reducible rfl)
          try simp only [Act.put, List.getElem_toArray, List.getElem_cons_succ, List.getElem_cons_zero, List.setIfInBounds_toArray, List.set_cons_zero, List.set_cons_succ]
          refine wpAnyG_ready (rs := [17]) (by kernel_rfl) (by simp) ?_
          refine AllReadyG.cons rfl (fun K hK => ?_) AllReadyG.nil
          go_simp
          refine hK.out _ _ (fun h => by cases h) (fun _ => ?_)
          clear hK K
          refine wpAnyG_done (by kernel_rfl) ?_ _
          have HTE := Lib.hid p4T
          have HBE := Lib.hid p4B
          clear p4T p4B
          go_wp2_with fail
          go_roundw
          case rel => exact ⟨i + 1, _, _, by go_num, rfl, rfl, by omega, by rw [HTK1.out, HTK2.out]; exact HTE.out, HBE.out⟩
          case measure => simp [intOf]; omega
      · go_simp
        have p1T := p0T.below (Bel.alloc (Bel.refl p0) (.cells #[.string t] 9))
        have p1B := Below.alloc p0B p0B.size (.cells #[.string t] 9)
        have p1t : (World.alloc p0 (.cells #[.string t] 9)).heap[p0.heap.size]? = some (.cells #[.string t] 9 (0, 0)) := heap_alloc_new p0 _
        have p1z : (World.alloc p0 (.cells #[.string t] 9)).heap.size = p0.heap.size + 1 := World.size_alloc _ _
        have p1c1 := Lib.cell?_alloc_some (.cells #[.string t] 9) p0c1
        have p1c2 := Lib.cell?_alloc_some (.cells #[.string t] 9) p0c2
        have p1k := Below.heap_alloc p0 (.cells #[.string t] 9)
        refine hK.out _ _ (fun _ => ⟨p1c1, p1c2⟩) (fun _ => ?_)
        clear hK K
        generalize World.alloc p0 (.cells #[.string t] 9) = p1 at *
        try simp only [Act.put, List.getElem_toArray, List.getElem_cons_succ, List.getElem_cons_zero, List.setIfInBounds_toArray, List.set_cons_zero, List.set_cons_succ]
        refine wpAnyG_ready (rs := [6]) (by kernel_rfl) (by simp) ?_
        refine AllReadyG.cons rfl (fun K hK => ?_) AllReadyG.nil
        go_simp
        have p2T := p1T.below (Bel.alloc (Bel.refl p1) (.cells #[.string s] 9))
        have p2B := Below.alloc p1B p1B.size (.cells #[.string s] 9)
        have p2s : (World.alloc p1 (.cells #[.string s] 9)).heap[p1.heap.size]? = some (.cells #[.string s] 9 (0, 0)) := heap_alloc_new p1 _
        have p2z : (World.alloc p1 (.cells #[.string s] 9)).heap.size = p1.heap.size + 1 := World.size_alloc _ _
        have p2c1 := Lib.cell?_alloc_some (.cells #[.string s] 9) p1c1
        have p2c2 := Lib.cell?_alloc_some (.cells #[.string s] 9) p1c2
        have p2k := Below.heap_alloc p1 (.cells #[.string s] 9)
        refine hK.out _ _ (fun _ => ⟨p2c1, p2c2⟩) (fun _ => ?_)
        clear hK K
        generalize World.alloc p1 (.cells #[.string s] 9) = p2 at *
        try simp only [Act.put, List.getElem_toArray, List.getElem_cons_succ, List.getElem_cons_zero, List.setIfInBounds_toArray, List.set_cons_zero, List.set_cons_succ]
        rw [p1z] at p2s
        have p2t := (p2k _ (Array.getElem?_eq_some_iff.1 p1t).1).trans p1t
        refine wpAnyG_ready (rs := [7]) (by kernel_rfl) (by simp) ?_
        refine AllReadyG.cons rfl (fun K hK => ?_) AllReadyG.nil
        refine step_two rfl (.tmp 13) (.tmp 19) rfl w.heap.size _ _ _ _ rfl p2T (p0.heap.size + 1) s rfl p2s (HLX.out) (by have := p2B.size; have := HBS; omega) ?_
        intro p3v p3 p3t p3g p3b
        have p3c1 := p3g.cell p2c1 (fun e => hne1 e.symm)
        have p3c2 := p3g.cell p2c2 (fun e => hne1 e.symm)
        have p3B : Below w.heap.size w p3 := p2B.grown p3g (by have := p2B.size; have := HBS; omega) (fun k hk => (World.ownsRow.lt p2T.r1 k hk).1)
        have p3T := p3t
        refine hK.out _ _ (fun _ => ⟨p3c1, p3c2⟩) (fun _ => ?_)
        clear hK K
        try simp only [Act.put, List.getElem_toArray, List.getElem_cons_succ, List.getElem_cons_zero, List.setIfInBounds_toArray, List.set_cons_zero, List.set_cons_succ]
        have p3t := (p3g.block _ (Array.getElem?_eq_some_iff.1 p2t).1 (fun e => (Two.far p0T (Nat.le_refl _)) e.symm)).trans p2t
        refine wpAnyG_ready (rs := [15]) (by kernel_rfl) (by simp) ?_
        refine AllReadyG.cons rfl (fun K hK => ?_) AllReadyG.nil
        refine step_two rfl (.tmp 21) (.tmp 27) rfl w.heap.size _ _ _ _ rfl p3T.swap p0.heap.size t rfl p3t (HLY.out) (by have := p3B.size; have := HBS; omega) ?_
        intro p4v p4 p4t p4g p4b
        have p4c1 := p4g.cell p3c1 (fun e => hne2 e.symm)
        have p4c2 := p4g.cell p3c2 (fun e => hne2 e.symm)
        have p4B : Below w.heap.size w p4 := p3B.grown p4g (by have := p3B.size; have := HBS; omega) (fun k hk => (World.ownsRow.lt p3T.r2 k hk).1)
        have p4T := p4t.swap
        refine hK.out _ _ (fun _ => ⟨p4c1, p4c2⟩) (fun _ => ?_)
        clear hK K
        try simp only [Act.put, List.getElem_toArray, List.getElem_cons_succ, List.getElem_cons_zero, List.setIfInBounds_toArray, List.set_cons_zero, List.set_cons_succ]
        refine wpAnyG_take (i := 16) (v := ?_) rfl (by kernel_rfl) (by kernel_rfl) (by kernel_rfl) (fun _ _ _ h => h) (by kernel_rfl) (by decide) (by kernel_rfl) (Or.inl ⟨by kernel_rfl, ?_⟩) ⟨p4c1, p4c2⟩ ?_
        rotate_left
        · (intro wx hSw; obtain ⟨t1, t2⟩ := hSw; go_simp; try with_reducible rfl)
        try simp only [Act.put, List.getElem_toArray, List.getElem_cons_succ, List.getElem_cons_zero, List.setIfInBounds_toArray, List.set_cons_zero, List.set_cons_succ]
        refine wpAnyG_ready (rs := [17]) (by kernel_rfl) (by simp) ?_
        refine AllReadyG.cons rfl (fun K hK => ?_) AllReadyG.nil
        go_simp
        refine hK.out _ _ (fun h => by cases h) (fun _ => ?_)
        clear hK K
        refine wpAnyG_done (by kernel_rfl) ?_ _
        have HTE := Lib.hid p4T
        have HBE := Lib.hid p4B
        clear p4T p4B
        go_wp2_with fail
        go_roundw
        case rel => exact ⟨i + 1, _, _, by go_num, rfl, rfl, by omega, by rw [HTK1.out, HTK2.out]; exact HTE.out, HBE.out⟩
        case measure => simp [intOf]; omega
    · obtain rfl : i = n := by omega
      have htw := HTW.out
      rw [List.take_of_length_le (by rw [HL.out]; exact Nat.le_refl _)] at htw
      have HTE := Lib.hid htw
      clear htw HTW
      go_wp2_with fail
      go_ret2
      exact ⟨_, _, rfl, HTE.out, HBW.out⟩
end Go.Proofs.Ytkodnagneblgaaa
/- Findings in memory; walks: the second half of the program's Check. -/
namespace Go.Proofs.Ytkodnagneblgaaa
open Go.RowKit Go.Maps Go.Sort
attribute [local go_sem] Ext.cell Ext.frozen
attribute [local go_sem ↓] Go.wp_at_zero Go.wp_at_succ
/-- a row of findings of the call's own -/
def FnR (E : TypeId) (w : World) (base : Nat) (v : Value) (fs : List (Nat × Nat)) : Prop := w.ownsRow base E 2 v fs.length (prV fs)
theorem FnR.below {E : TypeId} {w w' : World} {base : Nat} {v : Value} {fs : List (Nat × Nat)} (h : FnR E w base v fs) (hb : Below w.heap.size w w') : FnR E w' base v fs := own_below h hb
theorem FnR.rebase {E : TypeId} {w : World} {base b2 : Nat} {v : Value} {fs : List (Nat × Nat)} (h : FnR E w base v fs) (hb : b2 ≤ base) : FnR E w b2 v fs := ⟨h.1, by
  rcases h.2 with h2 | ⟨g, cap, cur, h1, h2, h3⟩
  · exact .inl h2
  · exact .inr ⟨g, cap, cur, h1, Nat.le_trans hb h2, h3⟩⟩
theorem infoFnP : (Try.prog.info? 51).map (fun i => (i.zero, i.size, i.bytes)) = some (some (.agg #[.int .i64 0, .int .i64 0]), 2, 16) := by kernel_rfl
theorem appFindP {ops : Array Oper} {rest : List Oper} {o : Oper} {a : Act} {Q : Exit → Act → World → Prop} {w : World} (hgd : o.guard = none) (s x : Operand) (ho : o.op = .call { callee := .builtin .append, args := #[s, x], argTypes := #[25, 25] })
    (base : Nat) (ad : Option Addr) (k c : Nat) (ps : List (Nat × Nat)) (hk : ps.length = k) (hs : a.eval s = .slice ad k c) (hown : FnR 51 w base (.slice ad k c) ps) (i j : Nat) (T : TypeId) (hxe : a.eval x = .slice (some ⟨w.heap.size, 0, none⟩) 1 1)
    (hr : k ≤ 1000000) (hb : base ≤ w.heap.size)
    (h : ∀ ad' c' w', FnR 51 w' base (.slice ad' (k + 1) c') (ps ++ [(i, j)]) → Below base w w' → wpList Try.prog ops Q rest (a.put o.dst (.slice ad' (k + 1) c')) w') :
    wpList Try.prog ops Q (o :: rest) a (w.alloc (.cells #[.int .i64 (i : Int), .int .i64 (j : Int)] T)) := by
  subst hk
  refine wpList_app_rows hgd s x ho Try.underlying25 infoFnP rfl (by omega) base ad ps.length c (prV ps) hs (World.ownsRow.alloc hown _) (some ⟨w.heap.size, 0, none⟩) 1 1 _ _ _ hxe (rw_pair w _ _ T) (fun e => by cases e)
    (fun i j _ hj => by rcases (by omega : j = 0 ∨ j = 1) with e | e <;> subst e <;> rfl) (by unfold maxLen; omega) (by omega) (by simp; omega) ?_
  intro ad' c' w' h1 h2
  refine h ad' c' w' ?_ ?_
  · unfold FnR
    rw [prV_snoc, List.length_append]
    exact h1
  · exact ((Below.refl base w).alloc hb _).grown h2 (by simp; omega) (fun k hk => (hown.lt k hk).1)
theorem infoFnR : (Try.prog.info? 63).map (fun i => (i.zero, i.size, i.bytes)) = some (some (.agg #[.int .i64 0, .int .i64 0]), 2, 16) := by kernel_rfl
theorem appFindR {ops : Array Oper} {rest : List Oper} {o : Oper} {a : Act} {Q : Exit → Act → World → Prop} {w : World} (hgd : o.guard = none) (s x : Operand) (ho : o.op = .call { callee := .builtin .append, args := #[s, x], argTypes := #[31, 31] })
    (base : Nat) (ad : Option Addr) (k c : Nat) (ps : List (Nat × Nat)) (hk : ps.length = k) (hs : a.eval s = .slice ad k c) (hown : FnR 63 w base (.slice ad k c) ps) (i j : Nat) (T : TypeId) (hxe : a.eval x = .slice (some ⟨w.heap.size, 0, none⟩) 1 1)
    (hr : k ≤ 1000000) (hb : base ≤ w.heap.size)
    (h : ∀ ad' c' w', FnR 63 w' base (.slice ad' (k + 1) c') (ps ++ [(i, j)]) → Below base w w' → wpList Try.prog ops Q rest (a.put o.dst (.slice ad' (k + 1) c')) w') :
    wpList Try.prog ops Q (o :: rest) a (w.alloc (.cells #[.int .i64 (i : Int), .int .i64 (j : Int)] T)) := by
  subst hk
  refine wpList_app_rows hgd s x ho Try.underlying31 infoFnR rfl (by omega) base ad ps.length c (prV ps) hs (World.ownsRow.alloc hown _) (some ⟨w.heap.size, 0, none⟩) 1 1 _ _ _ hxe (rw_pair w _ _ T) (fun e => by cases e)
    (fun i j _ hj => by rcases (by omega : j = 0 ∨ j = 1) with e | e <;> subst e <;> rfl) (by unfold maxLen; omega) (by omega) (by simp; omega) ?_
  intro ad' c' w' h1 h2
  refine h ad' c' w' ?_ ?_
  · unfold FnR
    rw [prV_snoc, List.length_append]
    exact h1
  · exact ((Below.refl base w).alloc hb _).grown h2 (by simp; omega) (fun k hk => (hown.lt k hk).1)
/-- the findings at a term -/
def oneF (a b : Bool) (i : Nat) : List (Nat × Nat) := (if a then [(1, i)] else []) ++ (if b then [(2, i)] else [])
/-- the findings -/
def chkF (m w : Nat → Bool) (n : Nat) : List (Nat × Nat) := (List.range n).flatMap fun i => oneF (m i) (w i) i
theorem chkF_succ (m w : Nat → Bool) (n : Nat) : chkF m w (n + 1) = chkF m w n ++ oneF (m n) (w n) n := by
  unfold chkF
  rw [List.range_succ, List.flatMap_append]
  simp
theorem chkF_len (m w : Nat → Bool) : ∀ n, (chkF m w n).length ≤ 2 * n
  | 0 => Nat.le_refl _
  | n + 1 => by
    rw [chkF_succ, List.length_append]
    have := chkF_len m w n
    have : (oneF (m n) (w n) n).length ≤ 2 := by unfold oneF; cases m n <;> cases w n <;> simp
    omega
/-- the counts of the sources, of the targets -/
def cntS (ts : List Tm) (s : ByteArray) : ByteArray → Nat := cntV ((ts.map (·.s)).map keyB) (findL ((ts.map (·.s)).map wordsB) (wordsB s))
def cntT (ts : List Tm) (s : ByteArray) : ByteArray → Nat := cntV ((ts.map (·.t)).map keyB) (findL ((ts.map (·.t)).map wordsB) (wordsB s))
/-- the program's findings -/
def pfindings (ts : List Tm) (source target : ByteArray) : List (Nat × Nat) := chkF (missV ts (cntS ts source) (cntT ts target)) (wrongV ts (cntS ts source) (cntT ts target)) ts.length
theorem cnt_small (keys : List ByteArray) (lists : List (List ByteArray)) (s t : ByteArray) (hs : s.size ≤ 1000000) : cntV keys (findL lists (wordsB s)) t ≤ 1000001 :=
  Nat.le_trans (cntV_le _ _ _) (Nat.le_trans (findV_len _ _) (Nat.le_trans (wordsB_le s) (by omega)))
set_option maxRecDepth 100000 in
set_option maxHeartbeats 8000000 in
theorem check_second (ts : List Tm) (source target : ByteArray) (ad : Option Addr) (n c : Nat) (w wr : World) (v1 v2 : Value) (u3 u4 u5 u6 u7 u10 u11 u12 u13 u14 u15 u16 u17 u18 u19 u20 u21 u22 u23 u24 u25 u26 u27 u28 u29 u30 u31 u32 u33 u34 u35 u36 u37 u38 u39 u40 u41 u42 u43 u44 u45 u46 u47 u48 u49 u50 u51 u52 u53 u54 u55 u56 u57 u58 u59 u60 u61 u62 u63 u64 u65 u66 u67 u68 u69 u70 u71 u72 u73 u74 u75 : Value) (RR : Ending → World → Prop) (ht : TmAt w ad n ts) (hn : n ≤ 40) (hz : ∀ x ∈ ts, x.s.size ≤ 100000 ∧ x.t.size ≤ 100000)
    (hs : source.size ≤ 20000) (ht2 : target.size ≤ 20000) (htw : Two wr w.heap.size v1 (ts.map (·.s)) v2 (ts.map (·.t))) (hbl : Below w.heap.size w wr)
    (hend : ∀ ad' c' w', FnR 51 w' w.heap.size (.slice ad' (pfindings ts source target).length c') (pfindings ts source target) → Below w.heap.size w w' → RR (.returned (.tuple #[.slice ad' (pfindings ts source target).length c', .int .i64 0])) w') :
    (chkC 11).wp Try.prog (bodyPost Try.prog Try.f10 RR) ⟨#[.slice ad n c, .string source, .string target, u3, u4, u5, u6, u7, v1, v2, u10, u11, u12, u13, u14, u15, u16, u17, u18, u19, u20, u21, u22, u23, u24, u25, u26, u27, u28, u29, u30, u31, u32, u33, u34, u35, u36, u37, u38, u39, u40, u41, u42, u43, u44, u45, u46, u47, u48, u49, u50, u51, u52, u53, u54, u55, u56, u57, u58, u59, u60, u61, u62, u63, u64, u65, u66, u67, u68, u69, u70, u71, u72, u73, u74, u75], []⟩ wr := by
  have HT := Lib.hid ht
  have HL := Lib.hid ht.1
  have HZ := Lib.hid hz
  have HBR := Lib.hid hbl
  have HEND := Lib.hid hend
  obtain ⟨a1, c1, rfl⟩ := htw.r1.form
  obtain ⟨a2, c2, rfl⟩ := htw.r2.form
  rw [List.length_map, ht.1] at htw ⊢
  rw [List.length_map, ht.1]
  have HS1 : Hid (Sl wr a1 n (strs (ts.map (·.s)))) := Own.sl (by have := htw.r1; unfold StrR at this; rwa [List.length_map, ht.1] at this)
  have HS2 : Hid (Sl wr a2 n (strs (ts.map (·.t)))) := Own.sl (by have := htw.r2; unfold StrR at this; rwa [List.length_map, ht.1] at this)
  have HC1 := Lib.hid (fun W (h : Sl W a1 n (strs (ts.map (·.s)))) => counts_any (ts.map (·.s)) a1 n c1 source W h hn (fun s h => by obtain ⟨x, hx, rfl⟩ := List.mem_map.1 h; have := (hz x hx).1; omega) (by omega))
  have HC2 := Lib.hid (fun W (h : Sl W a2 n (strs (ts.map (·.t)))) => counts_any (ts.map (·.t)) a2 n c2 target W h hn (fun s h => by obtain ⟨x, hx, rfl⟩ := List.mem_map.1 h; have := (hz x hx).2; omega) (by omega))
  have hcs : ∀ t, cntS ts source t ≤ 1000001 := fun t => cnt_small _ _ _ _ (by omega)
  have hct : ∀ t, cntT ts target t ≤ 1000001 := fun t => cnt_small _ _ _ _ (by omega)
  have HPF : Hid (pfindings ts source target = chkF (missV ts (cntS ts source) (cntT ts target)) (wrongV ts (cntS ts source) (cntT ts target)) n) := by rw [← ht.1]; rfl
  change Hid (∀ W (h : Sl W a1 n (strs (ts.map (·.s)))), Calls _ _ _ _ fun e w' => ∃ M m, e = _ ∧ _ ∧ CntAt w' M m (cntS ts source) ∧ _) at HC1
  change Hid (∀ W (h : Sl W a2 n (strs (ts.map (·.t)))), Calls _ _ _ _ fun e w' => ∃ M m, e = _ ∧ _ ∧ CntAt w' M m (cntT ts target) ∧ _) at HC2
  clear ht hz hbl hend htw hs ht2
  generalize cntS ts source = cs at *
  generalize cntT ts target = ct at *
  have HM := Lib.hid (fun M1 m1 M2 m2 i W (h : TmAt W ad n ts) hi h1 h2 => missing_any ts cs ct ad n c M1 m1 M2 m2 i W h (by omega) hi HZ.out h1 h2 hcs hct)
  have HW := Lib.hid (fun M1 m1 M2 m2 i W (h : TmAt W ad n ts) hi h1 h2 => wrong_any ts cs ct ad n c M1 m1 M2 m2 i W h (by omega) hi HZ.out h1 h2 hcs hct)
  clear hcs hct
  rw [HPF.out] at HEND
  clear HPF
  generalize hmv : missV ts cs ct = mv at *
  generalize hwv : wrongV ts cs ct = wv at *
  clear hmv hwv
  unfold chkC
  dsimp only
  conv => arg 2; whnf
  go_wp2_with fail
  refine (HC1.out _ HS1.out).mono ?_
  rintro e w2 ⟨M1, m1, rfl, hM1, hcn1, hb⟩
  have HB2 := Lib.hid (HBR.out.trans (hb.mono HBR.out.size))
  have HN1 := Lib.hid hcn1
  have HS2 := Lib.hid (HS2.out.below hb)
  clear hcn1 hM1 hb HBR HC1 HS1
  go_wp2_with fail
  refine (HC2.out _ HS2.out).mono ?_
  rintro e w3 ⟨M2, m2, rfl, hM2, hcn2, hb⟩
  have HB3 := Lib.hid (HB2.out.trans (hb.mono HB2.out.size))
  have HN1 := Lib.hid (HN1.out.below hb)
  have HN2 := Lib.hid hcn2
  clear hcn2 hM2 hb HB2 HC2 HS2
  have hzs := HB3.out.size
  go_upto_region 12 with (fail)
  have hbk : Below w3.heap.size w3 (w3.alloc (.cells #[.slice ad n c, .map (some M1), .map (some M2)] 57)) := Bel.alloc (Bel.refl w3) _
  have HB4 := Lib.hid (HB3.out.trans (hbk.mono HB3.out.size))
  have HN1 := Lib.hid (HN1.out.below hbk)
  have HN2 := Lib.hid (HN2.out.below hbk)
  have HX : Hid ((w3.alloc (.cells #[.slice ad n c, .map (some M1), .map (some M2)] 57)).heap[w3.heap.size]? = some (.cells #[.slice ad n c, .map (some M1), .map (some M2)] 57 (0, 0))) := heap_alloc_new w3 _
  have HT4 := Lib.hid (HT.out.below HB4.out)
  generalize w3.alloc (.cells #[.slice ad n c, .map (some M1), .map (some M2)] 57) = w4 at *
  obtain ⟨B, hB⟩ : ∃ B, w3.heap.size = B := ⟨_, rfl⟩
  rw [hB] at HX ⊢
  clear hbk hB HB3 hzs HT
  go_wp2_with fail
  go_loopw [13, 55] (fun r u wr => ∃ (i : Nat) (ad' : Option Addr) (c' : Nat), u = .int .i64 (i : Int) ∧ r = .slice ad' (chkF mv wv i).length c' ∧ i ≤ n ∧ FnR 51 wr w4.heap.size (.slice ad' (chkF mv wv i).length c') (chkF mv wv i) ∧ Below w4.heap.size w4 wr) (fun _ u _ => n - (intOf u).toNat)
  case atStart => exact ⟨0, _, _, rfl, rfl, Nat.zero_le _, ⟨rfl, .inl ⟨rfl, rfl⟩⟩, Below.refl _ _⟩
  case round =>
    obtain ⟨i, ad', c', rfl, rfl, hin, hfn, hbl⟩ := hrel
    have HFN := Lib.hid hfn
    have HB := Lib.hid hbl
    clear hfn hbl
    have hcl := chkF_len mv wv i
    have HSU := Lib.hid (chkF_succ mv wv i)
    by_cases hlt : i < n
    · have hlz : (i : Int) < (n : Int) := by omega
      have HX1 : Hid (wr.heap[B]? = some (.cells #[.slice ad n c, .map (some M1), .map (some M2)] 57 (0, 0))) := (HB.out.block _ (Array.getElem?_eq_some_iff.1 HX.out).1).trans HX.out
      have x0 := row_cells HX1.out 0
      have x1 := row_cells HX1.out 1
      have x2 := row_cells HX1.out 2
      generalize chkF mv wv i = fs at *
      obtain ⟨N, hN⟩ : ∃ N, fs.length = N := ⟨_, rfl⟩
      rw [hN] at HFN hcl ⊢
      have HNE := Lib.hid hN
      clear hN
      go_wp2_with fail
      refine (HM.out M1 m1 M2 m2 i _ (HT4.out.below HB.out) hlt (HN1.out.below HB.out) (HN2.out.below HB.out)).mono ?_
      rintro e w5 ⟨rfl, hb⟩
      have HB5 := Lib.hid (HB.out.trans (hb.mono HB.out.size))
      have HFN5 := Lib.hid (HFN.out.below hb)
      have HX5 := Lib.hid ((hb.block _ (Array.getElem?_eq_some_iff.1 HX1.out).1).trans HX1.out)
      clear hb HB HFN HX1 x0 x1 x2
      have hz5 := HB5.out.size
      generalize mv i = bm at *
      cases bm with
      | false =>
        have HX6 : Hid (_ = _) := ((HB5.out.block _ (Array.getElem?_eq_some_iff.1 HX.out).1).trans HX.out : _ = some (.cells #[.slice ad n c, .map (some M1), .map (some M2)] 57 (0, 0)))
        have x0 := row_cells HX6.out 0
        have x1 := row_cells HX6.out 1
        have x2 := row_cells HX6.out 2
        go_wp2_with fail
        refine (HW.out M1 m1 M2 m2 i _ (HT4.out.below HB5.out) hlt (HN1.out.below HB5.out) (HN2.out.below HB5.out)).mono ?_
        rintro e w8 ⟨rfl, hb⟩
        have HB8 := Lib.hid (HB5.out.trans (hb.mono HB5.out.size))
        have HFN8 := Lib.hid (HFN5.out.below hb)
        clear hb HX6 x0 x1 x2
        generalize wv i = bw at *
        cases bw with
        | false =>
          have HSE : Hid (chkF mv wv (i + 1) = fs) := by unfold Hid; rw [HSU.out]; simp [oneF]
          have HLE : Hid ((fs).length = N) := by unfold Hid; simp [HNE.out]
          go_wp2_with fail
          go_roundw
          case rel => exact ⟨i + 1, _, _, by go_num, by rw [HSE.out, HLE.out], by omega, by rw [HSE.out, HLE.out]; exact HFN8.out, HB8.out⟩
          case measure => simp [intOf]; omega
        | true =>
          have HLE : Hid ((fs).length = N) := by unfold Hid; simp [HNE.out]
          have HSE : Hid (chkF mv wv (i + 1) = (fs) ++ [(2, i)]) := by unfold Hid; rw [HSU.out]; simp [oneF]
          have HLE2 : Hid (((fs) ++ [(2, i)]).length = N + 1) := by rw [Hid, List.length_append, HLE.out]; rfl
          go_wp2_with (at_builtin; refine appFindP rfl _ _ rfl w4.heap.size _ _ _ (fs) HLE.out rfl HFN8.out 2 i _ rfl (by omega) HB8.out.size ?_; intro ad9 c9 w9 hf9 hb9; have HFN9 := Lib.hid hf9; have HB9 : Hid (Below w4.heap.size w4 w9) := HB8.out.trans hb9; clear hf9 hb9)
          go_roundw
          case rel => exact ⟨i + 1, _, _, by go_num, by rw [HSE.out, HLE2.out], by omega, by rw [HSE.out, HLE2.out]; exact HFN9.out, HB9.out⟩
          case measure => simp [intOf]; omega
      | true =>
        go_upto_region 18 with (at_builtin; refine appFindP rfl _ _ rfl w4.heap.size _ _ _ (fs) HNE.out rfl HFN5.out 1 i _ rfl (by omega) HB5.out.size ?_; intro ad7 c7 w7 hf7 hb7; have HFN7 := Lib.hid hf7; have HB7 : Hid (Below w4.heap.size w4 w7) := HB5.out.trans hb7; clear hf7 hb7)
        have HX6 : Hid (_ = _) := ((HB7.out.block _ (Array.getElem?_eq_some_iff.1 HX.out).1).trans HX.out : _ = some (.cells #[.slice ad n c, .map (some M1), .map (some M2)] 57 (0, 0)))
        have x0 := row_cells HX6.out 0
        have x1 := row_cells HX6.out 1
        have x2 := row_cells HX6.out 2
        go_wp2_with fail
        refine (HW.out M1 m1 M2 m2 i _ (HT4.out.below HB7.out) hlt (HN1.out.below HB7.out) (HN2.out.below HB7.out)).mono ?_
        rintro e w8 ⟨rfl, hb⟩
        have HB8 := Lib.hid (HB7.out.trans (hb.mono HB7.out.size))
        have HFN8 := Lib.hid (HFN7.out.below hb)
        clear hb HX6 x0 x1 x2
        generalize wv i = bw at *
        cases bw with
        | false =>
          have HSE : Hid (chkF mv wv (i + 1) = fs ++ [(1, i)]) := by unfold Hid; rw [HSU.out]; simp [oneF]
          have HLE : Hid ((fs ++ [(1, i)]).length = (N + 1)) := by unfold Hid; simp [HNE.out]
          go_wp2_with fail
          go_roundw
          case rel => exact ⟨i + 1, _, _, by go_num, by rw [HSE.out, HLE.out], by omega, by rw [HSE.out, HLE.out]; exact HFN8.out, HB8.out⟩
          case measure => simp [intOf]; omega
        | true =>
          have HLE : Hid ((fs ++ [(1, i)]).length = (N + 1)) := by unfold Hid; simp [HNE.out]
          have HSE : Hid (chkF mv wv (i + 1) = (fs ++ [(1, i)]) ++ [(2, i)]) := by unfold Hid; rw [HSU.out]; simp [oneF]
          have HLE2 : Hid (((fs ++ [(1, i)]) ++ [(2, i)]).length = (N + 1) + 1) := by rw [Hid, List.length_append, HLE.out]; rfl
          go_wp2_with (at_builtin; refine appFindP rfl _ _ rfl w4.heap.size _ _ _ (fs ++ [(1, i)]) HLE.out rfl HFN8.out 2 i _ rfl (by omega) HB8.out.size ?_; intro ad9 c9 w9 hf9 hb9; have HFN9 := Lib.hid hf9; have HB9 : Hid (Below w4.heap.size w4 w9) := HB8.out.trans hb9; clear hf9 hb9)
          go_roundw
          case rel => exact ⟨i + 1, _, _, by go_num, by rw [HSE.out, HLE2.out], by omega, by rw [HSE.out, HLE2.out]; exact HFN9.out, HB9.out⟩
          case measure => simp [intOf]; omega
    · obtain rfl : i = n := by omega
      go_wp2_with fail
      exact HEND.out _ _ _ (FnR.rebase HFN.out HB4.out.size) (HB4.out.trans (HB.out.mono HB4.out.size))
end Go.Proofs.Ytkodnagneblgaaa
/- Walks: Check by the program, whole. -/
namespace Go.Proofs.Ytkodnagneblgaaa
open Go.RowKit Go.Maps Go.Sort
/-- the error -/
def errV (ts : List Tm) (source target : ByteArray) : Int := if validT ts = true then (if 20000 < source.size ∨ 20000 < target.size then 6 else 0) else 1
def resV (ts : List Tm) (source target : ByteArray) (fs : List (Nat × Nat)) : List (Nat × Nat) := if validT ts = true then (if 20000 < source.size ∨ 20000 < target.size then [] else fs) else []
/-- what Check answers -/
def ChkPost (E : TypeId) (er : Int) (fs : List (Nat × Nat)) (w : World) (e : Ending) (w' : World) : Prop :=
  ∃ ad' c', e = .returned (.tuple #[.slice ad' fs.length c', .int .i64 er]) ∧ FnR E w' w.heap.size (.slice ad' fs.length c') fs ∧ Below w.heap.size w w'
theorem pcheck_any (ts : List Tm) (source target : ByteArray) (ad : Option Addr) (n c : Nat) (w : World) (ht : TmAt w ad n ts) (hn : n ≤ 40) (hz : ∀ x ∈ ts, x.s.size ≤ 100000 ∧ x.t.size ≤ 100000) :
    Calls Try.prog 10 #[.slice ad n c, .string source, .string target] w (ChkPost 51 (errV ts source target) (resV ts source target (pfindings ts source target)) w) := by
  refine check_first ts source target ad n c w _ ht (by omega) hz ?_ ?_ ?_
  · intro w' hv hb
    have e1 : errV ts source target = 1 := by unfold errV; rw [if_neg (by rw [hv]; decide)]
    have e2 : resV ts source target (pfindings ts source target) = [] := by unfold resV; rw [if_neg (by rw [hv]; decide)]
    rw [e1, e2]
    exact ⟨none, 0, rfl, ⟨rfl, .inl ⟨rfl, rfl⟩⟩, hb⟩
  · intro w' hv hl hb
    have e1 : errV ts source target = 6 := by unfold errV; rw [if_pos hv, if_pos hl]
    have e2 : resV ts source target (pfindings ts source target) = [] := by unfold resV; rw [if_pos hv, if_pos hl]
    rw [e1, e2]
    exact ⟨none, 0, rfl, ⟨rfl, .inl ⟨rfl, rfl⟩⟩, hb⟩
  · intro wr v1 v2
    intros
    rename_i hv h1 h2 htw hb
    have e1 : errV ts source target = 0 := by unfold errV; rw [if_pos hv, if_neg (by omega)]
    have e2 : resV ts source target (pfindings ts source target) = pfindings ts source target := by unfold resV; rw [if_pos hv, if_neg (by omega)]
    rw [e1, e2]
    exact check_second ts source target ad n c w wr _ _ _ _ _ _ _ _ _ _ _ _ _ _ _ _ _ _ _ _ _ _ _ _ _ _ _ _ _ _ _ _ _ _ _ _ _ _ _ _ _ _ _ _ _ _ _ _ _ _ _ _ _ _ _ _ _ _ _ _ _ _ _ _ _ _ _ _ _ _ _ _ _ _ ht hn hz h1 h2 htw hb (fun ad' c' w' g1 g2 => ⟨ad', c', rfl, g1, g2⟩)
end Go.Proofs.Ytkodnagneblgaaa
