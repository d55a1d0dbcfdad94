/- Walks: Check by the program, up to the counts. -/
import Derived.Test.YtkodnagneblgaaaQ13
namespace Go.Proofs.Ytkodnagneblgaaa
open Go.RowKit Go.Maps Go.Sort
attribute [local go_sem] Ext.cell Ext.frozen
attribute [local go_sem ↓] Go.wp_at_zero Go.wp_at_succ
noncomputable def chkC (n : Nat) : Code := fromReg n ((Try.f10.body).getD .skip)
theorem map_take_succ {β : Type} (f : Tm → β) (ts : List Tm) (i : Nat) (hi : i < ts.length) : (ts.take (i + 1)).map f = (ts.take i).map f ++ [f (ts.getD i tm0)] := by
  have hg : ts.getD i tm0 = ts[i] := by rw [List.getD_eq_getElem?_getD, List.getElem?_eq_getElem hi]; rfl
  rw [List.take_add_one, List.getElem?_eq_getElem hi, hg, Option.toList_some, List.map_append]
  rfl
set_option maxRecDepth 100000 in
set_option maxHeartbeats 8000000 in
theorem check_first (ts : List Tm) (source target : ByteArray) (ad : Option Addr) (n c : Nat) (w : World) (RR : Ending → World → Prop) (ht : TmAt w ad n ts) (hn : n ≤ 1000) (hz : ∀ x ∈ ts, x.s.size ≤ 100000 ∧ x.t.size ≤ 100000)
    (hbad : ∀ w', validT ts = false → Below w.heap.size w w' → RR (.returned (.tuple #[.slice none 0 0, .int .i64 1])) w')
    (hlong : ∀ w', validT ts = true → (20000 < source.size ∨ 20000 < target.size) → Below w.heap.size w w' → RR (.returned (.tuple #[.slice none 0 0, .int .i64 6])) w')
    (hnext : ∀ (wr : World) (v1 v2 : Value) (u3 u4 u5 u6 u7 u10 u11 u12 u13 u14 u15 u16 u17 u18 u19 u20 u21 u22 u23 u24 u25 u26 u27 u28 u29 u30 u31 u32 u33 u34 u35 u36 u37 u38 u39 u40 u41 u42 u43 u44 u45 u46 u47 u48 u49 u50 u51 u52 u53 u54 u55 u56 u57 u58 u59 u60 u61 u62 u63 u64 u65 u66 u67 u68 u69 u70 u71 u72 u73 u74 u75 : Value), validT ts = true → source.size ≤ 20000 → target.size ≤ 20000 → Two wr w.heap.size v1 (ts.map (·.s)) v2 (ts.map (·.t)) → Below w.heap.size w wr →
      (chkC 11).wp Try.prog (bodyPost Try.prog Try.f10 RR) ⟨#[.slice ad n c, .string source, .string target, u3, u4, u5, u6, u7, v1, v2, u10, u11, u12, u13, u14, u15, u16, u17, u18, u19, u20, u21, u22, u23, u24, u25, u26, u27, u28, u29, u30, u31, u32, u33, u34, u35, u36, u37, u38, u39, u40, u41, u42, u43, u44, u45, u46, u47, u48, u49, u50, u51, u52, u53, u54, u55, u56, u57, u58, u59, u60, u61, u62, u63, u64, u65, u66, u67, u68, u69, u70, u71, u72, u73, u74, u75], []⟩ wr) :
    Calls Try.prog 10 #[.slice ad n c, .string source, .string target] w RR := by
  have HT := Lib.hid ht
  have HL := Lib.hid ht.1
  have HZ := Lib.hid hz
  have HN := Lib.hid hnext
  have HBAD := Lib.hid hbad
  have HLONG := Lib.hid hlong
  have HV := Lib.hid (pvalid_any ts ad n c w ht hn hz)
  clear ht hz hnext hbad hlong
  generalize hvt : validT ts = vt at *
  clear hvt
  go_enter Try.func10, Try.ntmps10
  go_wp2_with fail
  refine HV.out.mono ?_
  rintro e w1 ⟨rfl, hb⟩
  have HB1 := Lib.hid hb
  clear hb HV
  cases vt with
  | false =>
    go_wp2_with fail
    exact HBAD.out _ (by trivial) HB1.out
  | true =>
    by_cases h1 : 20000 < source.size
    · have h1z : (20000 : Int) < (source.size : Int) := by omega
      have h1d : decide ((20000 : Int) < (source.size : Int)) = true := decide_eq_true h1z
      go_wp2_with fail
      exact HLONG.out _ (by trivial) (.inl h1) HB1.out
    · have h1z : ¬ (20000 : Int) < (source.size : Int) := by omega
      have h1d : decide ((20000 : Int) < (source.size : Int)) = false := decide_eq_false h1z
      by_cases h2 : 20000 < target.size
      · have h2z : (20000 : Int) < (target.size : Int) := by omega
        have h2d : decide ((20000 : Int) < (target.size : Int)) = true := decide_eq_true h2z
        go_wp2_with fail
        exact HLONG.out _ (by trivial) (.inr h2) HB1.out
      · have h2z : ¬ (20000 : Int) < (target.size : Int) := by omega
        have h2d : decide ((20000 : Int) < (target.size : Int)) = false := decide_eq_false h2z
        have HN2 := Lib.hid (fun (wr : World) (v1 v2 : Value) (u3 u4 u5 u6 u7 u10 u11 u12 u13 u14 u15 u16 u17 u18 u19 u20 u21 u22 u23 u24 u25 u26 u27 u28 u29 u30 u31 u32 u33 u34 u35 u36 u37 u38 u39 u40 u41 u42 u43 u44 u45 u46 u47 u48 u49 u50 u51 u52 u53 u54 u55 u56 u57 u58 u59 u60 u61 u62 u63 u64 u65 u66 u67 u68 u69 u70 u71 u72 u73 u74 u75 : Value) => HN.out wr v1 v2 u3 u4 u5 u6 u7 u10 u11 u12 u13 u14 u15 u16 u17 u18 u19 u20 u21 u22 u23 u24 u25 u26 u27 u28 u29 u30 u31 u32 u33 u34 u35 u36 u37 u38 u39 u40 u41 u42 u43 u44 u45 u46 u47 u48 u49 u50 u51 u52 u53 u54 u55 u56 u57 u58 u59 u60 u61 u62 u63 u64 u65 u66 u67 u68 u69 u70 u71 u72 u73 u74 u75 rfl (by omega) (by omega))
        clear HN HBAD HLONG
        go_wp2_with fail
        rename_i K9 hK9
        have HK9 := Lib.hid hK9
        clear hK9 h1z h1d h2z h2d h1 h2
        have HT0 := Lib.hid (Two.start w1 w.heap.size)
        go_loopw [8, 9, 30] (fun r1 r2 u wr => ∃ (i : Nat) (v1 v2 : Value), u = .int .i64 (i : Int) ∧ v1 = r1 ∧ v2 = r2 ∧ i ≤ n ∧ Two wr w.heap.size v1 ((ts.take i).map (·.s)) v2 ((ts.take i).map (·.t)) ∧ Below w.heap.size w wr) (fun _ _ u _ => n - (intOf u).toNat)
        case atStart => exact ⟨0, _, _, rfl, rfl, rfl, Nat.zero_le _, HT0.out, HB1.out⟩
        case round =>
          obtain ⟨i, v1, v2, rfl, hr1, hr2, hin, htw, hbl⟩ := hrel
          subst hr1
          subst hr2
          have HTR := Lib.hid htw
          have HBR := Lib.hid hbl
          have hzr := hbl.size
          clear htw hbl HT0 HB1
          by_cases hlt : i < n
          · obtain ⟨_, tb, tq, hrw⟩ := HT.out.below HBR.out
            have hix := fun W => hrw.ix 29 53 Try.underlying29 cellsTm (by omega) hlt c W
            have h0 := hrw.cell i 0 hlt (by omega)
            have h1 := hrw.cell i 1 hlt (by omega)
            have h2 := hrw.cell i 2 hlt (by omega)
            rw [Nat.add_zero] at h0
            simp only [tmC] at h0 h1 h2
            have HTK1 := Lib.hid (map_take_succ (·.s) ts i (by rw [HL.out]; exact hlt))
            have HTK2 := Lib.hid (map_take_succ (·.t) ts i (by rw [HL.out]; exact hlt))
            have HLX : Hid (((ts.take i).map (·.s)).length ≤ 100000) := by rw [Hid, List.length_map, List.length_take]; omega
            have HLY : Hid (((ts.take i).map (·.t)).length ≤ 100000) := by rw [Hid, List.length_map, List.length_take]; omega
            have hlz : (i : Int) < (n : Int) := by omega
            clear hrw
            generalize (ts.take i).map (·.s) = xs at *
            generalize (ts.take i).map (·.t) = ys at *
            generalize ts.getD i tm0 = x at *
            obtain ⟨s, t, f⟩ := x
            simp only at h0 h1 h2 HTK1 HTK2
            go_upto_region 9 with (fail)
            have HBW : Hid (Below w.heap.size w (wr.alloc (.cells #[.string s, .string t, .bool f] 53))) := HBR.out.alloc hzr _
            have hbk : Below wr.heap.size wr (wr.alloc (.cells #[.string s, .string t, .bool f] 53)) := Bel.alloc (Bel.refl wr) _
            have HTW := Lib.hid (HTR.out.below hbk)
            have HX : Hid ((wr.alloc (.cells #[.string s, .string t, .bool f] 53)).heap[wr.heap.size]? = some (.cells #[.string s, .string t, .bool f] 53 (0, 0))) := heap_alloc_new wr _
            have hne1 : v1.ownBlock ≠ some wr.heap.size := Two.far HTR.out (Nat.le_refl _)
            have hne2 : v2.ownBlock ≠ some wr.heap.size := Two.far HTR.out.swap (Nat.le_refl _)
            generalize wr.alloc (.cells #[.string s, .string t, .bool f] 53) = w3 at *
            obtain ⟨B, hB⟩ : ∃ B, wr.heap.size = B := ⟨_, rfl⟩
            rw [hB] at HX hne1 hne2 ⊢
            have HBS : w.heap.size ≤ w.heap.size := Nat.le_refl _
            have u1 : w3.drew.cell? ⟨B, 0, none⟩ = some (.string s) := row_cells HX.out 0
            have u2 : w3.drew.cell? ⟨B, 1, none⟩ = some (.string t) := row_cells HX.out 1
            clear hbk hB HBR HTR hzr h0 h1 h2 hix HX
            refine wp_region_until 11 (fun w' => w'.cell? ⟨B, 0, none⟩ = some (.string s) ∧ w'.cell? ⟨B, 1, none⟩ = some (.string t)) (by kernel_rfl) ⟨u1, u2⟩ (fun hS0 => ?_)
            have p0T := HTW.out.below (Bel.drew (Bel.refl w3))
            have p0B : Below w.heap.size w w3.drew := Below.drew HBW.out
            have p0c1 := u1
            have p0c2 := u2
            have p0v1 : True := trivial
            refine wpAnyG_take (i := 0) (v := ?_) rfl (by kernel_rfl) (by kernel_rfl) (by kernel_rfl) (fun _ _ _ h => h) (by kernel_rfl) (by decide) (by kernel_rfl) (Or.inl ⟨by kernel_rfl, ?_⟩) hS0 ?_
            rotate_left
            · (intro wx hSw; obtain ⟨t1, t2⟩ := hSw; go_simp; try with_reducible rfl)
            try simp only [Act.put, List.getElem_toArray, List.getElem_cons_zero, List.setIfInBounds_toArray, List.set_cons_zero, List.set_cons_succ]
            refine wpAnyG_take (i := 1) (v := ?_) rfl (by kernel_rfl) (by kernel_rfl) (by kernel_rfl) (fun _ _ _ h => h) (by kernel_rfl) (by decide) (by kernel_rfl) (Or.inl ⟨by kernel_rfl, ?_⟩) hS0 ?_
            rotate_left
            · (intro wx hSw; obtain ⟨t1, t2⟩ := hSw; go_simp; try with_reducible rfl)
            try simp only [Act.put, List.getElem_toArray, List.getElem_cons_succ, List.getElem_cons_zero, List.setIfInBounds_toArray, List.set_cons_zero, List.set_cons_succ]
            refine wpAnyG_take (i := 2) (v := ?_) rfl (by kernel_rfl) (by kernel_rfl) (by kernel_rfl) (fun _ _ _ h => h) (by kernel_rfl) (by decide) (by kernel_rfl) (Or.inl ⟨by kernel_rfl, ?_⟩) hS0 ?_
            rotate_left
            · (intro wx hSw; obtain ⟨t1, t2⟩ := hSw; go_simp; try with_reducible rfl)
            try simp only [Act.put, List.getElem_toArray, List.getElem_cons_succ, List.getElem_cons_zero, List.setIfInBounds_toArray, List.set_cons_zero, List.set_cons_succ]
            refine wpAnyG_take (i := 5) (v := ?_) rfl (by kernel_rfl) (by kernel_rfl) (by kernel_rfl) (fun _ _ _ h => h) (by kernel_rfl) (by decide) (by kernel_rfl) (Or.inl ⟨by kernel_rfl, ?_⟩) hS0 ?_
            rotate_left
            · (intro wx hSw; obtain ⟨t1, t2⟩ := hSw; go_simp; try with_reducible rfl)
            try simp only [Act.put, List.getElem_toArray, List.getElem_cons_succ, List.getElem_cons_zero, List.setIfInBounds_toArray, List.set_cons_zero, List.set_cons_succ]
            refine wpAnyG_take (i := 6) (v := ?_) rfl (by kernel_rfl) (by kernel_rfl) (by kernel_rfl) (fun _ _ _ h => h) (by kernel_rfl) (by decide) (by kernel_rfl) (Or.inl ⟨by kernel_rfl, ?_⟩) hS0 ?_
            rotate_left
            · (intro wx hSw; obtain ⟨t1, t2⟩ := hSw; go_simp; try with_reducible rfl)
            try simp only [Act.put, List.getElem_toArray, List.getElem_cons_succ, List.getElem_cons_zero, List.setIfInBounds_toArray, List.set_cons_zero, List.set_cons_succ]
            refine wpAnyG_take (i := 7) (v := ?_) rfl (by kernel_rfl) (by kernel_rfl) (by kernel_rfl) (fun _ _ _ h => h) (by kernel_rfl) (by decide) (by kernel_rfl) (Or.inl ⟨by kernel_rfl, ?_⟩) hS0 ?_
            rotate_left
            · (intro wx hSw; obtain ⟨t1, t2⟩ := hSw; go_simp; try with_reducible rfl)
            try simp only [Act.put, List.getElem_toArray, List.getElem_cons_succ, List.getElem_cons_zero, List.setIfInBounds_toArray, List.set_cons_zero, List.set_cons_succ]
            generalize w3.drew = p0 at *
            refine wpAnyG_ready (rs := [3, 8]) (by kernel_rfl) (by simp) ?_
            refine AllReadyG.cons rfl (fun K hK => ?_) (AllReadyG.cons rfl (fun K hK => ?_) AllReadyG.nil)
            · go_simp
              have p1T := p0T.below (Bel.alloc (Bel.refl p0) (.cells #[.string s] 9))
              have p1B := Below.alloc p0B p0B.size (.cells #[.string s] 9)
              have p1s : (World.alloc p0 (.cells #[.string s] 9)).heap[p0.heap.size]? = some (.cells #[.string s] 9 (0, 0)) := heap_alloc_new p0 _
              have p1z : (World.alloc p0 (.cells #[.string s] 9)).heap.size = p0.heap.size + 1 := World.size_alloc _ _
              have p1c1 := Lib.cell?_alloc_some (.cells #[.string s] 9) p0c1
              have p1c2 := Lib.cell?_alloc_some (.cells #[.string s] 9) p0c2
              have p1k := Below.heap_alloc p0 (.cells #[.string s] 9)
              refine hK.out _ _ (fun _ => ⟨p1c1, p1c2⟩) (fun _ => ?_)
              clear hK K
              generalize World.alloc p0 (.cells #[.string s] 9) = p1 at *
              try simp only [Act.put, List.getElem_toArray, List.getElem_cons_succ, List.getElem_cons_zero, List.setIfInBounds_toArray, List.set_cons_zero, List.set_cons_succ]
              refine wpAnyG_ready (rs := [4, 8]) (by kernel_rfl) (by simp) ?_
              refine AllReadyG.cons rfl (fun K hK => ?_) (AllReadyG.cons rfl (fun K hK => ?_) AllReadyG.nil)
              · refine step_two rfl (.tmp 34) (.tmp 37) rfl w.heap.size _ _ _ _ rfl p1T p0.heap.size s rfl p1s (HLX.out) (by have := p1B.size; have := HBS; omega) ?_
                intro p2v p2 p2t p2g p2b
                have p2c1 := p2g.cell p1c1 (fun e => hne1 e.symm)
                have p2c2 := p2g.cell p1c2 (fun e => hne1 e.symm)
                have p2B : Below w.heap.size w p2 := p1B.grown p2g (by have := p1B.size; have := HBS; omega) (fun k hk => (World.ownsRow.lt p1T.r1 k hk).1)
                have p2T := p2t
                refine hK.out _ _ (fun _ => ⟨p2c1, p2c2⟩) (fun _ => ?_)
                clear hK K
                try simp only [Act.put, List.getElem_toArray, List.getElem_cons_succ, List.getElem_cons_zero, List.setIfInBounds_toArray, List.set_cons_zero, List.set_cons_succ]
                refine wpAnyG_ready (rs := [8]) (by kernel_rfl) (by simp) ?_
                refine AllReadyG.cons rfl (fun K hK => ?_) AllReadyG.nil
                go_simp
                have p3T := p2T.below (Bel.alloc (Bel.refl p2) (.cells #[.string t] 9))
                have p3B := Below.alloc p2B p2B.size (.cells #[.string t] 9)
                have p3t : (World.alloc p2 (.cells #[.string t] 9)).heap[p2.heap.size]? = some (.cells #[.string t] 9 (0, 0)) := heap_alloc_new p2 _
                have p3z : (World.alloc p2 (.cells #[.string t] 9)).heap.size = p2.heap.size + 1 := World.size_alloc _ _
                have p3c1 := Lib.cell?_alloc_some (.cells #[.string t] 9) p2c1
                have p3c2 := Lib.cell?_alloc_some (.cells #[.string t] 9) p2c2
                have p3k := Below.heap_alloc p2 (.cells #[.string t] 9)
                refine hK.out _ _ (fun _ => ⟨p3c1, p3c2⟩) (fun _ => ?_)
                clear hK K
                generalize World.alloc p2 (.cells #[.string t] 9) = p3 at *
                try simp only [Act.put, List.getElem_toArray, List.getElem_cons_succ, List.getElem_cons_zero, List.setIfInBounds_toArray, List.set_cons_zero, List.set_cons_succ]
                refine wpAnyG_ready (rs := [9]) (by kernel_rfl) (by simp) ?_
                refine AllReadyG.cons rfl (fun K hK => ?_) AllReadyG.nil
                refine step_two rfl (.tmp 39) (.tmp 42) rfl w.heap.size _ _ _ _ rfl p3T.swap p2.heap.size t rfl p3t (HLY.out) (by have := p3B.size; have := HBS; omega) ?_
                intro p4v p4 p4t p4g p4b
                have p4c1 := p4g.cell p3c1 (fun e => hne2 e.symm)
                have p4c2 := p4g.cell p3c2 (fun e => hne2 e.symm)
                have p4B : Below w.heap.size w p4 := p3B.grown p4g (by have := p3B.size; have := HBS; omega) (fun k hk => (World.ownsRow.lt p3T.r2 k hk).1)
                have p4T := p4t.swap
                refine hK.out _ _ (fun _ => ⟨p4c1, p4c2⟩) (fun _ => ?_)
                clear hK K
                try simp only [Act.put, List.getElem_toArray, List.getElem_cons_succ, List.getElem_cons_zero, List.setIfInBounds_toArray, List.set_cons_zero, List.set_cons_succ]
                refine wpAnyG_take (i := 10) (v := ?_) rfl (by kernel_rfl) (by kernel_rfl) (by kernel_rfl) (fun _ _ _ h => h) (by kernel_rfl) (by decide) (by kernel_rfl) (Or.inl ⟨by kernel_rfl, ?_⟩) ⟨p4c1, p4c2⟩ ?_
                rotate_left
                · (intro wx hSw; obtain ⟨t1, t2⟩ := hSw; go_simp; try with_reducible rfl)
                try simp only [Act.put, List.getElem_toArray, List.getElem_cons_succ, List.getElem_cons_zero, List.setIfInBounds_toArray, List.set_cons_zero, List.set_cons_succ]
                refine wpAnyG_ready (rs := [11]) (by kernel_rfl) (by simp) ?_
                refine AllReadyG.cons rfl (fun K hK => ?_) AllReadyG.nil
                go_simp
                refine hK.out _ _ (fun h => by cases h) (fun _ => ?_)
                clear hK K
                refine wpAnyG_done (by kernel_rfl) ?_ _
                have HTE := Lib.hid p4T
                have HBE := Lib.hid p4B
                clear p4T p4B
                go_wp2_with fail
                go_roundw
                case rel => exact ⟨i + 1, _, _, by go_num, rfl, rfl, by omega, by rw [HTK1.out, HTK2.out]; exact HTE.out, HBE.out⟩
                case measure => simp [intOf]; omega
              · go_simp
                have p2T := p1T.below (Bel.alloc (Bel.refl p1) (.cells #[.string t] 9))
                have p2B := Below.alloc p1B p1B.size (.cells #[.string t] 9)
                have p2t : (World.alloc p1 (.cells #[.string t] 9)).heap[p1.heap.size]? = some (.cells #[.string t] 9 (0, 0)) := heap_alloc_new p1 _
                have p2z : (World.alloc p1 (.cells #[.string t] 9)).heap.size = p1.heap.size + 1 := World.size_alloc _ _
                have p2c1 := Lib.cell?_alloc_some (.cells #[.string t] 9) p1c1
                have p2c2 := Lib.cell?_alloc_some (.cells #[.string t] 9) p1c2
                have p2k := Below.heap_alloc p1 (.cells #[.string t] 9)
                refine hK.out _ _ (fun _ => ⟨p2c1, p2c2⟩) (fun _ => ?_)
                clear hK K
                generalize World.alloc p1 (.cells #[.string t] 9) = p2 at *
                try simp only [Act.put, List.getElem_toArray, List.getElem_cons_succ, List.getElem_cons_zero, List.setIfInBounds_toArray, List.set_cons_zero, List.set_cons_succ]
                rw [p1z] at p2t
                have p2s := (p2k _ (Array.getElem?_eq_some_iff.1 p1s).1).trans p1s
                refine wpAnyG_ready (rs := [4]) (by kernel_rfl) (by simp) ?_
                refine AllReadyG.cons rfl (fun K hK => ?_) AllReadyG.nil
                refine step_two rfl (.tmp 34) (.tmp 37) rfl w.heap.size _ _ _ _ rfl p2T p0.heap.size s rfl p2s (HLX.out) (by have := p2B.size; have := HBS; omega) ?_
                intro p3v p3 p3t p3g p3b
                have p3c1 := p3g.cell p2c1 (fun e => hne1 e.symm)
                have p3c2 := p3g.cell p2c2 (fun e => hne1 e.symm)
                have p3B : Below w.heap.size w p3 := p2B.grown p3g (by have := p2B.size; have := HBS; omega) (fun k hk => (World.ownsRow.lt p2T.r1 k hk).1)
                have p3T := p3t
                refine hK.out _ _ (fun _ => ⟨p3c1, p3c2⟩) (fun _ => ?_)
                clear hK K
                try simp only [Act.put, List.getElem_toArray, List.getElem_cons_succ, List.getElem_cons_zero, List.setIfInBounds_toArray, List.set_cons_zero, List.set_cons_succ]
                have p3t := (p3g.block _ (Array.getElem?_eq_some_iff.1 p2t).1 (fun e => (Two.far p1T (by omega)) e.symm)).trans p2t
                refine wpAnyG_ready (rs := [9]) (by kernel_rfl) (by simp) ?_
                refine AllReadyG.cons rfl (fun K hK => ?_) AllReadyG.nil
                refine step_two rfl (.tmp 39) (.tmp 42) rfl w.heap.size _ _ _ _ rfl p3T.swap (p0.heap.size + 1) t rfl p3t (HLY.out) (by have := p3B.size; have := HBS; omega) ?_
                intro p4v p4 p4t p4g p4b
                have p4c1 := p4g.cell p3c1 (fun e => hne2 e.symm)
                have p4c2 := p4g.cell p3c2 (fun e => hne2 e.symm)
                have p4B : Below w.heap.size w p4 := p3B.grown p4g (by have := p3B.size; have := HBS; omega) (fun k hk => (World.ownsRow.lt p3T.r2 k hk).1)
                have p4T := p4t.swap
                refine hK.out _ _ (fun _ => ⟨p4c1, p4c2⟩) (fun _ => ?_)
                clear hK K
                try simp only [Act.put, List.getElem_toArray, List.getElem_cons_succ, List.getElem_cons_zero, List.setIfInBounds_toArray, List.set_cons_zero, List.set_cons_succ]
                refine wpAnyG_take (i := 10) (v := ?_) rfl (by kernel_rfl) (by kernel_rfl) (by kernel_rfl) (fun _ _ _ h => h) (by kernel_rfl) (by decide) (by kernel_rfl) (Or.inl ⟨by kernel_rfl, ?_⟩) ⟨p4c1, p4c2⟩ ?_
                rotate_left
                · (intro wx hSw; obtain ⟨t1, t2⟩ := hSw; go_simp; try with_reducible rfl)
                try simp only [Act.put, List.getElem_toArray, List.getElem_cons_succ, List.getElem_cons_zero, List.setIfInBounds_toArray, List.set_cons_zero, List.set_cons_succ]
                refine wpAnyG_ready (rs := [11]) (by kernel_rfl) (by simp) ?_
                refine AllReadyG.cons rfl (fun K hK => ?_) AllReadyG.nil
                go_simp
                refine hK.out _ _ (fun h => by cases h) (fun _ => ?_)
                clear hK K
                refine wpAnyG_done (by kernel_rfl) ?_ _
                have HTE := Lib.hid p4T
                have HBE := Lib.hid p4B
                clear p4T p4B
                go_wp2_with fail
                go_roundw
                case rel => exact ⟨i + 1, _, _, by go_num, rfl, rfl, by omega, by rw [HTK1.out, HTK2.out]; exact HTE.out, HBE.out⟩
                case measure => simp [intOf]; omega
            · go_simp
              have p1T := p0T.below (Bel.alloc (Bel.refl p0) (.cells #[.string t] 9))
              have p1B := Below.alloc p0B p0B.size (.cells #[.string t] 9)
              have p1t : (World.alloc p0 (.cells #[.string t] 9)).heap[p0.heap.size]? = some (.cells #[.string t] 9 (0, 0)) := heap_alloc_new p0 _
              have p1z : (World.alloc p0 (.cells #[.string t] 9)).heap.size = p0.heap.size + 1 := World.size_alloc _ _
              have p1c1 := Lib.cell?_alloc_some (.cells #[.string t] 9) p0c1
              have p1c2 := Lib.cell?_alloc_some (.cells #[.string t] 9) p0c2
              have p1k := Below.heap_alloc p0 (.cells #[.string t] 9)
              refine hK.out _ _ (fun _ => ⟨p1c1, p1c2⟩) (fun _ => ?_)
              clear hK K
              generalize World.alloc p0 (.cells #[.string t] 9) = p1 at *
              try simp only [Act.put, List.getElem_toArray, List.getElem_cons_succ, List.getElem_cons_zero, List.setIfInBounds_toArray, List.set_cons_zero, List.set_cons_succ]
              refine wpAnyG_ready (rs := [3]) (by kernel_rfl) (by simp) ?_
              refine AllReadyG.cons rfl (fun K hK => ?_) AllReadyG.nil
              go_simp
              have p2T := p1T.below (Bel.alloc (Bel.refl p1) (.cells #[.string s] 9))
              have p2B := Below.alloc p1B p1B.size (.cells #[.string s] 9)
              have p2s : (World.alloc p1 (.cells #[.string s] 9)).heap[p1.heap.size]? = some (.cells #[.string s] 9 (0, 0)) := heap_alloc_new p1 _
              have p2z : (World.alloc p1 (.cells #[.string s] 9)).heap.size = p1.heap.size + 1 := World.size_alloc _ _
              have p2c1 := Lib.cell?_alloc_some (.cells #[.string s] 9) p1c1
              have p2c2 := Lib.cell?_alloc_some (.cells #[.string s] 9) p1c2
              have p2k := Below.heap_alloc p1 (.cells #[.string s] 9)
              refine hK.out _ _ (fun _ => ⟨p2c1, p2c2⟩) (fun _ => ?_)
              clear hK K
              generalize World.alloc p1 (.cells #[.string s] 9) = p2 at *
              try simp only [Act.put, List.getElem_toArray, List.getElem_cons_succ, List.getElem_cons_zero, List.setIfInBounds_toArray, List.set_cons_zero, List.set_cons_succ]
              rw [p1z] at p2s
              have p2t := (p2k _ (Array.getElem?_eq_some_iff.1 p1t).1).trans p1t
              refine wpAnyG_ready (rs := [4]) (by kernel_rfl) (by simp) ?_
              refine AllReadyG.cons rfl (fun K hK => ?_) AllReadyG.nil
              refine step_two rfl (.tmp 34) (.tmp 37) rfl w.heap.size _ _ _ _ rfl p2T (p0.heap.size + 1) s rfl p2s (HLX.out) (by have := p2B.size; have := HBS; omega) ?_
              intro p3v p3 p3t p3g p3b
              have p3c1 := p3g.cell p2c1 (fun e => hne1 e.symm)
              have p3c2 := p3g.cell p2c2 (fun e => hne1 e.symm)
              have p3B : Below w.heap.size w p3 := p2B.grown p3g (by have := p2B.size; have := HBS; omega) (fun k hk => (World.ownsRow.lt p2T.r1 k hk).1)
              have p3T := p3t
              refine hK.out _ _ (fun _ => ⟨p3c1, p3c2⟩) (fun _ => ?_)
              clear hK K
              try simp only [Act.put, List.getElem_toArray, List.getElem_cons_succ, List.getElem_cons_zero, List.setIfInBounds_toArray, List.set_cons_zero, List.set_cons_succ]
              have p3t := (p3g.block _ (Array.getElem?_eq_some_iff.1 p2t).1 (fun e => (Two.far p0T (Nat.le_refl _)) e.symm)).trans p2t
              refine wpAnyG_ready (rs := [9]) (by kernel_rfl) (by simp) ?_
              refine AllReadyG.cons rfl (fun K hK => ?_) AllReadyG.nil
              refine step_two rfl (.tmp 39) (.tmp 42) rfl w.heap.size _ _ _ _ rfl p3T.swap p0.heap.size t rfl p3t (HLY.out) (by have := p3B.size; have := HBS; omega) ?_
              intro p4v p4 p4t p4g p4b
              have p4c1 := p4g.cell p3c1 (fun e => hne2 e.symm)
              have p4c2 := p4g.cell p3c2 (fun e => hne2 e.symm)
              have p4B : Below w.heap.size w p4 := p3B.grown p4g (by have := p3B.size; have := HBS; omega) (fun k hk => (World.ownsRow.lt p3T.r2 k hk).1)
              have p4T := p4t.swap
              refine hK.out _ _ (fun _ => ⟨p4c1, p4c2⟩) (fun _ => ?_)
              clear hK K
              try simp only [Act.put, List.getElem_toArray, List.getElem_cons_succ, List.getElem_cons_zero, List.setIfInBounds_toArray, List.set_cons_zero, List.set_cons_succ]
              refine wpAnyG_take (i := 10) (v := ?_) rfl (by kernel_rfl) (by kernel_rfl) (by kernel_rfl) (fun _ _ _ h => h) (by kernel_rfl) (by decide) (by kernel_rfl) (Or.inl ⟨by kernel_rfl, ?_⟩) ⟨p4c1, p4c2⟩ ?_
              rotate_left
              · (intro wx hSw; obtain ⟨t1, t2⟩ := hSw; go_simp; try with_reducible rfl)
              try simp only [Act.put, List.getElem_toArray, List.getElem_cons_succ, List.getElem_cons_zero, List.setIfInBounds_toArray, List.set_cons_zero, List.set_cons_succ]
              refine wpAnyG_ready (rs := [11]) (by kernel_rfl) (by simp) ?_
              refine AllReadyG.cons rfl (fun K hK => ?_) AllReadyG.nil
              go_simp
              refine hK.out _ _ (fun h => by cases h) (fun _ => ?_)
              clear hK K
              refine wpAnyG_done (by kernel_rfl) ?_ _
              have HTE := Lib.hid p4T
              have HBE := Lib.hid p4B
              clear p4T p4B
              go_wp2_with fail
              go_roundw
              case rel => exact ⟨i + 1, _, _, by go_num, rfl, rfl, by omega, by rw [HTK1.out, HTK2.out]; exact HTE.out, HBE.out⟩
              case measure => simp [intOf]; omega
          · obtain rfl : i = n := by omega
            have htw := HTR.out
            rw [List.take_of_length_le (by rw [HL.out]; exact Nat.le_refl _)] at htw
            have HTE := Lib.hid htw
            clear htw HTR
            go_wp2_with fail
            refine HK9.out _ _ ?_
            exact HN2.out wr _ _ _ _ _ _ _ _ _ _ _ _ _ _ _ _ _ _ _ _ _ _ _ _ _ _ _ _ _ _ _ _ _ _ _ _ _ _ _ _ _ _ _ _ _ _ _ _ _ _ _ _ _ _ _ _ _ _ _ _ _ _ _ _ _ _ _ _ _ _ _ _ _ HTE.out HBR.out
end Go.Proofs.Ytkodnagneblgaaa
