/- GlossaryNone: the second part of the walk. -/
import Derived.Test.YtkodnagneblgaaaG9
import Derived.Test.YtkodnagneblgaaaGA0
namespace Go.Proofs.Ytkodnagneblgaaa
open Go.RowKit Go.Maps Go.Sort
attribute [local go_sem] Ext.cell Ext.frozen
attribute [local go_sem ↓] Go.wp_at_zero Go.wp_at_succ
theorem any_take_one (f : Tm → Bool) (ts : List Tm) (i : Nat) (hi : i < ts.length) : (ts.take (i + 1)).any f = ((ts.take i).any f || f (ts.getD i tm0)) := by
  have hg : ts.getD i tm0 = ts[i] := by rw [List.getD_eq_getElem?_getD, List.getElem?_eq_getElem hi]; rfl
  rw [List.take_add_one, List.getElem?_eq_getElem hi, hg, Option.toList_some, List.any_append]
  simp
set_option maxRecDepth 100000 in
set_option maxHeartbeats 8000000 in
theorem gn_second (ts : List Tm) (source target : ByteArray) (ad : Option Addr) (n c : Nat) (w0 w : World) (u3 u4 u5 u6 u7 u8 u9 u10 u11 u12 u13 u14 u15 u16 u17 u18 u19 u20 u21 u22 u23 u24 u25 u26 u27 u28 u29 u30 u31 u32 u33 u34 u35 u36 u37 u38 u39 u40 u41 u42 u43 u44 u45 u46 u47 u48 u49 u50 u51 u52 u53 u54 u55 u56 u57 u58 u59 u60 u61 u62 u63 u64 u65 u66 u67 u68 u69 u70 u71 u72 u73 u74 u75 u76 u77 u78 u79 u80 u81 u82 u83 u84 u85 u86 u87 u88 u89 u90 u91 u92 u93 u94 u95 u96 u97 u98 u99 u100 : Value) (ht : TmAt w ad n ts) (hf : fewT ts = true) (hs : source.size ≤ 600) (htg : target.size ≤ 600) (hv : validT ts = true) (hb0 : Below w0.heap.size w0 w) :
    (gnC 3).wp Try.prog (bodyPost Try.prog Try.f7 (fun e w' => e = .returned (.bool true) ∧ Below w0.heap.size w0 w')) ⟨#[.slice ad n c, .string source, .string target, u3, u4, u5, u6, u7, u8, u9, u10, u11, u12, u13, u14, u15, u16, u17, u18, u19, u20, u21, u22, u23, u24, u25, u26, u27, u28, u29, u30, u31, u32, u33, u34, u35, u36, u37, u38, u39, u40, u41, u42, u43, u44, u45, u46, u47, u48, u49, u50, u51, u52, u53, u54, u55, u56, u57, u58, u59, u60, u61, u62, u63, u64, u65, u66, u67, u68, u69, u70, u71, u72, u73, u74, u75, u76, u77, u78, u79, u80, u81, u82, u83, u84, u85, u86, u87, u88, u89, u90, u91, u92, u93, u94, u95, u96, u97, u98, u99, u100], []⟩ w := by
  obtain ⟨hf1, hf2⟩ := fewT_iff hf
  have hn : n ≤ 30 := by have := ht.1; omega
  have HT := Lib.hid ht
  have HL := Lib.hid ht.1
  have HB0 := Lib.hid hb0
  obtain ⟨base, hbase⟩ : ∃ base, w.heap.size = base := ⟨_, rfl⟩
  have HBS : base ≤ w.heap.size := Nat.le_of_eq hbase.symm
  have HBR : Hid (Below base w w) := Below.refl _ _
  have HPF := Lib.hid (fun a1 c1 W (h : Sl W a1 n (strs (ts.map (·.s)))) => pfind_any (ts.map (·.s)) a1 n c1 source W h (by omega) (fun s h => by obtain ⟨x, hx, rfl⟩ := List.mem_map.1 h; have := (hf2 x hx).1; omega) (by omega))
  have HTO := Lib.hid (fun W (h : TmAt W ad n ts) => to_any ts ad n c W h (by omega))
  have HPC := Lib.hid (fun a1 c1 W (h : TmAt W a1 n ts) => pcheck_any ts source target a1 n c1 W h (by omega) (fun x hx => by have := hf2 x hx; omega))
  have e1 : errV ts source target = 0 := by unfold errV; rw [if_pos hv, if_neg (by omega)]
  have e2 : resV ts source target (pfindings ts source target) = pfindings ts source target := by unfold resV; rw [if_pos hv, if_neg (by omega)]
  rw [e1, e2] at HPC
  have HNONE := Lib.hid (none_of ts source target)
  have HFORB := Lib.hid (forb_of ts source target)
  have hfl : (pfindings ts source target).length ≤ 60 := by
    have := chkF_len (missV ts (cntS ts source) (cntT ts target)) (wrongV ts (cntS ts source) (cntT ts target)) ts.length
    unfold pfindings
    omega
  unfold FindPost at HPF
  unfold ChkPost at HPC
  have hpl : (findL ((ts.map (·.s)).map wordsB) (wordsB source)).length ≤ 1000001 := Nat.le_trans (findV_len _ _) (Nat.le_trans (wordsB_le source) (by omega))
  clear ht hf hv hb0 e1 e2 hf2
  generalize findL ((ts.map (·.s)).map wordsB) (wordsB source) = pl at *
  generalize pfindings ts source target = fs at *
  unfold gnC
  dsimp only
  conv => arg 2; whnf
  go_wp2_with fail
  have HT0 := Lib.hid (Two.start w base)
  go_loopw [7, 8, 42] (fun r1 r2 u wr => ∃ (i : Nat) (v1 : Value) (fb : Bool), u = .int .i64 (i : Int) ∧ v1 = r1 ∧ r2 = .bool fb ∧ i ≤ n ∧ Two wr base v1 ((ts.take i).map (·.s)) (.slice none 0 0) [] ∧ (ts.take i).any (·.f) = fb ∧ Below base w wr) (fun _ _ u _ => n - (intOf u).toNat)
  case atStart => exact ⟨0, _, _, rfl, rfl, rfl, Nat.zero_le _, HT0.out, rfl, HBR.out⟩
  case round =>
    obtain ⟨i, v1, fb, rfl, hr1, rfl, hin, htw, han, hbl⟩ := hrel
    subst hr1
    have HTR := Lib.hid htw
    have HBR := Lib.hid hbl
    have hzr := hbl.size
    have HAN0 := Lib.hid han
    clear htw hbl HT0 han
    by_cases hlt : i < n
    · obtain ⟨_, tb, tq, hrw⟩ := HT.out.below (by rw [hbase]; exact HBR.out)
      have hix := fun W => hrw.ix 22 48 Try.underlying22 cellsRTm (by omega) hlt c W
      have h0 := hrw.cell i 0 hlt (by omega)
      have h1 := hrw.cell i 1 hlt (by omega)
      have h2 := hrw.cell i 2 hlt (by omega)
      rw [Nat.add_zero] at h0
      simp only [tmC] at h0 h1 h2
      have HTK := Lib.hid (map_take_succ (·.s) ts i (by rw [HL.out]; exact hlt))
      have HAN := Lib.hid (any_take_one (·.f) ts i (by rw [HL.out]; exact hlt))
      rw [HAN0.out] at HAN
      have HLX : Hid (((ts.take i).map (·.s)).length ≤ 100000) := by rw [Hid, List.length_map, List.length_take]; omega
      have hlz : (i : Int) < (n : Int) := by omega
      clear hrw HAN0
      generalize (ts.take i).map (·.s) = xs at *
      generalize ts.getD i tm0 = x at *
      obtain ⟨s, t, f⟩ := x
      simp only at h0 h1 h2 HTK HAN
      go_upto_region 8 with (fail)
      have HBW : Hid (Below base w (wr.alloc (.cells #[.string s, .string t, .bool f] 48))) := HBR.out.alloc (by omega) _
      have hbk : Below wr.heap.size wr (wr.alloc (.cells #[.string s, .string t, .bool f] 48)) := Bel.alloc (Bel.refl wr) _
      have HTW := Lib.hid (HTR.out.below hbk)
      have HX : Hid ((wr.alloc (.cells #[.string s, .string t, .bool f] 48)).heap[wr.heap.size]? = some (.cells #[.string s, .string t, .bool f] 48 (0, 0))) := heap_alloc_new wr _
      have hne1 : v1.ownBlock ≠ some wr.heap.size := Two.far HTR.out (Nat.le_refl _)
      generalize wr.alloc (.cells #[.string s, .string t, .bool f] 48) = w3 at *
      obtain ⟨B, hB⟩ : ∃ B, wr.heap.size = B := ⟨_, rfl⟩
      rw [hB] at HX hne1 ⊢
      have u1 : w3.drew.cell? ⟨B, 0, none⟩ = some (.string s) := row_cells HX.out 0
      have u2 : w3.drew.cell? ⟨B, 2, none⟩ = some (.bool f) := row_cells HX.out 2
      clear hbk hB HBR HTR hzr h0 h1 h2 hix HX
      cases fb with
      | true =>
        refine wp_region_until 11 (fun w' => w'.cell? ⟨B, 0, none⟩ = some (.string s) ∧ w'.cell? ⟨B, 2, none⟩ = some (.bool f)) (by kernel_rfl) ⟨u1, u2⟩ (fun hS0 => ?_)
        have p0T := HTW.out.below (Bel.drew (Bel.refl w3))
        have p0B : Below base w w3.drew := Below.drew HBW.out
        have p0c1 := u1
        have p0c2 := u2
        refine wpAnyG_take (i := 0) (v := ?_) rfl (by kernel_rfl) (by kernel_rfl) (by kernel_rfl) (fun _ _ _ h => h) (by kernel_rfl) (by decide) (by kernel_rfl) (Or.inl ⟨by kernel_rfl, ?_⟩) hS0 ?_
        rotate_left
        · (intro wx hSw; obtain ⟨t1, t2⟩ := hSw; go_simp; try with_reducible rfl)
        try simp only [Act.put, List.getElem_toArray, List.getElem_cons_zero, List.setIfInBounds_toArray, List.set_cons_zero, List.set_cons_succ]
        refine wpAnyG_take (i := 1) (v := ?_) rfl (by kernel_rfl) (by kernel_rfl) (by kernel_rfl) (fun _ _ _ h => h) (by kernel_rfl) (by decide) (by kernel_rfl) (Or.inl ⟨by kernel_rfl, ?_⟩) hS0 ?_
        rotate_left
        · (intro wx hSw; obtain ⟨t1, t2⟩ := hSw; go_simp; try with_reducible rfl)
        try simp only [Act.put, List.getElem_toArray, List.getElem_cons_succ, List.getElem_cons_zero, List.setIfInBounds_toArray, List.set_cons_zero, List.set_cons_succ]
        refine wpAnyG_take (i := 2) (v := ?_) rfl (by kernel_rfl) (by kernel_rfl) (by kernel_rfl) (fun _ _ _ h => h) (by kernel_rfl) (by decide) (by kernel_rfl) (Or.inl ⟨by kernel_rfl, ?_⟩) hS0 ?_
        rotate_left
        · (intro wx hSw; obtain ⟨t1, t2⟩ := hSw; go_simp; try with_reducible rfl)
        try simp only [Act.put, List.getElem_toArray, List.getElem_cons_succ, List.getElem_cons_zero, List.setIfInBounds_toArray, List.set_cons_zero, List.set_cons_succ]
        refine wpAnyG_take (i := 5) (v := ?_) rfl (by kernel_rfl) (by kernel_rfl) (by kernel_rfl) (fun _ _ _ h => h) (by kernel_rfl) (by decide) (by kernel_rfl) (Or.inl ⟨by kernel_rfl, ?_⟩) hS0 ?_
        rotate_left
        · (intro wx hSw; obtain ⟨t1, t2⟩ := hSw; go_simp; try with_reducible rfl)
        try simp only [Act.put, List.getElem_toArray, List.getElem_cons_succ, List.getElem_cons_zero, List.setIfInBounds_toArray, List.set_cons_zero, List.set_cons_succ]
        generalize w3.drew = p0 at *
        refine wpAnyG_ready (rs := [3]) (by kernel_rfl) (by simp) ?_
        refine AllReadyG.cons rfl (fun K hK => ?_) AllReadyG.nil
        go_simp
        have p1T := p0T.below (Bel.alloc (Bel.refl p0) (.cells #[.string s] 9))
        have p1B := Below.alloc p0B (Nat.le_trans HBS p0B.size) (.cells #[.string s] 9)
        have p1s : (World.alloc p0 (.cells #[.string s] 9)).heap[p0.heap.size]? = some (.cells #[.string s] 9 (0, 0)) := heap_alloc_new p0 _
        have p1c1 := Lib.cell?_alloc_some (.cells #[.string s] 9) p0c1
        have p1c2 := Lib.cell?_alloc_some (.cells #[.string s] 9) p0c2
        refine hK.out _ _ (fun _ => ⟨p1c1, p1c2⟩) (fun _ => ?_)
        clear hK K
        generalize World.alloc p0 (.cells #[.string s] 9) = p1 at *
        try simp only [Act.put, List.getElem_toArray, List.getElem_cons_succ, List.getElem_cons_zero, List.setIfInBounds_toArray, List.set_cons_zero, List.set_cons_succ]
        refine wpAnyG_ready (rs := [4]) (by kernel_rfl) (by simp) ?_
        refine AllReadyG.cons rfl (fun K hK => ?_) AllReadyG.nil
        refine step_two rfl (.tmp 46) (.tmp 49) rfl base _ _ _ _ rfl p1T p0.heap.size s rfl p1s HLX.out (by have := p1B.size; have := HBS; omega) ?_
        intro p2v p2 p2t p2g p2b
        have p2c1 := p2g.cell p1c1 (fun e => hne1 e.symm)
        have p2c2 := p2g.cell p1c2 (fun e => hne1 e.symm)
        have p2B : Below base w p2 := p1B.grown p2g (by have := p1B.size; have := HBS; omega) (fun k hk => (World.ownsRow.lt p1T.r1 k hk).1)
        refine hK.out _ _ (fun _ => ⟨p2c1, p2c2⟩) (fun _ => ?_)
        clear hK K
        try simp only [Act.put, List.getElem_toArray, List.getElem_cons_succ, List.getElem_cons_zero, List.setIfInBounds_toArray, List.set_cons_zero, List.set_cons_succ]
        refine wpAnyG_take (i := 6) (v := ?_) rfl (by kernel_rfl) (by kernel_rfl) (by kernel_rfl) (fun _ _ _ h => h) (by kernel_rfl) (by decide) (by kernel_rfl) (Or.inl ⟨by kernel_rfl, ?_⟩) ⟨p2c1, p2c2⟩ ?_
        rotate_left
        · (intro wx hSw; obtain ⟨t1, t2⟩ := hSw; go_simp; try with_reducible rfl)
        try simp only [Act.put, List.getElem_toArray, List.getElem_cons_succ, List.getElem_cons_zero, List.setIfInBounds_toArray, List.set_cons_zero, List.set_cons_succ]
        refine wpAnyG_take (i := 7) rfl (by kernel_rfl) (by kernel_rfl) (by kernel_rfl) (fun _ _ _ h => h) (by kernel_rfl) (by decide) (by kernel_rfl) (Or.inr ⟨by kernel_rfl, rfl⟩) ⟨p2c1, p2c2⟩ ?_
        try simp only [Act.put, List.getElem_toArray, List.getElem_cons_succ, List.getElem_cons_zero, List.setIfInBounds_toArray, List.set_cons_zero, List.set_cons_succ]
        refine wpAnyG_take (i := 8) rfl (by kernel_rfl) (by kernel_rfl) (by kernel_rfl) (fun _ _ _ h => h) (by kernel_rfl) (by decide) (by kernel_rfl) (Or.inr ⟨by kernel_rfl, rfl⟩) ⟨p2c1, p2c2⟩ ?_
        try simp only [Act.put, List.getElem_toArray, List.getElem_cons_succ, List.getElem_cons_zero, List.setIfInBounds_toArray, List.set_cons_zero, List.set_cons_succ]
        refine wpAnyG_take (i := 9) (v := ?_) rfl (by kernel_rfl) (by kernel_rfl) (by kernel_rfl) (fun _ _ _ h => h) (by kernel_rfl) (by decide) (by kernel_rfl) (Or.inl ⟨by kernel_rfl, ?_⟩) ⟨p2c1, p2c2⟩ ?_
        rotate_left
        · (intro wx hSw; obtain ⟨t1, t2⟩ := hSw; go_simp; try with_reducible rfl)
        try simp only [Act.put, List.getElem_toArray, List.getElem_cons_succ, List.getElem_cons_zero, List.setIfInBounds_toArray, List.set_cons_zero, List.set_cons_succ]
        refine wpAnyG_take (i := 10) (v := ?_) rfl (by kernel_rfl) (by kernel_rfl) (by kernel_rfl) (fun _ _ _ h => h) (by kernel_rfl) (by decide) (by kernel_rfl) (Or.inl ⟨by kernel_rfl, ?_⟩) ⟨p2c1, p2c2⟩ ?_
        rotate_left
        · (intro wx hSw; obtain ⟨t1, t2⟩ := hSw; go_simp; try with_reducible rfl)
        try simp only [Act.put, List.getElem_toArray, List.getElem_cons_succ, List.getElem_cons_zero, List.setIfInBounds_toArray, List.set_cons_zero, List.set_cons_succ]
        refine wpAnyG_ready (rs := [11]) (by kernel_rfl) (by simp) ?_
        refine AllReadyG.cons rfl (fun K hK => ?_) AllReadyG.nil
        go_simp
        refine hK.out _ _ (fun h => by cases h) (fun _ => ?_)
        clear hK K
        refine wpAnyG_done (by kernel_rfl) ?_ _
        have HTE := Lib.hid p2t
        have HBE := Lib.hid p2B
        clear p2t p2B
        go_wp2_with fail
        go_roundw
        case rel => exact ⟨i + 1, _, _, by go_num, rfl, rfl, by omega, by rw [HTK.out]; exact HTE.out, by rw [HAN.out]; rfl, HBE.out⟩
        case measure => simp [intOf]; omega
      | false =>
        refine wp_region_until 11 (fun w' => w'.cell? ⟨B, 0, none⟩ = some (.string s) ∧ w'.cell? ⟨B, 2, none⟩ = some (.bool f)) (by kernel_rfl) ⟨u1, u2⟩ (fun hS0 => ?_)
        have p0T := HTW.out.below (Bel.drew (Bel.refl w3))
        have p0B : Below base w w3.drew := Below.drew HBW.out
        have p0c1 := u1
        have p0c2 := u2
        refine wpAnyG_take (i := 0) (v := ?_) rfl (by kernel_rfl) (by kernel_rfl) (by kernel_rfl) (fun _ _ _ h => h) (by kernel_rfl) (by decide) (by kernel_rfl) (Or.inl ⟨by kernel_rfl, ?_⟩) hS0 ?_
        rotate_left
        · (intro wx hSw; obtain ⟨t1, t2⟩ := hSw; go_simp; try with_reducible rfl)
        try simp only [Act.put, List.getElem_toArray, List.getElem_cons_zero, List.setIfInBounds_toArray, List.set_cons_zero, List.set_cons_succ]
        refine wpAnyG_take (i := 1) (v := ?_) rfl (by kernel_rfl) (by kernel_rfl) (by kernel_rfl) (fun _ _ _ h => h) (by kernel_rfl) (by decide) (by kernel_rfl) (Or.inl ⟨by kernel_rfl, ?_⟩) hS0 ?_
        rotate_left
        · (intro wx hSw; obtain ⟨t1, t2⟩ := hSw; go_simp; try with_reducible rfl)
        try simp only [Act.put, List.getElem_toArray, List.getElem_cons_succ, List.getElem_cons_zero, List.setIfInBounds_toArray, List.set_cons_zero, List.set_cons_succ]
        refine wpAnyG_take (i := 2) (v := ?_) rfl (by kernel_rfl) (by kernel_rfl) (by kernel_rfl) (fun _ _ _ h => h) (by kernel_rfl) (by decide) (by kernel_rfl) (Or.inl ⟨by kernel_rfl, ?_⟩) hS0 ?_
        rotate_left
        · (intro wx hSw; obtain ⟨t1, t2⟩ := hSw; go_simp; try with_reducible rfl)
        try simp only [Act.put, List.getElem_toArray, List.getElem_cons_succ, List.getElem_cons_zero, List.setIfInBounds_toArray, List.set_cons_zero, List.set_cons_succ]
        refine wpAnyG_take (i := 5) (v := ?_) rfl (by kernel_rfl) (by kernel_rfl) (by kernel_rfl) (fun _ _ _ h => h) (by kernel_rfl) (by decide) (by kernel_rfl) (Or.inl ⟨by kernel_rfl, ?_⟩) hS0 ?_
        rotate_left
        · (intro wx hSw; obtain ⟨t1, t2⟩ := hSw; go_simp; try with_reducible rfl)
        try simp only [Act.put, List.getElem_toArray, List.getElem_cons_succ, List.getElem_cons_zero, List.setIfInBounds_toArray, List.set_cons_zero, List.set_cons_succ]
        generalize w3.drew = p0 at *
        refine wpAnyG_ready (rs := [3]) (by kernel_rfl) (by simp) ?_
        refine AllReadyG.cons rfl (fun K hK => ?_) AllReadyG.nil
        go_simp
        have p1T := p0T.below (Bel.alloc (Bel.refl p0) (.cells #[.string s] 9))
        have p1B := Below.alloc p0B (Nat.le_trans HBS p0B.size) (.cells #[.string s] 9)
        have p1s : (World.alloc p0 (.cells #[.string s] 9)).heap[p0.heap.size]? = some (.cells #[.string s] 9 (0, 0)) := heap_alloc_new p0 _
        have p1c1 := Lib.cell?_alloc_some (.cells #[.string s] 9) p0c1
        have p1c2 := Lib.cell?_alloc_some (.cells #[.string s] 9) p0c2
        refine hK.out _ _ (fun _ => ⟨p1c1, p1c2⟩) (fun _ => ?_)
        clear hK K
        generalize World.alloc p0 (.cells #[.string s] 9) = p1 at *
        try simp only [Act.put, List.getElem_toArray, List.getElem_cons_succ, List.getElem_cons_zero, List.setIfInBounds_toArray, List.set_cons_zero, List.set_cons_succ]
        refine wpAnyG_ready (rs := [4]) (by kernel_rfl) (by simp) ?_
        refine AllReadyG.cons rfl (fun K hK => ?_) AllReadyG.nil
        refine step_two rfl (.tmp 46) (.tmp 49) rfl base _ _ _ _ rfl p1T p0.heap.size s rfl p1s HLX.out (by have := p1B.size; have := HBS; omega) ?_
        intro p2v p2 p2t p2g p2b
        have p2c1 := p2g.cell p1c1 (fun e => hne1 e.symm)
        have p2c2 := p2g.cell p1c2 (fun e => hne1 e.symm)
        have p2B : Below base w p2 := p1B.grown p2g (by have := p1B.size; have := HBS; omega) (fun k hk => (World.ownsRow.lt p1T.r1 k hk).1)
        refine hK.out _ _ (fun _ => ⟨p2c1, p2c2⟩) (fun _ => ?_)
        clear hK K
        try simp only [Act.put, List.getElem_toArray, List.getElem_cons_succ, List.getElem_cons_zero, List.setIfInBounds_toArray, List.set_cons_zero, List.set_cons_succ]
        refine wpAnyG_take (i := 6) (v := ?_) rfl (by kernel_rfl) (by kernel_rfl) (by kernel_rfl) (fun _ _ _ h => h) (by kernel_rfl) (by decide) (by kernel_rfl) (Or.inl ⟨by kernel_rfl, ?_⟩) ⟨p2c1, p2c2⟩ ?_
        rotate_left
        · (intro wx hSw; obtain ⟨t1, t2⟩ := hSw; go_simp; try with_reducible rfl)
        try simp only [Act.put, List.getElem_toArray, List.getElem_cons_succ, List.getElem_cons_zero, List.setIfInBounds_toArray, List.set_cons_zero, List.set_cons_succ]
        refine wpAnyG_take (i := 7) (v := ?_) rfl (by kernel_rfl) (by kernel_rfl) (by kernel_rfl) (fun _ _ _ h => h) (by kernel_rfl) (by decide) (by kernel_rfl) (Or.inl ⟨by kernel_rfl, ?_⟩) ⟨p2c1, p2c2⟩ ?_
        rotate_left
        · (intro wx hSw; obtain ⟨t1, t2⟩ := hSw; go_simp; try with_reducible rfl)
        try simp only [Act.put, List.getElem_toArray, List.getElem_cons_succ, List.getElem_cons_zero, List.setIfInBounds_toArray, List.set_cons_zero, List.set_cons_succ]
        refine wpAnyG_take (i := 8) (v := ?_) rfl (by kernel_rfl) (by kernel_rfl) (by kernel_rfl) (fun _ _ _ h => h) (by kernel_rfl) (by decide) (by kernel_rfl) (Or.inl ⟨by kernel_rfl, ?_⟩) ⟨p2c1, p2c2⟩ ?_
        rotate_left
        · (intro wx hSw; obtain ⟨t1, t2⟩ := hSw; go_simp; try with_reducible rfl)
        try simp only [Act.put, List.getElem_toArray, List.getElem_cons_succ, List.getElem_cons_zero, List.setIfInBounds_toArray, List.set_cons_zero, List.set_cons_succ]
        refine wpAnyG_take (i := 9) (v := ?_) rfl (by kernel_rfl) (by kernel_rfl) (by kernel_rfl) (fun _ _ _ h => h) (by kernel_rfl) (by decide) (by kernel_rfl) (Or.inl ⟨by kernel_rfl, ?_⟩) ⟨p2c1, p2c2⟩ ?_
        rotate_left
        · (intro wx hSw; obtain ⟨t1, t2⟩ := hSw; go_simp; try with_reducible rfl)
        try simp only [Act.put, List.getElem_toArray, List.getElem_cons_succ, List.getElem_cons_zero, List.setIfInBounds_toArray, List.set_cons_zero, List.set_cons_succ]
        refine wpAnyG_take (i := 10) (v := ?_) rfl (by kernel_rfl) (by kernel_rfl) (by kernel_rfl) (fun _ _ _ h => h) (by kernel_rfl) (by decide) (by kernel_rfl) (Or.inl ⟨by kernel_rfl, ?_⟩) ⟨p2c1, p2c2⟩ ?_
        rotate_left
        · (intro wx hSw; obtain ⟨t1, t2⟩ := hSw; go_simp; try with_reducible rfl)
        try simp only [Act.put, List.getElem_toArray, List.getElem_cons_succ, List.getElem_cons_zero, List.setIfInBounds_toArray, List.set_cons_zero, List.set_cons_succ]
        refine wpAnyG_ready (rs := [11]) (by kernel_rfl) (by simp) ?_
        refine AllReadyG.cons rfl (fun K hK => ?_) AllReadyG.nil
        go_simp
        refine hK.out _ _ (fun h => by cases h) (fun _ => ?_)
        clear hK K
        refine wpAnyG_done (by kernel_rfl) ?_ _
        have HTE := Lib.hid p2t
        have HBE := Lib.hid p2B
        clear p2t p2B
        go_wp2_with fail
        go_roundw
        case rel => exact ⟨i + 1, _, _, by go_num, rfl, rfl, by omega, by rw [HTK.out]; exact HTE.out, by rw [HAN.out, Bool.false_or], HBE.out⟩
        case measure => simp [intOf]; omega
    · obtain rfl : i = n := by omega
      have htw := HTR.out
      have hfb := HAN0.out
      rw [List.take_of_length_le (by rw [HL.out]; exact Nat.le_refl _)] at htw hfb
      obtain ⟨a1, c1, rfl⟩ := htw.r1.form
      have hlen : (ts.map (·.s)).length = i := by rw [List.length_map]; exact HL.out
      have hr1 := htw.r1
      unfold StrR at hr1
      rw [hlen] at hr1 ⊢
      have HSL := Lib.hid (Own.sl hr1)
      rw [hfb] at HFORB
      clear htw hfb hr1 hlen HTR HAN0
      have HBW : Hid (Below w.heap.size w wr) := by rw [Hid, hbase]; exact HBR.out
      have HT1 := Lib.hid (HT.out.below HBW.out)
      have HB1 := Lib.hid (HB0.out.trans (HBW.out.mono HB0.out.size))
      clear HBR HBW HT HB0
      obtain ⟨P, hP⟩ : ∃ P, pl.length = P := ⟨_, rfl⟩
      rw [hP] at HPF hpl
      obtain ⟨F, hF⟩ : ∃ F, fs.length = F := ⟨_, rfl⟩
      rw [hF] at HPC hfl
      have HPP := Lib.hid hP
      have HFF := Lib.hid hF
      clear hP hF
      go_wp2_with fail
      refine (HPF.out a1 c1 _ HSL.out).mono ?_
      rintro e w2 ⟨a2, c2, rfl, _, hb⟩
      have HB2 := Lib.hid (HB1.out.trans (hb.mono HB1.out.size))
      have HT2 := Lib.hid (HT1.out.below hb)
      clear hb HB1 HT1
      go_wp2_with fail
      refine (HTO.out _ HT2.out).mono ?_
      rintro e w3 ⟨a3, c3, rfl, htr, hb⟩
      have HB3 := Lib.hid (HB2.out.trans (hb.mono HB2.out.size))
      have HR3 := Lib.hid (TmR.at htr)
      clear htr hb HB2 HT2
      go_wp2_with fail
      refine (HPC.out a3 c3 _ HR3.out).mono ?_
      rintro e w4 ⟨a4, c4, rfl, hfn, hb⟩
      have HB4 := Lib.hid (HB3.out.trans (hb.mono HB3.out.size))
      have HFN := Lib.hid (FnR.at hfn)
      clear hfn hb HB3 HR3
      have hz0 : P = 0 → F = 0 := fun h => by
        have := HNONE.out (List.eq_nil_of_length_eq_zero (HPP.out.trans h))
        have h3 := HFF.out
        rw [this] at h3
        exact h3.symm
      by_cases hP0 : P = 0
      · have hF0 := hz0 hP0
        subst hP0
        subst hF0
        clear hz0
        go_wp2_with fail
        go_loopw [89] (fun u wx => ∃ (k : Nat), u = .int .i64 (k : Int) ∧ k ≤ 0 ∧ Below w4.heap.size w4 wx) (fun u _ => 0 - (intOf u).toNat)
        case atStart => exact ⟨0, rfl, Nat.zero_le _, Below.refl _ _⟩
        case round =>
          obtain ⟨k, rfl, hkF, hbl⟩ := hrel
          have HBX := Lib.hid hbl
          have hzx := hbl.size
          clear hbl
          by_cases hlk : k < 0
          · exact absurd hlk (Nat.not_lt_zero _)
          · obtain rfl : k = 0 := by omega
            go_wp2_with fail
            go_ret
            exact ⟨rfl, HB4.out.trans (HBX.out.mono HB4.out.size)⟩
      · have hPz : ¬ (P : Int) = 0 := by omega
        have hPd : decide ((P : Int) = 0) = false := decide_eq_false hPz
        have hPb : ((P : Int) == 0) = false := by simpa using hPz
        clear hz0
        go_wp2_with fail
        go_loopw [89] (fun u wx => ∃ (k : Nat), u = .int .i64 (k : Int) ∧ k ≤ F ∧ Below w4.heap.size w4 wx) (fun u _ => F - (intOf u).toNat)
        case atStart => exact ⟨0, rfl, Nat.zero_le _, Below.refl _ _⟩
        case round =>
          obtain ⟨k, rfl, hkF, hbl⟩ := hrel
          have HBX := Lib.hid hbl
          have hzx := hbl.size
          clear hbl
          by_cases hlk : k < F
          · obtain ⟨_, pb, po, hrp⟩ := HFN.out.below HBX.out
            have hixp := fun W => hrp.ix 25 51 Try.underlying25 cellsFnP (by omega) hlk c4 W
            have p0 := hrp.cell k 0 hlk (by omega)
            have p1 := hrp.cell k 1 hlk (by omega)
            rw [Nat.add_zero] at p0
            simp only [prC] at p0 p1
            have hfb := HFORB.out (fs.getD k (0, 0)) (getD_mem _ _ _ (by rw [HFF.out]; exact hlk))
            have hkz : (k : Int) < ((F : Nat) : Int) := by omega
            clear hrp
            generalize fs.getD k (0, 0) = x at *
            obtain ⟨a, b⟩ := x
            simp only at p0 p1 hfb
            go_upto_region 17 with (fail)
            have HBY : Hid (Below w4.heap.size w4 (wr.alloc (.cells #[.int .i64 (a : Int), .int .i64 (b : Int)] 51))) := HBX.out.alloc hzx _
            have HX : Hid ((wr.alloc (.cells #[.int .i64 (a : Int), .int .i64 (b : Int)] 51)).heap[wr.heap.size]? = some (.cells #[.int .i64 (a : Int), .int .i64 (b : Int)] 51 (0, 0))) := heap_alloc_new wr _
            generalize wr.alloc (.cells #[.int .i64 (a : Int), .int .i64 (b : Int)] 51) = w5 at *
            have x0 := row_cells HX.out 0
            clear p0 p1 HX
            by_cases ha : a = 2
            · have hft := hfb ha
              subst hft
              have haz : (a : Int) = 2 := by omega
              have had : decide ((a : Int) = 2) = true := decide_eq_true haz
              have hab : ((a : Int) == 2) = true := by simpa using haz
              clear haz ha hfb
              go_wp2_with fail
              go_roundw
              case rel => exact ⟨k + 1, by go_num, by omega, HBY.out⟩
              case measure => simp [intOf]; omega
            · have haz : ¬ (a : Int) = 2 := by omega
              have had : decide ((a : Int) = 2) = false := decide_eq_false haz
              have hab : ((a : Int) == 2) = false := by simpa using haz
              clear hfb
              go_wp2_with fail
              go_roundw
              case rel => exact ⟨k + 1, by go_num, by omega, HBY.out⟩
              case measure => simp [intOf]; omega
          · obtain rfl : k = F := by omega
            go_wp2_with fail
            go_ret
            exact ⟨rfl, HB4.out.trans (HBX.out.mono HB4.out.size)⟩
end Go.Proofs.Ytkodnagneblgaaa
