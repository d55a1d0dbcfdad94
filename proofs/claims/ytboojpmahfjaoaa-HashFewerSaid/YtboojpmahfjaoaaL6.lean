/- HashFewer: Check does not accept the table of keys without one of them, or with a further one, or with one of them twice. -/
import Derived.Test.YtboojpmahfjaoaaL5
import Derived.Test.YtboojpmahfjaoaaL4
import Derived.Deep.RegionHeld3
import Derived.Deep.DrawnRows
namespace Go.Proofs.Ytboojpmahfjaoaa
open Go.RowKit
attribute [local go_sem] Ext.cell Ext.frozen
attribute [local go_sem ↓] Go.wp_at_zero Go.wp_at_succ

theorem step_wanted {P : Program} {ops : Array Oper} {o : Oper} {a : Act} {w : World} {K : Act → World → Prop} {Q : Exit → Act → World → Prop} {E : Prop}
    (hw : Region.wanted o (yielded ops a.tmps) = true) (h : Oper.wp P o a w K Q) : if Region.wanted o (yielded ops a.tmps) = true then Oper.wp P o a w K Q else E := by
  rw [if_pos hw]; exact h

theorem strs_set (l : List ByteArray) (i : Nat) (x : ByteArray) : strs (l.set i x) = (strs l).set i (.string x) := by
  simp [strs, List.map_set]

theorem run_tail (bk ok n c : Nat) (hn : 1 ≤ n) (W : World) : (Instr.sliceAt 22 (.slice (some ⟨bk, ok, none⟩) n c) (some (.int .i64 1)) none none).run Try.prog W =
    .ok (.slice (if c = 1 then some ⟨bk, ok, none⟩ else some ⟨bk, ok + 1, none⟩) (n - 1) (c - 1)) W := by
  have hel : Try.prog.elem 22 = 9 := by simp [Program.elem, Try.underlying22]
  rw [run_sliceAt_slice (P := Try.prog) W 22 _ _ _ _ (by rw [hel]; exact Try.underlying22), run_slice_l (P := Try.prog) W 22 _ n c (by rw [hel]; exact Try.underlying22) .i64 1 (by omega) (by omega), hel]
  have hs : (sizeOf 9).run Try.prog W = .ok 1 W := by
    have := cells9
    unfold Program.cellsOf at this
    cases hi : Try.prog.info? 9 with
    | none => simp [hi] at this
    | some i => simp [hi] at this; simp [sizeOf, typeInfo, hi, this]
  rw [hs]
  simp [Result.andThen, sliced, Addr.add]

theorem tail_sl {w : World} {bk ok n c : Nat} {keys : List ByteArray} (h : SlAt w (some ⟨bk, ok, none⟩) n (strs keys) bk ok) (hn : 1 ≤ n) (hc : n ≤ c) :
    Sl w (if c = 1 then some ⟨bk, ok, none⟩ else some ⟨bk, ok + 1, none⟩) (n - 1) (strs keys.tail) := by
  have hl := h.len
  rw [strs_length] at hl
  refine ⟨bk, ok + 1, by rw [strs_length, List.length_tail, hl], by have := h.max; omega, fun h0 => ?_, fun i hi => ?_⟩
  · rw [if_neg (by omega)]
  · rw [Nat.add_assoc, Nat.add_comm 1 i, h.cell (i + 1) (by omega), strs_getD _ _ (by omega), strs_getD _ _ (by rw [List.length_tail]; omega)]
    simp [List.getD, List.getElem?_tail]

theorem addr_add (b o j : Nat) : (⟨b, o, none⟩ : Addr).add j = ⟨b, o + j, none⟩ := by
  unfold Addr.add
  split
  · rename_i e; subst e; rfl
  · rfl
theorem own_addr {w : World} {base : Nat} {E : TypeId} {ad : Option Addr} {n c : Nat} {xs : List Value} (h : w.ownsRow base E 1 (.slice ad n c) n xs) (hn : n ≠ 0) :
    ∃ g, ad = some ⟨g, 0, none⟩ ∧ base ≤ g ∧ g < w.heap.size := by
  have hl := Own.lt h
  obtain ⟨h0, ⟨h1, h2⟩ | ⟨g, cap, cur, h1, h2, h3⟩⟩ := h
  · rw [h2] at h0
    simp at h0
    omega
  · injection h1 with e1 e2 e3
    subst e1
    exact ⟨g, rfl, h2, (hl g rfl).2⟩
theorem own_slat {w : World} {base : Nat} {E : TypeId} {g n c : Nat} {xs : List Value} (h : w.ownsRow base E 1 (.slice (some ⟨g, 0, none⟩) n c) n xs) (hm : n ≤ 9223372036854775807) :
    SlAt w (some ⟨g, 0, none⟩) n xs g 0 := by
  have hl : xs.length = n := by have := h.1; omega
  refine ⟨hl, hm, fun _ => rfl, fun i hi => ?_⟩
  rw [Nat.zero_add, h.cellAt i (by omega)]
  simp [List.getD, List.getElem?_eq_getElem (show i < xs.length by omega)]
theorem fs_next {T5 : Nat} {v0 v1 : Value} {W X X' : World} (hT : T5 < W.heap.size) (h1 : X.cell? ⟨T5, 0, none⟩ = some v0) (h2 : X.cell? ⟨T5, 1, none⟩ = some v1) (h3 : Below W.heap.size W X) (hb : Below W.heap.size X X') :
    X'.cell? ⟨T5, 0, none⟩ = some v0 ∧ X'.cell? ⟨T5, 1, none⟩ = some v1 ∧ Below W.heap.size W X' :=
  ⟨(hb.cell (p := ⟨T5, 0, none⟩) hT).trans h1, (hb.cell (p := ⟨T5, 1, none⟩) hT).trans h2, h3.trans hb⟩
theorem fs_alloc {T5 : Nat} {v0 v1 : Value} {W X : World} {o : Obj} (hT : T5 < W.heap.size) (h1 : X.cell? ⟨T5, 0, none⟩ = some v0) (h2 : X.cell? ⟨T5, 1, none⟩ = some v1) (h3 : Below W.heap.size W X) :
    (X.alloc o).cell? ⟨T5, 0, none⟩ = some v0 ∧ (X.alloc o).cell? ⟨T5, 1, none⟩ = some v1 ∧ Below W.heap.size W (X.alloc o) :=
  fs_next hT h1 h2 h3 ((Below.refl _ _).alloc h3.size _)
theorem below_grown {W X X' : World} {ad : Option Addr} {n c : Nat} {xs : List Value} (h3 : Below W.heap.size W X) (ho : X.ownsRow W.heap.size 9 1 (.slice ad n c) n xs) (hg : X.grownBy X' (Value.ownBlock (.slice ad n c))) : Below W.heap.size X X' :=
  (Below.refl _ X).grown hg h3.size (fun k hk => ((Own.lt ho) k hk).1)

/-- the seventh operation: append(t49, t50), in a region that draws its order -/
theorem app_first {ops : Array Oper} {o : Oper} {a : Act} {X W : World} {K : Act → World → Prop} {Q : Exit → Act → World → Prop} {E : Prop}
    (hw : Region.wanted o (yielded ops a.tmps) = true) (ho : o.op = .call { callee := .builtin .append, args := #[.tmp 49, .tmp 50], argTypes := #[22, 22] }) (ho' : o.dst = some 51)
    (g bk ok n c : Nat) (keys : List ByteArray) (hn : keys.length = n) (hn60 : n ≤ 60) (hs : a.eval (.tmp 49) = .slice (some ⟨g, 0, none⟩) 0 0) (hx : a.eval (.tmp 50) = .slice (some ⟨bk, ok, none⟩) n c)
    (hown : X.ownsRow W.heap.size 9 1 (.slice (some ⟨g, 0, none⟩) 0 0) 0 []) (hW : Below W.heap.size W X) (hk : SlAt W (some ⟨bk, ok, none⟩) n (strs keys) bk ok)
    (h : ∀ ad c' X', X'.ownsRow W.heap.size 9 1 (.slice ad n c') n (strs keys) → X.grownBy X' (some g) → Below W.heap.size X X' → K (a.put (some 51) (.slice ad n c')) X') :
    if Region.wanted o (yielded ops a.tmps) = true then Oper.wp Try.prog o a X K Q else E := by
  refine step_wanted hw ?_
  obtain ⟨i0, hi, hz0, hz1, hz2⟩ := info_parts info9'
  refine wp_append_own _ _ _ 22 ho W.heap.size 9 i0 _ 1 16 Try.underlying22 hi hz0 hz1 hz2 rfl (by decide) _ 0 [] hs hown ⟨bk, ok, none⟩ n c (strs keys) hx (by rw [strs_length, hn, Nat.mul_one]) (fun j u hu => ?_) (fun u hu => ?_) (by unfold maxLen; omega) (by omega) hW.size ?_
  · have hj : j < n := by
      have := (List.getElem?_eq_some_iff.1 hu).1
      rw [strs_length, hn] at this
      exact this
    have h1 := hk.cell j hj
    have h2 : (strs keys).getD j undef = u := by simp [List.getD, hu]
    rw [h2] at h1
    have h3 : (⟨bk, ok, none⟩ : Addr).add j = ⟨bk, ok + j, none⟩ := by
      unfold Addr.add
      split
      · rename_i e; subst e; rfl
      · rfl
    rw [h3, hW.cell (p := ⟨bk, ok + j, none⟩) (hk.block (by omega))]
    exact h1
  · simp [strs] at hu
    obtain ⟨s, _, rfl⟩ := hu
    rfl
  · intro v' w' ho2 hg _
    rw [Nat.zero_add] at ho2
    simp only [List.nil_append] at ho2
    obtain ⟨ad, c', rfl⟩ := own_form ho2
    rw [ho']
    exact h ad c' w' ho2 hg (below_grown hW hown hg)

/-- append(t51, t53) -/
theorem app_second {ops : Array Oper} {o : Oper} {a : Act} {X W : World} {K : Act → World → Prop} {Q : Exit → Act → World → Prop} {E : Prop}
    (hw : Region.wanted o (yielded ops a.tmps) = true) (ho : o.op = .call { callee := .builtin .append, args := #[.tmp 51, .tmp 53], argTypes := #[22, 22] }) (ho' : o.dst = some 54)
    (g n c : Nat) (ad : Option Addr) (keys : List ByteArray) (more : ByteArray) (hn60 : n ≤ 60) (hs : a.eval (.tmp 51) = .slice ad n c) (hx : a.eval (.tmp 53) = .slice (some ⟨g, 0, none⟩) 1 1)
    (hown : X.ownsRow W.heap.size 9 1 (.slice ad n c) n (strs keys)) (hW : Below W.heap.size W X) (hg : X.cell? ⟨g, 0, none⟩ = some (.string more))
    (h : ∀ ad c' X', Sl X' ad (n + 1) (strs (keys ++ [more])) → Below W.heap.size X X' → K (a.put (some 54) (.slice ad (n + 1) c')) X') :
    if Region.wanted o (yielded ops a.tmps) = true then Oper.wp Try.prog o a X K Q else E := by
  refine step_wanted hw ?_
  obtain ⟨i0, hi, hz0, hz1, hz2⟩ := info_parts info9'
  refine wp_append_own _ _ _ 22 ho W.heap.size 9 i0 _ 1 16 Try.underlying22 hi hz0 hz1 hz2 rfl (by decide) _ n (strs keys) hs hown ⟨g, 0, none⟩ 1 1 [.string more] hx rfl (fun j u hu => ?_) (fun u hu => ?_) (by unfold maxLen; omega) (by omega) hW.size ?_
  · have hj : j = 0 := by
      have := (List.getElem?_eq_some_iff.1 hu).1
      simp at this
      exact this
    subst hj
    simp at hu
    subst hu
    exact hg
  · simp at hu
    subst hu
    rfl
  · intro v' w' ho2 hg _
    obtain ⟨ad', c', rfl⟩ := own_form ho2
    rw [← strs_snoc] at ho2
    rw [ho']
    exact h ad' c' w' (Own.sl ho2) (below_grown hW hown hg)

theorem own_empty (Y : World) (B : Nat) (h : B ≤ Y.heap.size) : (Y.alloc (.cells #[] 9)).ownsRow B 9 1 (.slice (some ⟨Y.heap.size, 0, none⟩) 0 0) 0 [] :=
  World.ownsRow_lit (base := B) (e := 9) (size := 1) Y #[] 0 h (by unfold maxLen; omega) rfl
theorem own_empty1 (Y : World) (o : Obj) (B : Nat) (h : B ≤ Y.heap.size) : ((Y.alloc (.cells #[] 9)).alloc o).ownsRow B 9 1 (.slice (some ⟨Y.heap.size, 0, none⟩) 0 0) 0 [] :=
  (own_empty Y B h).alloc _
theorem own_empty2 (Y : World) (o : Obj) (B : Nat) (h : B ≤ Y.heap.size) : ((Y.alloc o).alloc (.cells #[] 9)).ownsRow B 9 1 (.slice (some ⟨Y.heap.size + 1, 0, none⟩) 0 0) 0 [] := by
  have := own_empty (Y.alloc o) B (by simp; omega)
  simpa using this
theorem one_new (X1 : World) (more : ByteArray) : (X1.alloc (.cells #[.string more] 9)).cell? ⟨X1.heap.size, 0, none⟩ = some (.string more) := by
  simp [World.cell?, World.alloc, -World.alloc_eq]
theorem far_one (Y X1 : World) (more : ByteArray) {g : Nat} (hg : g = Y.heap.size) (h : ((Y.alloc (.cells #[] 9)).alloc (.cells #[.string more] 9)).grownBy X1 (some g)) : X1.cell? ⟨Y.heap.size + 1, 0, none⟩ = some (.string more) := by
  subst hg
  rw [h.cell_far _ (by simp) (by simp)]
  simp
theorem far_two (Y X1 : World) (more : ByteArray) {g : Nat} (hg : g = Y.heap.size + 1) (h : ((Y.alloc (.cells #[.string more] 9)).alloc (.cells #[] 9)).grownBy X1 (some g)) : X1.cell? ⟨Y.heap.size, 0, none⟩ = some (.string more) := by
  subst hg
  rw [h.cell_far _ (by simp; omega) (by simp)]
  have h1 : ((Y.alloc (.cells #[.string more] 9)).alloc (.cells #[] 9)).cell? ⟨Y.heap.size, 0, none⟩ = (Y.alloc (.cells #[.string more] 9)).cell? ⟨Y.heap.size, 0, none⟩ :=
    ((Below.refl _ _).alloc (Nat.le_refl _) _).cell (p := ⟨Y.heap.size, 0, none⟩) (by simp)
  rw [h1]
  simp [World.cell?, World.alloc, -World.alloc_eq]


set_option maxHeartbeats 8000000 in
theorem hashFewer_walk (ad : Option Addr) (n c : Nat) (keys : List ByteArray) (more : ByteArray) (w : World) (hk : Sl w ad n (strs keys)) (hm : ∀ s ∈ keys, s.size ≤ 9223372036854775807) (hcap : n ≤ c) (hmore : more.size ≤ 9223372036854775807) :
    Calls Try.prog 8 #[.slice ad n c, .string more] w fun e w' => e = .returned (.bool true) ∧ Below w.heap.size w w' := by
  have hl := hk.len
  rw [strs_length] at hl
  have HL := Lib.hid hl
  have HK := Lib.hid hk
  have HM := Lib.hid hm
  clear hk hm hl
  go_enter Try.func8, Try.ntmps8
  go_wp2_with fail
  refine (awake_any _).mono ?_
  rintro e w1 ⟨rfl, hb⟩
  have HB1 := Lib.hid hb
  have hz1 := hb.size
  have HK1 := Lib.hid (HK.out.below hb)
  clear hb
  have HF := Lib.hid (fun W h => few_any ad n c keys W h HM.out)
  cases hf : (keys.all (fun s => decide (s.size ≤ 60)) && decide (keys.length ≤ 60)) with
  | false =>
    rw [hf] at HF
    clear hf
    go_wp2_with fail
    refine (HF.out _ HK1.out).mono ?_
    rintro e w' ⟨rfl, rfl⟩
    go_wp2_with fail
    refine (awake_any _).mono ?_
    rintro e w2 ⟨rfl, hb2⟩
    have HB2 := Lib.hid (HB1.out.trans (hb2.mono hz1))
    clear hb2
    go_wp2_with fail
    go_ret
    exact ⟨rfl, HB2.out⟩
  | true =>
    rw [hf] at HF
    have hn60 : n ≤ 60 := by have := few_le hf; rw [HL.out] at this; exact this
    clear hf
    by_cases hm60 : 60 < more.size
    · go_wp2_with fail
      refine (HF.out _ HK1.out).mono ?_
      rintro e w' ⟨rfl, rfl⟩
      go_wp2_with fail
      refine (awake_any _).mono ?_
      rintro e w2 ⟨rfl, hb2⟩
      have HB2 := Lib.hid (HB1.out.trans (hb2.mono hz1))
      clear hb2
      go_wp2_with fail
      go_ret
      exact ⟨rfl, HB2.out⟩
    · go_wp2_with fail
      refine (HF.out _ HK1.out).mono ?_
      rintro e w' ⟨rfl, rfl⟩
      go_wp2_with fail
      refine (build_any ad n c keys _ HK1.out hn60 HM.out).mono ?_
      rintro e w2 ⟨⟨ad2, c2, rfl, hsl⟩, hb2⟩
      have HB2 := Lib.hid (HB1.out.trans (hb2.mono hz1))
      have hz2 := HB2.out.size
      by_cases he : errB keys = 0
      · by_cases hn0 : n = 0
        · have hsz : sizeB keys = 0 := by simp [sizeB, he, HL.out, hn0]
          rw [he, hsz]
          have HBE := Lib.hid (HB2.out.alloc hz2 (.cells #[.int .i64 0, .slice ad2 (seedsB keys).length c2] 27))
          generalize seedsB keys = zs at *
          have hnn : ((n : Int) == 0) = true := by simp [hn0]
          clear hsl hb2 he hsz hn0
          go_wp2_with fail
          go_ret
          exact ⟨rfl, HBE.out⟩
        · have hp := perf_of he (by rw [HL.out]; omega)
          have hsz : sizeB keys = n := by simp [sizeB, he, HL.out]
          have hke : keys ≠ [] := fun e => hn0 (by rw [← HL.out, e]; rfl)
          have htw := twice_check hp hke
          rw [HL.out] at htw
          have HTW := Lib.hid htw
          have HTL : Hid (checkT n (seedsB keys) keys.tail = false) := by
            have := other_check (keys := keys) (other := keys.tail) (by rw [List.length_tail, HL.out]; omega)
            rwa [HL.out] at this
          have HMO : Hid (checkT n (seedsB keys) (keys ++ [more]) = false) := by
            have := other_check (keys := keys) (other := keys ++ [more]) (by simp)
            rwa [HL.out] at this
          rw [he, hsz]
          have HS2 := Lib.hid (hsl.alloc (.cells #[.int .i64 n, .slice ad2 (seedsB keys).length c2] 27))
          have HK2 := Lib.hid ((HK1.out.below hb2).alloc (.cells #[.int .i64 n, .slice ad2 (seedsB keys).length c2] 27))
          have HB3 := Lib.hid (HB2.out.alloc hz2 (.cells #[.int .i64 n, .slice ad2 (seedsB keys).length c2] 27))
          have hrow := heap_alloc_last w2 (.cells #[.int .i64 n, .slice ad2 (seedsB keys).length c2] 27)
          generalize seedsB keys = zs at *
          clear hsz he hp hsl hb2 htw hke
          have hnn : ((n : Int) == 0) = false := by simp [hn0]
          obtain ⟨bk, ok, hks⟩ := HK2.out
          obtain rfl := hks.adr hn0
          have HKS := Lib.hid hks
          have hbk := hks.block hn0
          obtain ⟨i0, hi, hz0, hz1', hz2'⟩ := info_parts info9'
          have hzW : (w2.alloc (.cells #[.int .i64 n, .slice ad2 zs.length c2] 27)).heap.size = w2.heap.size + 1 := by simp
          have HZW := Lib.hid hzW
          clear hks hzW HK2
          have hown0 : ((w2.alloc (.cells #[.int .i64 n, .slice ad2 zs.length c2] 27)).alloc (.cells #[] 9)).ownsRow (w2.heap.size + 1) 9 1 (.slice (some ⟨w2.heap.size + 1, 0, none⟩) 0 0) 0 [] := by
            have := World.ownsRow_lit (base := w2.heap.size + 1) (e := 9) (size := 1) (w2.alloc (.cells #[.int .i64 n, .slice ad2 zs.length c2] 27)) #[] 0 (by simp) (by unfold maxLen; omega) rfl
            simpa using this
          go_wp2_with (at_builtin; refine wpList_append_own _ rfl _ _ 22 rfl (w2.heap.size + 1) 9 i0 (.string .empty) 1 16 Try.underlying22 hi hz0 hz1' hz2' rfl (by decide) (.slice (some ⟨w2.heap.size + 1, 0, none⟩) 0 0) 0 [] rfl hown0 ⟨bk, ok, none⟩ n c (strs keys) rfl ?c1 ?c2 ?c3 (by unfold maxLen; omega) (by omega) (by simp) ?_)
          case c1 => rw [strs_length, HL.out, Nat.mul_one]
          case c2 =>
            intro j u hu
            have hj : j < n := by
              have := (List.getElem?_eq_some_iff.1 hu).1
              rw [strs_length, HL.out] at this
              exact this
            have h1 := HKS.out.cell j hj
            have h2 : (strs keys).getD j undef = u := by simp [List.getD, hu]
            rw [h2] at h1
            rw [addr_add, ← h1]
            exact ((Below.refl _ _).alloc (Nat.le_refl _) _).cell (p := ⟨bk, ok + j, none⟩) hbk
          case c3 =>
            intro u hu
            simp [strs] at hu
            obtain ⟨s, _, rfl⟩ := hu
            rfl
          intro v5 W hown hgrow _
          obtain ⟨ad5, c5, rfl⟩ := own_form hown
          obtain ⟨g5, rfl, hg5, hg5'⟩ := own_addr hown hn0
          have hbW : Below (w2.heap.size + 1) (w2.alloc (.cells #[.int .i64 n, .slice ad2 zs.length c2] 27)) W :=
            ((Below.refl _ _).alloc (by simp) _).grown hgrow (by simp) (fun k hk => by simp [Value.ownBlock] at hk; omega)
          have hks5 := HKS.out.below (by rw [HZW.out]; exact hbW)
          have hix0 : ∀ V, (Instr.indexAt 22 (.slice (some ⟨bk, ok, none⟩) n c) (.int .i64 0)).run Try.prog V = .ok (.pointer (some ⟨bk, ok, none⟩)) V := fun V => by
            have := hks5.ix (P := Try.prog) (c := c) 22 9 Try.underlying22 cells9 (k := 0) (by omega) V
            simpa using this
          have hcl0 := hks5.cell 0 (by omega)
          rw [strs_getD keys 0 (by rw [HL.out]; omega), Nat.add_zero] at hcl0
          have hixn : ∀ V, (Instr.indexAt 22 (.slice (some ⟨g5, 0, none⟩) n c5) (.int .i64 ((n : Int) - 1))).run Try.prog V = .ok (.pointer (some ⟨g5, n - 1, none⟩)) V := fun V => by
            have := (own_slat hown (by omega)).ix (P := Try.prog) (c := c5) 22 9 Try.underlying22 cells9 (k := n - 1) (by omega) V
            rw [Nat.zero_add] at this
            rw [show ((n : Int) - 1) = ((n - 1 : Nat) : Int) by omega]
            exact this
          have hcn := (own_slat hown (by omega)).cell (n - 1) (by omega)
          rw [Nat.zero_add, strs_getD keys (n - 1) (by rw [HL.out]; omega)] at hcn
          have hfn := hown.frozenAt (n - 1)
          have hc50 := (hbW.cell (p := ⟨w2.heap.size, 0, none⟩) (by simp)).trans (cell_of_row _ _ 0 _ _ _ hrow)
          have hc51 := (hbW.cell (p := ⟨w2.heap.size, 1, none⟩) (by simp)).trans (cell_of_row _ _ 1 _ _ _ hrow)
          have hst := (hown.stored (n - 1) (.string (keys.getD 0 .empty))).1
          rw [← strs_set] at hst
          have htw2 : keys.set (n - 1) (keys.getD 0 .empty) = twice keys := by unfold twice; rw [HL.out]
          rw [htw2] at hst
          have hbW2 := hbW.setCell (p := ⟨g5, n - 1, none⟩) (by exact hg5) (.string (keys.getD 0 .empty))
          have hd50 : (W.setCell ⟨g5, n - 1, none⟩ (.string (keys.getD 0 .empty))).cell? ⟨w2.heap.size, 0, none⟩ = some (.int .i64 n) := by
            rw [World.cell?_setCell_other _ _ _ _ (by simp <;> omega), hc50]; rfl
          have hd51 : (W.setCell ⟨g5, n - 1, none⟩ (.string (keys.getD 0 .empty))).cell? ⟨w2.heap.size, 1, none⟩ = some (.slice ad2 zs.length c2) := by
            rw [World.cell?_setCell_other _ _ _ _ (by simp <;> omega), hc51]; rfl
          have hzW2 : w2.heap.size + 1 ≤ (W.setCell ⟨g5, n - 1, none⟩ (.string (keys.getD 0 .empty))).heap.size := by
            have := hbW2.size
            simpa using this
          generalize keys.getD 0 .empty = k0 at *
          clear hks5 hown hown0 hgrow htw2 hbW hrow
          go_wp2_with fail
          clear hcn hfn hcl0 hix0 hixn hc50 hc51
          generalize W.setCell ⟨g5, n - 1, none⟩ (.string k0) = W2 at *
          have HKS2 := Lib.hid (HKS.out.below (by rw [HZW.out]; exact hbW2))
          have HTW2 := Lib.hid (Own.sl hst)
          have HZS2 := Lib.hid (HS2.out.below (by rw [HZW.out]; exact hbW2))
          have HBE := Lib.hid (HB3.out.trans (hbW2.mono (by omega)))
          have hT5 : w2.heap.size < W2.heap.size := by omega
          have hzE : w.heap.size ≤ W2.heap.size := by omega
          generalize w2.heap.size = T5 at *
          clear HKS HS2 HK1 HK HB1 HB2 HB3 HF hst hbW2 HZW
          have CK1 : Hid (∀ X, Below W2.heap.size W2 X → Calls Try.prog 18 #[.agg #[.int .i64 n, .slice ad2 zs.length c2], .slice (if c = 1 then some ⟨bk, ok, none⟩ else some ⟨bk, ok + 1, none⟩) (n - 1) (c - 1)] X fun e w' => e = .returned (.bool false) ∧ Below W2.heap.size X w') := fun X hX => by
            have := check_any (n : Int) ad2 _ zs.length c2 (n - 1) (c - 1) zs keys.tail X (HZS2.out.below hX) (tail_sl (HKS2.out.below hX) (by omega) hcap) (fun s hs => HM.out s (List.mem_of_mem_tail hs))
            rw [HTL.out] at this
            exact this.mono fun e w' ⟨h1, h2⟩ => ⟨h1, h2.mono hX.size⟩
          have CK2 : Hid (∀ X ad6 c6, Below W2.heap.size W2 X → Sl X ad6 (n + 1) (strs (keys ++ [more])) → Calls Try.prog 18 #[.agg #[.int .i64 n, .slice ad2 zs.length c2], .slice ad6 (n + 1) c6] X fun e w' => e = .returned (.bool false) ∧ Below W2.heap.size X w') := fun X ad6 c6 hX hS => by
            have := check_any (n : Int) ad2 ad6 zs.length c2 (n + 1) c6 zs (keys ++ [more]) X (HZS2.out.below hX) hS (fun s hs => by
              rcases List.mem_append.1 hs with h | h
              · exact HM.out s h
              · rw [List.mem_singleton.1 h]; exact hmore)
            rw [HMO.out] at this
            exact this.mono fun e w' ⟨h1, h2⟩ => ⟨h1, h2.mono hX.size⟩
          have CK3 : Hid (∀ X, Below W2.heap.size W2 X → Calls Try.prog 18 #[.agg #[.int .i64 n, .slice ad2 zs.length c2], .slice (some ⟨g5, 0, none⟩) n c5] X fun e w' => e = .returned (.bool (decide (n = 1))) ∧ Below W2.heap.size X w') := fun X hX => by
            have := check_any (n : Int) ad2 _ zs.length c2 n c5 zs (twice keys) X (HZS2.out.below hX) (HTW2.out.below hX) (fun s hs => by
              obtain ⟨i, hi, rfl⟩ := List.getElem_of_mem hs
              simp only [twice] at hi ⊢
              rw [List.length_set] at hi
              rw [List.getElem_set]
              split
              · exact HM.out _ (getD_mem keys 0 .empty (by omega))
              · exact HM.out _ (List.getElem_mem _))
            rw [HTW.out] at this
            exact this.mono fun e w' ⟨h1, h2⟩ => ⟨h1, h2.mono hX.size⟩
          have hrt := run_tail bk ok n c (by omega)
          have heq : ((n : Int) == 1) = decide (n = 1) := by
            rw [Bool.eq_iff_iff]; simp; omega
          generalize (if c = 1 then some (⟨bk, ok, none⟩ : Addr) else some ⟨bk, ok + 1, none⟩) = adT at *
          have hn1 : (1 : Int) ≤ (n : Int) := by omega
          go_region_held3 (fun w' => w'.cell? ⟨T5, 0, none⟩ = some (.int .i64 n) ∧ w'.cell? ⟨T5, 1, none⟩ = some (.slice ad2 zs.length c2) ∧ Below W2.heap.size W2 w')
            ((go_split_ands; (first
              | exact ⟨hd50, hd51, (Below.refl _ _).drew⟩
              | (refine fs_next hT5 ?_ ?_ ?_ hb9 <;> assumption)
              | (refine fs_next hT5 ?_ ?_ ?_ hb8 <;> assumption)
              | (refine fs_next hT5 ?_ ?_ ?_ hb7 <;> assumption)
              | (refine fs_next hT5 ?_ ?_ ?_ hb <;> assumption)
              | (refine fs_alloc hT5 ?_ ?_ ?_ <;> assumption))))
            ((go_split_ands; (first
                  | (go_at_call 18; (first
                    | ((with_reducible refine (CK1.out _ ?_).mono ?_); (focus assumption); rintro e w' ⟨rfl, hb⟩)
                    | ((with_reducible refine (CK3.out _ ?_).mono ?_); (focus assumption); rintro e w' ⟨rfl, hb9⟩)
                    | ((with_reducible refine (CK2.out _ _ _ ?_ hS8).mono ?_); (focus assumption); rintro e w' ⟨rfl, hb9⟩)))
                  | (refine app_first (by rfl) (by rfl) (by rfl) _ bk ok n c keys HL.out hn60 (by rfl) (by rfl) (own_empty _ _ (by have := hb.size; simp at this ⊢; omega)) ?_ HKS2.out ?_; (focus assumption); intro ad7 c7 X1 hown7 hg7 hb7)
                  | (refine app_first (by rfl) (by rfl) (by rfl) _ bk ok n c keys HL.out hn60 (by rfl) (by rfl) (own_empty1 _ _ _ (by have := hb.size; simp at this ⊢; omega)) ?_ HKS2.out ?_; (focus assumption); intro ad7 c7 X1 hown7 hg7 hb7)
                  | (refine app_first (by rfl) (by rfl) (by rfl) _ bk ok n c keys HL.out hn60 (by rfl) (by rfl) (own_empty2 _ _ _ (by have := hb.size; simp at this ⊢; omega)) ?_ HKS2.out ?_; (focus assumption); intro ad7 c7 X1 hown7 hg7 hb7)
                  | (refine app_second (by rfl) (by rfl) (by rfl) _ n _ _ keys more hn60 (by rfl) (by rfl) (hown7.alloc _) ?_ (one_new _ _) ?_; (focus assumption); intro ad8 c8 X2 hS8 hb8)
                  | (refine app_second (by rfl) (by rfl) (by rfl) _ n _ _ keys more hn60 (by rfl) (by rfl) hown7 ?_ (far_one _ _ _ rfl hg7) ?_; (focus assumption); intro ad8 c8 X2 hS8 hb8)
                  | (refine app_second (by rfl) (by rfl) (by rfl) _ n _ _ keys more hn60 (by rfl) (by rfl) hown7 ?_ (far_two _ _ _ rfl hg7) ?_; (focus assumption); intro ad8 c8 X2 hS8 hb8))))
          all_goals
            go_split_ands
            go_wp2_with fail
            go_ret
            exact ⟨by simp, HBE.out.trans (Below.mono (by assumption) hzE)⟩
      · obtain ⟨h1, h2⟩ := err_size he
        rw [h1, h2]
        have hne : (((errB keys : Nat) : Int) != 0) = true := by simp; omega
        generalize errB keys = er at *
        clear hsl h1 h2 he
        have HBE := Lib.hid (HB2.out.alloc hz2 (.cells #[.int .i64 0, .slice ad2 0 c2] 27))
        go_wp2_with fail
        go_ret
        exact ⟨rfl, HBE.out⟩
end Go.Proofs.Ytboojpmahfjaoaa

namespace Go.Proofs.Ytboojpmahfjaoaa
open Go.ChangeShapes Go.WideShapes Go.ChangeAt Go.RowKit Go.Joins
section
variable {H : Type} {enc : TypeId × Value → H} {w : World} {base : Nat} {spare : Nat → Bool} {held : Bool}
/-- a slice of strings, with its capacity -/
theorem open_str_slc {fuel : Nat} {v : Value} {x : DataW H × List MemPlace} (h : DataW.trod enc Try.prog w base spare held fuel 22 [v] = some x) :
    ∃ ad n c ss, v = .slice ad n c ∧ Sl w ad n (strs ss) ∧ (∀ s ∈ ss, s.size ≤ 9223372036854775807) ∧ n ≤ c := by
  rcases open_strings Try.underlying22 Try.underlying9 cells9 h with ⟨hcs, _⟩ | ⟨a, len, cap, ss, hcs, _, hl, hm, hz, _, hcell, hwf⟩
  · simp at hcs
    subst hcs
    exact ⟨none, 0, 0, [], rfl, Sl.nil _, (fun s hs => by simp at hs), Nat.le_refl _⟩
  · simp at hcs
    subst hcs
    have hlz : len ≤ ss.length := by rw [hz]; split <;> omega
    refine ⟨some a, len, cap, ss.take len, rfl, sl_of_row ?_ (by omega) (fun i hi => ?_), fun s hs => ?_, hl⟩
    · rw [strs_length, List.length_take]
      omega
    · rw [hcell i (by omega), strs_getD _ _ (by rw [List.length_take]; omega)]
      simp [List.getD, List.getElem?_take, hi]
    · have := hwf s (List.mem_of_mem_take hs)
      unfold maxLen at this
      omega
end
end Go.Proofs.Ytboojpmahfjaoaa

namespace Go.Proofs.Ytboojpmahfjaoaa.lawHashFewer
open Go.ChangeShapes Go.WideShapes Go.ChangeAt Go.RowKit Go.Joins
open Go.ChangeMaps (open_string shut_string)
set_option maxRecDepth 100000 in
theorem lifted (os : Os) (started : os.Started) (H : Type) (enc : TypeId × Value → H) :
    ReturnsInHanded {} Try.checked os 8 .any (Rows.hashFewerSpec.pre6 enc Try.prog Try.f8 Rows.hashFewerRow.domain false) (Rows.hashFewerSpec.post enc Try.prog Try.f8 false true false false) := by
  refine returnsInHanded_of_change (C := Try.checked) own started (by kernel_rfl) Try.func8
    (ChangeSpec.witness6 (enc := enc) (C := Try.checked) false ⟨#[], #[.slice none 0 0, .string .empty], []⟩ 8 (by kernel_rfl) (by kernel_rfl) (by kernel_rfl) (by kernel_rfl)) ?_
  intro W base args ds gs before hval0 hW _ _
  have hval : ∀ (j : Nat) t v, Try.f8.params[j]? = some t → args[j]? = some v → Value.okWide Try.prog W .any base t v := hval0
  have hW' := hW
  obtain ⟨p, q, hA0, hV, rfl, hfz, hnd⟩ := hW
  have hA : DataW.TrodAll enc Try.prog W 0 (fun _ => true) true Try.f8.params.toList args.toList ds p := hA0
  rw [Try.params8] at hA hval
  obtain ⟨v0, vs0, d0, ds0, p0, q0, hargs, rfl, rfl, h0, r0⟩ := trodAll_cons hA
  obtain ⟨v1, vs1, d1, ds1, p1, q1, rfl, rfl, rfl, h1, r1⟩ := trodAll_cons r0
  obtain ⟨rfl, rfl, rfl⟩ := trodAll_nil r1
  obtain rfl : args = #[v0, v1] := by cases args; simp_all
  obtain ⟨rfl, rfl⟩ := trodVars_none hV
  have k0 := h0
  have lt0 : ∀ x ∈ p0, x.block < W.heap.size := by obtain ⟨m, hm⟩ := k0; exact DataW.trod_lt m _ _ _ hm
  obtain ⟨a0, l0, cp0, rfl⟩ := okWide_slice Try.underlying22 (hval 0 22 v0 rfl rfl)
  obtain ⟨fuel0, hf0⟩ := h0
  obtain ⟨ad0, n0, c0, keys0, e0, hk0, hm0, hc0⟩ := open_str_slc (by simpa [Value.cells] using hf0)
  injection e0 with e01 e02 e03
  subst e01 e02 e03
  obtain ⟨s1, rfl, rfl, rfl, hs1⟩ := open_string Try.underlying9 (hval 1 9 v1 rfl rfl) h1
  clear hA0 hval0
  refine (hashFewer_walk a0 l0 cp0 keys0 s1 W hk0 hm0 hc0 (by unfold maxLen at hs1; omega)).mono fun e W' ⟨he, bel⟩ => ?_
  subst he
  exact ⟨_, rfl, _, _, _, [], _, [], hW', trodAll_mk1 (shut_bool Try.underlying4 _), (trodAll_cons_mk (Below.trod laidOut (by kernel_rfl) (of_decide_eq_true (by kernel_rfl)) k0 bel lt0) (trodAll_cons_mk (shut_string Try.underlying9 hs1) trodAll_mk0)), rfl, bel.frame _, fun h => by cases h⟩

theorem proved : Rows.HashFewerSaid :=
  OpenClaim.holds_of_wide 8 Try.f8 rfl rfl rfl rfl rfl rfl rfl ⟨rfl, rfl, rfl, rfl, rfl⟩ rfl rfl rfl rfl rfl (by kernel_rfl) Try.func8 (by kernel_rfl)
    (of_decide_eq_true (by kernel_rfl)) (by unfold Func.isWrapper; first | (rw [if_pos (by decide +kernel)]; kernel_rfl) | (rw [if_neg (by decide +kernel)]; exact ⟨rfl, rfl⟩))
    (fun os started H enc _ => lifted os started H enc)
#print axioms proved
end Go.Proofs.Ytboojpmahfjaoaa.lawHashFewer
