/- HashPerfect: in the table of keys, each number below their number is the slot of exactly one of them. -/
import Derived.Test.YtboojpmahfjaoaaO2
import Derived.Test.YtboojpmahfjaoaaP1
namespace Go.Proofs.Ytboojpmahfjaoaa
open Go.RowKit
attribute [local go_sem] Ext.cell Ext.frozen

theorem err_size {keys : List ByteArray} (h : errB keys ≠ 0) : sizeB keys = 0 ∧ seedsB keys = [] := by simp [sizeB, seedsB, h]
theorem SeedAt.slat {w : World} {S0 m : Nat} {sd : Nat → Nat} (h : SeedAt w S0 m sd) (hm : m ≤ 1000) : SlAt w (some ⟨S0, 0, none⟩) m (ints ((List.range m).map (fun j => (sd j : Int)))) S0 0 :=
  ⟨by simp [ints], by omega, fun _ => rfl, fun j hj => by rw [Nat.zero_add, (h j hj).1, ints_getD _ _ (by simpa using hj)]; simp [List.getD, List.getElem?_map, List.getElem?_range hj]⟩
theorem SeedAt.ix {w : World} {S0 m : Nat} {sd : Nat → Nat} (h : SeedAt w S0 m sd) (hm : m ≤ 1000) {y : Nat} (hy : y < m) (c : Nat) :
    ∀ W, (Instr.indexAt 25 (.slice (some ⟨S0, 0, none⟩) m c) (.int .i64 (y : Nat))).run Try.prog W = .ok (.pointer (some ⟨S0, y, none⟩)) W := by
  intro W
  have := (h.slat hm).ix (P := Try.prog) (c := c) 25 3 Try.underlying25 cells3 hy W
  rwa [Nat.zero_add] at this
theorem SeedAt.congr {w : World} {S0 m : Nat} {f g : Nat → Nat} (h : SeedAt w S0 m f) (hg : ∀ i, i < m → f i = g i) : SeedAt w S0 m g := fun i hi => by rw [← hg i hi]; exact h i hi
theorem SeedAt.new (w : World) (m : Nat) : SeedAt (w.alloc (.cells (madeCells #[.int .i64 0] m) 3)) w.heap.size m (fun _ => 0) := fun i hi => by
  have h := heap_alloc_last w (.cells (madeCells #[.int .i64 0] m) 3)
  exact ⟨by rw [cell_of_row _ _ _ _ _ _ h]; simp [madeCells, hi, Nat.mod_one], frozen_of_row _ _ _ _ _ h⟩

theorem count_snoc (l : List Nat) (k : Nat) (hk : k < l.length) (j : Nat) : upd (fun j => (l.take k).count j) l[k] ((l.take k).count l[k] + 1) j = (l.take (k + 1)).count j := by
  rw [List.take_succ_eq_append_getElem hk, List.count_append]
  unfold upd
  by_cases h : j = l[k]
  · subst h; simp
  · rw [if_neg h]
    have : List.count j [l[k]] = 0 := by
      rw [List.count_eq_zero]
      simpa using h
    show List.count j (l.take k) = _
    omega

set_option maxHeartbeats 2000000 in
theorem hashPerfect_walk (ad : Option Addr) (n c : Nat) (keys : List ByteArray) (w : World) (hk : Sl w ad n (strs keys)) (hm : ∀ s ∈ keys, s.size ≤ 9223372036854775807) :
    Calls Try.prog 6 #[.slice ad n c] w fun e w' => e = .returned (.bool true) ∧ Below w.heap.size w w' := by
  have hl := hk.len
  rw [strs_length] at hl
  have HL := Lib.hid hl
  have HK := Lib.hid hk
  have HM := Lib.hid hm
  clear hk hm hl
  go_enter Try.func6, Try.ntmps6
  go_wp2_with fail
  refine (awake_any _).mono ?_
  rintro e w1 ⟨rfl, hb⟩
  have HB1 := Lib.hid hb
  have hz1 := hb.size
  have HK1 := Lib.hid (HK.out.below hb)
  clear hb
  have HF := Lib.hid (fun W h => few_any ad n c keys W h HM.out)
  cases hf : (keys.all (fun s => decide (s.size ≤ 60)) && decide (keys.length ≤ 60)) with
  | false =>
    rw [hf] at HF
    clear hf
    go_wp2_with fail
    refine (HF.out _ HK1.out).mono ?_
    rintro e w' ⟨rfl, rfl⟩
    go_wp2_with fail
    refine (awake_any _).mono ?_
    rintro e w2 ⟨rfl, hb2⟩
    have HB2 := Lib.hid (HB1.out.trans (hb2.mono hz1))
    clear hb2
    go_wp2_with fail
    go_ret
    exact ⟨rfl, HB2.out⟩
  | true =>
    rw [hf] at HF
    have hn60 : n ≤ 60 := by have := few_le hf; rw [HL.out] at this; exact this
    clear hf
    go_wp2_with fail
    refine (HF.out _ HK1.out).mono ?_
    rintro e w' ⟨rfl, rfl⟩
    go_wp2_with fail
    refine (build_any ad n c keys _ HK1.out hn60 HM.out).mono ?_
    rintro e w2 ⟨⟨ad2, c2, rfl, hsl⟩, hb2⟩
    have HB2 := Lib.hid (HB1.out.trans (hb2.mono hz1))
    have hz2 := HB2.out.size
    by_cases he : errB keys = 0
    · have hp := perf_of he (by rw [HL.out]; omega)
      have HP := Lib.hid hp
      have HCK := Lib.hid (perf_check hp)
      have HV := Lib.hid hp.valid
      have hsz : sizeB keys = n := by simp [sizeB, he, HL.out]
      rw [he, hsz]
      have HS2 := Lib.hid (hsl.alloc (.cells #[.int .i64 n, .slice ad2 (seedsB keys).length c2] 27))
      have HK2 := Lib.hid ((HK1.out.below hb2).alloc (.cells #[.int .i64 n, .slice ad2 (seedsB keys).length c2] 27))
      have HB3 := Lib.hid (HB2.out.alloc hz2 (.cells #[.int .i64 n, .slice ad2 (seedsB keys).length c2] 27))
      rw [HL.out] at HCK HV
      have HSLOT : Hid (∀ k (h : k < n), ∃ x : Nat, slotT n (seedsB keys) (keys.getD k .empty) = x ∧ x < n ∧ x = (keys.map fun k => (slotT n (seedsB keys) k).toNat).getD k 0) := fun k h => by
        have hm := getD_mem keys k .empty (by rw [HL.out]; exact h)
        obtain ⟨x, h1, h2⟩ := HP.out.rng _ hm
        rw [HL.out] at h1 h2
        refine ⟨x, h1, h2, ?_⟩
        have hk : k < keys.length := by rw [HL.out]; exact h
        simp only [List.getD, List.getElem?_map, List.getElem?_eq_getElem hk, Option.map_some, Option.getD_some] at h1 ⊢
        rw [h1]; simp
      have HCT : Hid (∀ j, j < n → (keys.map fun k => (slotT n (seedsB keys) k).toNat).count j = 1) := fun j hj => by
        have := perf_count HP.out (j := j) (by rw [HL.out]; exact hj)
        rwa [HL.out] at this
      have HLS : Hid ((keys.map fun k => (slotT n (seedsB keys) k).toNat).length = n) := by rw [List.length_map, HL.out]; rfl
      generalize hsld : (keys.map fun k => (slotT n (seedsB keys) k).toNat) = sl at *
      have hrow := heap_alloc_last w2 (.cells #[.int .i64 n, .slice ad2 (seedsB keys).length c2] 27)
      generalize seedsB keys = zs at *
      clear hsld hsz he hp hsl hb2
      have hmk := make25 (n : Int) n rfl (by omega)
      have hzW : (w2.alloc (.cells #[.int .i64 n, .slice ad2 zs.length c2] 27)).heap.size = w2.heap.size + 1 := by simp
      have hsn := SeedAt.new (w2.alloc (.cells #[.int .i64 n, .slice ad2 zs.length c2] 27)) n
      have hX := (Below.refl (w2.heap.size + 1) (w2.alloc (.cells #[.int .i64 n, .slice ad2 zs.length c2] 27))).alloc (by rw [hzW]; exact Nat.le_refl _) (.cells (madeCells #[.int .i64 0] n) 3)
      rw [hzW] at hsn
      have hzX : w2.heap.size + 1 + 1 ≤ ((w2.alloc (.cells #[.int .i64 n, .slice ad2 zs.length c2] 27)).alloc (.cells (madeCells #[.int .i64 0] n) 3)).heap.size := by simp
      go_wp2_with fail
      generalize ((w2.alloc (.cells #[.int .i64 n, .slice ad2 zs.length c2] 27)).alloc (.cells (madeCells #[.int .i64 0] n) 3)) = X0 at *
      generalize (w2.alloc (.cells #[.int .i64 n, .slice ad2 zs.length c2] 27)) = W1 at *
      have hT3 : w2.heap.size < w2.heap.size + 1 := by omega
      generalize w2.heap.size + 1 = SB at *
      generalize w2.heap.size = T3 at *
      have HZW := Lib.hid hzW
      have HSN := Lib.hid hsn
      have HX := Lib.hid hX
      have HZX := Lib.hid hzX
      have HROW := Lib.hid hrow
      have hwS : w.heap.size ≤ SB := by omega
      clear hmk hzW hsn hX hrow hzX
      go_loopw [36] (fun v wr => ∃ k : Nat, k ≤ n ∧ v = .int .i64 k ∧ Below SB W1 wr ∧ SB < wr.heap.size ∧ SeedAt wr SB n (fun j => (sl.take k).count j)) (fun v _ => n - (intOf v).toNat)
      case atStart => exact ⟨0, Nat.zero_le _, rfl, HX.out, by simpa using Nat.lt_of_lt_of_le (Nat.lt_succ_self SB) HZX.out, HSN.out⟩
      case round =>
        obtain ⟨k, hkn, rfl, hbr, hsz, hsd⟩ := hrel
        have hbr1 : Below W1.heap.size W1 wr := by rw [HZW.out]; exact hbr
        have HSW := Lib.hid (HS2.out.below hbr1)
        have HKW := Lib.hid (HK2.out.below hbr1)
        have hrc0 : wr.cell? ⟨T3, 0, none⟩ = some (.int .i64 n) := (hbr.cell (p := ⟨T3, 0, none⟩) hT3).trans (cell_of_row _ _ 0 _ _ _ HROW.out)
        have hrc1 : wr.cell? ⟨T3, 1, none⟩ = some (.slice ad2 zs.length c2) := (hbr.cell (p := ⟨T3, 1, none⟩) hT3).trans (cell_of_row _ _ 1 _ _ _ HROW.out)
        have hT4 : T3 < wr.heap.size := by omega
        have HBR := Lib.hid hbr
        have HSD := Lib.hid hsd
        clear hbr hbr1 hsd
        by_cases hlt : k < n
        · obtain ⟨bk, ok, hks⟩ := HKW.out
          have hix := hks.ix (P := Try.prog) (c := c) 22 9 Try.underlying22 cells9 hlt
          have hcl := hks.cell k hlt
          have hblk := hks.block (by omega)
          rw [strs_getD keys k (by rw [HL.out]; exact hlt)] at hcl
          have hkey := HM.out _ (getD_mem keys k .empty (by rw [HL.out]; exact hlt))
          obtain ⟨x, hx1, hx2, hx3⟩ := HSLOT.out k hlt
          have hsc := fun W h => slot_any (n : Int) ad2 zs.length c2 zs (keys.getD k .empty) W h hkey
          rw [hx1] at hsc
          have HSC := Lib.hid hsc
          have hxk : sl[k]'(by rw [HLS.out]; exact hlt) = x := by rw [hx3]; simp [List.getD, List.getElem?_eq_getElem (show k < sl.length by rw [HLS.out]; exact hlt)]
          have HCN : Hid (∀ j, upd (fun j => (sl.take k).count j) x ((sl.take k).count x + 1) j = (sl.take (k + 1)).count j) := fun j => by
            have := count_snoc sl k (by rw [HLS.out]; exact hlt) j
            rwa [hxk] at this
          have hcb : (sl.take k).count x ≤ 60 := by
            have h1 := List.count_le_length (a := x) (l := sl.take k)
            have h2 := List.length_take_le k sl
            omega
          generalize keys.getD k .empty = key at *
          clear hks hkey hx1 hx3 hsc hxk
          go_wp2_with fail
          refine wp_region_ext (by kernel_rfl) (by kernel_rfl) ?_
          repeat (go_big_quiet_step ((go_at_call 14; exact Calls.ext (HSC.out _ (HSW.out.ext _)))))
          refine wpQuiet_nil ?_
          intro _ hw'
          obtain ⟨e, hw''⟩ := hw'
          subst hw''
          have hse := HSD.out.chg (e.2.mono (by omega))
          have hixs := hse.ix (by omega) hx2 n
          have hcs : e.1.cell? ⟨SB, x, none⟩ = some (.int .i64 (((sl.take k).count x : Nat) : Int)) := (hse x hx2).1
          have hfs := (hse x hx2).2
          have HSE := Lib.hid ((hse.set hx2 ((sl.take k).count x + 1)).congr (fun j _ => HCN.out j))
          have hze := e.2.size
          have HBE := Lib.hid ((HBR.out.trans (e.2.mono (by omega))).setCell (p := ⟨SB, x, none⟩) (Nat.le_refl _) (.int .i64 (((sl.take k).count x + 1 : Nat) : Int)))
          clear hse
          generalize (sl.take k).count x = cx at *
          go_wp2_with fail
          go_roundw
          case rel => exact ⟨k + 1, by omega, by go_num, HBE.out, by simp [World.setCell]; omega, HSE.out⟩
          case measure => simp [intOf]; omega
        · obtain rfl : k = n := by omega
          have hsd := HSD.out
          rw [List.take_of_length_le (by rw [HLS.out]; exact Nat.le_refl _)] at hsd
          have HSD2 := Lib.hid hsd
          clear hsd HSD
          go_wp2_with fail
          obtain ⟨w5, rfl⟩ : ∃ w5 : World, w5 = wr := ⟨_, rfl⟩
          go_loop [62] (fun v => ∃ j : Nat, j ≤ k ∧ v = .int .i64 j) (fun v => k - (intOf v).toNat)
          case atStart => exact ⟨0, Nat.zero_le _, rfl⟩
          case round =>
            obtain ⟨j, hjk, rfl⟩ := hrel
            by_cases hltj : j < k
            · have hixs := HSD2.out.ix (by omega) hltj k
              have hcs : w5.cell? ⟨SB, j, none⟩ = some (.int .i64 ((sl.count j : Nat) : Int)) := (HSD2.out j hltj).1
              rw [HCT.out j hltj] at hcs
              go_wp2_with fail
              go_round
              case rel => exact ⟨j + 1, by omega, by go_num⟩
              case measure => simp [intOf]; omega
            · obtain rfl : j = k := by omega
              have hck := fun W h1 h2 => check_any (j : Int) ad2 ad zs.length c2 j c zs keys W h1 h2 HM.out
              have hva := fun W h1 => valid_any (j : Int) ad2 zs.length c2 zs W h1
              rw [HCK.out] at hck
              rw [HV.out] at hva
              have HC1 := Lib.hid hck
              have HV1 := Lib.hid hva
              have HBW := Lib.hid (HB3.out.trans (HBR.out.mono hwS))
              have hzw : w.heap.size ≤ w5.heap.size := by omega
              clear hck hva
              go_wp2_with fail
              refine (HC1.out _ HSW.out HKW.out).mono ?_
              rintro e w6 ⟨rfl, hb6⟩
              have HSW6 := Lib.hid (HSW.out.below hb6)
              have HBW6 := Lib.hid (HBW.out.trans (hb6.mono hzw))
              have hd0 := (hb6.cell (p := ⟨T3, 0, none⟩) hT4).trans hrc0
              have hd1 := (hb6.cell (p := ⟨T3, 1, none⟩) hT4).trans hrc1
              have hz6 := hb6.size
              have hzw6 : w.heap.size ≤ w6.heap.size := by omega
              clear hb6 hrc0 hrc1
              go_wp2_with fail
              refine (HV1.out _ HSW6.out).mono ?_
              rintro e w7 ⟨rfl, hb7⟩
              have HBW7 := Lib.hid (HBW6.out.trans (hb7.mono hzw6))
              clear hb7
              go_wp2_with fail
              go_ret
              exact ⟨rfl, HBW7.out⟩
    · obtain ⟨h1, h2⟩ := err_size he
      rw [h1, h2]
      have hne : (((errB keys : Nat) : Int) != 0) = true := by simp; omega
      generalize errB keys = er at *
      clear hsl h1 h2 he
      have HBE := Lib.hid (HB2.out.alloc hz2 (.cells #[.int .i64 0, .slice ad2 0 c2] 27))
      go_wp2_with fail
      go_ret
      exact ⟨rfl, HBE.out⟩
end Go.Proofs.Ytboojpmahfjaoaa
namespace Go.Proofs.Ytboojpmahfjaoaa.lawHashPerfect
open Go.ChangeShapes Go.WideShapes Go.ChangeAt Go.RowKit Go.Joins
open Go.ChangeMaps (open_string shut_string)
set_option maxRecDepth 100000 in
theorem lifted (os : Os) (started : os.Started) (H : Type) (enc : TypeId × Value → H) :
    ReturnsInHanded {} Try.checked os 6 .any (Rows.hashPerfectSpec.pre6 enc Try.prog Try.f6 Rows.hashPerfectRow.domain false) (Rows.hashPerfectSpec.post enc Try.prog Try.f6 false true false false) := by
  refine returnsInHanded_of_change (C := Try.checked) own started (by kernel_rfl) Try.func6
    (ChangeSpec.witness6 (enc := enc) (C := Try.checked) false ⟨#[], #[.slice none 0 0], []⟩ 8 (by kernel_rfl) (by kernel_rfl) (by kernel_rfl) (by kernel_rfl)) ?_
  intro W base args ds gs before hval0 hW _ _
  have hval : ∀ (j : Nat) t v, Try.f6.params[j]? = some t → args[j]? = some v → Value.okWide Try.prog W .any base t v := hval0
  have hW' := hW
  obtain ⟨p, q, hA0, hV, rfl, hfz, hnd⟩ := hW
  have hA : DataW.TrodAll enc Try.prog W 0 (fun _ => true) true Try.f6.params.toList args.toList ds p := hA0
  rw [Try.params6] at hA hval
  obtain ⟨v0, vs0, d0, ds0, p0, q0, hargs, rfl, rfl, h0, r0⟩ := trodAll_cons hA
  obtain ⟨rfl, rfl, rfl⟩ := trodAll_nil r0
  obtain rfl : args = #[v0] := by cases args; simp_all
  obtain ⟨rfl, rfl⟩ := trodVars_none hV
  have k0 := h0
  have lt0 : ∀ x ∈ p0, x.block < W.heap.size := by obtain ⟨m, hm⟩ := k0; exact DataW.trod_lt m _ _ _ hm
  obtain ⟨a0, l0, cp0, rfl⟩ := okWide_slice Try.underlying22 (hval 0 22 v0 rfl rfl)
  obtain ⟨fuel0, hf0⟩ := h0
  obtain ⟨ad0, n0, c0, keys0, e0, hk0, hm0⟩ := open_str_sl (by simpa [Value.cells] using hf0)
  injection e0 with e01 e02 e03
  subst e01 e02 e03
  clear hA0 hval0
  refine (hashPerfect_walk a0 l0 cp0 keys0 W hk0 hm0).mono fun e W' ⟨he, bel⟩ => ?_
  subst he
  exact ⟨_, rfl, _, _, _, [], _, [], hW', trodAll_mk1 (shut_bool Try.underlying4 _), (trodAll_cons_mk (Below.trod laidOut (by kernel_rfl) (of_decide_eq_true (by kernel_rfl)) k0 bel lt0) trodAll_mk0), rfl, bel.frame _, fun h => by cases h⟩

theorem proved : Rows.HashPerfectSaid :=
  OpenClaim.holds_of_wide 6 Try.f6 rfl rfl rfl rfl rfl rfl rfl ⟨rfl, rfl, rfl, rfl, rfl⟩ rfl rfl rfl rfl rfl (by kernel_rfl) Try.func6 (by kernel_rfl)
    (of_decide_eq_true (by kernel_rfl)) (by unfold Func.isWrapper; first | (rw [if_pos (by decide +kernel)]; kernel_rfl) | (rw [if_neg (by decide +kernel)]; exact ⟨rfl, rfl⟩))
    (fun os started H enc _ => lifted os started H enc)
#print axioms proved
end Go.Proofs.Ytboojpmahfjaoaa.lawHashPerfect
