/- Walks: the reference's check of a table. -/
import Derived.Test.YtboojpmahfjaoaaA5
namespace Go.Proofs.Ytboojpmahfjaoaa
open Go.RowKit
attribute [local go_sem] Ext.cell Ext.frozen
theorem info3 : (Try.prog.info? 3).map (fun i => (i.zero, i.size, i.bytes)) = some (some (.int .i64 0), 1, 8) := by kernel_rfl
theorem app25 {ops : Array Oper} {rest : List Oper} {o : Oper} {a : Act} {Q : Exit → Act → World → Prop} {w : World}
    (hgd : o.guard = none) (s x : Operand) (ho : o.op = .call { callee := .builtin .append, args := #[s, x], argTypes := #[25, 25] })
    (base : Nat) (ad : Option Addr) (n c : Nat) (xs : List Value) (hs : a.eval s = .slice ad n c) (hown : w.ownsRow base 3 1 (.slice ad n c) n xs)
    (y : Value) (E' : TypeId) (hx : a.eval x = .slice (some ⟨w.heap.size, 0, none⟩) 1 1) (hy : y.oneCell' = true)
    (h63 : n + 1 ≤ maxLen) (hbytes : (n + 1) * 8 ≤ 140737488355328) (hbase : base ≤ w.heap.size)
    (h : ∀ ad' c' w', w'.ownsRow base 3 1 (.slice ad' (n + 1) c') (n + 1) (xs ++ [y]) → Below base w w' → w.grownBy w' (Value.ownBlock (.slice ad n c)) → w.heap.size < w'.heap.size →
      wpList Try.prog ops Q rest (a.put o.dst (.slice ad' (n + 1) c')) w') : wpList Try.prog ops Q (o :: rest) a (w.alloc (.cells #[y] E')) := by
  obtain ⟨i0, hi, hz0, hz1, hz2⟩ := info_parts info3
  exact wpList_app 25 3 8 Try.underlying25 i0 _ hi hz0 hz1 hz2 rfl hgd s x ho base ad n c xs hs hown y E' hx hy h63 hbytes hbase h

set_option maxHeartbeats 1000000 in
theorem rcheck_any (size : Int) (ad ad2 : Option Addr) (n c n2 c2 : Nat) (zs : List Int) (keys : List ByteArray) (w : World) (hs : Sl w ad n (ints zs)) (hk : Sl w ad2 n2 (strs keys))
    (hm : ∀ s ∈ keys, s.size ≤ 9223372036854775807) :
    Calls Try.prog 19 #[.agg #[.int .i64 size, .slice ad n c], .slice ad2 n2 c2] w fun e w' => e = .returned (.bool (checkT size zs keys)) ∧ Below w.heap.size w w' := by
  have HS := Lib.hid hs
  have hl := hk.len
  rw [strs_length] at hl
  have hmax := hk.max
  cases hv : validT size zs with
  | false =>
    have HV := Lib.hid hv
    have HR : Hid (checkT size zs keys = false) := by simp [checkT, hv, Hid]
    clear hv hs
    go_enter Try.func19, Try.ntmps19
    go_wp2_with fail
    refine (rvalid_any _ _ _ _ zs _ (HS.out.alloc _)).mono ?_
    rintro e w1 ⟨rfl, hb⟩
    have hb' : Below w.heap.size w w1 := ((Below.refl _ w).alloc (Nat.le_refl _) _).trans (hb.mono (by simp))
    rw [HV.out]
    clear hb HV
    go_wp2
    go_ret
    exact ⟨ret_bool HR.out.symm, hb'⟩
  | true =>
    have HV := Lib.hid hv
    by_cases hsz : size = (n2 : Int)
    · have HR : Hid (checkT size zs keys = okSl (keys.map (slotT size zs)) n2) := by unfold Hid checkT; rw [hv, hl, hsz]; simp
      obtain ⟨g1, g2, g3, g4⟩ := validT_size hv
      have hn : (size != (n2 : Int)) = false := by simp [hsz]
      have hn2 : n2 ≤ 1000 := by omega
      have HRG := Lib.hid (fun k => slotT_range size zs k hv)
      have HL := Lib.hid hl
      clear hv hs hl g3 hsz
      obtain ⟨b, off, hk⟩ := hk
      have HK := Lib.hid hk
      have HM := Lib.hid hm
      have hbl : n2 ≠ 0 → b < w.heap.size := fun h => hk.block h
      clear hk hm
      go_enter Try.func19, Try.ntmps19
      go_wp2_with fail
      refine (rvalid_any _ _ _ _ zs _ (HS.out.alloc _)).mono ?_
      rintro e w1 ⟨rfl, hb⟩
      have hb' : Below w.heap.size w w1 := ((Below.refl _ w).alloc (Nat.le_refl _) _).trans (hb.mono (by simp))
      have hc0 := hb.cell (p := ⟨w.heap.size, 0, none⟩) (by simp)
      have hc1 := hb.cell (p := ⟨w.heap.size, 1, none⟩) (by simp)
      have hz1 : w.heap.size < w1.heap.size := by have := hb.size; simp at this; omega
      rw [HV.out]
      clear hb
      go_wp2_with fail
      go_loopw [5, 6] (fun v i wr => ∃ (k : Nat) (ad5 : Option Addr) (c5 : Nat), k ≤ n2 ∧ i = .int .i64 k ∧ v = .slice ad5 k c5 ∧ okSl (keys.map (slotT size zs)) k = true ∧
          wr.ownsRow w1.heap.size 3 1 (.slice ad5 k c5) k (ints ((keys.map (slotT size zs)).take k)) ∧ Below w1.heap.size w1 wr) (fun _ i _ => n2 - (intOf i).toNat)
      case atStart => exact ⟨0, none, 0, Nat.zero_le _, rfl, rfl, rfl, World.ownsRow_nil _ _ _ _, Below.refl _ _⟩
      case round =>
        obtain ⟨k, ad5, c5, hkn, rfl, rfl, ho, hown, hbr⟩ := hrel
        have HO := Lib.hid ho
        have HOWN := Lib.hid hown
        have HBR := Lib.hid hbr
        have hbw := hb'.trans (hbr.mono (by omega))
        have hc0r := (hbr.cell (p := ⟨w.heap.size, 0, none⟩) hz1).trans hc0
        have hc1r := (hbr.cell (p := ⟨w.heap.size, 1, none⟩) hz1).trans hc1
        have hzr := hbr.size
        clear ho hown hbr
        by_cases hlt : k < n2
        · have hix := HK.out.ix (P := Try.prog) (c := c2) 22 9 Try.underlying22 cells9 hlt
          have hcl := HK.out.cell k hlt
          have hks := HM.out _ (getD_mem keys k .empty (by rw [HL.out]; exact hlt))
          rw [strs_getD keys k (by rw [HL.out]; exact hlt)] at hcl
          have hclr := (hbw.cell (p := ⟨b, off + k, none⟩) (hbl (by omega))).trans hcl
          have hzb : b < wr.heap.size := by have := hbw.size; have := hbl (by omega); omega
          have hzw : w.heap.size < wr.heap.size := by omega
          have HGD : Hid ((keys.map (slotT size zs)).getD k 0 = slotT size zs (keys.getD k .empty)) := by
            have : k < keys.length := by rw [HL.out]; exact hlt
            simp [List.getD, List.getElem?_map, List.getElem?_eq_getElem this, Hid]
          have HTK : Hid ((keys.map (slotT size zs)).take (k + 1) = (keys.map (slotT size zs)).take k ++ [slotT size zs (keys.getD k .empty)]) := by
            have : k < keys.length := by rw [HL.out]; exact hlt
            rw [← HGD.out]
            rw [List.take_succ_eq_append_getElem (by simpa using this)]
            simp [List.getD, List.getElem?_eq_getElem this, Hid]
          have hr := HRG.out (keys.getD k .empty)
          generalize keys.getD k .empty = key at *
          go_wp2_with fail
          refine wp_region_ext (by kernel_rfl) (by kernel_rfl) ?_
          repeat (go_big_quiet_step ((go_at_call 17; exact Calls.ext (rslot_any size ad n c zs key _ ((HS.out.below hbw).ext _) hks))))
          refine wpQuiet_nil ?_
          intro _ hw'
          obtain ⟨e2, hw''⟩ := hw'
          subst hw''
          have HB2 := Lib.hid (HBR.out.trans (e2.2.mono hzr))
          have HOWN2 := Lib.hid (Own.below HOWN.out e2.2)
          have HBW2 := Lib.hid (hbw.trans (e2.2.mono (by have := hbw.size; omega)))
          have hz2 : w1.heap.size ≤ e2.1.heap.size := by have := e2.2.size; omega
          obtain ⟨w2, hw2⟩ := e2
          simp only at HB2 HOWN2 HBW2 hz2 ⊢
          clear hbw hc0r hc1r hclr HBR HOWN hw2 hzr hzb hzw
          generalize hsv : slotT size zs key = sv at *
          have HSV := Lib.hid hsv
          clear hsv
          by_cases hneg : sv < 0
          · have HF : Hid (okSl (keys.map (slotT size zs)) (k + 1) = false) := by
              have hd : decide (0 ≤ sv) = false := by simp; omega
              simp only [okSl, HGD.out, HO.out, Hid, hd, Bool.false_and, Bool.and_false]
            go_wp2
            go_ret
            exact ⟨ret_bool (by rw [HR.out, okSl_false HF.out hlt]), HBW2.out⟩
          · cases hin : ((keys.map (slotT size zs)).take k).any (· == sv) with
            | true =>
              have HIN := Lib.hid hin
              have HF : Hid (okSl (keys.map (slotT size zs)) (k + 1) = false) := by
                simp only [okSl, HGD.out, hin, Hid]
                simp
              clear hin
              go_wp2_with (go_at_call 32; refine (rhas_any _ _ _ _ sv _ (Own.sl HOWN2.out)).mono ?_; rintro e w' ⟨rfl, rfl⟩; rw [HIN.out])
              go_ret
              exact ⟨ret_bool (by rw [HR.out, okSl_false HF.out hlt]), HBW2.out⟩
            | false =>
              have HIN := Lib.hid hin
              have HF : Hid (okSl (keys.map (slotT size zs)) (k + 1) = true) := by
                have hd : decide (0 ≤ sv) = true := by simp; omega
                simp only [okSl, HGD.out, hin, HO.out, Hid, hd]
                rfl
              clear hin
              go_wp2_with (first
                | (go_at_call 32; refine (rhas_any _ _ _ _ sv _ (Own.sl HOWN2.out)).mono ?_; rintro e w' ⟨rfl, rfl⟩; rw [HIN.out])
                | (at_builtin; refine app25 rfl _ _ rfl w1.heap.size _ _ _ _ rfl HOWN2.out _ _ rfl rfl (by unfold maxLen; omega) (by omega) hz2 ?_; intro ad6 c6 w3 hown3 hb3 hg3 hz3; have HOWN3 := Lib.hid hown3; have HB3 := Lib.hid hb3; clear hown3 hb3 hg3 hz3))
              go_roundw
              case rel =>
                exact ⟨k + 1, _, _, by omega, by go_num, rfl, HF.out, by rw [HTK.out]; simpa [ints] using HOWN3.out, HB2.out.trans HB3.out⟩
              case measure => simp [intOf]; omega
        · obtain rfl : k = n2 := by omega
          go_wp2
          go_ret
          exact ⟨ret_bool (by rw [HR.out, HO.out]), hbw⟩
    · have HR : Hid (checkT size zs keys = false) := by unfold Hid checkT; rw [hl]; simp [hsz]
      have hn : (size != (n2 : Int)) = true := by simp [hsz]
      clear hv hs hl hsz
      go_enter Try.func19, Try.ntmps19
      go_wp2_with fail
      refine (rvalid_any _ _ _ _ zs _ (HS.out.alloc _)).mono ?_
      rintro e w1 ⟨rfl, hb⟩
      have hb' : Below w.heap.size w w1 := ((Below.refl _ w).alloc (Nat.le_refl _) _).trans (hb.mono (by simp))
      have hc0 := hb.cell (p := ⟨w.heap.size, 0, none⟩) (by simp)
      rw [HV.out]
      clear hb HV
      go_wp2
      go_ret
      exact ⟨ret_bool HR.out.symm, hb'⟩

end Go.Proofs.Ytboojpmahfjaoaa
