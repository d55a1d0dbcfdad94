/- HashOrder: the order of the keys does not matter. -/
import Derived.Test.YtboojpmahfjaoaaO2
import Derived.Test.YtboojpmahfjaoaaP2
namespace Go.Proofs.Ytboojpmahfjaoaa
open Go.RowKit
attribute [local go_sem] Ext.cell Ext.frozen

theorem info9' : (Try.prog.info? 9).map (fun i => (i.zero, i.size, i.bytes)) = some (some (.string .empty), 1, 16) := by kernel_rfl
theorem app22 {ops : Array Oper} {rest : List Oper} {o : Oper} {a : Act} {Q : Exit → Act → World → Prop} {w : World}
    (hgd : o.guard = none) (s x : Operand) (ho : o.op = .call { callee := .builtin .append, args := #[s, x], argTypes := #[22, 22] })
    (base : Nat) (ad : Option Addr) (n c : Nat) (xs : List Value) (hs : a.eval s = .slice ad n c) (hown : w.ownsRow base 9 1 (.slice ad n c) n xs)
    (y : Value) (E' : TypeId) (hx : a.eval x = .slice (some ⟨w.heap.size, 0, none⟩) 1 1) (hy : y.oneCell' = true)
    (h63 : n + 1 ≤ maxLen) (hbytes : (n + 1) * 16 ≤ 140737488355328) (hbase : base ≤ w.heap.size)
    (h : ∀ ad' c' w', w'.ownsRow base 9 1 (.slice ad' (n + 1) c') (n + 1) (xs ++ [y]) → Below base w w' → w.grownBy w' (Value.ownBlock (.slice ad n c)) → w.heap.size < w'.heap.size →
      wpList Try.prog ops Q rest (a.put o.dst (.slice ad' (n + 1) c')) w') : wpList Try.prog ops Q (o :: rest) a (w.alloc (.cells #[y] E')) := by
  obtain ⟨i0, hi, hz0, hz1, hz2⟩ := info_parts info9'
  exact wpList_app 22 9 16 Try.underlying22 i0 _ hi hz0 hz1 hz2 rfl hgd s x ho base ad n c xs hs hown y E' hx hy h63 hbytes hbase h

theorem strs_snoc (l : List ByteArray) (x : ByteArray) : strs (l ++ [x]) = strs l ++ [.string x] := by simp [strs]

set_option maxHeartbeats 2000000 in
theorem hashOrder_walk (ad : Option Addr) (n c : Nat) (keys : List ByteArray) (z : Int) (w : World) (hk : Sl w ad n (strs keys)) (hm : ∀ s ∈ keys, s.size ≤ 9223372036854775807) (hz : (Lit.int .u8 z).wf = true) :
    Calls Try.prog 7 #[.slice ad n c, .int .u8 z] w fun e w' => e = .returned (.bool true) ∧ Below w.heap.size w w' := by
  have hzb : 0 ≤ z ∧ z ≤ 255 := by simp [Lit.wf, IntKind.min, IntKind.max, IntKind.signed, IntKind.bits] at hz; omega
  obtain ⟨b, rfl⟩ : ∃ b : Nat, z = b := ⟨z.toNat, by omega⟩
  have hb255 : b ≤ 255 := by omega
  clear hz hzb
  have hl := hk.len
  rw [strs_length] at hl
  have HL := Lib.hid hl
  have HK := Lib.hid hk
  have HM := Lib.hid hm
  clear hk hm hl
  go_enter Try.func7, Try.ntmps7
  go_wp2_with fail
  refine (awake_any _).mono ?_
  rintro e w1 ⟨rfl, hb⟩
  have HB1 := Lib.hid hb
  have hz1 := hb.size
  have HK1 := Lib.hid (HK.out.below hb)
  clear hb
  have HF := Lib.hid (fun W h => few_any ad n c keys W h HM.out)
  cases hf : (keys.all (fun s => decide (s.size ≤ 60)) && decide (keys.length ≤ 60)) with
  | false =>
    rw [hf] at HF
    clear hf
    go_wp2_with fail
    refine (HF.out _ HK1.out).mono ?_
    rintro e w' ⟨rfl, rfl⟩
    go_wp2_with fail
    refine (awake_any _).mono ?_
    rintro e w2 ⟨rfl, hb2⟩
    have HB2 := Lib.hid (HB1.out.trans (hb2.mono hz1))
    clear hb2
    go_wp2_with fail
    go_ret
    exact ⟨rfl, HB2.out⟩
  | true =>
    rw [hf] at HF
    have hn60 : n ≤ 60 := by have := few_le hf; rw [HL.out] at this; exact this
    clear hf
    go_wp2_with fail
    refine (HF.out _ HK1.out).mono ?_
    rintro e w' ⟨rfl, rfl⟩
    go_wp2_with fail
    go_loopw [5, 19] (fun u v wr => ∃ (k : Nat) (ad5 : Option Addr) (c5 : Nat), k ≤ n ∧ v = .int .i64 k ∧ u = .slice ad5 k c5 ∧ wr.ownsRow w1.heap.size 9 1 (.slice ad5 k c5) k (strs (turned keys b k)) ∧ Below w1.heap.size w1 wr) (fun _ v _ => n - (intOf v).toNat)
    case atStart => exact ⟨0, none, 0, Nat.zero_le _, rfl, rfl, World.ownsRow_nil _ _ _ _, Below.refl _ _⟩
    case round =>
      obtain ⟨k, ad5, c5, hkn, rfl, rfl, hown, hbr⟩ := hrel
      have HOWN := Lib.hid hown
      have HBR := Lib.hid hbr
      have hzr := hbr.size
      clear hown hbr
      by_cases hlt : k < n
      · obtain ⟨bk, ok, hks⟩ := HK1.out
        have hjn : (n - 1 - k + b) % n < n := Nat.mod_lt _ (by omega)
        have hje : ((n : Int) - 1 - (k : Int) + (b : Int)) % (n : Int) = (((n - 1 - k + b) % n : Nat) : Int) := by
          rw [Int.natCast_emod]; congr 1; omega
        have hix := hks.ix (P := Try.prog) (c := c) 22 9 Try.underlying22 cells9 hjn
        have hcl := hks.cell _ hjn
        rw [strs_getD keys _ (by rw [HL.out]; exact hjn)] at hcl
        have hblk := hks.block (by omega)
        have HTS : Hid (turned keys b (k + 1) = turned keys b k ++ [keys.getD ((n - 1 - k + b) % n) .empty]) := by
          have := turned_succ keys b k
          rwa [HL.out] at this
        have hcl2 := (HBR.out.cell (p := ⟨bk, ok + (n - 1 - k + b) % n, none⟩) hblk).trans hcl
        have hjnz : ((n : Int) == 0) = false := by simp; omega
        generalize (n - 1 - k + b) % n = j at *
        generalize keys.getD j .empty = key at *
        clear hks hcl
        go_wp2_with (at_builtin; refine app22 rfl _ _ rfl w1.heap.size _ _ _ _ rfl HOWN.out _ _ rfl rfl (by unfold maxLen; omega) (by omega) hzr ?_; intro ad6 c6 w3 hown3 hb3 hg3 hz3; have HOWN3 := Lib.hid hown3; have HB3 := Lib.hid hb3; clear hown3 hb3 hg3 hz3)
        go_roundw
        case rel => exact ⟨k + 1, _, _, by omega, by go_num, rfl, by rw [HTS.out, strs_snoc]; exact HOWN3.out, HBR.out.trans HB3.out⟩
        case measure => simp [intOf]; omega
      · obtain rfl : k = n := by omega
        have HPM : Hid ((turned keys b k).Perm keys) := by have := turned_perm keys b; rwa [HL.out] at this
        have HM2 : Hid (∀ s ∈ turned keys b k, s.size ≤ 9223372036854775807) := fun s hs => HM.out s (HPM.out.mem_iff.1 hs)
        have HO := Lib.hid (Own.sl HOWN.out)
        have HKW := Lib.hid (HK1.out.below HBR.out)
        have HBW := Lib.hid (HB1.out.trans (HBR.out.mono hz1))
        have hzw : w.heap.size ≤ wr.heap.size := by omega
        have hp1 := errB_perm HPM.out
        have hp2 := sizeB_perm HPM.out
        have hp3 := seedsB_perm HPM.out
        have HP1 := Lib.hid hp1
        have HP2 := Lib.hid hp2
        have HP3 := Lib.hid hp3
        generalize turned keys b k = other at *
        clear hp1 hp2 hp3 HOWN
        go_wp2_with fail
        refine (build_any ad k c keys _ HKW.out hn60 HM.out).mono ?_
        rintro e w2 ⟨⟨ad2, c2, rfl, hsl⟩, hb2⟩
        have HS2 := Lib.hid hsl
        have HO2 := Lib.hid (HO.out.below hb2)
        have HB2 := Lib.hid (HBW.out.trans (hb2.mono hzw))
        have hz2 := HB2.out.size
        generalize hsz : sizeB keys = sz at *
        generalize her : errB keys = er at *
        generalize hsd : seedsB keys = sd at *
        have HSZ := Lib.hid hsz
        have HER := Lib.hid her
        have HSD := Lib.hid hsd
        clear hsl hb2 hsz her hsd
        go_wp2_with fail
        refine (build_any ad5 k c5 other _ (HO2.out.alloc _) hn60 HM2.out).mono ?_
        rintro e w3 ⟨⟨ad3, c3, rfl, hsl⟩, hb3⟩
        rw [HP1.out, HP2.out, HP3.out]
        rw [HP3.out] at hsl
        have HS3 := Lib.hid hsl
        have HS2' := Lib.hid ((HS2.out.alloc _).below hb3)
        have hc0 := hb3.cell (p := ⟨w2.heap.size, 0, none⟩) (by simp)
        have hc1 := hb3.cell (p := ⟨w2.heap.size, 1, none⟩) (by simp)
        have hz3 : w2.heap.size < w3.heap.size := by have := hb3.size; simp at this; omega
        have HB3 := Lib.hid (HB2.out.trans ((((Below.refl _ w2).alloc (Nat.le_refl _) _).trans (hb3.mono (by simp))).mono hz2))
        have hz4 : w.heap.size ≤ w3.heap.size := by omega
        have hee : ((er : Int) == (er : Int)) = true := by simp
        clear hsl hb3
        go_wp2_with fail
        refine (rsame_any _ _ _ _ _ _ _ _ sd sd _ (HS2'.out.alloc _) (HS3.out.alloc _)).mono ?_
        rintro e w4 ⟨rfl, hb4⟩
        rw [sameT_refl]
        have HB4 := Lib.hid (HB3.out.trans ((((Below.refl _ w3).alloc (Nat.le_refl _) _).trans (hb4.mono (by simp))).mono hz4))
        clear hb4
        go_wp2_with fail
        go_ret
        exact ⟨rfl, HB4.out⟩
end Go.Proofs.Ytboojpmahfjaoaa
namespace Go.Proofs.Ytboojpmahfjaoaa.lawHashOrder
open Go.ChangeShapes Go.WideShapes Go.ChangeAt Go.RowKit Go.Joins
open Go.ChangeMaps (open_string shut_string)
set_option maxRecDepth 100000 in
theorem lifted (os : Os) (started : os.Started) (H : Type) (enc : TypeId × Value → H) :
    ReturnsInHanded {} Try.checked os 7 .any (Rows.hashOrderSpec.pre6 enc Try.prog Try.f7 Rows.hashOrderRow.domain false) (Rows.hashOrderSpec.post enc Try.prog Try.f7 false true false false) := by
  refine returnsInHanded_of_change (C := Try.checked) own started (by kernel_rfl) Try.func7
    (ChangeSpec.witness6 (enc := enc) (C := Try.checked) false ⟨#[], #[.slice none 0 0, .int .u8 0], []⟩ 8 (by kernel_rfl) (by kernel_rfl) (by kernel_rfl) (by kernel_rfl)) ?_
  intro W base args ds gs before hval0 hW _ _
  have hval : ∀ (j : Nat) t v, Try.f7.params[j]? = some t → args[j]? = some v → Value.okWide Try.prog W .any base t v := hval0
  have hW' := hW
  obtain ⟨p, q, hA0, hV, rfl, hfz, hnd⟩ := hW
  have hA : DataW.TrodAll enc Try.prog W 0 (fun _ => true) true Try.f7.params.toList args.toList ds p := hA0
  rw [Try.params7] at hA hval
  obtain ⟨v0, vs0, d0, ds0, p0, q0, hargs, rfl, rfl, h0, r0⟩ := trodAll_cons hA
  obtain ⟨v1, vs1, d1, ds1, p1, q1, rfl, rfl, rfl, h1, r1⟩ := trodAll_cons r0
  obtain ⟨rfl, rfl, rfl⟩ := trodAll_nil r1
  obtain rfl : args = #[v0, v1] := by cases args; simp_all
  obtain ⟨rfl, rfl⟩ := trodVars_none hV
  have k0 := h0
  have lt0 : ∀ x ∈ p0, x.block < W.heap.size := by obtain ⟨m, hm⟩ := k0; exact DataW.trod_lt m _ _ _ hm
  obtain ⟨a0, l0, cp0, rfl⟩ := okWide_slice Try.underlying22 (hval 0 22 v0 rfl rfl)
  obtain ⟨fuel0, hf0⟩ := h0
  obtain ⟨ad0, n0, c0, keys0, e0, hk0, hm0⟩ := open_str_sl (by simpa [Value.cells] using hf0)
  injection e0 with e01 e02 e03
  subst e01 e02 e03
  obtain ⟨z1, rfl, rfl, rfl, hz1⟩ := open_int Try.underlying5 (hval 1 5 v1 rfl rfl) h1
  clear hA0 hval0
  refine (hashOrder_walk a0 l0 cp0 keys0 z1 W hk0 hm0 hz1).mono fun e W' ⟨he, bel⟩ => ?_
  subst he
  exact ⟨_, rfl, _, _, _, [], _, [], hW', trodAll_mk1 (shut_bool Try.underlying4 _), (trodAll_cons_mk (Below.trod laidOut (by kernel_rfl) (of_decide_eq_true (by kernel_rfl)) k0 bel lt0) (trodAll_cons_mk (shut_int Try.underlying5 hz1) trodAll_mk0)), rfl, bel.frame _, fun h => by cases h⟩

theorem proved : Rows.HashOrderSaid :=
  OpenClaim.holds_of_wide 7 Try.f7 rfl rfl rfl rfl rfl rfl rfl ⟨rfl, rfl, rfl, rfl, rfl⟩ rfl rfl rfl rfl rfl (by kernel_rfl) Try.func7 (by kernel_rfl)
    (of_decide_eq_true (by kernel_rfl)) (by unfold Func.isWrapper; first | (rw [if_pos (by decide +kernel)]; kernel_rfl) | (rw [if_neg (by decide +kernel)]; exact ⟨rfl, rfl⟩))
    (fun os started H enc _ => lifted os started H enc)
#print axioms proved
end Go.Proofs.Ytboojpmahfjaoaa.lawHashOrder
