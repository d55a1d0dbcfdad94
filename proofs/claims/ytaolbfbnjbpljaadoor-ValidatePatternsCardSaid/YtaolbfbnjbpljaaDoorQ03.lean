/- Walks: fields of a skeleton, by the program. -/
import Derived.Test.YtaolbfbnjbpljaaDoorQ00
import Derived.Test.YtaolbfbnjbpljaaDoorQ01
import Derived.Test.YtaolbfbnjbpljaaDoorQ02
import Derived.Deep.DrawnRows
import Derived.WalkLawsBesides
import Derived.Lib.OwnBridge
namespace Go.Proofs.YtaolbfbnjbpljaaDoor
open Go.RowKit
attribute [local go_sem] Ext.cell Ext.frozen
attribute [local go_sem ↓] Go.wp_at_zero Go.wp_at_succ

theorem ret_string {a b : ByteArray} (h : a = b) : Ending.returned (.string a) = .returned (.string b) := by rw [h]
theorem wp_at_world {P : Program} {c : Code} {Q : Exit → Act → World → Prop} {a : Act} {w : World} (h : ∀ W, W = w → c.wp P Q a W) : c.wp P Q a w := h w rfl

theorem fld_has (s : ByteArray) : Lib.containsS ((fieldL.map bs).take 7) s = isFld s.data.toList := by
  unfold isFld
  rw [Bool.eq_iff_iff, Lib.containsS_iff, List.contains_iff_mem]
  rw [List.take_of_length_le (by decide), List.mem_map]
  constructor
  · rintro ⟨l, hl, rfl⟩; exact hl
  · intro h; exact ⟨_, h, rfl⟩
theorem field_any (s : ByteArray) (w : World) : Calls Tryd.prog 28 #[.string s] w fun e w' => e = .returned (.bool (isFld s.data.toList)) ∧ Below w.heap.size w w' := by
  have HC := Lib.hid (fun b w h => Tryd.slices_Contains_string b 0 7 7 (fieldL.map bs) s w (by decide) (by decide) h)
  rw [fld_has] at HC
  go_enter Tryd.func28, Tryd.ntmps28
  go_wp2_with fail
  refine (HC.out _ _ ?_).mono ?_
  · intro j hj
    have : j = 0 ∨ j = 1 ∨ j = 2 ∨ j = 3 ∨ j = 4 ∨ j = 5 ∨ j = 6 := by simp [fieldL] at hj; omega
    rcases this with h | h | h | h | h | h | h <;> subst h <;> simp [go_sem, fieldL, bs]
  rintro e _ ⟨rfl, rfl⟩
  go_wp2_with fail
  go_ret
  exact ⟨rfl, (Below.refl _ _).alloc (Nat.le_refl _) _⟩
end Go.Proofs.YtaolbfbnjbpljaaDoor
/- Walks: the fields of a skeleton, by the program. -/
namespace Go.Proofs.YtaolbfbnjbpljaaDoor
open Go.RowKit
attribute [local go_sem] Ext.cell Ext.frozen
attribute [local go_sem ↓] Go.wp_at_zero Go.wp_at_succ

theorem infoStr : (Tryd.prog.info? 9).map (fun i => (i.zero, i.size, i.bytes)) = some (some (.string .empty), 1, 16) := by kernel_rfl
theorem appStr {ops : Array Oper} {rest : List Oper} {o : Oper} {a : Act} {Q : Exit → Act → World → Prop} {w : World}
    (hgd : o.guard = none) (s x : Operand) (ho : o.op = .call { callee := .builtin .append, args := #[s, x], argTypes := #[23, 23] })
    (base : Nat) (ad : Option Addr) (n c : Nat) (xs : List Value) (hs : a.eval s = .slice ad n c) (hown : w.ownsRow base 9 1 (.slice ad n c) n xs)
    (y : Value) (E' : TypeId) (hx : a.eval x = .slice (some ⟨w.heap.size, 0, none⟩) 1 1) (hy : y.oneCell' = true)
    (h63 : n + 1 ≤ maxLen) (hbytes : (n + 1) * 16 ≤ 140737488355328) (hbase : base ≤ w.heap.size)
    (h : ∀ ad' c' w', w'.ownsRow base 9 1 (.slice ad' (n + 1) c') (n + 1) (xs ++ [y]) → Below base w w' → w.grownBy w' (Value.ownBlock (.slice ad n c)) → w.heap.size < w'.heap.size →
      wpList Tryd.prog ops Q rest (a.put o.dst (.slice ad' (n + 1) c')) w') : wpList Tryd.prog ops Q (o :: rest) a (w.alloc (.cells #[y] E')) := by
  obtain ⟨i0, hi, hz0, hz1, hz2⟩ := info_parts infoStr
  exact wpList_app 23 9 16 Tryd.underlying23 i0 _ hi hz0 hz1 hz2 rfl hgd s x ho base ad n c xs hs hown y E' hx hy h63 hbytes hbase h
theorem strs_snoc (l : List ByteArray) (x : ByteArray) : strs (l ++ [x]) = strs l ++ [.string x] := by simp [strs]

theorem trimL_any (s : ByteArray) (c : UInt8) (w : World) (hc : c.toNat < 128) :
    Calls Tryd.prog 27 #[.string s, .string ⟨#[c]⟩] w fun e w' => e = .returned (.string (bs (s.data.toList.dropWhile (· == c)))) ∧ w = w' :=
  (Tryd.strings_TrimLeft_one s c hc w).mono fun e w' ⟨he, hw⟩ => ⟨by
    rw [he]
    have e1 : Lib.trimLeftS s.data.toList [c] = s.data.toList.dropWhile (· == c) := by
      unfold Lib.trimLeftS; congr 1; funext x; exact Lib.contains_one c x
    rw [← e1, Lib.trimLeftS_one]; rfl, hw.symm⟩
theorem kinds_bd (k : Nat) : (kindsL.getD k 0).toNat < 128 := by
  rcases Nat.lt_or_ge k 4 with h | h
  · have : k = 0 ∨ k = 1 ∨ k = 2 ∨ k = 3 := by omega
    rcases this with h | h | h | h <;> subst h <;> decide
  · have : kindsL.getD k 0 = 0 := by rw [List.getD_eq_getElem?_getD, List.getElem?_eq_none (by simpa [kindsL] using h)]; rfl
    rw [this]; decide

/-- what Fields answers -/
def FieldsPost (s : List UInt8) (w : World) (e : Ending) (w' : World) : Prop :=
  Below w.heap.size w w' ∧ ((fieldsV s = none ∧ e = .returned (.tuple #[.slice none 0 0, .int .i64 3])) ∨
    ∃ fs ad c, fieldsV s = some fs ∧ e = .returned (.tuple #[.slice ad fs.length c, .int .i64 0]) ∧ w'.ownsRow w.heap.size 9 1 (.slice ad fs.length c) fs.length (strs (fs.map bs)))

set_option maxRecDepth 20000 in
set_option maxHeartbeats 8000000 in
theorem fields_any (s : ByteArray) (w : World) (hs : s.size ≤ 1000) : Calls Tryd.prog 9 #[.string s] w (FieldsPost s.data.toList w) := by
  have HF := Lib.hid field_any
  have HT := Lib.hid trimL_any
  have hsl : s.data.toList.length = s.size := size_len s
  go_enter Tryd.func9, Tryd.ntmps9
  go_wp2_with fail
  refine wp_at_world ?_
  intro W hW
  have hk : ∀ k, k < 4 → W.cell? ⟨w.heap.size, k, none⟩ = some (.string ⟨#[kindsL.getD k 0]⟩) := by
    intro k hk
    have : k = 0 ∨ k = 1 ∨ k = 2 ∨ k = 3 := by omega
    rcases this with h | h | h | h <;> subst h <;> simp [hW, go_sem, kindsL]
  have hWs : W.heap.size = w.heap.size + 1 := by rw [hW]; simp
  have HBW : Hid (Below w.heap.size w W) := by rw [hW]; exact (Below.refl _ _).alloc (Nat.le_refl _) _
  have HK := Lib.hid hk
  clear hk hW
  go_loopw [4, 5, 13] (fun v r i wr => ∃ (k : Nat) (o : List (List UInt8)) (rr : List UInt8) (ad : Option Addr) (c : Nat), k ≤ 4 ∧ i = .int .i64 (k : Int) ∧ stF s.data.toList k = some (o, rr) ∧ r = .string (bs rr) ∧
      v = .slice ad o.length c ∧ wr.ownsRow W.heap.size 9 1 (.slice ad o.length c) o.length (strs (o.map bs)) ∧ Below W.heap.size W wr) (fun _ _ i _ => 4 - (intOf i).toNat)
  case atStart => exact ⟨0, [], s.data.toList, none, 0, by omega, rfl, rfl, rfl, rfl, World.ownsRow_nil _ _ _ _, Below.refl _ _⟩
  case round =>
    obtain ⟨k, o, rr, ad, c, hk4, rfl, hst, rfl, rfl, hown, hbl⟩ := hrel
    have HST := Lib.hid hst
    have HOWN := Lib.hid hown
    have HBL := Lib.hid hbl
    have hzr := hbl.size
    obtain ⟨ho4, hrl, _⟩ := stF_len hst
    clear hst hown hbl
    by_cases hlt : k < 4
    · have hkc : wr.cell? ⟨w.heap.size, k, none⟩ = some (.string ⟨#[kindsL.getD k 0]⟩) := (HBL.out.cell (p := ⟨w.heap.size, k, none⟩) (by show w.heap.size < _; omega)).trans (HK.out k hlt)
      have HTK := Lib.hid (fun w => HT.out (bs rr) (kindsL.getD k 0) w (kinds_bd k))
      rw [bs_data] at HTK
      have hsp : rr = rr.takeWhile (· == kindsL.getD k 0) ++ rr.dropWhile (· == kindsL.getD k 0) := (List.takeWhile_append_dropWhile ..).symm
      have hll := congrArg List.length hsp
      rw [List.length_append] at hll
      have hex : (bs rr).extract 0 (rr.takeWhile (· == kindsL.getD k 0)).length = bs (rr.takeWhile (· == kindsL.getD k 0)) := by
        rw [bs_extract, List.drop_zero]
        conv => lhs; arg 1; arg 2; rw [hsp]
        rw [List.take_left]
      have HSK := Lib.hid (fun h => stF_skip HST.out h)
      have HTA := Lib.hid (fun h1 h2 => stF_take HST.out h1 h2)
      have HFA := Lib.hid (fun h1 h2 => stF_fail HST.out h1 h2)
      have HFD := Lib.hid (fun w => HF.out (bs (rr.takeWhile (· == kindsL.getD k 0))) w)
      rw [bs_data] at HFD
      have r1 : (bs rr).size = rr.length := bs_size _
      have r2 : (bs (rr.dropWhile (· == kindsL.getD k 0))).size = (rr.dropWhile (· == kindsL.getD k 0)).length := bs_size _
      have r3 : (bs (rr.takeWhile (· == kindsL.getD k 0))).size = (rr.takeWhile (· == kindsL.getD k 0)).length := bs_size _
      have hKR : Hid (wr.cell? ⟨w.heap.size, k, none⟩ = some (.string ⟨#[kindsL.getD k 0]⟩)) := hkc
      clear hkc hsp
      generalize hq : (⟨#[kindsL.getD k 0]⟩ : ByteArray) = KB at *
      generalize hP : rr.takeWhile (· == kindsL.getD k 0) = P at *
      generalize hS : rr.dropWhile (· == kindsL.getD k 0) = S at *
      have r4 : ((bs rr).size : Int) - ((bs S).size : Int) = ((bs P).size : Int) := by omega
      have r5 : (bs P).size ≤ (bs rr).size := by omega
      have r6 : (bs rr).size ≤ 1000 := by omega
      have r7 : (bs S).size ≤ (bs rr).size := by omega
      rw [← r3] at hex
      cases P with
      | nil =>
        have e0 : bs ([] : List UInt8) = ⟨#[]⟩ := rfl
        rw [e0] at hex r4 r5
        have HST2 := Lib.hid (HSK.out rfl)
        have hcell := hKR.out
        have hz0 : (ByteArray.mk #[]).size = 0 := rfl
        rw [hz0] at hex r4
        clear HSK HTA HFA HFD r1 r2 r3 hll hP hS hq hKR e0 hz0
        generalize hR : bs rr = R at *
        have HR := Lib.hid hR
        clear hR
        generalize bs S = S2 at *
        go_wp2_with fail
        refine (HTK.out _).mono ?_
        rintro e _ ⟨rfl, rfl⟩
        go_wp2_with fail
        go_roundw
        case rel => exact ⟨k + 1, o, rr, ad, c, by omega, by go_num, HST2.out, by rw [HR.out], rfl, HOWN.out, HBL.out⟩
        case measure => simp [intOf]; omega
      | cons p0 P1 =>
        have hcell := hKR.out
        have hne : (bs (p0 :: P1)).toList.isEmpty = false := by rw [bs_toList]; rfl
        have hne2 : ¬ bs (p0 :: P1) = ⟨#[]⟩ := fun e => by have := congrArg (fun s : ByteArray => s.data.toList) e; rw [bs_data] at this; cases this
        cases hfl : isFld (p0 :: P1) with
        | false =>
          have HV : Hid (fieldsV s.data.toList = none) := fieldsV_fail (i := k + 1) (by omega) (HFA.out (by simp) hfl)
          rw [hfl] at HFD
          clear HSK HTA HFA r1 r2 r3 hll hP hS hq hKR hfl
          generalize bs (p0 :: P1) = FB at *
          generalize bs rr = R at *
          generalize bs S = S2 at *
          go_wp2_with fail
          refine (HTK.out _).mono ?_
          rintro e _ ⟨rfl, rfl⟩
          go_wp2_with fail
          refine (Calls.toExt (HFD.out _)).mono ?_
          rintro e _ ⟨rfl, x, rfl⟩
          go_wp2_with fail
          go_ret2
          exact ⟨(HBW.out.trans (HBL.out.mono (by omega))).trans (x.2.mono (by omega)), .inl ⟨HV.out, rfl⟩⟩
        | true =>
          have HST2 := Lib.hid (HTA.out (by simp) hfl)
          have hoc : o.length ≤ 4 := by omega
          have HAPP : Hid (strs ((o ++ [p0 :: P1]).map bs) = strs (o.map bs) ++ [.string (bs (p0 :: P1))]) := by unfold Hid; rw [List.map_append]; exact strs_snoc _ _
          have HLEN : Hid ((o ++ [p0 :: P1]).length = o.length + 1) := by unfold Hid; simp
          rw [hfl] at HFD
          clear HSK HTA HFA r1 r2 r3 hll hP hS hq hKR hfl
          generalize bs (p0 :: P1) = FB at *
          generalize bs rr = R at *
          generalize hS2 : bs S = S2 at *
          have HS2 := Lib.hid hS2
          clear hS2
          go_wp2_with fail
          refine (HTK.out _).mono ?_
          rintro e _ ⟨rfl, rfl⟩
          go_wp2_with fail
          refine (Calls.toExt (HFD.out _)).mono ?_
          rintro e _ ⟨rfl, x, rfl⟩
          have HX := Lib.hid x.2
          have HOX := Lib.hid (Own.below HOWN.out x.2)
          have hzx : W.heap.size ≤ x.1.heap.size := by have := x.2.size; omega
          obtain ⟨X, hX⟩ := x
          simp only at HX HOX hzx ⊢
          clear hX
          go_wp2_with (at_builtin; refine appStr rfl _ _ rfl W.heap.size _ _ _ _ rfl HOX.out _ _ rfl rfl (by unfold maxLen; omega) (by omega) hzx ?_; intro ad6 c6 w3 hown3 hb3 hg3 hz3; have HOWN3 := Lib.hid hown3; have HB3 := Lib.hid hb3; clear hown3 hb3 hg3 hz3)
          go_roundw
          case rel => exact ⟨k + 1, o ++ [p0 :: P1], S, ad6, c6, by omega, by go_num, HST2.out, by rw [HS2.out], by rw [HLEN.out], by rw [HAPP.out, HLEN.out]; exact HOWN3.out, (HBL.out.trans (HX.out.mono hzr)).trans HB3.out⟩
          case measure => simp [intOf]; omega
    · obtain rfl : k = 4 := by omega
      have hend := fieldsV_end HST.out
      have HE := Lib.hid hend
      clear hend
      have hrs : (bs rr).size = rr.length := bs_size _
      by_cases hr0 : rr = []
      · subst hr0
        have e0 : bs ([] : List UInt8) = ⟨#[]⟩ := rfl
        rw [e0]
        by_cases ho0 : o = []
        · subst ho0
          have HV : Hid (fieldsV s.data.toList = none) := by unfold Hid; rw [HE.out, if_neg (by simp)]
          go_wp2_with fail
          go_ret2
          exact ⟨HBW.out.trans (HBL.out.mono (by omega)), .inl ⟨HV.out, rfl⟩⟩
        · have HV : Hid (fieldsV s.data.toList = some o) := by unfold Hid; rw [HE.out, if_pos ⟨rfl, ho0⟩]
          have hlp : 0 < o.length := List.length_pos_iff.2 ho0
          have hl0 : decide ((o.length : Int) = 0) = false := by simp; omega
          have hl1 : ((o.length : Int) == 0) = false := by simp; omega
          go_wp2_with fail
          go_ret2
          exact ⟨HBW.out.trans (HBL.out.mono (by omega)), .inr ⟨o, ad, c, HV.out, rfl, Own.rebase HOWN.out (by omega)⟩⟩
      · have HV : Hid (fieldsV s.data.toList = none) := by unfold Hid; rw [HE.out, if_neg (fun h => hr0 h.1)]
        have hne : (bs rr).toList.isEmpty = false := by rw [bs_toList]; cases rr with | nil => exact absurd rfl hr0 | cons a b => rfl
        have hne2 : ¬ bs rr = ⟨#[]⟩ := fun e => hr0 (by have := congrArg (fun s : ByteArray => s.data.toList) e; rw [bs_data] at this; exact this)
        generalize bs rr = R at *
        go_wp2_with fail
        go_ret2
        exact ⟨HBW.out.trans (HBL.out.mono (by omega)), .inl ⟨HV.out, rfl⟩⟩
end Go.Proofs.YtaolbfbnjbpljaaDoor
/- Walks: the kinds of fields, by the program. -/
namespace Go.Proofs.YtaolbfbnjbpljaaDoor
open Go.RowKit Go.Sort
attribute [local go_sem] Ext.cell Ext.frozen
attribute [local go_sem ↓] Go.wp_at_zero Go.wp_at_succ

theorem cellsStr : Tryd.prog.cellsOf 9 = 1 := by kernel_rfl
/-- the first letters, in order, each once -/
def headsL (fs : List (List UInt8)) : List (List UInt8) := fs.map (·.take 1)
def sortL (l : List (List UInt8)) : List (List UInt8) := l.mergeSort fun x y => decide (x ≤ y)
def kindsV (fs : List (List UInt8)) : List UInt8 × Bool := (Lib.join (Lib.compact (sortL (headsL fs))) [], decide ((Lib.compact (sortL (headsL fs))).length = fs.length))
theorem enc_bs (l : List (List UInt8)) : l.map encStr = strs (l.map bs) := by
  unfold strs; rw [List.map_map]; rfl
theorem sort_len (l : List (List UInt8)) : (sortL l).length = l.length := List.length_mergeSort ..

theorem below_grow0 (B : Nat) (w : World) (os : Array Obj) (hB : B ≤ w.heap.size) : Below B w (grow w os) :=
  ⟨rfl, rfl, rfl, by show w.heap.size ≤ (w.heap ++ os).size; rw [Array.size_append]; omega, fun k hk => by show (w.heap ++ os)[k]? = _; rw [Array.getElem?_append_left (by omega)]⟩
/-- slices.Sort of a slice of the call's own -/
theorem sort_own (ad : Option Addr) (n c base : Nat) (ss : List (List UInt8)) (w : World) (h : w.ownsRow base 9 1 (.slice ad n c) n (strs (ss.map bs))) (hn : 0 < n) (hn2 : n ≤ 1000000) (hb : base ≤ w.heap.size) :
    Calls Tryd.prog 56 #[.slice ad n c] w fun e w' => e = .returned (.tuple #[]) ∧ w'.ownsRow base 9 1 (.slice ad n c) n (strs ((sortL ss).map bs)) ∧ Below base w w' := by
  rw [← enc_bs] at h
  obtain ⟨g, cap, hv, hbg, hgl, hnc, hcm, hl, hH⟩ := Lib.holds_of_ownsRow h (by intro e; injection e with _ e2 _; omega)
  injection hv with hv1 _ hv3
  subst hv1 hv3
  subst hl
  refine (Tryd.slices_Sort_string g 0 c ss w hH hgl (by omega)).mono ?_
  rintro e w' ⟨he, q, os, hw⟩
  subst hw
  have h1 := Lib.ownsRow_putRow (q := q) h (ys := sortL ss) (sort_len ss) (Nat.le_refl _)
  rw [List.take_of_length_le (by rw [sort_len]; exact Nat.le_refl _), enc_bs] at h1
  have h2 := Lib.below_putRow (q := q) (d := (sortL ss).toArray) (enc := encStr) (Below.refl base w) hbg
  have h3 : Below (putRow encStr (Sort.ahead w q) g 0 (sortL ss).toArray).heap.size (putRow encStr (Sort.ahead w q) g 0 (sortL ss).toArray) (grow (putRow encStr (Sort.ahead w q) g 0 (sortL ss).toArray) os) :=
    below_grow0 _ _ os (Nat.le_refl _)
  exact ⟨he, Own.below h1 h3, h2.trans (h3.mono (Nat.le_trans hb h2.size))⟩

/-- slices.Clone, then slices.Compact, of a slice of the call's own -/
theorem clone_own (ad : Option Addr) (n c base : Nat) (ss : List (List UInt8)) (w : World) (h : w.ownsRow base 9 1 (.slice ad n c) n (strs (ss.map bs))) (hn : 0 < n) (hn2 : n ≤ 1000000) :
    Calls Tryd.prog 58 #[.slice ad n c] w fun e w' => ∃ ad' c', e = .returned (.slice ad' n c') ∧ w'.ownsRow w.heap.size 9 1 (.slice ad' n c') n (strs (ss.map bs)) ∧ Below w.heap.size w w' := by
  obtain ⟨b, off, hs⟩ := Own.sl h
  have hl := hs.len
  rw [strs_length] at hl
  have had := hs.adr (by omega)
  subst had
  refine (Tryd.slices_Clone_string b off n c (ss.map bs) w (by omega) (by omega) ?_).mono ?_
  · intro j hj
    have := hs.cell j (by omega)
    rw [strs_getD _ _ hj] at this
    exact this
  rintro e w' ⟨v, he, hown, _, hb⟩
  obtain ⟨ad', c', rfl⟩ := own_form hown
  rw [List.take_of_length_le (by omega)] at hown
  exact ⟨ad', c', he, hown, hb⟩
theorem compact_own (ad : Option Addr) (n c base : Nat) (ss : List (List UInt8)) (w : World) (h : w.ownsRow base 9 1 (.slice ad n c) n (strs (ss.map bs))) (hn : 0 < n) (hn2 : n ≤ 1000000) (_hb : base ≤ w.heap.size) (hc : (Lib.compact ss).length ≤ ss.length) :
    Calls Tryd.prog 57 #[.slice ad n c] w fun e w' => e = .returned (.slice ad (Lib.compact ss).length c) ∧ w'.ownsRow base 9 1 (.slice ad (Lib.compact ss).length c) (Lib.compact ss).length (strs ((Lib.compact ss).map bs)) ∧ Below base w w' := by
  rw [← enc_bs] at h
  obtain ⟨g, cap, hv, hbg, hgl, hnc, hcm, hl, hH⟩ := Lib.holds_of_ownsRow h (by intro e; injection e with _ e2 _; omega)
  injection hv with hv1 _ hv3
  subst hv1 hv3
  subst hl
  refine (Tryd.slices_Compact_string g 0 c ss w hH (by omega) hnc).mono ?_
  rintro e w' ⟨he, q, hw⟩
  subst hw
  have h1 := Lib.ownsRow_putRow (q := q) h (ys := Lib.compact ss ++ List.replicate (ss.length - (Lib.compact ss).length) []) (k := (Lib.compact ss).length) (by rw [List.length_append, List.length_replicate]; omega) hc
  rw [List.take_left, enc_bs] at h1
  exact ⟨he, h1, Lib.below_putRow (Below.refl base w) hbg⟩
theorem join_own (ad : Option Addr) (n c base : Nat) (ss : List (List UInt8)) (w : World) (h : w.ownsRow base 9 1 (.slice ad n c) n (strs (ss.map bs))) (hn : 0 < n) (hn2 : n ≤ 1000000) (hlen : (Lib.join ss []).length ≤ 1000000) :
    Calls Tryd.prog 59 #[.slice ad n c, .string ⟨#[]⟩] w fun e w' => e = .returned (.string (bs (Lib.join ss []))) ∧ Below w.heap.size w w' := by
  obtain ⟨g, cap, hv, hbg, hgl, hnc, hcm, hl, hH⟩ := Lib.holds_of_ownsRow (by rw [← enc_bs] at h; exact h) (by intro e; injection e with _ e2 _; omega)
  injection hv with hv1 _ hv3
  subst hv1 hv3
  obtain ⟨b, off, hs⟩ := Own.sl h
  have had := hs.adr (by omega)
  injection had with had
  injection had with had1 had2
  subst had1 had2
  have hl2 : (ss.map bs).length = n := by rw [List.length_map]; exact hl
  subst hl2
  have hm : (ss.map bs).map (·.data.toList) = ss := by rw [List.map_map]; exact List.map_id _
  have := Tryd.strings_Join g 0 c (ss.map bs) ⟨#[]⟩ w (fun j x hx => by
    obtain ⟨hj, hx⟩ := List.getElem?_eq_some_iff.1 hx
    have := hs.cell j hj
    rw [strs_getD _ _ hj] at this
    rw [this, ← hx]
    simp [List.getD, List.getElem?_eq_getElem hj]) hgl (by omega) hnc (by rw [hm]; exact Nat.le_trans hlen (by omega))
  rw [hm] at this
  exact this
end Go.Proofs.YtaolbfbnjbpljaaDoor
