/- Walks: the reference's one: a piece at the head of any string. -/
import Derived.Test.YtkkggpahanddnaaGreatDoorQ13
import Derived.Deep.DeepCutAuto
import Derived.Deep.CutBlock
import Derived.Test.YtkkggpahanddnaaGreatDoorQ11
import Derived.Test.YtkkggpahanddnaaGreatDoorRows
import Derived.Lib.LaidTab
import Derived.Shelf.Vars
import Derived.LaidLaws
namespace Go.Proofs.YtkkggpahanddnaaGreatDoor
open Go.RowKit
attribute [local go_sem] Ext.cell Ext.frozen
attribute [local go_sem ↓] Go.wp_at_zero Go.wp_at_succ
def decV (l : List UInt8) : Nat := l.foldl (fun a c => a * 10 + (c.toNat - 48)) 0
def isDg (c : UInt8) : Prop := 48 ≤ c.toNat ∧ c.toNat ≤ 57
/-- the digits at the head of a string, at most four, and their value -/
def LeadP (l : List UInt8) (k m : Nat) : Prop := k ≤ 4 ∧ k ≤ l.length ∧ (∀ i, i < k → isDg (l.getD i 0)) ∧ m = decV (l.take k) ∧ m < 10 ^ k ∧ (k = 4 ∨ k = l.length ∨ ¬ isDg (l.getD k 0))
theorem decV_take {l : List UInt8} {k : Nat} (h : k < l.length) : decV (l.take (k + 1)) = decV (l.take k) * 10 + ((l.getD k 0).toNat - 48) := by
  unfold decV
  rw [List.take_succ_eq_append_getElem h, List.foldl_append]
  simp only [List.foldl_cons, List.foldl_nil, List.getD, List.getElem?_eq_getElem h, Option.getD_some]
def HeadOk (l : List UInt8) (k m : Nat) : Prop := k ≠ 0 ∧ m ≤ 1001 ∧ k + 2 ≤ l.length ∧ (l.drop k).take 2 = [32, 34]
def failR : Ending := .returned (.tuple #[.agg #[.int .i64 0, .string ⟨#[]⟩], .string ⟨#[]⟩, .bool false])
def OneR (l : List UInt8) (k m : Nat) (e : Ending) : Prop :=
  (¬ HeadOk l k m ∧ e = failR) ∨ (HeadOk l k m ∧ endL (l.drop (k + 2)) = none ∧ e = failR) ∨
  (HeadOk l k m ∧ ∃ j, endL (l.drop (k + 2)) = some j ∧ e = .returned (.tuple #[.agg #[.int .i64 (m : Int), .string (bs (unescV ((l.drop (k + 2)).take j)).1)], .string (bs ((l.drop (k + 2)).drop (j + 1))), .bool (((unescV ((l.drop (k + 2)).take j)).2.2 : Int) == 0)]))
def OneP (l : List UInt8) (w : World) (e : Ending) (w' : World) : Prop := Below w.heap.size w w' ∧ ∃ k m, LeadP l k m ∧ OneR l k m e
set_option maxRecDepth 20000 in
set_option maxHeartbeats 8000000 in
theorem rpiece_any (l : List UInt8) (w : World) (hl : l.length ≤ 100000) : Calls Tryz.prog 17 #[.string (bs l)] w (OneP l w) := by
  have hsz : (bs l).size = l.length := bs_size l
  have HSZ := Lib.hid hsz
  have hle : (bs l).size ≤ 100000 := by omega
  have HAT : Hid (∀ (i : Nat) (g : i < (bs l).size), (bs l)[i]'g = l.getD i 0) := fun i g => ba_at l g
  have HEX := Lib.hid (ext_drop l)
  have HX2 : Hid (∀ k, (bs l).extract k (k + 2) = bs ((l.drop k).take 2)) := fun k => by rw [bs_extract, List.drop_take]; congr 2; omega
  generalize hS : bs l = S at *
  clear hS hsz
  go_enter Tryz.func17, Tryz.ntmps17
  go_upto_block 0 with fail
  refine wp_at_worldH ?_
  intro W hW
  have HB0 : Hid (Below w.heap.size w W) := by rw [hW]; exact (Below.refl _ _).alloc (Nat.le_refl _) _
  have HK0 : Hid (W.heap[w.heap.size]? = some (.cells #[.int .i64 0, .string ⟨#[]⟩] 42 (0, 0))) := by rw [hW]; exact row_new _ _ _
  clear hW
  go_cut [5, 6] (fun n i wx => ∃ k m : Nat, n = .int .i64 (m : Int) ∧ i = .int .i64 (k : Int) ∧ LeadP l k m ∧ wx = W)
  case first =>
    go_wp2_with fail
    go_loopw [5, 6] (fun n i wr => ∃ (k m : Nat), k ≤ 4 ∧ k ≤ l.length ∧ n = .int .i64 (m : Int) ∧ i = .int .i64 (k : Int) ∧ (∀ i, i < k → isDg (l.getD i 0)) ∧ m = decV (l.take k) ∧ m < 10 ^ k ∧ wr = W) (fun _ i _ => 4 - (intOf i).toNat)
    case atStart => exact ⟨0, 0, by omega, Nat.zero_le _, rfl, rfl, fun i h => absurd h (Nat.not_lt_zero _), rfl, by decide, rfl⟩
    case round =>
      obtain ⟨k, m, hk4, hkl, rfl, rfl, hdig, hm, hm10, rfl⟩ := hrel
      have HM := Lib.hid hm
      have HDIG := Lib.hid hdig
      have H10 := Lib.hid hm10
      have hmb : m ≤ 10000 := by
        have : 10 ^ k ≤ 10 ^ 4 := Nat.pow_le_pow_right (by decide) hk4
        have : (10 : Nat) ^ 4 = 10000 := by decide
        omega
      clear hm hdig hm10
      by_cases hlt : k < l.length
      · have hks : k < S.size := by rw [HSZ.out]; exact hlt
        have hix : ∀ g : k < S.size, S[k]'g = l.getD k 0 := fun g => HAT.out k g
        by_cases h4 : k < 4
        · have HV := Lib.hid (decV_take hlt)
          have HLT := Lib.hid hlt
          have HK4 := Lib.hid h4
          have h4i : (k : Int) < 4 := by omega
          have hstop : Hid (¬ isDg (l.getD k 0) → LeadP l k m) := fun h => ⟨by omega, by omega, HDIG.out, HM.out, H10.out, .inr (.inr h)⟩
          have hgo : Hid (isDg (l.getD k 0) → ∀ i, i < k + 1 → isDg (l.getD i 0)) := fun h i hi => by
            by_cases e : i = k
            · subst e; exact h
            · exact HDIG.out i (by omega)
          clear HAT HDIG
          generalize l.getD k 0 = c at *
          by_cases g1 : 48 ≤ c.toNat
          · have g1i : (48 : Int) ≤ (c.toNat : Int) := by omega
            by_cases g2 : c.toNat ≤ 57
            · have g2i : (c.toNat : Int) ≤ 57 := by omega
              have HMN : Hid (m * 10 + (c.toNat - 48) = decV (l.take (k + 1))) := by unfold Hid; rw [HV.out, ← HM.out]
              have HPX : Hid (m * 10 + (c.toNat - 48) < 10 ^ (k + 1)) := by unfold Hid; have := H10.out; rw [Nat.pow_succ]; omega
              have HGD := Lib.hid (hgo.out ⟨g1, g2⟩)
              clear hgo hstop HV
              go_wp2_with fail
              go_roundw
              case rel => exact ⟨k + 1, m * 10 + (c.toNat - 48), HK4.out, HLT.out, by go_num, by go_num, HGD.out, HMN.out, HPX.out, trivial⟩
              case measure => have := HK4.out; simp [intOf]; omega
            · have g2i : ¬ (c.toNat : Int) ≤ 57 := by omega
              have HLE := Lib.hid (hstop.out (fun e => g2 e.2))
              clear hgo hstop HV
              go_wp2_with fail
              go_meet
              exact ⟨k, m, rfl, rfl, HLE.out, rfl⟩
          · have g1i : ¬ (48 : Int) ≤ (c.toNat : Int) := by omega
            have HLE := Lib.hid (hstop.out (fun e => g1 e.1))
            clear hgo hstop HV
            go_wp2_with fail
            go_meet
            exact ⟨k, m, rfl, rfl, HLE.out, rfl⟩
        · obtain rfl : k = 4 := by omega
          have HLE : Hid (LeadP l 4 m) := ⟨by omega, by omega, HDIG.out, HM.out, H10.out, .inl rfl⟩
          go_wp2_with fail
          go_meet
          exact ⟨4, m, rfl, rfl, HLE.out, rfl⟩
      · have hks : ¬ k < S.size := by rw [HSZ.out]; exact hlt
        have HLE : Hid (LeadP l k m) := ⟨hk4, hkl, HDIG.out, HM.out, H10.out, .inr (.inl (by omega))⟩
        go_wp2_with fail
        go_meet
        exact ⟨k, m, rfl, rfl, HLE.out, rfl⟩
  case rest =>
    obtain ⟨k, m, rfl, rfl, hlead, rfl⟩ := hcut
    have HL := Lib.hid hlead
    have hk4 : k ≤ 4 := hlead.1
    have hmb : m ≤ 10000 := by
      have h1 := hlead.2.2.2.2.1
      have : 10 ^ k ≤ 10 ^ 4 := Nat.pow_le_pow_right (by decide) hk4
      have : (10 : Nat) ^ 4 = 10000 := by decide
      omega
    have k2 := HK0.out
    have g0 := row_cells k2 0
    have g1 := row_cells k2 1
    have f0 := row_frozen k2 0
    have f1 := row_frozen k2 1
    have HRJ : Hid (∀ (V : World), V = (wc.setCell ⟨w.heap.size, 0, none⟩ (.int .i64 0)).setCell ⟨w.heap.size, 1, none⟩ (.string ⟨#[]⟩) → V.cell? ⟨w.heap.size, 0, none⟩ = some (.int .i64 0) ∧ V.cell? ⟨w.heap.size, 1, none⟩ = some (.string ⟨#[]⟩) ∧ Below w.heap.size w V) := by
      rintro V rfl
      obtain ⟨y0, y1⟩ := pc_set k2 (.int .i64 0) (.string ⟨#[]⟩)
      exact ⟨y0, y1, below_set2 HB0.out (Nat.le_refl _) _ _⟩
    clear k2 hlead HAT
    by_cases hk0 : k = 0
    · have HNO : Hid (¬ HeadOk l k m) := fun h => h.1 hk0
      have hki : (k : Int) = 0 := by omega
      clear hk0
      go_wp2_with fail
      obtain ⟨y0, y1, yb⟩ := HRJ.out _ rfl
      exact bodyPost_ret (v := .tuple #[.agg #[.int .i64 0, .string ⟨#[]⟩], .string ⟨#[]⟩, .bool false]) (by simp [results, Tryz.f17, go_sem, y0, y1]) rfl ⟨yb, k, m, HL.out, .inl ⟨HNO.out, rfl⟩⟩
    have hki : ((k : Int) == 0) = false := by simp only [beq_eq_false_iff_ne]; omega
    by_cases hm1 : m ≤ 1001
    rotate_left
    · have HNO : Hid (¬ HeadOk l k m) := fun h => hm1 h.2.1
      have hmi : 1001 < (m : Int) := by omega
      clear hk0
      go_wp2_with fail
      obtain ⟨y0, y1, yb⟩ := HRJ.out _ rfl
      exact bodyPost_ret (v := .tuple #[.agg #[.int .i64 0, .string ⟨#[]⟩], .string ⟨#[]⟩, .bool false]) (by simp [results, Tryz.f17, go_sem, y0, y1]) rfl ⟨yb, k, m, HL.out, .inl ⟨HNO.out, rfl⟩⟩
    have hmi : ¬ 1001 < (m : Int) := by omega
    by_cases hlen : k + 2 ≤ l.length
    rotate_left
    · have HNO : Hid (¬ HeadOk l k m) := fun h => hlen h.2.2.1
      have hli : (S.size : Int) < (k : Int) + 2 := by have := HSZ.out; omega
      clear hk0
      go_wp2_with fail
      obtain ⟨y0, y1, yb⟩ := HRJ.out _ rfl
      exact bodyPost_ret (v := .tuple #[.agg #[.int .i64 0, .string ⟨#[]⟩], .string ⟨#[]⟩, .bool false]) (by simp [results, Tryz.f17, go_sem, y0, y1]) rfl ⟨yb, k, m, HL.out, .inl ⟨HNO.out, rfl⟩⟩
    have hls : k + 2 ≤ S.size := by rw [HSZ.out]; exact hlen
    have hli : ¬ (S.size : Int) < (k : Int) + 2 := by omega
    have hx2 := HX2.out k
    have hex := HEX.out (k + 2)
    by_cases hq : (l.drop k).take 2 = [32, 34]
    rotate_left
    · have HNO : Hid (¬ HeadOk l k m) := fun h => hq h.2.2.2
      have hqi : ((bs ((l.drop k).take 2)).toList == [32, 34]) = false := by rw [bs_toList, beq_eq_false_iff_ne]; exact hq
      have hqj : ((bs ((l.drop k).take 2)).toList == (⟨#[32, 34]⟩ : ByteArray).toList) = false := by rw [ba_toList ⟨#[32, 34]⟩]; exact hqi
      generalize bs ((l.drop k).take 2) = Q at *
      clear hk0 hex
      go_wp2_with fail
      obtain ⟨y0, y1, yb⟩ := HRJ.out _ rfl
      exact bodyPost_ret (v := .tuple #[.agg #[.int .i64 0, .string ⟨#[]⟩], .string ⟨#[]⟩, .bool false]) (by simp [results, Tryz.f17, go_sem, y0, y1]) rfl ⟨yb, k, m, HL.out, .inl ⟨HNO.out, rfl⟩⟩
    have HOK : Hid (HeadOk l k m) := ⟨hk0, hm1, hlen, hq⟩
    have hqi : ((bs ((l.drop k).take 2)).toList == [32, 34]) = true := by rw [bs_toList, hq]; rfl
    have hqj : ((bs ((l.drop k).take 2)).toList == (⟨#[32, 34]⟩ : ByteArray).toList) = true := by rw [ba_toList ⟨#[32, 34]⟩]; exact hqi
    have HORR : Hid (∀ e, (endL (l.drop (k + 2)) = none ∧ e = failR) ∨ (∃ j, endL (l.drop (k + 2)) = some j ∧ e = .returned (.tuple #[.agg #[.int .i64 (m : Int), .string (bs (unescV ((l.drop (k + 2)).take j)).1)], .string (bs ((l.drop (k + 2)).drop (j + 1))), .bool (((unescV ((l.drop (k + 2)).take j)).2.2 : Int) == 0)])) → OneR l k m e) := fun e h => h.elim (fun h => .inr (.inl ⟨HOK.out, h⟩)) (fun h => .inr (.inr ⟨HOK.out, h⟩))
    generalize bs ((l.drop k).take 2) = Q at *
    have hrl : (l.drop (k + 2)).length ≤ 100000 := by rw [List.length_drop]; omega
    generalize l.drop (k + 2) = r at *
    have HRS : Hid ((bs r).size = r.length) := bs_size r
    have hrs : (bs r).size ≤ 100000 := by rw [HRS.out]; exact hrl
    have HEND := Lib.hid (fun w => rend_any (bs r) w (by omega))
    rw [bs_data] at HEND
    have HTL := Lib.hid (fun j => ext_drop r j)
    have HTK : Hid (∀ j, (bs r).extract 0 j = bs (r.take j)) := fun j => by rw [bs_extract, List.drop_zero]
    generalize bs r = E at *
    clear hq hk0 hm1 hlen
    cases he : endL r with
    | none =>
      rw [endV_none he] at HEND
      have HR2 := Lib.hid (HORR.out failR (.inl ⟨he, rfl⟩))
      clear he
      go_wp2_with fail
      refine (HEND.out _).mono ?_
      rintro e _ ⟨rfl, rfl⟩
      go_wp2_with fail
      obtain ⟨y0, y1, yb⟩ := HRJ.out _ rfl
      exact bodyPost_ret (v := .tuple #[.agg #[.int .i64 0, .string ⟨#[]⟩], .string ⟨#[]⟩, .bool false]) (by simp [results, Tryz.f17, go_sem, y0, y1]) rfl ⟨yb, k, m, HL.out, HR2.out⟩
    | some j =>
      rw [endV_some he] at HEND
      have hjl := endL_lt he
      rw [← HRS.out] at hjl
      have hjt := HTK.out j
      have hjd := HTL.out (j + 1)
      have hlk : (r.take j).length ≤ 100000 := by rw [List.length_take]; omega
      have HUN := Lib.hid (fun w => runescape_any (r.take j) w hlk)
      have HR2 := Lib.hid (HORR.out _ (.inr ⟨j, he, rfl⟩))
      clear he hlk HORR HTK HTL g0 g1 f0 f1 HRJ
      generalize unescV (r.take j) = X at *
      generalize bs (r.take j) = U at *
      generalize bs (r.drop (j + 1)) = Y at *
      obtain ⟨x1, x2, x3⟩ := X
      simp only at HUN HR2
      go_wp2_with fail
      refine (HEND.out _).mono ?_
      rintro e _ ⟨rfl, rfl⟩
      go_wp2_with fail
      refine (HUN.out _).mono ?_
      rintro e w3 ⟨rfl, hb3⟩
      have hz0 : w.heap.size < wc.heap.size := (Array.getElem?_eq_some_iff.1 HK0.out).1
      have k3 : w3.heap[w.heap.size]? = some (.cells #[.int .i64 0, .string ⟨#[]⟩] 42 (0, 0)) := (hb3.block w.heap.size hz0).trans HK0.out
      have HB3 : Hid (Below w.heap.size w w3) := HB0.out.trans (hb3.mono (by omega))
      have g0 := row_cells k3 0
      have g1 := row_cells k3 1
      have f0 := row_frozen k3 0
      have f1 := row_frozen k3 1
      have HK3 := Lib.hid k3
      clear hb3 k3
      go_wp2_with fail
      have d1 : IntKind.i64.wrap ((j : Int) + 1) = (j : Int) + 1 := by rw [IntKind.wrap_i64] <;> omega
      have d2 : ((j : Int) + 1).toNat = j + 1 := by omega
      have d3 : 0 ≤ (j : Int) + 1 := by omega
      have d4 : (j : Int) + 1 ≤ (E.size : Int) := by omega
      go_region_with (fail)
      all_goals
        go_wp2_with fail
        obtain ⟨y0, y1⟩ := pc_set HK3.out (.int .i64 (m : Int)) (.string (bs x1))
        exact bodyPost_ret (v := .tuple #[.agg #[.int .i64 (m : Int), .string (bs x1)], .string Y, .bool ((x3 : Int) == 0)]) (by simp [results, Tryz.f17, go_sem, y0, y1]) rfl ⟨(below_set2 HB3.out (Nat.le_refl _) _ _).drew, k, m, HL.out, HR2.out⟩
end Go.Proofs.YtkkggpahanddnaaGreatDoor
/- Walks: the reference's Parse, of any string. -/
namespace Go.Proofs.YtkkggpahanddnaaGreatDoor
open Go.RowKit
attribute [local go_sem] Ext.cell Ext.frozen
attribute [local go_sem ↓] Go.wp_at_zero Go.wp_at_succ
theorem itoa_dec (n : Nat) (h : n ≤ 1001) : (Lib.itoa (n : Int)).all (fun c => decide (48 ≤ c.toNat) && decide (c.toNat ≤ 57)) = true ∧ decV (Lib.itoa (n : Int)) = n ∧ 1 ≤ (Lib.itoa (n : Int)).length := by
  have k : ∀ v : Fin 1002, (Lib.itoa (v.1 : Int)).all (fun c => decide (48 ≤ c.toNat) && decide (c.toNat ≤ 57)) = true ∧ decV (Lib.itoa (v.1 : Int)) = v.1 ∧ 1 ≤ (Lib.itoa (v.1 : Int)).length := by decide +kernel
  exact k ⟨n, by omega⟩
theorem lead_text {ds T : List UInt8} {k m : Nat} (hd : ∀ c ∈ ds, isDg c) (hl : ds.length ≤ 4) (h : LeadP (ds ++ 32 :: T) k m) : k = ds.length ∧ m = decV ds := by
  obtain ⟨h1, h2, h3, h4, _, h6⟩ := h
  have e : k = ds.length := by
    rcases Nat.lt_trichotomy k ds.length with hk | hk | hk
    · rcases h6 with h6 | h6 | h6
      · omega
      · rw [List.length_append, List.length_cons] at h6; omega
      · refine absurd (hd _ (List.getElem_mem hk)) ?_
        have : (ds ++ 32 :: T).getD k 0 = ds[k] := by simp [List.getD, List.getElem?_append_left hk, List.getElem?_eq_getElem hk]
        rw [← this]
        exact h6
    · exact hk
    · have := h3 ds.length hk
      rw [getD_split] at this
      exact absurd this.1 (by decide)
  subst e
  exact ⟨rfl, by rw [h4, List.take_left]⟩
theorem rone_text (p : Int × ByteArray) (hp : 0 ≤ p.1 ∧ p.1 ≤ 1001 ∧ p.2.size ≤ 3000) (R : List UInt8) (w : World) (hR : (txtP p ++ R).length ≤ 100000) :
    Calls Tryz.prog 17 #[.string (bs (txtP p ++ R))] w fun e w' => e = .returned (.tuple #[.agg #[.int .i64 p.1, .string p.2], .string (bs R), .bool true]) ∧ Below w.heap.size w w' := by
  refine (rpiece_any (txtP p ++ R) w hR).mono ?_
  rintro e w' ⟨hb, k, m, hlead, hone⟩
  obtain ⟨h0, h1, _⟩ := hp
  have ep : ((p.1.toNat : Nat) : Int) = p.1 := by omega
  obtain ⟨hall, hdec, hpos⟩ := itoa_dec p.1.toNat (by omega)
  have hlen := (itoa_le p.1.toNat (by omega)).2.2
  rw [ep] at hall hdec hpos hlen
  have el : txtP p ++ R = Lib.itoa p.1 ++ 32 :: (34 :: (escS p.2.data.toList ++ 34 :: R)) := by simp [txtP]
  rw [el] at hlead hone
  obtain ⟨rfl, rfl⟩ := lead_text (fun c hc => by have := List.all_eq_true.1 hall c hc; rw [Bool.and_eq_true, decide_eq_true_eq, decide_eq_true_eq] at this; exact this) hlen hlead
  have ed : (Lib.itoa p.1 ++ 32 :: (34 :: (escS p.2.data.toList ++ 34 :: R))).drop (Lib.itoa p.1).length = 32 :: 34 :: (escS p.2.data.toList ++ 34 :: R) := List.drop_left
  have ed2 : (Lib.itoa p.1 ++ 32 :: (34 :: (escS p.2.data.toList ++ 34 :: R))).drop ((Lib.itoa p.1).length + 2) = escS p.2.data.toList ++ 34 :: R := by rw [← List.drop_drop, ed]; rfl
  have hok : HeadOk (Lib.itoa p.1 ++ 32 :: (34 :: (escS p.2.data.toList ++ 34 :: R))) (Lib.itoa p.1).length (decV (Lib.itoa p.1)) :=
    ⟨by omega, by omega, by simp, by rw [ed]; rfl⟩
  have hend := endL_escS p.2.data.toList R
  rcases hone with ⟨h, _⟩ | ⟨_, h, _⟩ | ⟨_, j, h, he⟩
  · exact absurd hok h
  · rw [ed2, hend] at h; cases h
  · rw [ed2, hend] at h
    obtain rfl := Option.some.inj h
    rw [he, ed2, List.take_left, unescV_esc, hdec, ep]
    refine ⟨?_, hb⟩
    rw [show (escS p.2.data.toList ++ 34 :: R).drop ((escS p.2.data.toList).length + 1) = R by rw [← List.drop_drop, List.drop_left]; rfl]
    rfl
theorem rone_exists (s : ByteArray) (w : World) (hs : s.size ≤ 100000) : Calls Tryz.prog 17 #[.string s] w (PieceP s w) := by
  have hl : s.data.toList.length = s.size := ba_len s
  refine (rpiece_any s.data.toList w (by omega)).mono ?_
  rintro e w' ⟨hb, k, m, hlead, hone⟩
  have hm : m ≤ 10000 := by
    have h1 := hlead.2.2.2.2.1
    have : 10 ^ k ≤ 10 ^ 4 := Nat.pow_le_pow_right (by decide) hlead.1
    have : (10 : Nat) ^ 4 = 10000 := by decide
    omega
  have hf : e = failR → PieceP s w e w' := fun h => ⟨0, ⟨#[]⟩, ⟨#[]⟩, false, h, ⟨by decide, by decide⟩, Nat.zero_le _, fun e => (by cases e), hb⟩
  rcases hone with ⟨_, h⟩ | ⟨_, _, h⟩ | ⟨hok, j, hj, h⟩
  · exact hf h
  · exact hf h
  · refine ⟨_, _, _, _, h, by unfold Int64; omega, ?_, fun _ => ?_, hb⟩
    · rw [bs_size]
      have := (unescV_len ((s.data.toList.drop (k + 2)).take j)).1
      rw [List.length_take, List.length_drop] at this
      omega
    · rw [bs_size, List.length_drop, List.length_drop]
      have := hok.2.2.1
      omega
set_option maxRecDepth 20000 in
set_option maxHeartbeats 8000000 in
theorem rparse_text (ps : List (Int × ByteArray)) (w : World) (hn : (textV ps).length ≤ 3000) (hv : validV ps 1000 = true) :
    Calls Tryz.prog 7 #[.string (bs (textV ps))] w fun e w' => ∃ ad c, e = .returned (.tuple #[.slice ad ps.length c, .int .i64 0]) ∧ w'.ownsRow w.heap.size 42 2 (.slice ad ps.length c) ps.length (pcCells ps) ∧ Below w.heap.size w w' := by
  obtain ⟨hc, hsz⟩ := text_sizes ps
  have hg : Good ps := fun p hp => by
    obtain ⟨i, hi, rfl⟩ := List.getElem_of_mem hp
    have := validV_at hv hi
    simp only [List.getD, List.getElem?_eq_getElem hi, Option.getD_some] at this
    exact ⟨this.1, by omega, by have := hsz _ hp; omega⟩
  obtain ⟨i0, hi, hz0, hz1, hz2⟩ := info_parts infoRc
  have HI := Lib.hid hi
  have HZ0 := Lib.hid hz0
  have HZ1 := Lib.hid hz1
  have HZ2 := Lib.hid hz2
  have HG := Lib.hid hg
  have HTL := Lib.hid hn
  have hc3 : ps.length ≤ 3000 := by omega
  have HV := Lib.hid (fun ad c w (h : Pc w ad ps.length ps) => rvalid_any ad ps.length c ps 1000 w h (fun p hp => by have := (hg p hp).2.1; omega))
  rw [hv] at HV
  have HX := Lib.hid (fun ad c w (h : Pc w ad ps.length ps) => rtext_all ad ps.length c ps w h (by omega) (fun p hp => by have := hg p hp; exact ⟨⟨by omega, by omega⟩, this.2.2⟩))
  clear hi hz0 hz1 hz2 hg hv hc hsz hn
  go_enter Tryz.func7, Tryz.ntmps7
  go_wp2_with fail
  go_loopw [4, 5] (fun o s wr => ∃ (k : Nat) (ad : Option Addr) (c : Nat), k ≤ ps.length ∧ o = .slice ad k c ∧ s = .string (bs (if k = 0 then textV ps else tailV (ps.drop k))) ∧ wr.ownsRow w.heap.size 42 2 (.slice ad k c) k (pcCells (ps.take k)) ∧ Below w.heap.size w wr) (fun o _ _ => ps.length - (match o with | .slice _ k _ => k | _ => 0))
  case atStart => exact ⟨0, none, 0, Nat.zero_le _, rfl, rfl, by rw [List.take_zero]; exact World.ownsRow_nil _ _ _ _, Below.refl _ _⟩
  case round =>
    obtain ⟨k, ad, c, hk, rfl, rfl, hown, hbl⟩ := hrel
    have HOWN := Lib.hid hown
    have HBL := Lib.hid hbl
    have hzr := hbl.size
    clear hown hbl
    by_cases hlt : k < ps.length
    · have HTS : Hid (ps.take (k + 1) = ps.take k ++ [ps.getD k (0, .empty)]) := by
        unfold Hid
        rw [List.take_succ_eq_append_getElem hlt]
        simp [List.getD, List.getElem?_eq_getElem hlt]
      have hdr : ps.drop k = ps.getD k (0, .empty) :: ps.drop (k + 1) := by
        rw [List.drop_eq_getElem_cons hlt]; simp [List.getD, List.getElem?_eq_getElem hlt]
      have hmem : ps.getD k (0, .empty) ∈ ps := by simp [List.getD, List.getElem?_eq_getElem hlt]
      have hgk := HG.out _ hmem
      have hlt2 := textV_drop ps k
      have hTL := HTL.out
      have etx : textV (ps.drop k) = txtP (ps.getD k (0, .empty)) ++ tailV (ps.drop (k + 1)) := by rw [hdr, textV_cons]
      have HPC := Lib.hid (fun w => rone_text (ps.getD k (0, .empty)) hgk (tailV (ps.drop (k + 1))) w (by rw [← etx]; omega))
      rw [← etx] at HPC
      have hpos : 3 ≤ (textV (ps.drop k)).length := by rw [etx, List.length_append]; have := txtP_pos (ps.getD k (0, .empty)); omega
      have HNX : Hid (bs (if k + 1 = 0 then textV ps else tailV (ps.drop (k + 1))) = bs (tailV (ps.drop (k + 1)))) := by unfold Hid; rw [if_neg (by omega)]
      have etl : k ≠ 0 → (if k = 0 then textV ps else tailV (ps.drop k)) = 32 :: textV (ps.drop k) := fun h => by rw [if_neg h, hdr]; rfl
      have etz : k = 0 → (if k = 0 then textV ps else tailV (ps.drop k)) = textV (ps.drop k) := fun h => by subst h; rfl
      have hTsz : (bs (textV (ps.drop k))).size ≤ 3000 := by rw [bs_size]; omega
      clear hdr hmem hgk etx
      by_cases hk0 : k = 0
      · rw [etz hk0]
        have hem : (bs (textV (ps.drop k))).toList.isEmpty = false := by rw [isEmpty_iff]; exact decide_eq_false (by rw [bs_size]; omega)
        have hki : ¬ 0 < (k : Int) := by omega
        clear etl etz hpos hlt2 hTL hk0
        generalize bs (textV (ps.drop k)) = S at *
        obtain ⟨T, hT⟩ : ∃ T, bs (tailV (ps.drop (k + 1))) = T := ⟨_, rfl⟩
        rw [hT] at HPC HNX
        clear hT
        generalize ps.getD k (0, .empty) = p at *
        obtain ⟨p0, p1⟩ := p
        simp only at HPC
        go_wp2_with fail
        refine (HPC.out _).mono ?_
        rintro e w1 ⟨rfl, hb1⟩
        go_upto_region 9 with (fail)
        refine wp_at_worldH ?_
        intro W hW
        have hbW : Below w1.heap.size w1 W := by rw [hW]; exact (Below.refl _ _).alloc (Nat.le_refl _) _
        have kW : W.heap[w1.heap.size]? = some (.cells #[.int .i64 p0, .string p1] 42 (0, 0)) := by rw [hW]; exact row_new _ _ _
        have c0 := row_cells kW 0
        have c1 := row_cells kW 1
        have HOW := Lib.hid (own_below2 (own_below2 HOWN.out hb1) hbW)
        have HBW : Hid (Below w.heap.size w W) := (HBL.out.trans (hb1.mono hzr)).trans (hbW.mono (Nat.le_trans hzr hb1.size))
        have hzW := HBW.out.size
        clear hW hbW kW hb1
        go_wp2_with (at_builtin; refine wpList_app2 22 42 Tryz.underlying22 i0 _ HI.out HZ0.out HZ1.out HZ2.out rfl rfl _ _ rfl w.heap.size ad k c _ rfl HOW.out _ _ _ rfl rfl rfl (by omega) hzW ?_; intro ad6 c6 w3 hown3 hb3 hg3 hz3; have HOWN3 := Lib.hid hown3; have HB3 := Lib.hid hb3; clear hown3 hb3 hg3 hz3)
        go_roundw
        case rel => exact ⟨k + 1, ad6, c6, hlt, rfl, by rw [HNX.out], by rw [HTS.out, pcCells_snoc]; exact HOWN3.out, HBW.out.trans HB3.out⟩
        case measure => simp; omega
      · rw [etl hk0]
        have hem : (bs (32 :: textV (ps.drop k))).toList.isEmpty = false := by rw [isEmpty_iff]; exact decide_eq_false (by rw [bs_size]; simp)
        have hki : 0 < (k : Int) := by omega
        have hcut : (bs (32 :: textV (ps.drop k))).extract 1 (bs (32 :: textV (ps.drop k))).size = bs (textV (ps.drop k)) := ext_drop _ 1
        have hsz1 : 1 ≤ (bs (32 :: textV (ps.drop k))).size := by rw [bs_size]; simp
        have hsz2 : (bs (32 :: textV (ps.drop k))).size ≤ 4000 := by rw [bs_size, List.length_cons]; omega
        clear etl etz hpos hlt2 hTL hk0
        generalize bs (32 :: textV (ps.drop k)) = S0 at *
        generalize bs (textV (ps.drop k)) = S at *
        obtain ⟨T, hT⟩ : ∃ T, bs (tailV (ps.drop (k + 1))) = T := ⟨_, rfl⟩
        rw [hT] at HPC HNX
        clear hT
        generalize ps.getD k (0, .empty) = p at *
        obtain ⟨p0, p1⟩ := p
        simp only at HPC
        go_wp2_with fail
        refine (HPC.out _).mono ?_
        rintro e w1 ⟨rfl, hb1⟩
        go_upto_region 9 with (fail)
        refine wp_at_worldH ?_
        intro W hW
        have hbW : Below w1.heap.size w1 W := by rw [hW]; exact (Below.refl _ _).alloc (Nat.le_refl _) _
        have kW : W.heap[w1.heap.size]? = some (.cells #[.int .i64 p0, .string p1] 42 (0, 0)) := by rw [hW]; exact row_new _ _ _
        have c0 := row_cells kW 0
        have c1 := row_cells kW 1
        have HOW := Lib.hid (own_below2 (own_below2 HOWN.out hb1) hbW)
        have HBW : Hid (Below w.heap.size w W) := (HBL.out.trans (hb1.mono hzr)).trans (hbW.mono (Nat.le_trans hzr hb1.size))
        have hzW := HBW.out.size
        clear hW hbW kW hb1
        go_wp2_with (at_builtin; refine wpList_app2 22 42 Tryz.underlying22 i0 _ HI.out HZ0.out HZ1.out HZ2.out rfl rfl _ _ rfl w.heap.size ad k c _ rfl HOW.out _ _ _ rfl rfl rfl (by omega) hzW ?_; intro ad6 c6 w3 hown3 hb3 hg3 hz3; have HOWN3 := Lib.hid hown3; have HB3 := Lib.hid hb3; clear hown3 hb3 hg3 hz3)
        go_roundw
        case rel => exact ⟨k + 1, ad6, c6, hlt, rfl, by rw [HNX.out], by rw [HTS.out, pcCells_snoc]; exact HOWN3.out, HBW.out.trans HB3.out⟩
        case measure => simp; omega
    · obtain rfl : k = ps.length := by omega
      have hes : (if ps.length = 0 then textV ps else tailV (ps.drop ps.length)) = [] := by
        split
        · rename_i h; rw [List.eq_nil_of_length_eq_zero h]; rfl
        · rw [List.drop_length]; rfl
      rw [hes]
      have he : (bs ([] : List UInt8)).toList.isEmpty = true := by rw [bs_toList]; rfl
      have h1 := HOWN.out
      rw [List.take_length] at h1
      have HPS : Hid (Pc wr ad ps.length ps) := own_pc h1
      have HO := Lib.hid h1
      clear h1 HOWN hes
      generalize bs ([] : List UInt8) = S at *
      go_wp2_with fail
      refine (HV.out _ _ _ HPS.out).mono ?_
      rintro e w1 ⟨rfl, hb1⟩
      have HB1 : Hid (Below w.heap.size w w1) := HBL.out.trans (hb1.mono hzr)
      have HO1 := Lib.hid (own_below2 HO.out hb1)
      have HP1 : Hid (Pc w1 ad ps.length ps) := HPS.out.below hb1
      have hz1 := HB1.out.size
      clear hb1 HO HPS
      go_wp2_with fail
      refine (HX.out _ _ _ HP1.out).mono ?_
      rintro e w2 ⟨rfl, hb2⟩
      have HB2 : Hid (Below w.heap.size w w2) := HB1.out.trans (hb2.mono hz1)
      have HO2 := Lib.hid (own_below2 HO1.out hb2)
      clear hb2 HO1 HP1
      go_wp2_with fail
      go_ret2
      exact ⟨ad, c, rfl, HO2.out, HB2.out⟩
set_option maxRecDepth 20000 in
set_option maxHeartbeats 8000000 in
theorem rparse_none (s : ByteArray) (w : World) (hs : s.size ≤ 3000) (hno : ∀ ps, validV ps 1000 = true → textV ps ≠ s.data.toList) :
    Calls Tryz.prog 7 #[.string s] w fun e w' => e = .returned (.tuple #[.slice none 0 0, .int .i64 3]) ∧ Below w.heap.size w w' := by
  obtain ⟨i0, hi, hz0, hz1, hz2⟩ := info_parts infoRc
  have HI := Lib.hid hi
  have HZ0 := Lib.hid hz0
  have HZ1 := Lib.hid hz1
  have HZ2 := Lib.hid hz2
  have HNO := Lib.hid hno
  clear hi hz0 hz1 hz2 hno
  go_enter Tryz.func7, Tryz.ntmps7
  go_wp2_with fail
  go_loopw [4, 5] (fun o v wr => ∃ (ps : List (Int × ByteArray)) (ad : Option Addr) (c : Nat) (S : ByteArray), o = .slice ad ps.length c ∧ v = .string S ∧ wr.ownsRow w.heap.size 42 2 (.slice ad ps.length c) ps.length (pcCells ps) ∧ (∀ p ∈ ps, Int64 p.1 ∧ p.2.size ≤ 3000) ∧ S.size + ps.length ≤ s.size ∧ Below w.heap.size w wr) (fun _ v _ => strSz v)
  case atStart => exact ⟨[], none, 0, s, rfl, rfl, World.ownsRow_nil _ _ _ _, fun p h => (by cases h), Nat.le_refl _, Below.refl _ _⟩
  case round =>
    obtain ⟨ps, ad, c, S, rfl, rfl, hown, hall, hsum, hbl⟩ := hrel
    have HOWN := Lib.hid hown
    have HBL := Lib.hid hbl
    have HALL := Lib.hid hall
    have HSUM := Lib.hid hsum
    have hzr := hbl.size
    have hpl : ps.length ≤ 3000 := by omega
    have hSl : S.size ≤ 3000 := by omega
    have hem := isEmpty_iff S
    clear hown hbl hall hsum
    by_cases h0 : S.size = 0
    · rw [decide_eq_true h0] at hem
      have HPS : Hid (Pc wr ad ps.length ps) := own_pc HOWN.out
      have HV := Lib.hid (rvalid_any ad ps.length c ps 1000 wr HPS.out (fun p hp => ((HALL.out p hp).1).2))
      have HX := Lib.hid (fun w h => rtext_all ad ps.length c ps w h (by omega) (fun p hp => HALL.out p hp))
      clear h0
      cases hv : validV ps 1000
      · rw [hv] at HV
        clear hv
        go_wp2_with fail
        refine HV.out.mono ?_
        rintro e w1 ⟨rfl, hb1⟩
        have HB1 : Hid (Below w.heap.size w w1) := HBL.out.trans (hb1.mono hzr)
        clear hb1
        go_wp2_with fail
        go_ret2
        exact ⟨rfl, HB1.out⟩
      · have hne : ((bs (textV ps)).toList == s.toList) = false := by
          rw [bs_toList, ba_toList, beq_eq_false_iff_ne]
          exact HNO.out ps hv
        rw [hv] at HV
        clear hv
        generalize bs (textV ps) = T at *
        go_wp2_with fail
        refine HV.out.mono ?_
        rintro e w1 ⟨rfl, hb1⟩
        have HB1 : Hid (Below w.heap.size w w1) := HBL.out.trans (hb1.mono hzr)
        have HP1 : Hid (Pc w1 ad ps.length ps) := HPS.out.below hb1
        have hz1 := HB1.out.size
        clear hb1
        go_wp2_with fail
        refine (HX.out _ HP1.out).mono ?_
        rintro e w2 ⟨rfl, hb2⟩
        have HB2 : Hid (Below w.heap.size w w2) := HB1.out.trans (hb2.mono hz1)
        clear hb2
        go_wp2_with fail
        go_ret2
        exact ⟨rfl, HB2.out⟩
    · rw [decide_eq_false h0] at hem
      by_cases hk0 : ps.length = 0
      · have hki : ¬ 0 < (ps.length : Int) := by omega
        clear h0 hk0
        have HPI := Lib.hid (rone_exists S wr (by omega))
        go_wp2_with fail
        refine HPI.out.mono ?_
        rintro e w1 ⟨n, t, R, b, rfl, hn, htS, hRS, hb1⟩
        have HN := Lib.hid hn
        have HTS := Lib.hid htS
        have HRS := Lib.hid hRS
        clear hn htS hRS HPI
        cases b with
        | false =>
          have HB1 : Hid (Below w.heap.size w w1) := HBL.out.trans (hb1.mono hzr)
          clear hb1
          go_wp2_with fail
          go_ret2
          exact ⟨rfl, by first | exact HB1.out | exact HB1.out.alloc HB1.out.size _⟩
        | true =>
          go_upto_region 9 with (fail)
          refine wp_at_worldH ?_
          intro W hW
          have hbW : Below w1.heap.size w1 W := by rw [hW]; exact (Below.refl _ _).alloc (Nat.le_refl _) _
          have kW : W.heap[w1.heap.size]? = some (.cells #[.int .i64 n, .string t] 42 (0, 0)) := by rw [hW]; exact row_new _ _ _
          have c0 := row_cells kW 0
          have c1 := row_cells kW 1
          have HOW := Lib.hid (own_below2 (own_below2 HOWN.out hb1) hbW)
          have HBW : Hid (Below w.heap.size w W) := (HBL.out.trans (hb1.mono hzr)).trans (hbW.mono (Nat.le_trans hzr hb1.size))
          have hzW := HBW.out.size
          clear hW hbW kW hb1
          go_wp2_with (at_builtin; refine wpList_app2 22 42 Tryz.underlying22 i0 _ HI.out HZ0.out HZ1.out HZ2.out rfl rfl _ _ rfl w.heap.size ad ps.length c _ rfl HOW.out _ _ _ rfl rfl rfl (by omega) hzW ?_; intro ad6 c6 w3 hown3 hb3 hg3 hz3; have HOWN3 := Lib.hid hown3; have HB3 := Lib.hid hb3; clear hown3 hb3 hg3 hz3)
          go_roundw
          case rel =>
            refine ⟨ps ++ [(n, t)], ad6, c6, R, by rw [List.length_append]; rfl, rfl, by rw [List.length_append, pcCells_snoc]; exact HOWN3.out, ?_, by have := HRS.out trivial; have := HSUM.out; rw [List.length_append]; simp only [List.length_cons, List.length_nil]; omega, HBW.out.trans HB3.out⟩
            intro p hp
            rcases List.mem_append.1 hp with hp | hp
            · exact HALL.out p hp
            · obtain rfl := List.mem_singleton.1 hp
              exact ⟨HN.out, Nat.le_trans HTS.out (by omega)⟩
          case measure => have := HRS.out trivial; simp [strSz]; omega
      · have hki : 0 < (ps.length : Int) := by omega
        have hS1 : 1 ≤ S.size := by omega
        have hX : (S.extract 1 S.size).size = S.size - 1 := by rw [ByteArray.size_extract]; omega
        obtain ⟨X, hXX⟩ : ∃ X, S.extract 1 S.size = X := ⟨_, rfl⟩
        rw [hXX] at hX
        have hXs : X.size ≤ 3000 := by omega
        have HXS : Hid (X.size < S.size) := by unfold Hid; omega
        clear h0 hk0 hX
        have HPI := Lib.hid (rone_exists X wr (by omega))
        go_wp2_with fail
        refine HPI.out.mono ?_
        rintro e w1 ⟨n, t, R, b, rfl, hn, htS, hRS, hb1⟩
        have HN := Lib.hid hn
        have HTS := Lib.hid htS
        have HRS := Lib.hid hRS
        clear hn htS hRS HPI
        cases b with
        | false =>
          have HB1 : Hid (Below w.heap.size w w1) := HBL.out.trans (hb1.mono hzr)
          clear hb1
          go_wp2_with fail
          go_ret2
          exact ⟨rfl, by first | exact HB1.out | exact HB1.out.alloc HB1.out.size _⟩
        | true =>
          go_upto_region 9 with (fail)
          refine wp_at_worldH ?_
          intro W hW
          have hbW : Below w1.heap.size w1 W := by rw [hW]; exact (Below.refl _ _).alloc (Nat.le_refl _) _
          have kW : W.heap[w1.heap.size]? = some (.cells #[.int .i64 n, .string t] 42 (0, 0)) := by rw [hW]; exact row_new _ _ _
          have c0 := row_cells kW 0
          have c1 := row_cells kW 1
          have HOW := Lib.hid (own_below2 (own_below2 HOWN.out hb1) hbW)
          have HBW : Hid (Below w.heap.size w W) := (HBL.out.trans (hb1.mono hzr)).trans (hbW.mono (Nat.le_trans hzr hb1.size))
          have hzW := HBW.out.size
          clear hW hbW kW hb1
          go_wp2_with (at_builtin; refine wpList_app2 22 42 Tryz.underlying22 i0 _ HI.out HZ0.out HZ1.out HZ2.out rfl rfl _ _ rfl w.heap.size ad ps.length c _ rfl HOW.out _ _ _ rfl rfl rfl (by omega) hzW ?_; intro ad6 c6 w3 hown3 hb3 hg3 hz3; have HOWN3 := Lib.hid hown3; have HB3 := Lib.hid hb3; clear hown3 hb3 hg3 hz3)
          go_roundw
          case rel =>
            refine ⟨ps ++ [(n, t)], ad6, c6, R, by rw [List.length_append]; rfl, rfl, by rw [List.length_append, pcCells_snoc]; exact HOWN3.out, ?_, by have := HRS.out trivial; have := HXS.out; have := HSUM.out; rw [List.length_append]; simp only [List.length_cons, List.length_nil]; omega, HBW.out.trans HB3.out⟩
            intro p hp
            rcases List.mem_append.1 hp with hp | hp
            · exact HALL.out p hp
            · obtain rfl := List.mem_singleton.1 hp
              exact ⟨HN.out, Nat.le_trans HTS.out (by omega)⟩
          case measure => have := HRS.out trivial; have := HXS.out; simp [strSz]; omega
end Go.Proofs.YtkkggpahanddnaaGreatDoor
/- Plain: what a row of Text's laid variables say: the table of deBruijn64tab, the powers of ten; bytealg.MaxLen holds a number. -/
namespace Go.Proofs.YtkkggpahanddnaaGreatDoor
open Go.RowKit
theorem laid_tail {P : Program} {W : World} {x : String × DataW Unit} {rest : List (String × DataW Unit)} {ps} (h : DataW.LaidVars P W (x :: rest) ps) : ∃ q, DataW.LaidVars P W rest q := by
  obtain ⟨_, _, _, _, p, q, _, _, _, _, h1, _⟩ := h
  exact ⟨q, h1⟩
theorem tab_at {P : Program} {W : World} {name : String} {k : IntKind} {zs : List Int} {rest : List (String × DataW Unit)} {g : Nat} {t e : TypeId} {n : Nat} {ps}
    (hg : P.globalNamed name = some g) (hty : (P.globals[g]?).map (·.type) = some t) (ht : P.underlying t = some (.array n e)) (he : P.underlying e = some (.int k)) (hce : P.cellsOf e = 1) (hct : P.cellsOf t = n)
    (h : DataW.LaidVars P W ((name, Lib.tabData k zs) :: rest) ps) : Lib.TabIs P W name k zs := by
  obtain ⟨g', t', cs, fuel, p, q, hg', ht', hvar, hd, _, _⟩ := h
  obtain rfl := Option.some.inj (hg.symm.trans hg')
  obtain rfl := Option.some.inj (hty.symm.trans ht')
  unfold Lib.TabIs
  rw [hvar, ← Lib.cells_of_tab ht he hce hct hd]
theorem pow_data : (Rows.laid_internal_strconv_uint64pow10 : DataW Unit) = Lib.tabData .u64 Lib.pow10Tab := by kernel_rfl
theorem de_data : (Rows.laid_math_bits_deBruijn64tab : DataW Unit) = Lib.tabData .u8 deTab := by kernel_rfl
theorem tabs_of {W : World} {rest : List (String × DataW Unit)} {x : String × DataW Unit} (hall : ((x :: ("math/bits.deBruijn64tab", Rows.laid_math_bits_deBruijn64tab) :: ("internal/strconv.uint64pow10", Rows.laid_internal_strconv_uint64pow10) :: rest).all fun x => x.2.handleName?.isNone) = true)
    (h : laidMetH Tryz.prog (x :: ("math/bits.deBruijn64tab", Rows.laid_math_bits_deBruijn64tab) :: ("internal/strconv.uint64pow10", Rows.laid_internal_strconv_uint64pow10) :: rest) W) : TabDeB W ∧ TabTen W := by
  rw [MakeChecks.laidMetH_plain _ _ _ hall] at h
  obtain ⟨ps, h1, _⟩ := h
  obtain ⟨q1, h2⟩ := laid_tail h1
  obtain ⟨q2, h3⟩ := laid_tail h2
  rw [de_data] at h2
  rw [pow_data] at h3
  exact ⟨Lib.tabBelow_of_tabIs (tab_at (g := (Tryz.prog.globalNamed "math/bits.deBruijn64tab").getD 0) (t := ((Tryz.prog.globals[(Tryz.prog.globalNamed "math/bits.deBruijn64tab").getD 0]?).map (·.type)).getD 0) (n := 64) (e := 5) (by kernel_rfl) (by kernel_rfl) (by kernel_rfl) Tryz.underlying5 (by kernel_rfl) (by kernel_rfl) h2),
    Lib.tabBelow_of_tabIs (tab_at (g := (Tryz.prog.globalNamed "internal/strconv.uint64pow10").getD 0) (t := ((Tryz.prog.globals[(Tryz.prog.globalNamed "internal/strconv.uint64pow10").getD 0]?).map (·.type)).getD 0) (n := 20) (e := 103) (by kernel_rfl) (by kernel_rfl) (by kernel_rfl) Tryz.underlying103 (by kernel_rfl) (by kernel_rfl) h3)⟩
theorem maxLen_of {W : World} (h : W.ShapedOpen Tryz.prog) : MaxLen W :=
  cell_of_shapedOpen_int (g := 0) (t := 3) (k := .i64) (zero := #[.int .i64 0]) h (by decide +kernel) (by kernel_rfl) rfl (by kernel_rfl) (by kernel_rfl) Tryz.underlying3
end Go.Proofs.YtkkggpahanddnaaGreatDoor
/- Plain: the variables ErrSyntax and ErrRange hold errors; what reading pieces asks of the world. -/
namespace Go.Proofs.YtkkggpahanddnaaGreatDoor
open Go.RowKit
theorem err_at {P : Program} {W : World} {name nm : String} {d : DataW Unit} {rest : List (String × DataW Unit)} {g : Nat} {t : TypeId} {ms : Array (String × TypeId)} {ps}
    (hg : P.globalNamed name = some g) (hty : (P.globals[g]?).map (·.type) = some t) (hi : P.underlying t = some (.interface ms)) (h : DataW.LaidVars P W ((name, .iface nm d) :: rest) ps) : ErrCell g W := by
  obtain ⟨g', t', cs, fuel, p, q, hg', ht', hvar, hd, _, _⟩ := h
  obtain rfl := Option.some.inj (hg.symm.trans hg')
  obtain rfl := Option.some.inj (hty.symm.trans ht')
  obtain ⟨l⟩ := cs
  obtain ⟨_, u, v, e, _⟩ := iface_of_trod hi hd
  subst e
  exact ⟨_, by simpa using World.var?_cell hg hvar 0, .inr ⟨u, v, rfl⟩⟩
theorem errs_of {W : World} {rest : List (String × DataW Unit)} {x y z : String × DataW Unit} (hall : ((x :: y :: z :: ("strconv.ErrRange", Rows.laid_strconv_ErrRange) :: ("strconv.ErrSyntax", Rows.laid_strconv_ErrSyntax) :: rest).all fun x => x.2.handleName?.isNone) = true)
    (h : laidMetH Tryz.prog (x :: y :: z :: ("strconv.ErrRange", Rows.laid_strconv_ErrRange) :: ("strconv.ErrSyntax", Rows.laid_strconv_ErrSyntax) :: rest) W) : ErrCell 2 W ∧ ErrCell 1 W := by
  rw [MakeChecks.laidMetH_plain _ _ _ hall] at h
  obtain ⟨ps, h1, _⟩ := h
  obtain ⟨q1, h2⟩ := laid_tail h1
  obtain ⟨q2, h3⟩ := laid_tail h2
  obtain ⟨q3, h4⟩ := laid_tail h3
  obtain ⟨q4, h5⟩ := laid_tail h4
  exact ⟨err_at (t := 62) (by kernel_rfl) (by kernel_rfl) Tryz.underlying62 h4, err_at (t := 62) (by kernel_rfl) (by kernel_rfl) Tryz.underlying62 h5⟩
theorem rdOk_of {W : World} (h : W.ShapedOpen Tryz.prog) (he : ErrCell 2 W ∧ ErrCell 1 W) : RdOk W := ⟨maxLen_of h, he.2, he.1⟩
end Go.Proofs.YtkkggpahanddnaaGreatDoor
