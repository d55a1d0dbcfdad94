/- Walks: Compare by the reference. -/
import Derived.Test.YtnnidhjmakpaeaaGreatDoorW8
import Derived.Test.YtnnidhjmakpaeaaGreatDoorP7
namespace Go.Proofs.YtnnidhjmakpaeaaGreatDoor
open Go.RowKit
attribute [local go_sem] Ext.cell Ext.frozen
attribute [local go_sem ↓] Go.wp_at_zero Go.wp_at_succ

def sizeOfV : Value → Nat
  | .string s => 6 - s.size
  | _ => 0

set_option maxHeartbeats 4000000 in
theorem rscaled_any (n : Bool) (a f : ByteArray) (w : World) (ha : a.size ≤ 15) (hf : f.size ≤ 6) (hda : allD a.data.toList = true) (hdf : allD f.data.toList = true) :
    Calls Tryz.prog 19 #[.agg #[.bool n, .string a, .string f]] w fun e w' => e = .returned (.tuple #[.int .i64 (signD n (valD a.data.toList)), .int .i64 (signD n (valD (pad6 f.data.toList)))]) ∧ Below w.heap.size w w' := by
  have HVA := Lib.hid (fun w => rvalue_any a w (by omega) hda)
  have hpl : (bs (pad6 f.data.toList)).size = 6 := by
    rw [bs_size]; unfold pad6; rw [List.length_append, List.length_replicate, size_len]; omega
  have HVP := Lib.hid (fun w => rvalue_any (bs (pad6 f.data.toList)) w (by omega) (by rw [bs_data]; unfold pad6; rw [allD_append, hdf]; simp [allD, isD]))
  rw [bs_data] at HVP
  have hva : valD a.data.toList < 1000000000000000 := Nat.lt_of_lt_of_le (valD_lt _ hda) (Nat.pow_le_pow_right (n := 10) (j := 15) (by decide) (show a.data.toList.length ≤ 15 by rw [size_len]; exact ha))
  have hvp : valD (pad6 f.data.toList) < 1000000 := pad6_lt hdf (by rw [size_len]; exact hf)
  have HST : Hid (∀ j, bs (f.data.toList ++ List.replicate j 48) ++ ⟨#[48]⟩ = bs (f.data.toList ++ List.replicate (j + 1) 48)) := fun j => by
    rw [List.replicate_succ', ← List.append_assoc, ← bs_append]; rfl
  have HSZ : Hid (∀ j, (bs (f.data.toList ++ List.replicate j 48)).size = f.size + j) := fun j => by
    rw [bs_size, List.length_append, List.length_replicate, size_len]
  have HPD : Hid (∀ j, f.size + j = 6 → bs (f.data.toList ++ List.replicate j 48) = bs (pad6 f.data.toList)) := fun j hj => by
    unfold pad6; rw [size_len, show 6 - f.size = j by omega]
  have HF0 : Hid (bs (f.data.toList ++ List.replicate 0 48) = f) := by unfold Hid; rw [List.replicate_zero, List.append_nil]; rfl
  clear hda hdf
  generalize valD a.data.toList = va at *
  generalize valD (pad6 f.data.toList) = vp at *
  generalize bs (pad6 f.data.toList) = pf at *
  cases n with
  | false =>
    have HO : Hid (signD false va = (va : Int) ∧ signD false vp = (vp : Int)) := ⟨rfl, rfl⟩
    go_enter Tryz.func19, Tryz.ntmps19
    go_wp2_with fail
    go_loop [4] (fun v => ∃ j : Nat, f.size + j ≤ 6 ∧ v = .string (bs (f.data.toList ++ List.replicate j 48))) sizeOfV
    case atStart => exact ⟨0, by omega, by rw [HF0.out]⟩
    case round =>
      obtain ⟨j, hj, rfl⟩ := hrel
      have hsz := HSZ.out j
      by_cases h6 : f.size + j = 6
      · rw [HPD.out j h6] at hsz ⊢
        clear h6
        go_wp2_with fail
        refine (HVA.out _).mono ?_
        rintro e _ ⟨rfl, rfl⟩
        go_wp2_with fail
        refine (HVP.out _).mono ?_
        rintro e _ ⟨rfl, rfl⟩
        go_wp2_with fail
        go_ret2
        exact ⟨by rw [HO.out.1, HO.out.2]; rfl, by (show Bel w _; (repeat (first | exact Bel.refl _ | refine Bel.ext ?_ _ | refine Bel.alloc ?_ _ | refine Bel.drewN ?_ _ | refine Bel.drew ?_ | refine Bel.setCell ?_ _ _ ?_ | exact Nat.le_refl _ | (simp; done) | omega | (simp <;> omega))))⟩
      · have hst := HST.out j
        have hsz2 := HSZ.out (j + 1)
        have HST2 := Lib.hid hst
        generalize hX : bs (f.data.toList ++ List.replicate j 48) = X at *
        generalize hY : bs (f.data.toList ++ List.replicate (j + 1) 48) = Y at *
        have hX6 : X.size < 6 := by omega
        go_wp2_with fail
        go_round
        case rel => exact ⟨j + 1, by omega, by rw [hY]⟩
        case measure => show 6 - Y.size < 6 - X.size; omega
  | true =>
    have HO : Hid (signD true va = -(va : Int) ∧ signD true vp = -(vp : Int)) := ⟨rfl, rfl⟩
    go_enter Tryz.func19, Tryz.ntmps19
    go_wp2_with fail
    go_loop [4] (fun v => ∃ j : Nat, f.size + j ≤ 6 ∧ v = .string (bs (f.data.toList ++ List.replicate j 48))) sizeOfV
    case atStart => exact ⟨0, by omega, by rw [HF0.out]⟩
    case round =>
      obtain ⟨j, hj, rfl⟩ := hrel
      have hsz := HSZ.out j
      by_cases h6 : f.size + j = 6
      · rw [HPD.out j h6] at hsz ⊢
        clear h6
        go_wp2_with fail
        refine (HVA.out _).mono ?_
        rintro e _ ⟨rfl, rfl⟩
        go_wp2_with fail
        refine (HVP.out _).mono ?_
        rintro e _ ⟨rfl, rfl⟩
        go_wp2_with fail
        go_ret2
        exact ⟨by rw [HO.out.1, HO.out.2]; rfl, by (show Bel w _; (repeat (first | exact Bel.refl _ | refine Bel.ext ?_ _ | refine Bel.alloc ?_ _ | refine Bel.drewN ?_ _ | refine Bel.drew ?_ | refine Bel.setCell ?_ _ _ ?_ | exact Nat.le_refl _ | (simp; done) | omega | (simp <;> omega))))⟩
      · have hst := HST.out j
        have hsz2 := HSZ.out (j + 1)
        have HST2 := Lib.hid hst
        generalize hX : bs (f.data.toList ++ List.replicate j 48) = X at *
        generalize hY : bs (f.data.toList ++ List.replicate (j + 1) 48) = Y at *
        have hX6 : X.size < 6 := by omega
        go_wp2_with fail
        go_round
        case rel => exact ⟨j + 1, by omega, by rw [hY]⟩
        case measure => show 6 - Y.size < 6 - X.size; omega

def rcmp4 (i f k g : Int) : Int := if i < k ∨ (i = k ∧ f < g) then -1 else if i > k ∨ f > g then 1 else 0
theorem rcomp4 (l m : List UInt8) : rcompD l m = rcmp4 (signD (dNeg l) (valD (dWhole l))) (signD (dNeg l) (valD (pad6 (dFrac l)))) (signD (dNeg m) (valD (dWhole m))) (signD (dNeg m) (valD (pad6 (dFrac m)))) := rfl
set_option maxHeartbeats 2000000 in
theorem rcompare_no1 (s t : ByteArray) (w : World) (hs : s.size ≤ 1000) (ht : t.size ≤ 1000) (ho : dOk s.data.toList = false) :
    Calls Tryz.prog 9 #[.string s, .string t] w fun e w' => e = .returned (.tuple #[.int .i64 (compV s.data.toList t.data.toList).1, .int .i64 ((compV s.data.toList t.data.toList).2 : Nat)]) ∧ Below w.heap.size w w' := by
  have HS := Lib.hid (fun w => rsplit_any s w hs)
  have HT := Lib.hid (fun w => rsplit_any t w ht)
  have HO : Hid (compV s.data.toList t.data.toList = (0, 1)) := compV_no1 ho
  rw [ho, RS_no rfl] at HS
  clear ho
  generalize dOk t.data.toList = ok2 at *
  generalize bs (dWhole s.data.toList) = a at *
  generalize bs (dFrac s.data.toList) = f at *
  generalize bs (dWhole t.data.toList) = b at *
  generalize bs (dFrac t.data.toList) = g at *
  generalize dNeg s.data.toList = n1 at *
  generalize dNeg t.data.toList = n2 at *
  have HRS : Hid (RS ok2 n2 b g = .tuple #[.agg #[.bool (ok2 && n2), .string (if ok2 then b else ⟨#[]⟩), .string (if ok2 then g else ⟨#[]⟩)], .bool ok2]) := by
    unfold Hid; cases ok2
    · rw [RS_no rfl]; rfl
    · rw [RS_yes rfl]; rfl
  rw [HRS.out] at HT
  clear HRS
  generalize (if ok2 then b else ⟨#[]⟩) = b2 at *
  generalize (if ok2 then g else ⟨#[]⟩) = g2 at *
  generalize (ok2 && n2) = n3 at *
  go_enter Tryz.func9, Tryz.ntmps9
  go_wp2_with fail
  refine (Calls.toExt (HS.out _)).mono ?_
  rintro e _ ⟨rfl, x, rfl⟩
  have hxw : w.heap.size ≤ x.1.heap.size := by have := x.2.size; (try simp at this); omega
  go_wp2_with fail
  refine (Calls.toExt (HT.out _)).mono ?_
  rintro e _ ⟨rfl, y, rfl⟩
  have hyw : x.1.heap.size < y.1.heap.size := by have := y.2.size; (try simp at this); omega
  go_wp2_with fail
  go_ret2
  exact ⟨by rw [HO.out]; rfl, by (show Bel w _; (repeat (first | exact Bel.refl _ | refine Bel.ext ?_ _ | refine Bel.alloc ?_ _ | refine Bel.drewN ?_ _ | refine Bel.drew ?_ | refine Bel.setCell ?_ _ _ ?_ | exact Nat.le_refl _ | (simp; done) | omega | (simp <;> omega))))⟩
set_option maxHeartbeats 2000000 in
theorem rcompare_no2 (s t : ByteArray) (w : World) (hs : s.size ≤ 1000) (ht : t.size ≤ 1000) (h1 : dOk s.data.toList = true) (ho : dOk t.data.toList = false) :
    Calls Tryz.prog 9 #[.string s, .string t] w fun e w' => e = .returned (.tuple #[.int .i64 (compV s.data.toList t.data.toList).1, .int .i64 ((compV s.data.toList t.data.toList).2 : Nat)]) ∧ Below w.heap.size w w' := by
  have HS := Lib.hid (fun w => rsplit_any s w hs)
  have HT := Lib.hid (fun w => rsplit_any t w ht)
  have HO : Hid (compV s.data.toList t.data.toList = (0, 1)) := compV_no2 ho
  rw [ho, RS_no rfl] at HT
  rw [h1, RS_yes rfl] at HS
  clear ho h1
  generalize bs (dWhole s.data.toList) = a at *
  generalize bs (dFrac s.data.toList) = f at *
  generalize bs (dWhole t.data.toList) = b at *
  generalize bs (dFrac t.data.toList) = g at *
  generalize dNeg s.data.toList = n1 at *
  generalize dNeg t.data.toList = n2 at *
  go_enter Tryz.func9, Tryz.ntmps9
  go_wp2_with fail
  refine (Calls.toExt (HS.out _)).mono ?_
  rintro e _ ⟨rfl, x, rfl⟩
  have hxw : w.heap.size ≤ x.1.heap.size := by have := x.2.size; (try simp at this); omega
  go_wp2_with fail
  refine (Calls.toExt (HT.out _)).mono ?_
  rintro e _ ⟨rfl, y, rfl⟩
  have hyw : x.1.heap.size < y.1.heap.size := by have := y.2.size; (try simp at this); omega
  go_wp2_with fail
  go_ret2
  exact ⟨by rw [HO.out]; rfl, by (show Bel w _; (repeat (first | exact Bel.refl _ | refine Bel.ext ?_ _ | refine Bel.alloc ?_ _ | refine Bel.drewN ?_ _ | refine Bel.drew ?_ | refine Bel.setCell ?_ _ _ ?_ | exact Nat.le_refl _ | (simp; done) | omega | (simp <;> omega))))⟩
set_option maxHeartbeats 2000000 in
theorem rcompare_yes (s t : ByteArray) (w : World) (hs : s.size ≤ 1000) (ht : t.size ≤ 1000) (h1 : dOk s.data.toList = true) (h2 : dOk t.data.toList = true) :
    Calls Tryz.prog 9 #[.string s, .string t] w fun e w' => e = .returned (.tuple #[.int .i64 (compV s.data.toList t.data.toList).1, .int .i64 ((compV s.data.toList t.data.toList).2 : Nat)]) ∧ Below w.heap.size w w' := by
  have HS := Lib.hid (fun w => rsplit_any s w hs)
  have HT := Lib.hid (fun w => rsplit_any t w ht)
  obtain ⟨ha, hf, hda, hdf, _⟩ := split_ok_facts h1
  obtain ⟨hb, hg, hdb, hdg, _⟩ := split_ok_facts h2
  have HX := Lib.hid (fun w => rscaled_any (dNeg s.data.toList) (bs (dWhole s.data.toList)) (bs (dFrac s.data.toList)) w ha hf hda hdf)
  have HY := Lib.hid (fun w => rscaled_any (dNeg t.data.toList) (bs (dWhole t.data.toList)) (bs (dFrac t.data.toList)) w hb hg hdb hdg)
  simp only [bs_data] at HX HY
  have HO : Hid (compV s.data.toList t.data.toList = (rcompD s.data.toList t.data.toList, 0)) := by unfold Hid; rw [compV_yes h1 h2, rcomp_eq h1 h2]
  rw [rcomp4] at HO
  rw [h1, RS_yes rfl] at HS
  rw [h2, RS_yes rfl] at HT
  clear h1 h2 hda hdf hdb hdg ha hf hb hg
  generalize signD (dNeg s.data.toList) (valD (dWhole s.data.toList)) = i at *
  generalize signD (dNeg s.data.toList) (valD (pad6 (dFrac s.data.toList))) = j at *
  generalize signD (dNeg t.data.toList) (valD (dWhole t.data.toList)) = k at *
  generalize signD (dNeg t.data.toList) (valD (pad6 (dFrac t.data.toList))) = l at *
  generalize bs (dWhole s.data.toList) = a at *
  generalize bs (dFrac s.data.toList) = f at *
  generalize bs (dWhole t.data.toList) = b at *
  generalize bs (dFrac t.data.toList) = g at *
  generalize dNeg s.data.toList = n1 at *
  generalize dNeg t.data.toList = n2 at *
  have HO2 := HO
  clear HO
  rcases Int.lt_trichotomy i k with h1 | h1 | h1
  · have HO : Hid (compV s.data.toList t.data.toList = (-1, 0)) := by
      rw [HO2.out]; unfold Hid rcmp4; rw [if_pos (.inl h1)]
    clear HO2
    go_enter Tryz.func9, Tryz.ntmps9
    go_wp2_with fail
    refine (Calls.toExt (HS.out _)).mono ?_
    rintro e _ ⟨rfl, x, rfl⟩
    have hxw : w.heap.size ≤ x.1.heap.size := by have := x.2.size; (try simp at this); omega
    go_wp2_with fail
    refine (Calls.toExt (HT.out _)).mono ?_
    rintro e _ ⟨rfl, y, rfl⟩
    have hyw : x.1.heap.size < y.1.heap.size := by have := y.2.size; (try simp at this); omega
    go_wp2_with fail
    refine (Calls.toExt (HX.out _)).mono ?_
    rintro e _ ⟨rfl, p, rfl⟩
    have hpw : x.1.heap.size + 1 < p.1.heap.size := by have := p.2.size; (try simp at this); omega
    go_wp2_with fail
    refine (Calls.toExt (HY.out _)).mono ?_
    rintro e _ ⟨rfl, q, rfl⟩
    go_wp2_with fail
    go_ret2
    exact ⟨by rw [HO.out]; rfl, by (show Bel w _; (repeat (first | exact Bel.refl _ | refine Bel.ext ?_ _ | refine Bel.alloc ?_ _ | refine Bel.drewN ?_ _ | refine Bel.drew ?_ | refine Bel.setCell ?_ _ _ ?_ | exact Nat.le_refl _ | (simp; done) | omega | (simp <;> omega))))⟩
  · subst h1
    rcases Int.lt_trichotomy j l with h2 | h2 | h2
    · have HO : Hid (compV s.data.toList t.data.toList = (-1, 0)) := by
        rw [HO2.out]; unfold Hid rcmp4; rw [if_pos (.inr ⟨rfl, h2⟩)]
      clear HO2
      go_enter Tryz.func9, Tryz.ntmps9
      go_wp2_with fail
      refine (Calls.toExt (HS.out _)).mono ?_
      rintro e _ ⟨rfl, x, rfl⟩
      have hxw : w.heap.size ≤ x.1.heap.size := by have := x.2.size; (try simp at this); omega
      go_wp2_with fail
      refine (Calls.toExt (HT.out _)).mono ?_
      rintro e _ ⟨rfl, y, rfl⟩
      have hyw : x.1.heap.size < y.1.heap.size := by have := y.2.size; (try simp at this); omega
      go_wp2_with fail
      refine (Calls.toExt (HX.out _)).mono ?_
      rintro e _ ⟨rfl, p, rfl⟩
      have hpw : x.1.heap.size + 1 < p.1.heap.size := by have := p.2.size; (try simp at this); omega
      go_wp2_with fail
      refine (Calls.toExt (HY.out _)).mono ?_
      rintro e _ ⟨rfl, q, rfl⟩
      go_wp2_with fail
      go_ret2
      exact ⟨by rw [HO.out]; rfl, by (show Bel w _; (repeat (first | exact Bel.refl _ | refine Bel.ext ?_ _ | refine Bel.alloc ?_ _ | refine Bel.drewN ?_ _ | refine Bel.drew ?_ | refine Bel.setCell ?_ _ _ ?_ | exact Nat.le_refl _ | (simp; done) | omega | (simp <;> omega))))⟩
    · have HO : Hid (compV s.data.toList t.data.toList = (0, 0)) := by
        rw [HO2.out]; unfold Hid rcmp4; rw [if_neg (by omega), if_neg (by omega)]
      clear HO2
      subst h2
      go_enter Tryz.func9, Tryz.ntmps9
      go_wp2_with fail
      refine (Calls.toExt (HS.out _)).mono ?_
      rintro e _ ⟨rfl, x, rfl⟩
      have hxw : w.heap.size ≤ x.1.heap.size := by have := x.2.size; (try simp at this); omega
      go_wp2_with fail
      refine (Calls.toExt (HT.out _)).mono ?_
      rintro e _ ⟨rfl, y, rfl⟩
      have hyw : x.1.heap.size < y.1.heap.size := by have := y.2.size; (try simp at this); omega
      go_wp2_with fail
      refine (Calls.toExt (HX.out _)).mono ?_
      rintro e _ ⟨rfl, p, rfl⟩
      have hpw : x.1.heap.size + 1 < p.1.heap.size := by have := p.2.size; (try simp at this); omega
      go_wp2_with fail
      refine (Calls.toExt (HY.out _)).mono ?_
      rintro e _ ⟨rfl, q, rfl⟩
      go_wp2_with fail
      go_ret2
      exact ⟨by rw [HO.out]; rfl, by (show Bel w _; (repeat (first | exact Bel.refl _ | refine Bel.ext ?_ _ | refine Bel.alloc ?_ _ | refine Bel.drewN ?_ _ | refine Bel.drew ?_ | refine Bel.setCell ?_ _ _ ?_ | exact Nat.le_refl _ | (simp; done) | omega | (simp <;> omega))))⟩
    · have HO : Hid (compV s.data.toList t.data.toList = (1, 0)) := by
        rw [HO2.out]; unfold Hid rcmp4; rw [if_neg (by omega), if_pos (.inr h2)]
      clear HO2
      have h3 : ¬ j < l := by omega
      go_enter Tryz.func9, Tryz.ntmps9
      go_wp2_with fail
      refine (Calls.toExt (HS.out _)).mono ?_
      rintro e _ ⟨rfl, x, rfl⟩
      have hxw : w.heap.size ≤ x.1.heap.size := by have := x.2.size; (try simp at this); omega
      go_wp2_with fail
      refine (Calls.toExt (HT.out _)).mono ?_
      rintro e _ ⟨rfl, y, rfl⟩
      have hyw : x.1.heap.size < y.1.heap.size := by have := y.2.size; (try simp at this); omega
      go_wp2_with fail
      refine (Calls.toExt (HX.out _)).mono ?_
      rintro e _ ⟨rfl, p, rfl⟩
      have hpw : x.1.heap.size + 1 < p.1.heap.size := by have := p.2.size; (try simp at this); omega
      go_wp2_with fail
      refine (Calls.toExt (HY.out _)).mono ?_
      rintro e _ ⟨rfl, q, rfl⟩
      go_wp2_with fail
      go_ret2
      exact ⟨by rw [HO.out]; rfl, by (show Bel w _; (repeat (first | exact Bel.refl _ | refine Bel.ext ?_ _ | refine Bel.alloc ?_ _ | refine Bel.drewN ?_ _ | refine Bel.drew ?_ | refine Bel.setCell ?_ _ _ ?_ | exact Nat.le_refl _ | (simp; done) | omega | (simp <;> omega))))⟩
  · have HO : Hid (compV s.data.toList t.data.toList = (1, 0)) := by
      rw [HO2.out]; unfold Hid rcmp4; rw [if_neg (by omega), if_pos (.inl h1)]
    clear HO2
    have h3 : ¬ i < k := by omega
    have h4 : ¬ i = k := by omega
    go_enter Tryz.func9, Tryz.ntmps9
    go_wp2_with fail
    refine (Calls.toExt (HS.out _)).mono ?_
    rintro e _ ⟨rfl, x, rfl⟩
    have hxw : w.heap.size ≤ x.1.heap.size := by have := x.2.size; (try simp at this); omega
    go_wp2_with fail
    refine (Calls.toExt (HT.out _)).mono ?_
    rintro e _ ⟨rfl, y, rfl⟩
    have hyw : x.1.heap.size < y.1.heap.size := by have := y.2.size; (try simp at this); omega
    go_wp2_with fail
    refine (Calls.toExt (HX.out _)).mono ?_
    rintro e _ ⟨rfl, p, rfl⟩
    have hpw : x.1.heap.size + 1 < p.1.heap.size := by have := p.2.size; (try simp at this); omega
    go_wp2_with fail
    refine (Calls.toExt (HY.out _)).mono ?_
    rintro e _ ⟨rfl, q, rfl⟩
    go_wp2_with fail
    go_ret2
    exact ⟨by rw [HO.out]; rfl, by (show Bel w _; (repeat (first | exact Bel.refl _ | refine Bel.ext ?_ _ | refine Bel.alloc ?_ _ | refine Bel.drewN ?_ _ | refine Bel.drew ?_ | refine Bel.setCell ?_ _ _ ?_ | exact Nat.le_refl _ | (simp; done) | omega | (simp <;> omega))))⟩
theorem rcompare_any (s t : ByteArray) (w : World) (hs : s.size ≤ 1000) (ht : t.size ≤ 1000) :
    Calls Tryz.prog 9 #[.string s, .string t] w fun e w' => e = .returned (.tuple #[.int .i64 (compV s.data.toList t.data.toList).1, .int .i64 ((compV s.data.toList t.data.toList).2 : Nat)]) ∧ Below w.heap.size w w' := by
  cases h1 : dOk s.data.toList with
  | false => exact rcompare_no1 s t w hs ht h1
  | true =>
    cases h2 : dOk t.data.toList with
    | false => exact rcompare_no2 s t w hs ht h1 h2
    | true => exact rcompare_yes s t w hs ht h1 h2
end Go.Proofs.YtnnidhjmakpaeaaGreatDoor
