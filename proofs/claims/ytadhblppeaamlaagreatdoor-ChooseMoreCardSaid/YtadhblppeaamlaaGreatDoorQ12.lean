/- Walks over rules in the program: whether a string is a class, whether rules are valid. -/
import Derived.Test.YtadhblppeaamlaaGreatDoorQ11
import Derived.Test.YtadhblppeaamlaaGreatDoorQ09
namespace Go.Proofs.YtadhblppeaamlaaGreatDoor
open Go.RowKit
attribute [local go_sem] Ext.cell Ext.frozen
attribute [local go_sem ↓] Go.wp_at_zero Go.wp_at_succ

def class6 : List ByteArray := classL ++ [otherB]
abbrev six : Array Value := #[.string ⟨#[122, 101, 114, 111]⟩, .string ⟨#[111, 110, 101]⟩, .string ⟨#[116, 119, 111]⟩, .string ⟨#[102, 101, 119]⟩, .string ⟨#[109, 97, 110, 121]⟩, .string ⟨#[111, 116, 104, 101, 114]⟩]
theorem order_any (w : World) : Calls Tryz.prog 68 #[] w fun e w' => e = .returned (.agg six) ∧ Below w.heap.size w w' := by
  go_enter Tryz.func68, Tryz.ntmps68
  go_wp2_with fail
  exact bodyPost_ret (v := .agg six) (by simp [results, Tryz.f68, go_sem]) rfl ⟨rfl, by show Bel w _; repeat (first | exact Bel.refl _ | refine Bel.alloc ?_ _ | refine Bel.setCell ?_ _ _ ?_ | (simp; done))⟩
theorem pknown_any (s : ByteArray) (w : World) : Calls Tryz.prog 50 #[.string s] w fun e w' => e = .returned (.bool (class6.contains s)) ∧ Below w.heap.size w w' := by
  have HO := Lib.hid (fun w => order_any w)
  have HC : Hid (∀ (W : World) e, Calls Tryz.prog 69 #[.slice (some ⟨W.heap.size, 0, none⟩) 6 6, .string s] (W.alloc (.cells six e)) fun e' w' => e' = .returned (.bool (class6.contains s)) ∧ W.alloc (.cells six e) = w') := fun W e => contains_str _ 6 6 class6 s _ (sl_made W (strs class6) e (by decide))
  generalize class6.contains s = q at *
  go_enter Tryz.func50, Tryz.ntmps50
  go_wp2_with fail
  refine (Calls.toExt (HO.out _)).mono ?_
  rintro e _ ⟨rfl, x1, rfl⟩
  go_wp2_with fail
  refine (HC.out _ _).mono ?_
  rintro e _ ⟨rfl, rfl⟩
  go_wp2_with fail
  go_ret
  exact ⟨rfl, by show Bel w _; exact ((Bel.refl _).ext x1).alloc _⟩
theorem psame_any (x : Nat → Value) (a b : ByteArray) (B : Nat) (w : World) (h0 : x 0 = .string a) (hc : w.cell? ⟨B, 0, none⟩ = some (.string b)) :
    Calls Tryz.prog 53 #[.agg #[x 0, x 1], .pointer (some ⟨B, 0, none⟩)] w fun e w' => e = .returned (.bool (a == b)) ∧ Below w.heap.size w w' := by
  rw [h0]
  have hlt : B < w.heap.size := World.block_lt_of_cell? _ _ hc
  have h9 := fun o => Lib.cell?_alloc_some o hc
  generalize x 1 = x1 at *
  clear h0
  by_cases he : a = b
  · subst he
    have e1 : (a.toList == a.toList) = true := by simp
    rw [show (a == a) = true from by simp]
    go_enter Tryz.func53, Tryz.ntmps53
    go_wp2_with fail
    go_ret
    exact ⟨rfl, (Below.refl _ _).alloc (Nat.le_refl _) _⟩
  · have e1 : (a.toList == b.toList) = false := by rw [beq_eq_false_iff_ne]; exact fun e => he (ByteArray.ext (by simpa [ByteArray.toList_eq] using e))
    rw [show (a == b) = false from by rw [beq_eq_false_iff_ne]; exact he]
    clear he
    go_enter Tryz.func53, Tryz.ntmps53
    go_wp2_with fail
    go_ret
    exact ⟨rfl, (Below.refl _ _).alloc (Nat.le_refl _) _⟩
end Go.Proofs.YtadhblppeaamlaaGreatDoor
/- Walks over rules in the program: whether rules are valid. -/
namespace Go.Proofs.YtadhblppeaamlaaGreatDoor
open Go.RowKit
attribute [local go_sem] Ext.cell Ext.frozen
attribute [local go_sem ↓] Go.wp_at_zero Go.wp_at_succ

theorem Rw.take {w : World} {ad : Option Addr} {n k : Nat} {f : Nat → Nat → Value} {b off m : Nat} (h : Rw w ad n k f b off) (hm : m ≤ n) : Rw w ad m k f b off :=
  ⟨Nat.le_trans hm h.max, fun h0 => h.adr (by omega), fun i j hi hj => h.cell i j (by omega) hj⟩
theorem class6_eq (s : ByteArray) : class6.contains s = (knownC s || s == otherB) := by
  rw [knownC_list]
  unfold class6
  rw [Bool.eq_iff_iff]
  simp [List.mem_append]
theorem known_other : knownC otherB = false := by decide
theorem ruleOk_no6 {rs : List (ByteArray × List (List Rel))} {k : Nat} (hk : k < rs.length) (h : class6.contains (rs.getD k (.empty, [])).1 = false) : ruleOk rs k = false := by
  rw [class6_eq, Bool.or_eq_false_iff] at h
  rw [ruleOk_eq rs k hk, h.1]; rfl
theorem ruleOk_noO {rs : List (ByteArray × List (List Rel))} {k : Nat} (hk : k < rs.length) (h : (rs.getD k (.empty, [])).1 = otherB) : ruleOk rs k = false := by
  rw [ruleOk_eq rs k hk, h, known_other]; rfl
theorem ruleOk_noV {rs : List (ByteArray × List (List Rel))} {k : Nat} (hk : k < rs.length) (h : validC (rs.getD k (.empty, [])).2 = false) : ruleOk rs k = false := by
  rw [ruleOk_eq rs k hk, h, Bool.and_false]; rfl
theorem ruleOk_any {rs : List (ByteArray × List (List Rel))} {k : Nat} (hk : k < rs.length) (h6 : class6.contains (rs.getD k (.empty, [])).1 = true) (ho : (rs.getD k (.empty, [])).1 ≠ otherB) (hv : validC (rs.getD k (.empty, [])).2 = true) :
    ruleOk rs k = !(anyP (fun j => (rs.getD j (.empty, [])).1 == (rs.getD k (.empty, [])).1) k) := by
  rw [class6_eq, Bool.or_eq_true, beq_iff_eq] at h6
  rw [ruleOk_eq rs k hk, h6.resolve_right ho, hv]; rfl
theorem ne_other {a : ByteArray} (e : a.toList = (⟨#[111, 116, 104, 101, 114]⟩ : ByteArray).toList) : a = otherB := by
  have e2 : a.data.toList = [111, 116, 104, 101, 114] := by simpa [ByteArray.toList_eq] using e
  exact ByteArray.ext (Array.toList_inj.1 e2)
set_option maxRecDepth 20000 in
set_option maxHeartbeats 4000000 in
theorem pvalid_any (v : Value) (rs : List (ByteArray × List (List Rel))) (w : World) (h : RulesAt w v rs) (hl : ∀ r ∈ rs, r.2.length ≤ 30) : Calls Tryz.prog 25 #[v] w fun e w' => e = .returned (.bool (validR rs)) ∧ Below w.heap.size w w' := by
  obtain ⟨ad, c, f, b, off, rfl, hr, _, hcap, _, hf⟩ := h
  obtain ⟨n, hn⟩ : ∃ n, rs.length = n := ⟨_, rfl⟩
  rw [hn] at hr hcap ⊢
  have hnm := hr.max
  have HN := Lib.hid hn
  have HR := Lib.hid hr
  have HF := Lib.hid hf
  have HL := Lib.hid hl
  have HK := Lib.hid (fun s W => pknown_any s W)
  clear hr hf hn hl
  obtain ⟨q, hq⟩ : ∃ q, validR rs = q := ⟨_, rfl⟩
  rw [hq]
  have HQ := Lib.hid hq
  clear hq
  go_enter Tryz.func25, Tryz.ntmps25
  go_wp2_with fail
  go_loopw [7] (fun v wr => ∃ k : Nat, v = .int .i64 (k : Int) ∧ k ≤ n ∧ (∀ i, i < k → ruleOk rs i = true) ∧ Below w.heap.size w wr) (fun v _ => n - (intOf v).toNat)
  case atStart => exact ⟨0, rfl, Nat.zero_le _, fun i hi => absurd hi (Nat.not_lt_zero _), Below.refl _ _⟩
  case round =>
    obtain ⟨k, rfl, hkn, hal, hbl⟩ := hrel
    have HAL := Lib.hid hal
    have HBL := Lib.hid hbl
    have hzr := hbl.size
    clear hal hbl
    by_cases hlt : k < n
    · have hrr := HR.out.below HBL.out
      have hix := fun W => hrr.ix 22 80 Tryz.underlying22 (by kernel_rfl) (by omega) hlt c W
      have hadr := hrr.adr (by omega)
      have c0 : wr.cell? ⟨b, off + k * 2, none⟩ = some (f k 0) := hrr.cell k 0 hlt (by omega)
      have c1 : wr.cell? ⟨b, off + k * 2 + 1, none⟩ = some (f k 1) := hrr.cell k 1 hlt (by omega)
      have hk0 : k < rs.length := by rw [HN.out]; exact hlt
      obtain ⟨f0, f1⟩ := RowsOf.get HF.out hk0 (.empty, [])
      rw [f0] at c0
      have HC : Hid (∀ W, Below wr.heap.size wr W → Calls Tryz.prog 51 #[f k 1] W fun e w' => e = .returned (.bool (validC (rs.getD k (.empty, [])).2)) ∧ Below W.heap.size W w') := fun W hb => cvalid_any (f k 1) _ W ((f1.below HBL.out).below hb) (HL.out _ (getD_mem rs k _ hk0))
      obtain ⟨ad3, c3, _, _, _, hv3, _, _, _, _, _⟩ := id f1
      rw [hv3] at c1
      rw [Hid, hv3] at HC
      replace HC := Lib.hid HC
      have HS : Hid (∀ W, Below wr.heap.size wr W → W.cell? ⟨wr.heap.size, 0, none⟩ = some (.string (rs.getD k (.empty, [])).1) → Calls Tryz.prog 52 #[.slice ad k c, .func (.func 53) #[] #[.pointer (some ⟨wr.heap.size, 0, none⟩)]] W fun e w' => e = .returned (.bool (anyP (fun j => (rs.getD j (.empty, [])).1 == (rs.getD k (.empty, [])).1) k)) ∧ Below W.heap.size W w') := fun W hb hc => by
        have hltW : wr.heap.size < W.heap.size := World.block_lt_of_cell? _ _ hc
        exact cont_Rule (fun j => (rs.getD j (.empty, [])).1 == (rs.getD k (.empty, [])).1) 53 #[.pointer (some ⟨wr.heap.size, 0, none⟩)] (enters_of Tryz.func53 (by kernel_rfl) rfl) ad k c f b off W ((hrr.take (Nat.le_of_lt hlt)).below hb) (fun W2 i hi hb2 => by
          obtain ⟨g0, _⟩ := RowsOf.get HF.out (i := i) (by omega) (.empty, [])
          exact psame_any (f i) _ _ wr.heap.size W2 g0 ((hb2.cell (p := ⟨wr.heap.size, 0, none⟩) hltW).trans hc))
      have HK2 := Lib.hid (fun W => HK.out (rs.getD k (.empty, [])).1 W)
      have N6 : Hid (class6.contains (rs.getD k (.empty, [])).1 = false → q = false) := fun h => HQ.out.symm.trans (validR_no hk0 (ruleOk_no6 hk0 h))
      have NO : Hid ((rs.getD k (.empty, [])).1 = otherB → q = false) := fun h => HQ.out.symm.trans (validR_no hk0 (ruleOk_noO hk0 h))
      have NV : Hid (validC (rs.getD k (.empty, [])).2 = false → q = false) := fun h => HQ.out.symm.trans (validR_no hk0 (ruleOk_noV hk0 h))
      have RA : Hid (class6.contains (rs.getD k (.empty, [])).1 = true → (rs.getD k (.empty, [])).1 ≠ otherB → validC (rs.getD k (.empty, [])).2 = true → ruleOk rs k = !(anyP (fun j => (rs.getD j (.empty, [])).1 == (rs.getD k (.empty, [])).1) k)) := fun h1 h2 h3 => ruleOk_any hk0 h1 h2 h3
      have HRO : Hid (ruleOk rs k = false → q = false) := fun h => HQ.out.symm.trans (validR_no hk0 h)
      have HYES : Hid (ruleOk rs k = true → ∀ i, i < k + 1 → ruleOk rs i = true) := fun h i hi => by
        by_cases e : i = k
        · subst e; exact h
        · exact HAL.out i (by omega)
      clear hrr f0 f1 HK hv3
      subst hadr
      generalize anyP (fun j => (rs.getD j (.empty, [])).1 == (rs.getD k (.empty, [])).1) k = an at *
      generalize ruleOk rs k = ro at *
      generalize (rs.getD k (.empty, [])).2.length = m3 at *
      generalize rs.getD k (.empty, []) = r at *
      obtain ⟨cl, cd⟩ := r
      simp only at c0 N6 NO NV RA HK2 HC HS
      cases h6 : class6.contains cl with
      | false =>
        have HO := Lib.hid (N6.out h6)
        rw [Hid, h6] at HK2
        replace HK2 := Lib.hid HK2
        clear h6 N6 NO NV RA HYES HRO HC HS
        go_wp2_with fail
        refine (Calls.toExt (HK2.out _)).mono ?_
        rintro e _ ⟨rfl, x1, rfl⟩
        have hx1 : wr.heap.size < x1.1.heap.size := by have := x1.2.size; simp at this; omega
        go_wp2_with fail
        go_ret
        exact ⟨by rw [HO.out]; rfl, by show Bel w _; repeat (first | exact Bel.refl _ | exact HBL.out | refine Bel.drew ?_ | refine Bel.drewN ?_ _ | refine Bel.alloc ?_ _ | refine Bel.ext ?_ _)⟩
      | true =>
        rw [Hid, h6] at HK2
        replace HK2 := Lib.hid HK2
        by_cases ho : cl = otherB
        · have HO := Lib.hid (NO.out ho)
          rw [show otherB = (⟨#[111, 116, 104, 101, 114]⟩ : ByteArray) from rfl] at ho
          subst ho
          clear h6 N6 NO NV RA HYES HRO HC HS
          go_wp2_with fail
          refine (Calls.toExt (HK2.out _)).mono ?_
          rintro e _ ⟨rfl, x1, rfl⟩
          have hx1 : wr.heap.size < x1.1.heap.size := by have := x1.2.size; simp at this; omega
          go_wp2_with fail
          go_ret
          exact ⟨by rw [HO.out]; rfl, by show Bel w _; repeat (first | exact Bel.refl _ | exact HBL.out | refine Bel.drew ?_ | refine Bel.drewN ?_ _ | refine Bel.alloc ?_ _ | refine Bel.ext ?_ _)⟩
        · have e1 : (cl.toList == (⟨#[111, 116, 104, 101, 114]⟩ : ByteArray).toList) = false := by rw [beq_eq_false_iff_ne]; exact fun e => ho (ne_other e)
          have e2 : (cl.toList == [111, 116, 104, 101, 114]) = false := by rw [← e1, ByteArray.toList_eq ⟨#[111, 116, 104, 101, 114]⟩]
          have HRA := Lib.hid (fun h => RA.out h6 ho h)
          clear ho h6 N6 NO RA
          cases hv : validC cd with
          | false =>
            have HO := Lib.hid (NV.out hv)
            rw [Hid, hv] at HC
            replace HC := Lib.hid HC
            clear hv HRA NV HYES HRO HS
            go_wp2_with fail
            refine (Calls.toExt (HK2.out _)).mono ?_
            rintro e _ ⟨rfl, x1, rfl⟩
            have hx1 : wr.heap.size < x1.1.heap.size := by have := x1.2.size; simp at this; omega
            go_wp2_with fail
            refine (Calls.toExt (HC.out _ ?_)).mono ?_
            · show Bel wr _; exact ((Bel.refl _).alloc _).ext x1
            rintro e _ ⟨rfl, x2, rfl⟩
            have hx2 : wr.heap.size < x2.1.heap.size := by have := x2.2.size; omega
            go_wp2_with fail
            go_ret
            exact ⟨by rw [HO.out]; rfl, by show Bel w _; repeat (first | exact Bel.refl _ | exact HBL.out | refine Bel.drew ?_ | refine Bel.drewN ?_ _ | refine Bel.alloc ?_ _ | refine Bel.ext ?_ _)⟩
          | true =>
            have HRB := Lib.hid (HRA.out hv)
            rw [Hid, hv] at HC
            replace HC := Lib.hid HC
            clear hv HRA NV
            cases an with
            | true =>
              have HO := Lib.hid (HRO.out HRB.out)
              clear HRB HRO HYES
              go_wp2_with fail
              refine (Calls.toExt (HK2.out _)).mono ?_
              rintro e _ ⟨rfl, x1, rfl⟩
              have hx1 : wr.heap.size < x1.1.heap.size := by have := x1.2.size; simp at this; omega
              go_wp2_with fail
              refine (Calls.toExt (HC.out _ ?_)).mono ?_
              · show Bel wr _; exact ((Bel.refl _).alloc _).ext x1
              rintro e _ ⟨rfl, x2, rfl⟩
              have hx2 : wr.heap.size < x2.1.heap.size := by have := x2.2.size; omega
              go_wp2_with fail
              refine (Calls.toExt (HS.out _ ?_ ?_)).mono ?_
              · show Bel wr _; exact (((Bel.refl _).alloc _).ext x1).ext x2
              · simp [go_sem, hx1]
              rintro e _ ⟨rfl, x3, rfl⟩
              go_wp2_with fail
              go_ret
              exact ⟨by rw [HO.out]; rfl, by show Bel w _; repeat (first | exact Bel.refl _ | exact HBL.out | refine Bel.drew ?_ | refine Bel.drewN ?_ _ | refine Bel.alloc ?_ _ | refine Bel.ext ?_ _)⟩
            | false =>
              have HY := Lib.hid (HYES.out HRB.out)
              clear HRB HRO HYES
              go_wp2_with fail
              refine (Calls.toExt (HK2.out _)).mono ?_
              rintro e _ ⟨rfl, x1, rfl⟩
              have hx1 : wr.heap.size < x1.1.heap.size := by have := x1.2.size; simp at this; omega
              go_wp2_with fail
              refine (Calls.toExt (HC.out _ ?_)).mono ?_
              · show Bel wr _; exact ((Bel.refl _).alloc _).ext x1
              rintro e _ ⟨rfl, x2, rfl⟩
              have hx2 : wr.heap.size < x2.1.heap.size := by have := x2.2.size; omega
              go_wp2_with fail
              refine (Calls.toExt (HS.out _ ?_ ?_)).mono ?_
              · show Bel wr _; exact (((Bel.refl _).alloc _).ext x1).ext x2
              · simp [go_sem, hx1]
              rintro e _ ⟨rfl, x3, rfl⟩
              go_wp2_with fail
              go_roundw
              case rel => exact ⟨k + 1, by go_num, by omega, HY.out, by show Bel w _; repeat (first | exact Bel.refl _ | exact HBL.out | refine Bel.drew ?_ | refine Bel.drewN ?_ _ | refine Bel.alloc ?_ _ | refine Bel.ext ?_ _)⟩
              case measure => simp [intOf]; omega
    · obtain rfl : k = n := by omega
      have HO : Hid (q = true) := HQ.out.symm.trans (validR_end (by rw [HN.out]; exact HAL.out))
      go_wp2_with fail
      go_ret
      exact ⟨by rw [HO.out]; rfl, HBL.out⟩
end Go.Proofs.YtadhblppeaamlaaGreatDoor
