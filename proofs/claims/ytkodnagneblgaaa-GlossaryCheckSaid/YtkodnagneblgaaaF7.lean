/- Walks: wrong translations, by the program: the closure and the search. -/
import Derived.Test.YtkodnagneblgaaaF6
namespace Go.Proofs.Ytkodnagneblgaaa
open Go.RowKit Go.Maps Go.Sort
attribute [local go_sem] Ext.cell Ext.frozen
attribute [local go_sem ↓] Go.wp_at_zero Go.wp_at_succ
/-- an allowed term with this target that is in the source -/
def allowB (cs : ByteArray → Nat) (kt : ByteArray) (x : Tm) : Bool := !x.f && decide (keyB x.t = kt) && decide (0 < cs (keyB x.s))
set_option maxRecDepth 100000 in
set_option maxHeartbeats 8000000 in
theorem wrong1_any (x : Tm) (cs : ByteArray → Nat) (kt : ByteArray) (B1 B2 M1 m1 : Nat) (lv mv : Value) (w : World) (hs : x.s.size ≤ 100000) (ht : x.t.size ≤ 100000) (hcs : ∀ t, cs t ≤ 1000001) (h1 : CntAt w M1 m1 cs)
    (hb1 : w.heap[B1]? = some (.cells #[.string kt] 9 (0, 0))) (hb2 : w.heap[B2]? = some (.cells #[lv, .map (some M1), mv] 57 (0, 0))) :
    Calls Try.prog 40 #[.agg #[.string x.s, .string x.t, .bool x.f], .pointer (some ⟨B1, 0, none⟩), .pointer (some ⟨B2, 0, none⟩)] w fun e w' => e = .returned (.bool (allowB cs kt x)) ∧ Below w.heap.size w w' := by
  have HK := Lib.hid key_any
  have HOK : Hid (allowB cs kt x = (!x.f && decide (keyB x.t = kt) && decide (0 < cs (keyB x.s)))) := rfl
  have HKS : Hid ((keyB x.s).size ≤ maxLen) := Nat.le_trans (keyB_size _) (by unfold maxLen; omega)
  have HS := Lib.hid hs
  have HT := Lib.hid ht
  have HB1 := Lib.hid hb1
  have HB2 := Lib.hid hb2
  have HC1 := Lib.hid h1
  have HCS := Lib.hid hcs
  clear hs ht hb1 hb2 h1 hcs
  generalize allowB cs kt x = ok at *
  obtain ⟨s, t, f⟩ := x
  simp only at HOK HKS HS HT ⊢
  go_enter Try.func40, Try.ntmps40
  go_upto_region 1 with (fail)
  have HBA : Hid (Below w.heap.size w (w.alloc (.cells #[.string s, .string t, .bool f] 53))) := Bel.alloc (Bel.refl w) _
  have HX : Hid ((w.alloc (.cells #[.string s, .string t, .bool f] 53)).heap[w.heap.size]? = some (.cells #[.string s, .string t, .bool f] 53 (0, 0))) := heap_alloc_new w _
  have HB1 := Lib.hid ((HBA.out.block _ (Array.getElem?_eq_some_iff.1 HB1.out).1).trans HB1.out)
  have HB2 := Lib.hid ((HBA.out.block _ (Array.getElem?_eq_some_iff.1 HB2.out).1).trans HB2.out)
  have HC1 := Lib.hid (HC1.out.below HBA.out)
  generalize w.alloc (.cells #[.string s, .string t, .bool f] 53) = w1 at *
  have x0 := row_cells HX.out 0
  have x1 := row_cells HX.out 1
  have x2 := row_cells HX.out 2
  have y0 := row_cells HB1.out 0
  have z1 := row_cells HB2.out 1
  have l0 := (Array.getElem?_eq_some_iff.1 HX.out).1
  have l1 := (Array.getElem?_eq_some_iff.1 HB1.out).1
  have l2 := (Array.getElem?_eq_some_iff.1 HB2.out).1
  have hlk := fun X : Ext w1 => (HC1.out.below X.2).look (keyB s) HKS.out
  have hcb := HCS.out (keyB s)
  refine wp_region_ext (by kernel_rfl) (by kernel_rfl) ?_
  have HCL : Hid (∀ (X : World), Calls Try.prog 31 #[.string s] X fun e w' => e = .returned (.string (keyB s)) ∧ Below X.heap.size X w') := fun X => HK.out s X (Nat.le_trans HS.out (by omega))
  have HCT : Hid (∀ (X : World), Calls Try.prog 31 #[.string t] X fun e w' => e = .returned (.string (keyB t)) ∧ Below X.heap.size X w') := fun X => HK.out t X (Nat.le_trans HT.out (by omega))
  clear HK HS HT HB1 HB2 HX HKS HCS HC1
  generalize keyB s = ks at *
  generalize keyB t = kq at *
  generalize cs ks = ck at *
  cases f with
  | true =>
    have HV : Hid (ok = false) := HOK.out
    clear HOK
    repeat (go_big_quiet_step (fail))
    refine wpQuiet_nil ?_
    intro _ hw'
    obtain ⟨X9, hw''⟩ := hw'
    subst hw''
    go_wp2_with fail
    go_ret
    exact ⟨by rw [HV.out]; rfl, HBA.out.trans (X9.2.mono HBA.out.size)⟩
  | false =>
    by_cases e : kq = kt
    · subst e
      have HV : Hid (ok = decide (0 < ck)) := by rw [Hid, HOK.out]; simp
      have eqq : (kq.toList == kq.toList) = true := by simp
      clear HOK
      repeat (go_big_quiet_step (first | (go_at_call 31; first | exact Calls.ext (HCT.out _) | exact Calls.ext (HCL.out _))))
      refine wpQuiet_nil ?_
      intro _ hw'
      obtain ⟨X9, hw''⟩ := hw'
      subst hw''
      go_wp2_with fail
      go_ret
      exact ⟨by rw [HV.out]; rfl, HBA.out.trans (X9.2.mono HBA.out.size)⟩
    · have HV : Hid (ok = false) := by rw [Hid, HOK.out]; simp [e]
      have eqq : (kq.toList == kt.toList) = false := by rw [ba_bne]; exact decide_eq_false e
      clear HOK
      repeat (go_big_quiet_step (first | (go_at_call 31; first | exact Calls.ext (HCT.out _) | exact Calls.ext (HCL.out _))))
      refine wpQuiet_nil ?_
      intro _ hw'
      obtain ⟨X9, hw''⟩ := hw'
      subst hw''
      go_wp2_with fail
      go_ret
      exact ⟨by rw [HV.out]; rfl, HBA.out.trans (X9.2.mono HBA.out.size)⟩
end Go.Proofs.Ytkodnagneblgaaa
