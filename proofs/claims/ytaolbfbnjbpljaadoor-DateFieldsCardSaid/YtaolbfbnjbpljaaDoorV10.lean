/- Walks: the distance of two skeletons, by the program. -/
import Derived.Test.YtaolbfbnjbpljaaDoorV9
namespace Go.Proofs.YtaolbfbnjbpljaaDoor
open Go.RowKit Go.Maps
attribute [local go_sem] Ext.cell Ext.frozen
attribute [local go_sem ↓] Go.wp_at_zero Go.wp_at_succ

theorem MapAt.other {w w' : World} {B n r : Nat} {fs} (h : MapAt w B n fs) (hg : w.grownBy w' (some r)) (hr : B ≠ r) : MapAt w' B n fs :=
  World.ownsMap.kept h hg (by intro e; injection e with e; exact hr e)

theorem dist1_bd {gs : List (List UInt8)} {f : List UInt8} (hf : f.length ≤ 3) (hg : ∀ g ∈ gs, g.length ≤ 3) : 0 ≤ dist1 gs f ∧ dist1 gs f ≤ 3 := by
  unfold dist1
  cases h : gs.find? (fun g => g.take 1 == f.take 1) with
  | none => simp
  | some g =>
    have := hg g (List.mem_of_find?_eq_some h)
    simp only
    omega
theorem sumD_bd {gs : List (List UInt8)} (hg : ∀ g ∈ gs, g.length ≤ 3) : ∀ {l : List (List UInt8)}, (∀ f ∈ l, f.length ≤ 3) → 0 ≤ sumD gs l ∧ sumD gs l ≤ 3 * (l.length : Int)
  | [], _ => by simp [sumD]
  | f :: l, h => by
    have h1 := dist1_bd (h f (by simp)) hg
    have h2 := sumD_bd hg (l := l) (fun x hx => h x (by simp [hx]))
    simp only [sumD, List.map_cons, List.sum_cons, List.length_cons] at h2 ⊢
    omega
/-- those that have come -/
def come (left : Lit → Bool) (fs : List (List UInt8)) : List (List UInt8) := fs.filter fun f => !left (.string (f.take 1))
theorem come_step {left : Lit → Bool} {fs gs : List (List UInt8)} {f0 : List UInt8} (hn : (hds fs).Nodup) (h0 : f0 ∈ fs) (hl : left (.string (f0.take 1)) = true) :
    sumD gs (come (fun z => left z && !z.sameKey (.string (f0.take 1))) fs) = sumD gs (come left fs) + dist1 gs f0 := by
  have h := sum_one gs fs (fun f => !left (.string (f.take 1))) f0 hn h0 (by rw [hl]; rfl)
  unfold come
  rw [← h]
  congr 1
  apply List.filter_congr
  intro x _
  show (!(left (.string (x.take 1)) && !Lit.sameKey (.string (x.take 1)) (.string (f0.take 1)))) = _
  by_cases e : x.take 1 = f0.take 1
  · have : (Lit.string (x.take 1)).sameKey (.string (f0.take 1)) = true := by rw [e]; simp [Lit.sameKey]
    rw [this, e]; simp
  · have : (Lit.string (x.take 1)).sameKey (.string (f0.take 1)) = false := sameKey_ne (by intro e2; injection e2 with e2; exact e e2)
    have e3 : (x.take 1 == f0.take 1) = false := by rw [beq_eq_false_iff_ne]; exact e
    rw [this, e3]; simp

set_option maxRecDepth 20000 in
set_option maxHeartbeats 8000000 in
theorem distance_any (A B : Nat) (fs gs : List (List UInt8)) (w : World) (hA : MapAt w A fs.length fs) (hB : MapAt w B gs.length gs) (hfn : (hds fs).Nodup) (hgn : (hds gs).Nodup)
    (hfl : ∀ f ∈ fs, f.length ≤ 3) (hgl : ∀ g ∈ gs, g.length ≤ 3) (hf4 : fs.length ≤ 4) (_hg4 : gs.length ≤ 4) :
    Calls Tryd.prog 44 #[.map (some A), .map (some B)] w fun e w' => e = .returned (.tuple #[.int .i64 (distV fs gs).1, .bool (distV fs gs).2]) ∧ Below w.heap.size w w' := by
  have HA := Lib.hid hA
  have HB := Lib.hid hB
  have hAl : A < w.heap.size := World.ownsMap.lt hA
  have hBl : B < w.heap.size := World.ownsMap.lt hB
  clear hA hB
  have HSZ : Hid (size (lenMap fs) = fs.length ∧ size (lenMap gs) = gs.length) := ⟨size_len' hfn, size_len' hgn⟩
  go_enter Tryd.func44, Tryd.ntmps44
  go_wp2_with (first
    | (at_range; refine wpList_range_own _ rfl _ 76 rfl 9 3 lawStr Tryd.underlying76 _ A fs.length _ rfl HA.out ?_; intro w0 hrg0 hg0 hs0))
  go_frame
  have HB0 : Hid (Below w.heap.size w w0) := ⟨hg0.os, hg0.tape, hg0.output, hg0.size, fun i hi => hg0.block i hi (by simp)⟩
  have HRG := Lib.hid hrg0
  clear hrg0 hg0
  have HFL := Lib.hid hfl
  have HGL := Lib.hid hgl
  have HFN := Lib.hid hfn
  have HGN := Lib.hid hgn
  clear hfl hgl hfn hgn
  go_loopw [6] (fun v wr => ∃ (left : Lit → Bool) (cnt : Nat) (z : Int), v = .int .i64 z ∧ z = sumD gs (come left fs) ∧ (∀ f ∈ fs, left (.string (f.take 1)) = false → (hds gs).contains (f.take 1) = true) ∧
      wr.ranges Tryd.prog 9 (plainElem Tryd.prog 3) A w.heap.size fs.length (lenMap fs) left cnt ∧ MapAt wr B gs.length gs ∧ Below w.heap.size w wr) (fun _ wr => wr.rangeLeft A w.heap.size)
  case atStart =>
    refine ⟨_, _, 0, rfl, ?_, ?_, HRG.out, HB.out.kept HB0.out, HB0.out⟩
    · have : come (has (lenMap fs)) fs = [] := by
        unfold come
        rw [List.filter_eq_nil_iff]
        intro f hf
        rw [has_len]
        have : (hds fs).contains (f.take 1) = true := List.contains_iff_mem.2 (List.mem_map.2 ⟨f, hf, rfl⟩)
        rw [this]; simp
      rw [this]; rfl
    · intro f hf h
      rw [has_len] at h
      have : (hds fs).contains (f.take 1) = true := List.contains_iff_mem.2 (List.mem_map.2 ⟨f, hf, rfl⟩)
      rw [this] at h; cases h
  case round =>
    obtain ⟨left, cnt, z, rfl, hz, hin, hrg, hmb, hb⟩ := hrel
    have HZ := Lib.hid hz
    have HIN := Lib.hid hin
    have HRR := Lib.hid hrg
    have HMB := Lib.hid hmb
    have HBL := Lib.hid hb
    have hzr := hb.size
    have hsb := sumD_bd HGL.out (l := come left fs) (fun f hf => HFL.out f (List.mem_filter.1 hf).1)
    have hcl : (come left fs).length ≤ fs.length := List.length_filter_le _ _
    have hz0 : 0 ≤ z ∧ z ≤ 12 := by omega
    obtain ⟨hz0, hz12⟩ := hz0
    clear hz hin hrg hmb hb hsb hcl
    go_wp2_with (first
      | (at_next; refine wpList_next_ranges _ rfl _ rfl 9 lawStr (plainElem Tryd.prog 3) Value.string (Value.int .i64) (fun key kl hkey => by obtain ⟨x, rfl, _⟩ := WideMaps.string_of_keyOf Tryd.underlying9 hkey; exact ⟨x, rfl⟩) (fun v y hv => by obtain ⟨c, rfl, _⟩ := plainElem_int_inv Tryd.underlying3 hv; exact ⟨c, rfl⟩) A w.heap.size fs.length _ _ _ rfl HRR.out ?_ ?_))
    · intro _ hl0
      have hall : allIn fs gs = true := by
        unfold allIn
        rw [List.all_eq_true]
        exact fun f hf => HIN.out f hf (hl0 _)
      have hcm : come left fs = fs := by
        unfold come
        rw [List.filter_eq_self]
        intro f _
        rw [hl0]; rfl
      have HD : Hid (distV fs gs = (z, decide (fs.length = gs.length))) := by
        unfold Hid distV
        rw [if_pos hall, HZ.out, hcm]
      clear hall hcm hl0
      have HRO := Lib.hid HRR.out.owns
      go_wp2_with (first
        | (at_len; refine wpList_len_own _ rfl (.tmp 36) 76 rfl 9 3 Tryd.underlying76 _ A fs.length _ rfl HRO.out ?_)
        | (at_len; refine wpList_len_own _ rfl (.tmp 38) 76 rfl 9 3 Tryd.underlying76 _ B gs.length _ rfl HMB.out ?_))
      go_ret2
      refine ⟨?_, HBL.out⟩
      rw [HD.out]
      have hdm : ((fs.length : Int) == (gs.length : Int)) = decide (fs.length = gs.length) := by rw [Bool.eq_iff_iff, beq_iff_eq, decide_eq_true_eq]; omega
      simp [Array.getD, HSZ.out.1, HSZ.out.2, hdm]
    · intro x c kl ya yb w1 cnt1 hkey hlk hv hat hrg1 hlt hg1 hs1 hen
      obtain ⟨s0, e0, rfl, hsz0⟩ := WideMaps.string_of_keyOf Tryd.underlying9 hkey
      injection e0 with e0
      subst e0
      obtain ⟨c', ec, ey, hwc⟩ := plainElem_int_inv Tryd.underlying3 hv
      injection ec with _ ec
      subst ec
      injection ey with ey1 ey2
      subst ey1 ey2
      have hh1 := has_true_of_atKey hat
      rw [has_len, List.contains_iff_mem] at hh1
      obtain ⟨f0, hf0, hfx⟩ := List.mem_map.1 hh1
      have hxb : x = bs (f0.take 1) := by apply ba_eq; rw [bs_data]; exact hfx.symm
      have hat0 := hat (.lit (.int .i64 0))
      rw [← hfx, at_len HFN.out hf0] at hat0
      have hc : (f0.length : Int) = c := by injection hat0 with h1; injection h1 with _ h2
      rw [← hfx] at hlk hrg1
      have hf3 := HFL.out f0 hf0
      subst hxb
      subst hc
      have HSTEP := Lib.hid (come_step (gs := gs) HFN.out hf0 hlk)
      have HKEY := Lib.hid (keyS (f0.take 1) (by rw [List.length_take]; omega))
      have HB1 : Hid (Below w.heap.size w w1) := HBL.out.trans ⟨hg1.os, hg1.tape, hg1.output, by rw [hs1]; exact Nat.le_refl _, fun i hi => hg1.block i (by omega) (by intro e; injection e with e; omega)⟩
      have HMB1 := Lib.hid (HMB.out.other hg1 (by omega))
      have HRG1 := Lib.hid hrg1
      have HRL := Lib.hid hrg1.left_eq
      have HRL0 := Lib.hid HRR.out.left_eq
      have HLT := Lib.hid hlt
      have HIN1 : Hid ((hds gs).contains (f0.take 1) = true → ∀ f ∈ fs, (left (.string (f.take 1)) && !Lit.sameKey (.string (f.take 1)) (.string (f0.take 1))) = false → (hds gs).contains (f.take 1) = true) := by
        intro hcon f hf h
        by_cases e : f.take 1 = f0.take 1
        · rw [e]; exact hcon
        · have e2 : (Lit.string (f.take 1)).sameKey (.string (f0.take 1)) = false := sameKey_ne (by intro e2; injection e2 with e2; exact e e2)
          rw [e2] at h
          exact HIN.out f hf (by simpa using h)
      clear hkey hlk hv hat hrg1 hlt hg1 hh1 hat0 hwc hsz0 hfx
      by_cases hcon : (hds gs).contains (f0.take 1) = true
      · have hm := List.contains_iff_mem.1 hcon
        obtain ⟨g, hfind⟩ : ∃ g, gs.find? (fun g => g.take 1 == f0.take 1) = some g := by
          obtain ⟨g, hg, hge⟩ := List.mem_map.1 hm
          cases h : gs.find? (fun g => g.take 1 == f0.take 1) with
          | some g => exact ⟨g, rfl⟩
          | none =>
            rw [List.find?_eq_none] at h
            exact absurd (beq_iff_eq.2 hge) (by simpa using h g hg)
        have hgm := List.mem_of_find?_eq_some hfind
        have hgt : g.take 1 = f0.take 1 := by simpa using List.find?_some hfind
        have hg3 := HGL.out g hgm
        have HDI : Hid (dist1 gs f0 = max ((f0.length : Int) - (g.length : Int)) ((g.length : Int) - (f0.length : Int))) := by unfold Hid dist1; rw [hfind]
        have HAT : Hid (∀ z, (lenMap gs).atKey (.string (f0.take 1)) z = .lit (.int .i64 (g.length : Int))) := fun z => by rw [← hgt]; exact at_len HGN.out hgm z
        have HCON := Lib.hid hcon
        have hh : has (lenMap gs) (.string (f0.take 1)) = true := by rw [has_len]; exact hcon
        clear hcon hm hfind hgm hgt hf0
        go_wp2_with (first
          | (at_lookup; refine wpList_lookup_own_ok_int _ rfl _ _ 76 rfl 9 3 .i64 lawStr Tryd.underlying76 Tryd.underlying3 (zeroInt _) B gs.length _ rfl HMB1.out _ _ rfl HKEY.out ?_; intro c2 hat2 hwc2; have hc2 : c2 = (g.length : Int) := (by (rw [HAT.out] at hat2; injection hat2 with h1; injection h1 with _ h2; exact h2.symm)); subst hc2; clear hat2 hwc2; rw [hh]))
        go_roundw
        case rel => exact ⟨_, cnt1, _, rfl, by rw [HSTEP.out, ← HZ.out, HDI.out], fun f hf h => HIN1.out HCON.out f hf h, HRG1.out, HMB1.out, HB1.out⟩
        case measure => rw [HRL.out, HRL0.out]; exact HLT.out
      · have hh : has (lenMap gs) (.string (f0.take 1)) = false := by rw [has_len]; simpa using hcon
        have HD : Hid (distV fs gs = (0, false)) := by
          unfold Hid distV
          rw [if_neg]
          unfold allIn
          rw [List.all_eq_true]
          exact fun h => hcon (h f0 hf0)
        clear hcon hf0
        go_wp2_with (first
          | (at_lookup; refine wpList_lookup_own_ok_int _ rfl _ _ 76 rfl 9 3 .i64 lawStr Tryd.underlying76 Tryd.underlying3 (zeroInt _) B gs.length _ rfl HMB1.out _ _ rfl HKEY.out ?_; intro c2 hat2 hwc2; clear hat2 hwc2; rw [hh]))
        go_ret2
        exact ⟨by rw [HD.out]; rfl, HB1.out⟩
end Go.Proofs.YtaolbfbnjbpljaaDoor
