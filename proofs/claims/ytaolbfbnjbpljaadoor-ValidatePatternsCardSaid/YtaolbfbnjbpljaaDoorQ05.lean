/- Plain: the lengths of fields by their kinds, as a map; the distance of two. -/
import Derived.Test.YtaolbfbnjbpljaaDoorQ01
import Derived.Maps.Views
import Derived.Test.YtaolbfbnjbpljaaDoorQ03
import Derived.Test.YtaolbfbnjbpljaaDoorQ04
import Derived.Maps.OwnOps
import Derived.Maps.OwnSet
import Derived.Maps.RangeWalk
import Derived.StringKeys
namespace Go.Proofs.YtaolbfbnjbpljaaDoor
open Go.Maps

/-- the first letter of each field -/
def hds (fs : List (List UInt8)) : List (List UInt8) := fs.map (·.take 1)
def putF (D : DataW Unit) (f : List UInt8) : DataW Unit := D.put (.string (f.take 1)) (.lit (.int .i64 (f.length : Int)))
def lenMap (fs : List (List UInt8)) : DataW Unit := fs.foldl putF (.map [])
theorem lenMap_snoc (fs : List (List UInt8)) (f : List UInt8) : lenMap (fs ++ [f]) = putF (lenMap fs) f := by unfold lenMap; rw [List.foldl_append]; rfl
theorem key_str (l : List UInt8) : WideAt.IsKeyLit (.string l) := trivial
theorem fold_isMap : ∀ (fs : List (List UInt8)) (m : DataW Unit), IsMap m → IsMap (fs.foldl putF m)
  | [], _, h => h
  | _f :: fs, _m, h => fold_isMap fs _ (h.put _ _)
theorem fold_tidy : ∀ (fs : List (List UInt8)) (m : DataW Unit), Tidy m → Tidy (fs.foldl putF m)
  | [], _, h => h
  | _f :: fs, _m, h => fold_tidy fs _ (h.put (key_str _) _)
theorem fold_has : ∀ (fs : List (List UInt8)) (m : DataW Unit) (k : List UInt8), IsMap m → has (fs.foldl putF m) (.string k) = (has m (.string k) || (hds fs).contains k)
  | [], m, k, _ => by simp [hds]
  | f :: fs, m, k, h => by
    rw [List.foldl_cons, fold_has fs (putF m f) k (h.put _ _)]
    unfold putF hds
    rw [List.map_cons, List.contains_cons]
    by_cases e : f.take 1 = k
    · rw [e, has_put_same h (key_str k)]; simp
    · rw [has_put_other (by intro e2; injection e2 with e2; exact e e2.symm)]
      have : (k == f.take 1) = false := by rw [beq_eq_false_iff_ne]; exact fun e2 => e e2.symm
      rw [this]; simp
theorem fold_at_other : ∀ (fs : List (List UInt8)) (m : DataW Unit) (k : List UInt8) (z : DataW Unit), k ∉ hds fs → (fs.foldl putF m).atKey (.string k) z = m.atKey (.string k) z
  | [], _, _, _, _ => rfl
  | f :: fs, m, k, z, h => by
    simp only [hds, List.map_cons, List.mem_cons, not_or] at h
    rw [List.foldl_cons, fold_at_other fs _ k z h.2]
    unfold putF
    exact atKey_put_other (by intro e; injection e with e; exact h.1 e) _ _
theorem fold_at : ∀ (fs : List (List UInt8)) (m : DataW Unit) (f : List UInt8) (z : DataW Unit), IsMap m → (hds fs).Nodup → f ∈ fs → (fs.foldl putF m).atKey (.string (f.take 1)) z = .lit (.int .i64 (f.length : Int))
  | [], _, _, _, _, _, h => by cases h
  | g :: fs, m, f, z, hm, hn, h => by
    simp only [hds, List.map_cons, List.nodup_cons] at hn
    rw [List.foldl_cons]
    rcases List.mem_cons.1 h with e | e
    · subst e
      rw [fold_at_other fs _ _ z hn.1]
      unfold putF
      exact atKey_put_same hm (key_str _) _ _
    · exact fold_at fs _ f z (hm.put _ _) hn.2 e
theorem fold_size : ∀ (fs : List (List UInt8)) (m : DataW Unit), Tidy m → (hds fs).Nodup → (∀ k ∈ hds fs, has m (.string k) = false) → size (fs.foldl putF m) = size m + fs.length
  | [], _, _, _, _ => rfl
  | f :: fs, m, ht, hn, h => by
    simp only [hds, List.map_cons, List.nodup_cons] at hn
    rw [List.foldl_cons, fold_size fs (putF m f) (ht.put (key_str _) _) hn.2 ?_]
    · unfold putF
      rw [size_put ht, if_neg (by rw [h _ (by simp [hds])]; simp), List.length_cons]; omega
    · intro k hk
      unfold putF
      rw [has_put_other (by intro e; injection e with e; exact hn.1 (by rw [← e]; exact hk))]
      exact h k (by simp only [hds, List.map_cons, List.mem_cons]; exact .inr hk)
theorem has_len (fs : List (List UInt8)) (k : List UInt8) : has (lenMap fs) (.string k) = (hds fs).contains k := by
  unfold lenMap; rw [fold_has fs _ k isMap_empty]; rfl
theorem at_len {fs : List (List UInt8)} {f : List UInt8} (hn : (hds fs).Nodup) (h : f ∈ fs) (z : DataW Unit) : (lenMap fs).atKey (.string (f.take 1)) z = .lit (.int .i64 (f.length : Int)) := fold_at fs _ f z isMap_empty hn h
theorem size_len' {fs : List (List UInt8)} (hn : (hds fs).Nodup) : size (lenMap fs) = fs.length := by
  unfold lenMap; rw [fold_size fs _ tidy_empty hn (fun _ _ => rfl)]
  show 0 + _ = _
  omega

/-- the kinds of a skeleton's fields are different -/
theorem stF_heads {s : List UInt8} : ∀ {i : Nat} {o r}, i ≤ 4 → stF s i = some (o, r) → List.Sublist (hds o) ((kindsL.take i).map fun k => [k])
  | 0, o, r, _, h => by simp [stF] at h; obtain ⟨rfl, rfl⟩ := h; exact List.Sublist.refl _
  | i + 1, o, r, hi, h => by
    rw [stF] at h
    cases hs : stF s i with
    | none => rw [hs] at h; cases h
    | some st =>
      obtain ⟨o', r'⟩ := st
      have ih := stF_heads (by omega) hs
      have hil : i < kindsL.length := by simp [kindsL]; omega
      have htk : (kindsL.take (i + 1)).map (fun k => [k]) = (kindsL.take i).map (fun k => [k]) ++ [[kindsL.getD i 0]] := by
        rw [List.take_succ_eq_append_getElem hil, List.map_append]
        simp [List.getD, List.getElem?_eq_getElem hil]
      rw [htk]
      rw [hs] at h
      change stepF _ (o', r') = some (o, r) at h
      unfold stepF at h
      split at h
      · injection h with h; injection h with h1 h2; subst h1 h2
        exact ih.trans (List.sublist_append_left _ _)
      · rename_i hne
        split at h
        · injection h with h; injection h with h1 h2; subst h1 h2
          unfold hds
          rw [List.map_append]
          refine List.Sublist.append ih ?_
          have : (r'.takeWhile (· == kindsL.getD i 0)).take 1 = [kindsL.getD i 0] := by
            cases r' with
            | nil => exact absurd rfl hne
            | cons c r' =>
              rw [List.takeWhile_cons] at hne ⊢
              split at hne
              · rename_i hc
                rw [if_pos hc]
                have : c = kindsL.getD i 0 := by simpa using hc
                simp [this]
              · exact absurd rfl hne
          simp only [List.map_cons, List.map_nil]
          rw [this]
          exact List.Sublist.refl _
        · cases h
theorem fieldsV_nodup {s : List UInt8} {fs} (h : fieldsV s = some fs) : (hds fs).Nodup := by
  unfold fieldsV at h
  cases hs : stF s 4 with
  | none => rw [hs] at h; cases h
  | some st =>
    obtain ⟨o, r⟩ := st
    rw [hs] at h
    have h1 := stF_heads (by omega) hs
    simp only at h
    split at h
    · injection h with h
      subst h
      exact List.Nodup.sublist h1 (by decide)
    · cases h

/-- the distance of a field from that of the same kind -/
def dist1 (gs : List (List UInt8)) (f : List UInt8) : Int :=
  match gs.find? (fun g => g.take 1 == f.take 1) with
  | some g => max ((f.length : Int) - (g.length : Int)) ((g.length : Int) - (f.length : Int))
  | none => 0
def sumD (gs fs : List (List UInt8)) : Int := (fs.map (dist1 gs)).sum
def allIn (fs gs : List (List UInt8)) : Bool := fs.all fun f => (hds gs).contains (f.take 1)
def distV (fs gs : List (List UInt8)) : Int × Bool := if allIn fs gs then (sumD gs fs, decide (fs.length = gs.length)) else (0, false)
theorem sum_one (gs : List (List UInt8)) : ∀ (fs : List (List UInt8)) (p : List UInt8 → Bool) (f0 : List UInt8), (hds fs).Nodup → f0 ∈ fs → p f0 = false →
    sumD gs (fs.filter fun f => p f || f.take 1 == f0.take 1) = sumD gs (fs.filter p) + dist1 gs f0
  | [], _, _, _, h, _ => by cases h
  | g :: fs, p, f0, hn, h, hp => by
    simp only [hds, List.map_cons, List.nodup_cons] at hn
    rcases List.mem_cons.1 h with e | e
    · subst e
      have h1 : ∀ x ∈ fs, (x.take 1 == f0.take 1) = false := fun x hx => by
        rw [beq_eq_false_iff_ne]; exact fun e => hn.1 (by rw [← e]; exact List.mem_map.2 ⟨x, hx, rfl⟩)
      have h2 : fs.filter (fun f => p f || f.take 1 == f0.take 1) = fs.filter p := List.filter_congr fun x hx => by rw [h1 x hx, Bool.or_false]
      rw [List.filter_cons, List.filter_cons, hp, h2]
      simp [sumD]
      omega
    · have ih := sum_one gs fs p f0 hn.2 e hp
      have h1 : (g.take 1 == f0.take 1) = false := by
        rw [beq_eq_false_iff_ne]; exact fun e2 => hn.1 (by rw [e2]; exact List.mem_map.2 ⟨f0, e, rfl⟩)
      rw [List.filter_cons, List.filter_cons, h1, Bool.or_false]
      split
      · simp only [sumD, List.map_cons, List.sum_cons] at ih ⊢; omega
      · exact ih
end Go.Proofs.YtaolbfbnjbpljaaDoor
/- Walks: the lengths of a skeleton's fields, by the program. -/
namespace Go.Proofs.YtaolbfbnjbpljaaDoor
open Go.RowKit Go.Maps
attribute [local go_sem] Ext.cell Ext.frozen
attribute [local go_sem ↓] Go.wp_at_zero Go.wp_at_succ

theorem lawStr : Keyed Tryd.prog 9 := string_keyed Tryd.underlying9
theorem zeroInt (w : World) : (zeroValue 3).run Tryd.prog w = .ok (.int .i64 0) w := by kernel_rfl
theorem keyS (l : List UInt8) (h : l.length ≤ 1000) : keyOf Tryd.prog 9 (.string (bs l)) = some (.string l) := by
  have := WideMaps.keyOf_string_mk (P := Tryd.prog) (k := 9) Tryd.underlying9 (s := bs l) (by rw [bs_size]; unfold maxLen; omega)
  exact this
/-- block B is the map of the lengths of fs -/
def MapAt (w : World) (B n : Nat) (fs : List (List UInt8)) : Prop := w.ownsMap Tryd.prog 9 (plainElem Tryd.prog 3) B n (lenMap fs)
theorem MapAt.kept {w w' : World} {B n : Nat} {fs} (h : MapAt w B n fs) (hb : Below w.heap.size w w') : MapAt w' B n fs :=
  World.ownsMap.kept h (row := none) ⟨hb.os, hb.tape, hb.output, hb.size, fun i hi _ => hb.block i hi⟩ (by simp)

/-- what lengths answers -/
def LenPost (s : List UInt8) (w : World) (e : Ending) (w' : World) : Prop :=
  Below w.heap.size w w' ∧ ((fieldsV s = none ∧ e = .returned (.tuple #[.map none, .bool false])) ∨
    ∃ fs B, fieldsV s = some fs ∧ e = .returned (.tuple #[.map (some B), .bool true]) ∧ w.heap.size ≤ B ∧ MapAt w' B fs.length fs)

set_option maxRecDepth 20000 in
set_option maxHeartbeats 8000000 in
theorem lengths_any (s : ByteArray) (w : World) (hs : s.size ≤ 1000) : Calls Tryd.prog 43 #[.string s] w (LenPost s.data.toList w) := by
  have HFI := Lib.hid (fun w => fields_any s w hs)
  have hmm := @run_makeMap Tryd.prog
  go_enter Tryd.func43, Tryd.ntmps43
  go_wp2_with fail
  refine (HFI.out _).mono ?_
  rintro e w1 ⟨hb1, hf1⟩
  have HB1 := Lib.hid hb1
  have hz1 := hb1.size
  clear hb1
  rcases hf1 with ⟨hv1, rfl⟩ | ⟨fs, ad, c, hv1, rfl, hown1⟩
  · have HV := Lib.hid hv1
    clear hv1
    go_wp2_with fail
    go_ret2
    exact ⟨HB1.out, .inl ⟨HV.out, rfl⟩⟩
  · obtain ⟨_, hl4, hfl⟩ := fieldsV_some hv1
    have HV := Lib.hid hv1
    obtain ⟨b, off, hk⟩ := Own.sl hown1
    have HK := Lib.hid hk
    have hbl : fs.length ≠ 0 → b < w1.heap.size := fun h => hk.block h
    have HFL : Hid (∀ f ∈ fs, 1 ≤ f.length ∧ f.length ≤ 3) := fun f hm => fld_facts (hfl f hm)
    clear hv1 hown1 hfl hk
    obtain ⟨n, hn⟩ : ∃ n, fs.length = n := ⟨_, rfl⟩
    rw [hn] at HK hl4 hbl
    rw [hn]
    have HN := Lib.hid hn
    clear hn
    go_wp2_with fail
    have hmade := World.ownsMap_made (H := Unit) w1 Tryd.prog 9 (plainElem Tryd.prog 3)
    go_loopw [19] (fun i wr => ∃ k : Nat, k ≤ n ∧ i = .int .i64 (k : Int) ∧ MapAt wr w1.heap.size k (fs.take k) ∧ Below w1.heap.size w1 wr) (fun i _ => n - (intOf i).toNat)
    case atStart => exact ⟨0, Nat.zero_le _, rfl, hmade, (Below.refl _ _).alloc (Nat.le_refl _) _⟩
    case round =>
      obtain ⟨k, hkn, rfl, hown, hb⟩ := hrel
      have HOWN := Lib.hid hown
      have HB := Lib.hid hb
      have hzr := hb.size
      clear hown hb hmade
      by_cases hlt : k < n
      · have hix := HK.out.ix (P := Tryd.prog) (c := c) 23 9 Tryd.underlying23 cellsStr hlt
        have hcl := HK.out.cell k hlt
        have hkl : k < fs.length := by rw [HN.out]; exact hlt
        rw [strs_getD _ k (by rw [List.length_map]; exact hkl)] at hcl
        have hgd : (fs.map bs).getD k .empty = bs fs[k] := by simp [List.getD, List.getElem?_map, List.getElem?_eq_getElem hkl]
        rw [hgd] at hcl
        have hclr := (HB.out.cell (p := ⟨b, off + k, none⟩) (hbl (by omega))).trans hcl
        obtain ⟨f1, f2⟩ := HFL.out fs[k] (List.getElem_mem hkl)
        have hfs : (bs fs[k]).size = fs[k].length := bs_size _
        have hf1 : 1 ≤ (bs fs[k]).size := by omega
        have hf3 : (bs fs[k]).size ≤ 3 := by omega
        have HEX : Hid ((bs fs[k]).extract 0 1 = bs (fs[k].take 1)) := by unfold Hid; rw [bs_extract, List.drop_zero]
        have HKEY := Lib.hid (keyS (fs[k].take 1) (by rw [List.length_take]; omega))
        have HSN : Hid (lenMap (fs.take (k + 1)) = (lenMap (fs.take k)).put (.string (fs[k].take 1)) (.lit (.int .i64 ((bs fs[k]).size : Int)))) := by
          unfold Hid
          rw [List.take_succ_eq_append_getElem hkl, lenMap_snoc, hfs]; rfl
        have HWF : Hid ((Lit.int .i64 ((bs fs[k]).size : Int)).wf = true) := WalkArith.wf_i64 (by omega)
        clear hcl hgd hfs f1 f2
        generalize bs (fs[k].take 1) = h1 at *
        generalize fs[k].take 1 = k1 at *
        generalize bs fs[k] = FB at *
        have hex := HEX.out
        go_wp2_with (at_mapUpdate; refine wpList_mapUpdate_own _ rfl _ _ _ 76 rfl 9 3 lawStr Tryd.underlying76 _ w1.heap.size k _ rfl HOWN.out (by unfold maxLen; omega) _ _ _ rfl rfl HKEY.out _ [] (plainElem_int Tryd.underlying3 HWF.out) ?_; intro w3 hown3 hgrow3; have HOWN3 := Lib.hid hown3; have HG3 := Lib.hid hgrow3; clear hown3 hgrow3)
        go_roundw
        case rel => exact ⟨k + 1, by omega, by go_num, by unfold MapAt; rw [HSN.out]; exact HOWN3.out, HB.out.grown HG3.out hzr (fun j hj => by injection hj with hj; omega)⟩
        case measure => simp [intOf]; omega
      · obtain rfl : k = n := by omega
        have HOW : Hid (MapAt wr w1.heap.size k fs) := by
          have := HOWN.out
          rwa [List.take_of_length_le (by rw [HN.out]; exact Nat.le_refl _)] at this
        clear HOWN
        go_wp2_with fail
        go_ret2
        exact ⟨HB1.out.trans (HB.out.mono hz1), .inr ⟨fs, w1.heap.size, HV.out, rfl, hz1, by rw [HN.out]; exact HOW.out⟩⟩
end Go.Proofs.YtaolbfbnjbpljaaDoor
/- Walks: the distance of two skeletons, by the program. -/
namespace Go.Proofs.YtaolbfbnjbpljaaDoor
open Go.RowKit Go.Maps
attribute [local go_sem] Ext.cell Ext.frozen
attribute [local go_sem ↓] Go.wp_at_zero Go.wp_at_succ

theorem MapAt.other {w w' : World} {B n r : Nat} {fs} (h : MapAt w B n fs) (hg : w.grownBy w' (some r)) (hr : B ≠ r) : MapAt w' B n fs :=
  World.ownsMap.kept h hg (by intro e; injection e with e; exact hr e)

theorem dist1_bd {gs : List (List UInt8)} {f : List UInt8} (hf : f.length ≤ 3) (hg : ∀ g ∈ gs, g.length ≤ 3) : 0 ≤ dist1 gs f ∧ dist1 gs f ≤ 3 := by
  unfold dist1
  cases h : gs.find? (fun g => g.take 1 == f.take 1) with
  | none => simp
  | some g =>
    have := hg g (List.mem_of_find?_eq_some h)
    simp only
    omega
theorem sumD_bd {gs : List (List UInt8)} (hg : ∀ g ∈ gs, g.length ≤ 3) : ∀ {l : List (List UInt8)}, (∀ f ∈ l, f.length ≤ 3) → 0 ≤ sumD gs l ∧ sumD gs l ≤ 3 * (l.length : Int)
  | [], _ => by simp [sumD]
  | f :: l, h => by
    have h1 := dist1_bd (h f (by simp)) hg
    have h2 := sumD_bd hg (l := l) (fun x hx => h x (by simp [hx]))
    simp only [sumD, List.map_cons, List.sum_cons, List.length_cons] at h2 ⊢
    omega
/-- those that have come -/
def come (left : Lit → Bool) (fs : List (List UInt8)) : List (List UInt8) := fs.filter fun f => !left (.string (f.take 1))
theorem come_step {left : Lit → Bool} {fs gs : List (List UInt8)} {f0 : List UInt8} (hn : (hds fs).Nodup) (h0 : f0 ∈ fs) (hl : left (.string (f0.take 1)) = true) :
    sumD gs (come (fun z => left z && !z.sameKey (.string (f0.take 1))) fs) = sumD gs (come left fs) + dist1 gs f0 := by
  have h := sum_one gs fs (fun f => !left (.string (f.take 1))) f0 hn h0 (by rw [hl]; rfl)
  unfold come
  rw [← h]
  congr 1
  apply List.filter_congr
  intro x _
  show (!(left (.string (x.take 1)) && !Lit.sameKey (.string (x.take 1)) (.string (f0.take 1)))) = _
  by_cases e : x.take 1 = f0.take 1
  · have : (Lit.string (x.take 1)).sameKey (.string (f0.take 1)) = true := by rw [e]; simp [Lit.sameKey]
    rw [this, e]; simp
  · have : (Lit.string (x.take 1)).sameKey (.string (f0.take 1)) = false := sameKey_ne (by intro e2; injection e2 with e2; exact e e2)
    have e3 : (x.take 1 == f0.take 1) = false := by rw [beq_eq_false_iff_ne]; exact e
    rw [this, e3]; simp

set_option maxRecDepth 20000 in
set_option maxHeartbeats 8000000 in
theorem distance_any (A B : Nat) (fs gs : List (List UInt8)) (w : World) (hA : MapAt w A fs.length fs) (hB : MapAt w B gs.length gs) (hfn : (hds fs).Nodup) (hgn : (hds gs).Nodup)
    (hfl : ∀ f ∈ fs, f.length ≤ 3) (hgl : ∀ g ∈ gs, g.length ≤ 3) (hf4 : fs.length ≤ 4) (_hg4 : gs.length ≤ 4) :
    Calls Tryd.prog 44 #[.map (some A), .map (some B)] w fun e w' => e = .returned (.tuple #[.int .i64 (distV fs gs).1, .bool (distV fs gs).2]) ∧ Below w.heap.size w w' := by
  have HA := Lib.hid hA
  have HB := Lib.hid hB
  have hAl : A < w.heap.size := World.ownsMap.lt hA
  have hBl : B < w.heap.size := World.ownsMap.lt hB
  clear hA hB
  have HSZ : Hid (size (lenMap fs) = fs.length ∧ size (lenMap gs) = gs.length) := ⟨size_len' hfn, size_len' hgn⟩
  go_enter Tryd.func44, Tryd.ntmps44
  go_wp2_with (first
    | (at_range; refine wpList_range_own _ rfl _ 76 rfl 9 3 lawStr Tryd.underlying76 _ A fs.length _ rfl HA.out ?_; intro w0 hrg0 hg0 hs0))
  go_frame
  have HB0 : Hid (Below w.heap.size w w0) := ⟨hg0.os, hg0.tape, hg0.output, hg0.size, fun i hi => hg0.block i hi (by simp)⟩
  have HRG := Lib.hid hrg0
  clear hrg0 hg0
  have HFL := Lib.hid hfl
  have HGL := Lib.hid hgl
  have HFN := Lib.hid hfn
  have HGN := Lib.hid hgn
  clear hfl hgl hfn hgn
  go_loopw [6] (fun v wr => ∃ (left : Lit → Bool) (cnt : Nat) (z : Int), v = .int .i64 z ∧ z = sumD gs (come left fs) ∧ (∀ f ∈ fs, left (.string (f.take 1)) = false → (hds gs).contains (f.take 1) = true) ∧
      wr.ranges Tryd.prog 9 (plainElem Tryd.prog 3) A w.heap.size fs.length (lenMap fs) left cnt ∧ MapAt wr B gs.length gs ∧ Below w.heap.size w wr) (fun _ wr => wr.rangeLeft A w.heap.size)
  case atStart =>
    refine ⟨_, _, 0, rfl, ?_, ?_, HRG.out, HB.out.kept HB0.out, HB0.out⟩
    · have : come (has (lenMap fs)) fs = [] := by
        unfold come
        rw [List.filter_eq_nil_iff]
        intro f hf
        rw [has_len]
        have : (hds fs).contains (f.take 1) = true := List.contains_iff_mem.2 (List.mem_map.2 ⟨f, hf, rfl⟩)
        rw [this]; simp
      rw [this]; rfl
    · intro f hf h
      rw [has_len] at h
      have : (hds fs).contains (f.take 1) = true := List.contains_iff_mem.2 (List.mem_map.2 ⟨f, hf, rfl⟩)
      rw [this] at h; cases h
  case round =>
    obtain ⟨left, cnt, z, rfl, hz, hin, hrg, hmb, hb⟩ := hrel
    have HZ := Lib.hid hz
    have HIN := Lib.hid hin
    have HRR := Lib.hid hrg
    have HMB := Lib.hid hmb
    have HBL := Lib.hid hb
    have hzr := hb.size
    have hsb := sumD_bd HGL.out (l := come left fs) (fun f hf => HFL.out f (List.mem_filter.1 hf).1)
    have hcl : (come left fs).length ≤ fs.length := List.length_filter_le _ _
    have hz0 : 0 ≤ z ∧ z ≤ 12 := by omega
    obtain ⟨hz0, hz12⟩ := hz0
    clear hz hin hrg hmb hb hsb hcl
    go_wp2_with (first
      | (at_next; refine wpList_next_ranges _ rfl _ rfl 9 lawStr (plainElem Tryd.prog 3) Value.string (Value.int .i64) (fun key kl hkey => by obtain ⟨x, rfl, _⟩ := WideMaps.string_of_keyOf Tryd.underlying9 hkey; exact ⟨x, rfl⟩) (fun v y hv => by obtain ⟨c, rfl, _⟩ := plainElem_int_inv Tryd.underlying3 hv; exact ⟨c, rfl⟩) A w.heap.size fs.length _ _ _ rfl HRR.out ?_ ?_))
    · intro _ hl0
      have hall : allIn fs gs = true := by
        unfold allIn
        rw [List.all_eq_true]
        exact fun f hf => HIN.out f hf (hl0 _)
      have hcm : come left fs = fs := by
        unfold come
        rw [List.filter_eq_self]
        intro f _
        rw [hl0]; rfl
      have HD : Hid (distV fs gs = (z, decide (fs.length = gs.length))) := by
        unfold Hid distV
        rw [if_pos hall, HZ.out, hcm]
      clear hall hcm hl0
      have HRO := Lib.hid HRR.out.owns
      go_wp2_with (first
        | (at_len; refine wpList_len_own _ rfl (.tmp 36) 76 rfl 9 3 Tryd.underlying76 _ A fs.length _ rfl HRO.out ?_)
        | (at_len; refine wpList_len_own _ rfl (.tmp 38) 76 rfl 9 3 Tryd.underlying76 _ B gs.length _ rfl HMB.out ?_))
      go_ret2
      refine ⟨?_, HBL.out⟩
      rw [HD.out]
      have hdm : ((fs.length : Int) == (gs.length : Int)) = decide (fs.length = gs.length) := by rw [Bool.eq_iff_iff, beq_iff_eq, decide_eq_true_eq]; omega
      simp [Array.getD, HSZ.out.1, HSZ.out.2, hdm]
    · intro x c kl ya yb w1 cnt1 hkey hlk hv hat hrg1 hlt hg1 hs1 hen
      obtain ⟨s0, e0, rfl, hsz0⟩ := WideMaps.string_of_keyOf Tryd.underlying9 hkey
      injection e0 with e0
      subst e0
      obtain ⟨c', ec, ey, hwc⟩ := plainElem_int_inv Tryd.underlying3 hv
      injection ec with _ ec
      subst ec
      injection ey with ey1 ey2
      subst ey1 ey2
      have hh1 := has_true_of_atKey hat
      rw [has_len, List.contains_iff_mem] at hh1
      obtain ⟨f0, hf0, hfx⟩ := List.mem_map.1 hh1
      have hxb : x = bs (f0.take 1) := by apply ba_eq; rw [bs_data]; exact hfx.symm
      have hat0 := hat (.lit (.int .i64 0))
      rw [← hfx, at_len HFN.out hf0] at hat0
      have hc : (f0.length : Int) = c := by injection hat0 with h1; injection h1 with _ h2
      rw [← hfx] at hlk hrg1
      have hf3 := HFL.out f0 hf0
      subst hxb
      subst hc
      have HSTEP := Lib.hid (come_step (gs := gs) HFN.out hf0 hlk)
      have HKEY := Lib.hid (keyS (f0.take 1) (by rw [List.length_take]; omega))
      have HB1 : Hid (Below w.heap.size w w1) := HBL.out.trans ⟨hg1.os, hg1.tape, hg1.output, by rw [hs1]; exact Nat.le_refl _, fun i hi => hg1.block i (by omega) (by intro e; injection e with e; omega)⟩
      have HMB1 := Lib.hid (HMB.out.other hg1 (by omega))
      have HRG1 := Lib.hid hrg1
      have HRL := Lib.hid hrg1.left_eq
      have HRL0 := Lib.hid HRR.out.left_eq
      have HLT := Lib.hid hlt
      have HIN1 : Hid ((hds gs).contains (f0.take 1) = true → ∀ f ∈ fs, (left (.string (f.take 1)) && !Lit.sameKey (.string (f.take 1)) (.string (f0.take 1))) = false → (hds gs).contains (f.take 1) = true) := by
        intro hcon f hf h
        by_cases e : f.take 1 = f0.take 1
        · rw [e]; exact hcon
        · have e2 : (Lit.string (f.take 1)).sameKey (.string (f0.take 1)) = false := sameKey_ne (by intro e2; injection e2 with e2; exact e e2)
          rw [e2] at h
          exact HIN.out f hf (by simpa using h)
      clear hkey hlk hv hat hrg1 hlt hg1 hh1 hat0 hwc hsz0 hfx
      by_cases hcon : (hds gs).contains (f0.take 1) = true
      · have hm := List.contains_iff_mem.1 hcon
        obtain ⟨g, hfind⟩ : ∃ g, gs.find? (fun g => g.take 1 == f0.take 1) = some g := by
          obtain ⟨g, hg, hge⟩ := List.mem_map.1 hm
          cases h : gs.find? (fun g => g.take 1 == f0.take 1) with
          | some g => exact ⟨g, rfl⟩
          | none =>
            rw [List.find?_eq_none] at h
            exact absurd (beq_iff_eq.2 hge) (by simpa using h g hg)
        have hgm := List.mem_of_find?_eq_some hfind
        have hgt : g.take 1 = f0.take 1 := by simpa using List.find?_some hfind
        have hg3 := HGL.out g hgm
        have HDI : Hid (dist1 gs f0 = max ((f0.length : Int) - (g.length : Int)) ((g.length : Int) - (f0.length : Int))) := by unfold Hid dist1; rw [hfind]
        have HAT : Hid (∀ z, (lenMap gs).atKey (.string (f0.take 1)) z = .lit (.int .i64 (g.length : Int))) := fun z => by rw [← hgt]; exact at_len HGN.out hgm z
        have HCON := Lib.hid hcon
        have hh : has (lenMap gs) (.string (f0.take 1)) = true := by rw [has_len]; exact hcon
        clear hcon hm hfind hgm hgt hf0
        go_wp2_with (first
          | (at_lookup; refine wpList_lookup_own_ok_int _ rfl _ _ 76 rfl 9 3 .i64 lawStr Tryd.underlying76 Tryd.underlying3 (zeroInt _) B gs.length _ rfl HMB1.out _ _ rfl HKEY.out ?_; intro c2 hat2 hwc2; have hc2 : c2 = (g.length : Int) := (by (rw [HAT.out] at hat2; injection hat2 with h1; injection h1 with _ h2; exact h2.symm)); subst hc2; clear hat2 hwc2; rw [hh]))
        go_roundw
        case rel => exact ⟨_, cnt1, _, rfl, by rw [HSTEP.out, ← HZ.out, HDI.out], fun f hf h => HIN1.out HCON.out f hf h, HRG1.out, HMB1.out, HB1.out⟩
        case measure => rw [HRL.out, HRL0.out]; exact HLT.out
      · have hh : has (lenMap gs) (.string (f0.take 1)) = false := by rw [has_len]; simpa using hcon
        have HD : Hid (distV fs gs = (0, false)) := by
          unfold Hid distV
          rw [if_neg]
          unfold allIn
          rw [List.all_eq_true]
          exact fun h => hcon (h f0 hf0)
        clear hcon hf0
        go_wp2_with (first
          | (at_lookup; refine wpList_lookup_own_ok_int _ rfl _ _ 76 rfl 9 3 .i64 lawStr Tryd.underlying76 Tryd.underlying3 (zeroInt _) B gs.length _ rfl HMB1.out _ _ rfl HKEY.out ?_; intro c2 hat2 hwc2; clear hat2 hwc2; rw [hh]))
        go_ret2
        exact ⟨by rw [HD.out]; rfl, HB1.out⟩
end Go.Proofs.YtaolbfbnjbpljaaDoor
