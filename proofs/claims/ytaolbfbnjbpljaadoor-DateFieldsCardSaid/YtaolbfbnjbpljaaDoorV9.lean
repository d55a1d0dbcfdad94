/- Walks: the lengths of a skeleton's fields, by the program. -/
import Derived.Test.YtaolbfbnjbpljaaDoorV3
import Derived.Test.YtaolbfbnjbpljaaDoorV7
import Derived.Test.YtaolbfbnjbpljaaDoorV8
import Derived.Maps.OwnOps
import Derived.Maps.OwnSet
import Derived.Maps.RangeWalk
import Derived.StringKeys
namespace Go.Proofs.YtaolbfbnjbpljaaDoor
open Go.RowKit Go.Maps
attribute [local go_sem] Ext.cell Ext.frozen
attribute [local go_sem ↓] Go.wp_at_zero Go.wp_at_succ

theorem lawStr : Keyed Tryd.prog 9 := string_keyed Tryd.underlying9
theorem zeroInt (w : World) : (zeroValue 3).run Tryd.prog w = .ok (.int .i64 0) w := by kernel_rfl
theorem keyS (l : List UInt8) (h : l.length ≤ 1000) : keyOf Tryd.prog 9 (.string (bs l)) = some (.string l) := by
  have := WideMaps.keyOf_string_mk (P := Tryd.prog) (k := 9) Tryd.underlying9 (s := bs l) (by rw [bs_size]; unfold maxLen; omega)
  exact this
/-- block B is the map of the lengths of fs -/
def MapAt (w : World) (B n : Nat) (fs : List (List UInt8)) : Prop := w.ownsMap Tryd.prog 9 (plainElem Tryd.prog 3) B n (lenMap fs)
theorem MapAt.kept {w w' : World} {B n : Nat} {fs} (h : MapAt w B n fs) (hb : Below w.heap.size w w') : MapAt w' B n fs :=
  World.ownsMap.kept h (row := none) ⟨hb.os, hb.tape, hb.output, hb.size, fun i hi _ => hb.block i hi⟩ (by simp)

/-- what lengths answers -/
def LenPost (s : List UInt8) (w : World) (e : Ending) (w' : World) : Prop :=
  Below w.heap.size w w' ∧ ((fieldsV s = none ∧ e = .returned (.tuple #[.map none, .bool false])) ∨
    ∃ fs B, fieldsV s = some fs ∧ e = .returned (.tuple #[.map (some B), .bool true]) ∧ w.heap.size ≤ B ∧ MapAt w' B fs.length fs)

set_option maxRecDepth 20000 in
set_option maxHeartbeats 8000000 in
theorem lengths_any (s : ByteArray) (w : World) (hs : s.size ≤ 1000) : Calls Tryd.prog 43 #[.string s] w (LenPost s.data.toList w) := by
  have HFI := Lib.hid (fun w => fields_any s w hs)
  have hmm := @run_makeMap Tryd.prog
  go_enter Tryd.func43, Tryd.ntmps43
  go_wp2_with fail
  refine (HFI.out _).mono ?_
  rintro e w1 ⟨hb1, hf1⟩
  have HB1 := Lib.hid hb1
  have hz1 := hb1.size
  clear hb1
  rcases hf1 with ⟨hv1, rfl⟩ | ⟨fs, ad, c, hv1, rfl, hown1⟩
  · have HV := Lib.hid hv1
    clear hv1
    go_wp2_with fail
    go_ret2
    exact ⟨HB1.out, .inl ⟨HV.out, rfl⟩⟩
  · obtain ⟨_, hl4, hfl⟩ := fieldsV_some hv1
    have HV := Lib.hid hv1
    obtain ⟨b, off, hk⟩ := Own.sl hown1
    have HK := Lib.hid hk
    have hbl : fs.length ≠ 0 → b < w1.heap.size := fun h => hk.block h
    have HFL : Hid (∀ f ∈ fs, 1 ≤ f.length ∧ f.length ≤ 3) := fun f hm => fld_facts (hfl f hm)
    clear hv1 hown1 hfl hk
    obtain ⟨n, hn⟩ : ∃ n, fs.length = n := ⟨_, rfl⟩
    rw [hn] at HK hl4 hbl
    rw [hn]
    have HN := Lib.hid hn
    clear hn
    go_wp2_with fail
    have hmade := World.ownsMap_made (H := Unit) w1 Tryd.prog 9 (plainElem Tryd.prog 3)
    go_loopw [19] (fun i wr => ∃ k : Nat, k ≤ n ∧ i = .int .i64 (k : Int) ∧ MapAt wr w1.heap.size k (fs.take k) ∧ Below w1.heap.size w1 wr) (fun i _ => n - (intOf i).toNat)
    case atStart => exact ⟨0, Nat.zero_le _, rfl, hmade, (Below.refl _ _).alloc (Nat.le_refl _) _⟩
    case round =>
      obtain ⟨k, hkn, rfl, hown, hb⟩ := hrel
      have HOWN := Lib.hid hown
      have HB := Lib.hid hb
      have hzr := hb.size
      clear hown hb hmade
      by_cases hlt : k < n
      · have hix := HK.out.ix (P := Tryd.prog) (c := c) 23 9 Tryd.underlying23 cellsStr hlt
        have hcl := HK.out.cell k hlt
        have hkl : k < fs.length := by rw [HN.out]; exact hlt
        rw [strs_getD _ k (by rw [List.length_map]; exact hkl)] at hcl
        have hgd : (fs.map bs).getD k .empty = bs fs[k] := by simp [List.getD, List.getElem?_map, List.getElem?_eq_getElem hkl]
        rw [hgd] at hcl
        have hclr := (HB.out.cell (p := ⟨b, off + k, none⟩) (hbl (by omega))).trans hcl
        obtain ⟨f1, f2⟩ := HFL.out fs[k] (List.getElem_mem hkl)
        have hfs : (bs fs[k]).size = fs[k].length := bs_size _
        have hf1 : 1 ≤ (bs fs[k]).size := by omega
        have hf3 : (bs fs[k]).size ≤ 3 := by omega
        have HEX : Hid ((bs fs[k]).extract 0 1 = bs (fs[k].take 1)) := by unfold Hid; rw [bs_extract, List.drop_zero]
        have HKEY := Lib.hid (keyS (fs[k].take 1) (by rw [List.length_take]; omega))
        have HSN : Hid (lenMap (fs.take (k + 1)) = (lenMap (fs.take k)).put (.string (fs[k].take 1)) (.lit (.int .i64 ((bs fs[k]).size : Int)))) := by
          unfold Hid
          rw [List.take_succ_eq_append_getElem hkl, lenMap_snoc, hfs]; rfl
        have HWF : Hid ((Lit.int .i64 ((bs fs[k]).size : Int)).wf = true) := WalkArith.wf_i64 (by omega)
        clear hcl hgd hfs f1 f2
        generalize bs (fs[k].take 1) = h1 at *
        generalize fs[k].take 1 = k1 at *
        generalize bs fs[k] = FB at *
        have hex := HEX.out
        go_wp2_with (at_mapUpdate; refine wpList_mapUpdate_own _ rfl _ _ _ 76 rfl 9 3 lawStr Tryd.underlying76 _ w1.heap.size k _ rfl HOWN.out (by unfold maxLen; omega) _ _ _ rfl rfl HKEY.out _ [] (plainElem_int Tryd.underlying3 HWF.out) ?_; intro w3 hown3 hgrow3; have HOWN3 := Lib.hid hown3; have HG3 := Lib.hid hgrow3; clear hown3 hgrow3)
        go_roundw
        case rel => exact ⟨k + 1, by omega, by go_num, by unfold MapAt; rw [HSN.out]; exact HOWN3.out, HB.out.grown HG3.out hzr (fun j hj => by injection hj with hj; omega)⟩
        case measure => simp [intOf]; omega
      · obtain rfl : k = n := by omega
        have HOW : Hid (MapAt wr w1.heap.size k fs) := by
          have := HOWN.out
          rwa [List.take_of_length_le (by rw [HN.out]; exact Nat.le_refl _)] at this
        clear HOWN
        go_wp2_with fail
        go_ret2
        exact ⟨HB1.out.trans (HB.out.mono hz1), .inr ⟨fs, w1.heap.size, HV.out, rfl, hz1, by rw [HN.out]; exact HOW.out⟩⟩
end Go.Proofs.YtaolbfbnjbpljaaDoor
