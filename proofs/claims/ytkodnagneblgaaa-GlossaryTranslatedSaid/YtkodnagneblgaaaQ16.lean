/- Walks: the example of the document. -/
import Derived.Test.YtkodnagneblgaaaQ15
import Derived.ProofKit
import Derived.OpenShut
import Derived.ShutString
import Derived.ChangeOld
import Derived.SliceStrings
import Derived.Lib.SmallJoins
import Derived.Deep.Slices
import Derived.ChangeArms
namespace Go.Proofs.Ytkodnagneblgaaa
open Go.RowKit Go.Maps Go.Sort
attribute [local go_sem] Ext.cell Ext.frozen
attribute [local go_sem ↓] Go.wp_at_zero Go.wp_at_succ
def ts0 : List Tm := [⟨⟨#[102, 105, 108, 101]⟩, ⟨#[68, 97, 116, 101, 105]⟩, false⟩, ⟨⟨#[102, 105, 108, 101, 32, 110, 97, 109, 101]⟩, ⟨#[68, 97, 116, 101, 105, 110, 97, 109, 101]⟩, false⟩]
def src0 : ByteArray := ⟨#[84, 104, 101, 32, 102, 105, 108, 101, 32, 110, 97, 109, 101, 32, 111, 102, 32, 97, 32, 102, 105, 108, 101]⟩
def tgt0 : ByteArray := ⟨#[68, 101, 114, 32, 78, 97, 109, 101, 32, 100, 101, 114, 32, 68, 97, 116, 101, 105]⟩
theorem err0 : errV ts0 src0 tgt0 = 0 := by kernel_rfl
theorem res0 : resV ts0 src0 tgt0 (pfindings ts0 src0 tgt0) = [(1, 1)] := by kernel_rfl
theorem cellsFnP : Try.prog.cellsOf 51 = 2 := by kernel_rfl
theorem ts0_small : ∀ x ∈ ts0, x.s.size ≤ 100000 ∧ x.t.size ≤ 100000 := by decide
set_option maxRecDepth 100000 in
set_option maxHeartbeats 4000000 in
theorem awake_any (w : World) : Calls Try.prog 8 #[] w fun e w' => e = .returned (.bool true) ∧ Below w.heap.size w w' := by
  have HC := Lib.hid (fun ad n c W (h : TmAt W ad n ts0) hn => pcheck_any ts0 src0 tgt0 ad n c W h hn ts0_small)
  rw [err0, res0] at HC
  go_enter Try.func8, Try.ntmps8
  go_upto_region 1 with (fail)
  go_wp2_with fail
  refine (HC.out _ 2 2 _ ?_ (by omega)).mono ?_
  · refine ⟨rfl, w.heap.size, 0, by omega, fun _ => rfl, fun i j hi hj => ?_⟩
    rcases (by omega : i = 0 ∨ i = 1) with e | e <;> rcases (by omega : j = 0 ∨ j = 1 ∨ j = 2) with e' | e' | e' <;> subst e <;> subst e' <;> (rw [Lib.cell_of_heap (heap_alloc_new w _)]; rfl)
  · rintro e w2 ⟨ad', c', rfl, hfn, hb⟩
    have HB : Hid (Below w.heap.size w w2) := by
      refine Below.trans ((Below.refl w.heap.size w).alloc (Nat.le_refl _) _) (hb.mono ?_)
      simp
    have hfl : prV [(1, 1)] = flat 2 (fun _ _ => .int .i64 1) 1 := rfl
    unfold FnR at hfn
    rw [show [((1 : Nat), (1 : Nat))].length = 1 from rfl, hfl] at hfn
    obtain ⟨b, hr, _⟩ := own_rw hfn
    have hix := fun W => hr.ix 25 51 Try.underlying25 cellsFnP (by omega) (show 0 < 1 by omega) c' W
    have h0 := hr.cell 0 0 (by omega) (by omega)
    have h1 := hr.cell 0 1 (by omega) (by omega)
    have hle : ([((1 : Nat), (1 : Nat))]).length = 1 := rfl
    rw [hle]
    have hix0 : ∀ W, (Instr.indexAt 25 (.slice ad' 1 c') (.int .i64 0)).run Try.prog W = .ok (.pointer (some ⟨b, 0, none⟩)) W := fun W => by simpa using hix W
    have k0 : w2.cell? ⟨b, 0, none⟩ = some (.int .i64 1) := by simpa using h0
    have k1 : w2.cell? ⟨b, 1, none⟩ = some (.int .i64 1) := by simpa using h1
    clear hfn hb hr hfl hle hix h0 h1
    go_wp2_with fail
    go_ret
    exact ⟨rfl, HB.out⟩
end Go.Proofs.Ytkodnagneblgaaa
/- How the arguments of the laws are read. -/
namespace Go.Proofs.Ytkodnagneblgaaa
open Go.ChangeShapes Go.WideShapes Go.ChangeAt Go.RowKit Go.Joins
open Go.ChangeMaps (open_string shut_string)
theorem own : ownKnob Try.prog.godebug = none := by kernel_rfl
theorem laidOut : laidOutB Try.prog = true := by kernel_rfl
theorem Sl.nil (w : World) : Sl w none 0 [] := ⟨0, 0, rfl, by omega, fun h => absurd rfl h, fun i hi => absurd hi (Nat.not_lt_zero _)⟩
section
variable {H : Type} {enc : TypeId × Value → H} {w : World} {base : Nat} {spare : Nat → Bool} {held : Bool}

theorem addr_of_cell {W : World} {a : Addr} {v : Value} (h : W.cell? (a.add 0) = some v) : a = ⟨a.block, a.off, none⟩ := by
  have hs : a.spot = none := by simpa [Addr.add] using World.cell?_spot h
  cases a
  simp at hs
  simp [hs]

theorem sl_of_row {W : World} {a : Addr} {len : Nat} {xs : List Value} (hl : xs.length = len) (hm : len ≤ maxLen) (hc : ∀ i, i < len → W.cell? (a.add i) = some (xs.getD i undef)) : Sl W (some a) len xs := by
  by_cases h0 : len = 0
  · subst h0
    exact ⟨0, 0, hl, by omega, fun h => absurd rfl h, fun i hi => absurd hi (Nat.not_lt_zero _)⟩
  · have ha := addr_of_cell (hc 0 (by omega))
    refine ⟨a.block, a.off, hl, by unfold maxLen at hm; omega, fun _ => by rw [← ha], fun i hi => ?_⟩
    have := hc i hi
    rw [ha] at this
    rw [← this]
    unfold Addr.add
    split
    · rename_i h; subst h; rfl
    · rfl

/-- a slice of strings -/
theorem open_str_sl {fuel : Nat} {v : Value} {x : DataW H × List MemPlace} (h : DataW.trod enc Try.prog w base spare held fuel 39 [v] = some x) :
    ∃ ad n c ss, v = .slice ad n c ∧ Sl w ad n (strs ss) ∧ ∀ s ∈ ss, s.size ≤ 9223372036854775807 := by
  rcases open_strings Try.underlying39 Try.underlying9 cellsStr h with ⟨hcs, _⟩ | ⟨a, len, cap, ss, hcs, _, hl, hm, hz, _, hcell, hwf⟩
  · simp at hcs
    subst hcs
    exact ⟨none, 0, 0, [], rfl, Sl.nil _, fun s hs => by cases hs⟩
  · simp at hcs
    subst hcs
    have hlz : len ≤ ss.length := by rw [hz]; split <;> omega
    refine ⟨some a, len, cap, ss.take len, rfl, sl_of_row ?_ (by omega) (fun i hi => ?_), fun s hs => ?_⟩
    · rw [strs_length, List.length_take]
      omega
    · rw [hcell i (by omega), strs_getD _ _ (by rw [List.length_take]; omega)]
      simp [List.getD, hi]
    · have := hwf s (List.mem_of_mem_take hs)
      unfold maxLen at this
      omega
end
end Go.Proofs.Ytkodnagneblgaaa
/- How an argument that is a list of terms is read. -/
namespace Go.Proofs.Ytkodnagneblgaaa
open Go.ChangeShapes Go.WideShapes Go.RowKit
theorem cStrG : Try.prog.cellsOf 9 = 1 := by kernel_rfl
theorem cBoolG : Try.prog.cellsOf 4 = 1 := by kernel_rfl
section
variable {H : Type} {enc : TypeId × Value → H} {w : World} {base : Nat} {spare : Nat → Bool} {held : Bool}
theorem spotG {W : World} {a : Addr} {v : Value} (h : W.cell? (a.add 0) = some v) : a = ⟨a.block, a.off, none⟩ := by
  have hs : a.spot = none := by simpa [Addr.add] using World.cell?_spot h
  cases a
  simp at hs
  simp [hs]
theorem field_of {fuel : Nat} {t : TypeId} {fs : Array Field} {cs : List Value} {x : DataW H × List MemPlace} (ht : Try.prog.underlying t = some (.struct fs)) (h : DataW.trod enc Try.prog w base spare held fuel t cs = some x) (i : Nat) (f : Field) (hi : fs[i]? = some f) :
    ∃ m y, DataW.trod enc Try.prog w base spare held m f.type ((cs.drop f.offset).take (Try.prog.cellsOf f.type)) = some y := by
  obtain ⟨xs, m, _, _, _, hx, hf⟩ := DataW.trod_struct ht h
  have h1 := hf i f hi
  have hlt : i < xs.length := by rw [hx]; exact (Array.getElem?_eq_some_iff.1 hi).1
  rw [List.getElem?_eq_getElem hlt] at h1
  exact ⟨m, _, h1⟩
theorem tm_of {fuel : Nat} {cs : List Value} {x : DataW H × List MemPlace} (h : DataW.trod enc Try.prog w base spare held fuel 48 cs = some x) :
    ∃ y : Tm, cs = [.string y.s, .string y.t, .bool y.f] ∧ y.s.size ≤ 9223372036854775807 ∧ y.t.size ≤ 9223372036854775807 := by
  obtain ⟨_, _, _, _, hl, _, _⟩ := DataW.trod_struct Try.underlying48 h
  rw [cellsRTm] at hl
  match cs, hl with
  | [a, b, c], _ =>
    obtain ⟨_, _, h0⟩ := field_of Try.underlying48 h 0 _ rfl
    obtain ⟨_, _, h1⟩ := field_of Try.underlying48 h 1 _ rfl
    obtain ⟨_, _, h2⟩ := field_of Try.underlying48 h 2 _ rfl
    obtain ⟨s, e0, _, hs⟩ := DataW.trod_string Try.underlying9 h0
    obtain ⟨t, e1, _, ht⟩ := DataW.trod_string Try.underlying9 h1
    obtain ⟨f, e2, _⟩ := DataW.trod_bool Try.underlying4 h2
    replace e0 : List.take (Try.prog.cellsOf 9) (List.drop 0 [a, b, c]) = [.string s] := e0
    replace e1 : List.take (Try.prog.cellsOf 9) (List.drop 1 [a, b, c]) = [.string t] := e1
    replace e2 : List.take (Try.prog.cellsOf 4) (List.drop 2 [a, b, c]) = [.bool f] := e2
    rw [cStrG] at e0 e1
    rw [cBoolG] at e2
    simp only [List.drop_zero, List.drop_succ_cons, List.take_succ_cons, List.take_zero, List.cons.injEq, and_true] at e0 e1 e2
    subst e0 e1 e2
    unfold maxLen at hs ht
    exact ⟨⟨s, t, f⟩, rfl, by omega, by omega⟩
theorem open_tms {fuel : Nat} {v : Value} {x : DataW H × List MemPlace} (h : DataW.trod enc Try.prog w base spare held fuel 22 [v] = some x) :
    ∃ ad n c ts, v = .slice ad n c ∧ TmAt w ad n ts ∧ (∀ x ∈ ts, x.s.size ≤ 9223372036854775807 ∧ x.t.size ≤ 9223372036854775807) ∧ n ≤ 9223372036854775807 := by
  rcases Go.Deep.open_slice Try.underlying22 h with ⟨hcs, _⟩ | ⟨a, len, cap, m, n, D, Pl, hcs, _, hl, hm, hmm, _, hf⟩
  · injection hcs with hcs
    subst hcs
    exact ⟨none, 0, 0, [], rfl, ⟨rfl, 0, 0, ⟨Nat.zero_le _, fun h => absurd rfl h, fun i j hi => absurd hi (Nat.not_lt_zero _)⟩⟩, fun x h => (by cases h), Nat.zero_le _⟩
  · injection hcs with hcs
    subst hcs
    have hlm : len ≤ m := by rw [hmm]; split <;> omega
    rw [cellsRTm] at hf
    have each : ∀ i, i < len → ∃ y : Tm, (w.cell? (a.add (i * 3 + 0)) = some (.string y.s) ∧ w.cell? (a.add (i * 3 + 1)) = some (.string y.t) ∧ w.cell? (a.add (i * 3 + 2)) = some (.bool y.f)) ∧ y.s.size ≤ 9223372036854775807 ∧ y.t.size ≤ 9223372036854775807 := fun i hi => by
      obtain ⟨cs', h1, h2⟩ := hf i (by omega)
      obtain ⟨_, hlen, hcell⟩ := World.cells?_some h1
      obtain ⟨y, rfl, s1, s2⟩ := tm_of h2
      refine ⟨y, ⟨?_, ?_, ?_⟩, s1, s2⟩
      · have := hcell 0 (by omega); rw [Go.Deep.add_add] at this; exact this
      · have := hcell 1 (by omega); rw [Go.Deep.add_add] at this; exact this
      · have := hcell 2 (by omega); rw [Go.Deep.add_add] at this; exact this
    obtain ⟨g, hg⟩ := Go.Deep.choose_lt each
    have hgd : ∀ i, i < len → ((List.range len).map g).getD i tm0 = g i := fun i hi => by simp [List.getD, hi]
    have hsz : ∀ x ∈ (List.range len).map g, x.s.size ≤ 9223372036854775807 ∧ x.t.size ≤ 9223372036854775807 := fun x hx => by
      obtain ⟨i, hi, rfl⟩ := List.mem_map.1 hx
      exact (hg i (List.mem_range.1 hi)).2
    have hln : ((List.range len).map g).length = len := by simp
    unfold maxLen at hm
    by_cases h0 : len = 0
    · subst h0
      exact ⟨some a, 0, cap, _, rfl, ⟨hln, 0, 0, ⟨Nat.zero_le _, fun h => absurd rfl h, fun i j hi => absurd hi (Nat.not_lt_zero _)⟩⟩, hsz, by omega⟩
    · have ha := spotG (by have := (hg 0 (by omega)).1.1; rwa [Nat.zero_mul, Nat.zero_add] at this)
      have had : ∀ j, a.add j = ⟨a.block, a.off + j, none⟩ := fun j => by
        conv => lhs; rw [ha]
        unfold Addr.add
        split
        · rename_i h; subst h; rfl
        · rfl
      refine ⟨some a, len, cap, _, rfl, ⟨hln, a.block, a.off, ⟨by omega, fun _ => by rw [← ha], fun i j hi hj => ?_⟩⟩, hsz, by omega⟩
      obtain ⟨⟨c0, c1, c2⟩, _⟩ := hg i hi
      rw [had] at c0 c1 c2
      unfold tmC
      rw [hgd i hi, Nat.add_assoc]
      rcases (by omega : j = 0 ∨ j = 1 ∨ j = 2) with e | e | e <;> subst e
      · exact c0
      · exact c1
      · exact c2
end
end Go.Proofs.Ytkodnagneblgaaa
/- Walks: the number of places of a term, by the reference. -/
namespace Go.Proofs.Ytkodnagneblgaaa
open Go.RowKit Go.Maps Go.Sort
attribute [local go_sem] Ext.cell Ext.frozen
attribute [local go_sem ↓] Go.wp_at_zero Go.wp_at_succ
theorem cnt_step (keys : List ByteArray) (ps : List (Nat × Nat)) (k : ByteArray) (i : Nat) (hi : i < ps.length) : cntV keys (ps.take (i + 1)) k = cntV keys (ps.take i) k + (if keys.getD (ps.getD i (0, 0)).1 .empty = k then 1 else 0) := by
  rw [cntV_succ keys ps i hi]
  unfold updN
  by_cases e : keys.getD (ps.getD i (0, 0)).1 .empty = k
  · rw [if_pos e.symm, if_pos e, e]
  · rw [if_neg (fun h => e h.symm), if_neg e]
    rfl
theorem alike_key (a b : ByteArray) : alikeB a b = decide (keyB a = keyB b) := by
  rw [Bool.eq_iff_iff, alikeB_iff, decide_eq_true_eq]
set_option maxRecDepth 100000 in
set_option maxHeartbeats 4000000 in
theorem rcount_any (terms : List ByteArray) (ps : List (Nat × Nat)) (s : ByteArray) (ad : Option Addr) (n c : Nat) (ap : Option Addr) (N cp : Nat) (w : World) (ht : Sl w ad n (strs terms)) (hp : PrAt w ap N ps) (_hn : n ≤ 1000) (hN : N ≤ 1000001) (hz : ∀ s ∈ terms, s.size ≤ 1000000) (hs : s.size ≤ 1000000) (hm : ∀ p ∈ ps, p.1 < n) :
    Calls Try.prog 41 #[.slice ad n c, .slice ap N cp, .string s] w fun e w' => e = .returned (.int .i64 (cntV (terms.map keyB) ps (keyB s) : Int)) ∧ Below w.heap.size w w' := by
  have hl := ht.len
  rw [strs_length] at hl
  have HT := Lib.hid ht
  have HL := Lib.hid hl
  have HZ := Lib.hid hz
  have HP := Lib.hid hp
  have HN := Lib.hid hp.1
  have HM := Lib.hid hm
  have HA := Lib.hid (fun a W (h : a.size ≤ 1000000) => ralike_any a s W h hs)
  clear ht hl hz hp hm hs
  go_enter Try.func41, Try.ntmps41
  go_wp2_with fail
  go_loopw [7, 8] (fun v u wr => ∃ (i k : Nat), u = .int .i64 (i : Int) ∧ v = .int .i64 (k : Int) ∧ i ≤ N ∧ k ≤ i ∧ cntV (terms.map keyB) (ps.take i) (keyB s) = k ∧ Below w.heap.size w wr) (fun _ u _ => N - (intOf u).toNat)
  case atStart => exact ⟨0, 0, rfl, rfl, Nat.zero_le _, Nat.le_refl _, rfl, Below.refl _ _⟩
  case round =>
    obtain ⟨i, k, rfl, rfl, hin, hki, hk, hbl⟩ := hrel
    have HB := Lib.hid hbl
    have HK := Lib.hid hk
    clear hbl hk
    by_cases hlt : i < N
    · obtain ⟨_, pb, po, hrp⟩ := HP.out.below HB.out
      have hix := fun W => hrp.ix 42 45 Try.underlying42 cellsPair (by omega) hlt cp W
      have h0 := hrp.cell i 0 hlt (by omega)
      rw [Nat.add_zero] at h0
      simp only [prC] at h0
      have hmem := HM.out (ps.getD i (0, 0)) (getD_mem _ _ _ (by rw [HN.out]; exact hlt))
      have HCS := Lib.hid (cnt_step (terms.map keyB) ps (keyB s) i (by rw [HN.out]; exact hlt))
      rw [HK.out] at HCS
      have hlz : (i : Int) < (N : Int) := by omega
      clear hrp HK
      generalize ps.getD i (0, 0) = x at *
      obtain ⟨a, b⟩ := x
      simp only at h0 hmem HCS
      obtain ⟨tb, tq, hst⟩ := HT.out.below HB.out
      have hixt := fun W => hst.ix (c := c) 39 9 Try.underlying39 cellsStr hmem W
      have hct := hst.cell a hmem
      rw [strs_getD _ _ (by rw [HL.out]; exact hmem)] at hct
      have hke : (terms.map keyB).getD a .empty = keyB (terms.getD a .empty) := by
        rw [List.getD_eq_getElem?_getD, List.getElem?_map, List.getD_eq_getElem?_getD, List.getElem?_eq_getElem (by rw [HL.out]; exact hmem)]
        rfl
      rw [hke] at HCS
      have hsz := HZ.out (terms.getD a .empty) (getD_mem _ _ _ (by rw [HL.out]; exact hmem))
      have HA1 := Lib.hid (fun W => HA.out (terms.getD a .empty) W hsz)
      have hak := alike_key (terms.getD a .empty) s
      clear hst hke hsz
      by_cases e : keyB (terms.getD a .empty) = keyB s
      · rw [decide_eq_true e] at hak
        rw [hak] at HA1
        rw [if_pos e] at HCS
        clear hak e
        generalize terms.getD a .empty = st at *
        go_wp2_with fail
        refine (HA1.out _).mono ?_
        rintro e w4 ⟨rfl, hb⟩
        have HB4 := Lib.hid (HB.out.trans (hb.mono HB.out.size))
        clear hb
        go_wp2_with fail
        go_roundw
        case rel => exact ⟨i + 1, k + 1, by go_num, by go_num, by omega, by omega, HCS.out, HB4.out⟩
        case measure => simp [intOf]; omega
      · rw [decide_eq_false e] at hak
        rw [hak] at HA1
        rw [if_neg e] at HCS
        clear hak e
        generalize terms.getD a .empty = st at *
        go_wp2_with fail
        refine (HA1.out _).mono ?_
        rintro e w4 ⟨rfl, hb⟩
        have HB4 := Lib.hid (HB.out.trans (hb.mono HB.out.size))
        clear hb
        go_wp2_with fail
        go_roundw
        case rel => exact ⟨i + 1, k, by go_num, rfl, by omega, by omega, HCS.out, HB4.out⟩
        case measure => simp [intOf]; omega
    · obtain rfl : i = N := by omega
      have hk := HK.out
      rw [List.take_of_length_le (by rw [HN.out]; exact Nat.le_refl _)] at hk
      have HK2 := Lib.hid hk
      clear hk
      go_wp2_with fail
      go_ret
      exact ⟨by rw [HK2.out]; rfl, HB.out⟩
end Go.Proofs.Ytkodnagneblgaaa
/- Walks: missing translations, by the reference: the first part. -/
namespace Go.Proofs.Ytkodnagneblgaaa
open Go.RowKit Go.Maps Go.Sort
attribute [local go_sem] Ext.cell Ext.frozen
attribute [local go_sem ↓] Go.wp_at_zero Go.wp_at_succ
theorem any_take_g (f : Tm → Bool) (ts : List Tm) (i : Nat) (hi : i < ts.length) : (ts.take (i + 1)).any f = ((ts.take i).any f || f (ts.getD i tm0)) := by
  have hg : ts.getD i tm0 = ts[i] := by rw [List.getD_eq_getElem?_getD, List.getElem?_eq_getElem hi]; rfl
  rw [List.take_add_one, List.getElem?_eq_getElem hi, hg, Option.toList_some, List.any_append]
  simp
/-- an allowed term with this source and this target -/
def goodT (sk tp : ByteArray) (x : Tm) : Bool := !x.f && (alikeB x.s sk && alikeB x.t tp)
/-- the number of places of an allowed translation -/
def goodN (ts : List Tm) (sk : ByteArray) (ps : List (Nat × Nat)) : Nat := (ps.filter fun p => ts.any (goodT sk (ts.getD p.1 tm0).t)).length
theorem goodN_step (ts : List Tm) (sk : ByteArray) (ps : List (Nat × Nat)) (i : Nat) (hi : i < ps.length) : goodN ts sk (ps.take (i + 1)) = goodN ts sk (ps.take i) + (if ts.any (goodT sk (ts.getD (ps.getD i (0, 0)).1 tm0).t) = true then 1 else 0) := by
  have hg : ps.getD i (0, 0) = ps[i] := by rw [List.getD_eq_getElem?_getD, List.getElem?_eq_getElem hi]; rfl
  unfold goodN
  rw [List.take_add_one, List.getElem?_eq_getElem hi, hg, Option.toList_some, List.filter_append, List.length_append]
  cases hq : ts.any (goodT sk (ts.getD ps[i].1 tm0).t) with
  | true => simp [-List.getD_eq_getElem?_getD, hq]
  | false => simp [-List.getD_eq_getElem?_getD, hq]
noncomputable def rmC (n : Nat) : Code := fromReg n ((Try.f29.body).getD .skip)
set_option maxRecDepth 100000 in
set_option maxHeartbeats 8000000 in
theorem rm_first (ts : List Tm) (_ps pt : List (Nat × Nat)) (ad : Option Addr) (n c k : Nat) (a2 : Option Addr) (N2 c2 : Nat) (a3 : Option Addr) (N3 c3 : Nat) (w : World) (RR : Ending → World → Prop) (ht : TmAt w ad n ts) (hk : k < n) (hn : n ≤ 1000) (hz : ∀ x ∈ ts, x.s.size ≤ 100000 ∧ x.t.size ≤ 100000) (hpt : PrAt w a3 N3 pt) (hN3 : N3 ≤ 1000001) (hm : ∀ p ∈ pt, p.1 < n)
    (hnext : ∀ (wr : World) (v1 v2 : Value) (u4 u5 u6 u7 u8 u13 u14 u15 u16 u17 u18 u19 u20 u21 u22 u23 u24 u25 u26 u27 u28 u29 u30 u31 u32 u33 u34 u35 u36 u37 u38 u39 u40 u41 u42 u43 u44 u45 u46 u47 u48 u49 u50 u51 u52 u53 u54 u55 u56 u57 u58 u59 u60 u61 u62 u63 u64 u65 u66 u67 u68 u69 u70 u71 u72 u73 u74 u75 u76 u77 u78 u79 u80 u81 u82 u83 u84 u85 u86 u87 u88 u89 u90 u91 u92 u93 u94 u95 u96 u97 u98 u99 u100 u101 u102 u103 u104 u105 u106 u107 u108 u109 u110 u111 u112 u113 u114 u115 : Value), StrR wr w.heap.size v1 (ts.map (·.s)) → Below w.heap.size w wr →
      (rmC 13).wp Try.prog (bodyPost Try.prog Try.f29 RR) ⟨#[.slice ad n c, .int .i64 (k : Int), .slice a2 N2 c2, .slice a3 N3 c3, u4, u5, u6, u7, u8, v1, v2, .bool false, .int .i64 (goodN ts (ts.getD k tm0).s pt : Int), u13, u14, u15, u16, u17, u18, u19, u20, u21, u22, u23, u24, u25, u26, u27, u28, u29, u30, u31, u32, u33, u34, u35, u36, u37, u38, u39, u40, u41, u42, u43, u44, u45, u46, u47, u48, u49, u50, u51, u52, u53, u54, u55, u56, u57, u58, u59, u60, u61, u62, u63, u64, u65, u66, u67, u68, u69, u70, u71, u72, u73, u74, u75, u76, u77, u78, u79, u80, u81, u82, u83, u84, u85, u86, u87, u88, u89, u90, u91, u92, u93, u94, u95, u96, u97, u98, u99, u100, u101, u102, u103, u104, u105, u106, u107, u108, u109, u110, u111, u112, u113, u114, u115], []⟩ wr) :
    Calls Try.prog 29 #[.slice ad n c, .int .i64 (k : Int), .slice a2 N2 c2, .slice a3 N3 c3] w RR := by
  have HL := Lib.hid ht.1
  have HT := Lib.hid ht
  have HZ := Lib.hid hz
  have HP := Lib.hid hpt
  have HPL := Lib.hid hpt.1
  have HM := Lib.hid hm
  have HN := Lib.hid hnext
  have HA := Lib.hid ralike_any
  have HST := Lib.hid (rstrings_any ts ad n c w ht hn)
  have HZK := Lib.hid (hz (ts.getD k tm0) (getD_mem _ _ _ (by rw [HL.out]; exact hk)))
  clear ht hz hpt hm hnext
  go_enter Try.func29, Try.ntmps29
  go_wp2_with fail
  refine HST.out.mono ?_
  rintro e w1 ⟨v1, v2, rfl, htw, hb⟩
  have HB1 := Lib.hid hb
  have HR1 := Lib.hid htw.r1
  obtain ⟨a10, c10, rfl⟩ := htw.r2.form
  have hr2 := htw.r2
  have hml : (ts.map (·.t)).length = n := by rw [List.length_map]; exact HL.out
  unfold StrR at hr2
  rw [hml] at hr2 ⊢
  have HS2 := Lib.hid (Own.sl hr2)
  clear htw hb hr2 hml HST
  go_wp2_with fail
  rename_i K9 hK9
  have HK9 := Lib.hid hK9
  clear hK9
  obtain ⟨sk, hsk⟩ : ∃ sk, (ts.getD k tm0).s = sk := ⟨_, rfl⟩
  rw [hsk] at HN HZK
  have HSK := Lib.hid hsk
  clear hsk
  go_loopw [12, 13] (fun v u wr => ∃ (i m : Nat), u = .int .i64 (i : Int) ∧ v = .int .i64 (m : Int) ∧ i ≤ N3 ∧ m ≤ i ∧ goodN ts sk (pt.take i) = m ∧ Below w1.heap.size w1 wr) (fun _ u _ => N3 - (intOf u).toNat)
  case atStart => exact ⟨0, 0, rfl, rfl, Nat.zero_le _, Nat.le_refl _, rfl, Below.refl _ _⟩
  case round =>
    obtain ⟨i, m, rfl, rfl, hin, hmi, hgn, hbl⟩ := hrel
    have HGN := Lib.hid hgn
    have HB := Lib.hid hbl
    have HBB := Lib.hid (HB1.out.trans (hbl.mono HB1.out.size))
    clear hgn hbl
    by_cases hlt : i < N3
    · obtain ⟨_, pb, po, hrp⟩ := HP.out.below HBB.out
      have p0 := hrp.cell i 0 hlt (by omega)
      rw [Nat.add_zero] at p0
      simp only [prC] at p0
      have hix := fun W => hrp.ix 42 45 Try.underlying42 cellsPair (by omega) hlt c3 W
      have hmem := HM.out (pt.getD i (0, 0)) (getD_mem _ _ _ (by rw [HPL.out]; exact hlt))
      have HGS := Lib.hid (goodN_step ts sk pt i (by rw [HPL.out]; exact hlt))
      rw [HGN.out] at HGS
      have hlz : (i : Int) < (N3 : Int) := by omega
      clear hrp HGN
      generalize pt.getD i (0, 0) = x at *
      obtain ⟨a, b⟩ := x
      simp only at p0 hmem HGS
      obtain ⟨gb, go, hst⟩ := HS2.out.below HB.out
      have hixt := fun W => hst.ix (c := c10) 39 9 Try.underlying39 cellsStr hmem W
      have g0 := hst.cell a hmem
      rw [strs_getD _ _ (by rw [List.length_map, HL.out]; exact hmem), show (ts.map (·.t)).getD a .empty = (ts.getD a tm0).t by
        rw [List.getD_eq_getElem?_getD, List.getElem?_map, List.getD_eq_getElem?_getD, List.getElem?_eq_getElem (by rw [HL.out]; exact hmem)]; rfl] at g0
      have hzt := (HZ.out (ts.getD a tm0) (getD_mem _ _ _ (by rw [HL.out]; exact hmem))).2
      obtain ⟨_, tb, tq, hrk⟩ := HT.out.below HBB.out
      have hixk := fun W => hrk.ix 22 48 Try.underlying22 cellsRTm (by omega) hk c W
      have k0 := hrk.cell k 0 hk (by omega)
      rw [Nat.add_zero] at k0
      simp only [tmC] at k0
      rw [HSK.out] at k0
      clear hst hrk
      generalize (ts.getD a tm0).t = tp at *
      have HI0 := Lib.hid k0
      have HI1 := Lib.hid g0
      have HI2 := Lib.hid p0
      clear k0 g0 p0
      obtain ⟨PP, hPP⟩ : ∃ PP, goodT sk tp = PP := ⟨_, rfl⟩
      rw [hPP] at HGS
      obtain ⟨wo, rfl⟩ : ∃ wo : World, wo = wr := ⟨_, rfl⟩
      go_wp2_with fail
      go_loopw [14, 15] (fun v u wx => ∃ (j : Nat) (gd : Bool), u = .int .i64 (j : Int) ∧ v = .bool gd ∧ j ≤ n ∧ (ts.take j).any PP = gd ∧ Below wo.heap.size wo wx) (fun _ u _ => n - (intOf u).toNat)
      case atStart => exact ⟨0, false, rfl, rfl, Nat.zero_le _, rfl, Below.refl _ _⟩
      case round =>
        obtain ⟨j, gd, rfl, rfl, hjn, hgd, hbl⟩ := hrel
        have HG := Lib.hid hgd
        have HBJ := Lib.hid hbl
        clear hgd hbl
        by_cases hjl : j < n
        · obtain ⟨_, sb, sq, hrj⟩ := HT.out.below (HBB.out.trans (HBJ.out.mono HBB.out.size))
          have hixj := fun W => hrj.ix 22 48 Try.underlying22 cellsRTm (by omega) hjl c W
          have j0 := hrj.cell j 0 hjl (by omega)
          have j1 := hrj.cell j 1 hjl (by omega)
          have j2 := hrj.cell j 2 hjl (by omega)
          rw [Nat.add_zero] at j0
          simp only [tmC] at j0 j1 j2
          have i0 := cell_later HBJ.out HI0.out
          have hsb : sb < wr.heap.size := World.block_lt_of_cell? _ _ j0
          have htb : tb < wr.heap.size := World.block_lt_of_cell? _ _ i0
          have HAT := Lib.hid (any_take_g PP ts j (by rw [HL.out]; exact hjl))
          rw [HG.out] at HAT
          obtain ⟨z1, z2⟩ := HZ.out (ts.getD j tm0) (getD_mem _ _ _ (by rw [HL.out]; exact hjl))
          have hjz : (j : Int) < (n : Int) := by omega
          have i1 := cell_later HBJ.out HI1.out
          have i2 := cell_later HBJ.out HI2.out
          have hgb : gb < wr.heap.size := World.block_lt_of_cell? _ _ i1
          have hpb : pb < wr.heap.size := World.block_lt_of_cell? _ _ i2
          have HA1 : Hid (∀ W, Calls Try.prog 23 #[.string (ts.getD j tm0).s, .string sk] W fun e w' => e = .returned (.bool (alikeB (ts.getD j tm0).s sk)) ∧ Below W.heap.size W w') := fun W => HA.out _ _ W (by omega) (Nat.le_trans HZK.out.1 (by omega))
          have HA2 : Hid (∀ W, Calls Try.prog 23 #[.string (ts.getD j tm0).t, .string tp] W fun e w' => e = .returned (.bool (alikeB (ts.getD j tm0).t tp)) ∧ Below W.heap.size W w') := fun W => HA.out _ _ W (by omega) (by omega)
          rw [show PP (ts.getD j tm0) = (!(ts.getD j tm0).f && (alikeB (ts.getD j tm0).s sk && alikeB (ts.getD j tm0).t tp)) by rw [← hPP]; rfl] at HAT
          clear hrj z1 z2
          generalize alikeB (ts.getD j tm0).s sk = b1 at *
          generalize alikeB (ts.getD j tm0).t tp = b2 at *
          generalize ts.getD j tm0 = y at *
          obtain ⟨ys, yt, f⟩ := y
          simp only at j0 j1 j2 HAT HA1 HA2
          cases gd with
          | true =>
            have HG2 : Hid ((ts.take (j + 1)).any PP = true) := by rw [Hid, HAT.out]; rfl
            clear HAT
            go_wp2_with fail
            refine wp_region_ext (by kernel_rfl) (by kernel_rfl) ?_
            repeat (go_big_quiet_step (fail))
            refine wpQuiet_nil ?_
            intro _ hw'
            obtain ⟨X9, hw''⟩ := hw'
            subst hw''
            go_wp2_with fail
            go_roundw
            case rel => exact ⟨j + 1, true, by go_num, rfl, by omega, HG2.out, HBJ.out.trans (X9.2.mono HBJ.out.size)⟩
            case measure => simp [intOf]; omega
          | false =>
            cases f with
            | true =>
              have HG2 : Hid ((ts.take (j + 1)).any PP = false) := by rw [Hid, HAT.out]; rfl
              clear HAT
              go_wp2_with fail
              refine wp_region_ext (by kernel_rfl) (by kernel_rfl) ?_
              repeat (go_big_quiet_step (fail))
              refine wpQuiet_nil ?_
              intro _ hw'
              obtain ⟨X9, hw''⟩ := hw'
              subst hw''
              go_wp2_with fail
              go_roundw
              case rel => exact ⟨j + 1, false, by go_num, rfl, by omega, HG2.out, HBJ.out.trans (X9.2.mono HBJ.out.size)⟩
              case measure => simp [intOf]; omega
            | false =>
              cases b1 with
              | false =>
                have HG2 : Hid ((ts.take (j + 1)).any PP = false) := by rw [Hid, HAT.out]; rfl
                clear HAT
                go_wp2_with fail
                refine wp_region_ext (by kernel_rfl) (by kernel_rfl) ?_
                repeat (go_big_quiet_step ((first | (go_at_call 23; first | exact Calls.ext (HA1.out _) | exact Calls.ext (HA2.out _)))))
                refine wpQuiet_nil ?_
                intro _ hw'
                obtain ⟨X9, hw''⟩ := hw'
                subst hw''
                go_wp2_with fail
                go_roundw
                case rel => exact ⟨j + 1, false, by go_num, rfl, by omega, HG2.out, HBJ.out.trans (X9.2.mono HBJ.out.size)⟩
                case measure => simp [intOf]; omega
              | true =>
                cases b2 with
                | false =>
                  have HG2 : Hid ((ts.take (j + 1)).any PP = false) := by rw [Hid, HAT.out]; rfl
                  clear HAT
                  go_wp2_with fail
                  refine wp_region_ext (by kernel_rfl) (by kernel_rfl) ?_
                  repeat (go_big_quiet_step ((first | (go_at_call 23; first | exact Calls.ext (HA1.out _) | exact Calls.ext (HA2.out _)))))
                  refine wpQuiet_nil ?_
                  intro _ hw'
                  obtain ⟨X9, hw''⟩ := hw'
                  subst hw''
                  go_wp2_with fail
                  go_roundw
                  case rel => exact ⟨j + 1, false, by go_num, rfl, by omega, HG2.out, HBJ.out.trans (X9.2.mono HBJ.out.size)⟩
                  case measure => simp [intOf]; omega
                | true =>
                  have HG2 : Hid ((ts.take (j + 1)).any PP = true) := by rw [Hid, HAT.out]; rfl
                  clear HAT
                  go_wp2_with fail
                  refine wp_region_ext (by kernel_rfl) (by kernel_rfl) ?_
                  repeat (go_big_quiet_step ((first | (go_at_call 23; first | exact Calls.ext (HA1.out _) | exact Calls.ext (HA2.out _)))))
                  refine wpQuiet_nil ?_
                  intro _ hw'
                  obtain ⟨X9, hw''⟩ := hw'
                  subst hw''
                  go_wp2_with fail
                  go_roundw
                  case rel => exact ⟨j + 1, true, by go_num, rfl, by omega, HG2.out, HBJ.out.trans (X9.2.mono HBJ.out.size)⟩
                  case measure => simp [intOf]; omega
        · obtain rfl : j = n := by omega
          have hgd := HG.out
          rw [List.take_of_length_le (by rw [HL.out]; exact Nat.le_refl _)] at hgd
          rw [hgd] at HGS
          have HB7 := Lib.hid (HB.out.trans (HBJ.out.mono HB.out.size))
          clear hgd HG
          cases gd with
          | true =>
            go_wp2_with fail
            go_roundw
            case rel => exact ⟨i + 1, m + 1, by go_num, by go_num, by omega, by omega, HGS.out, HB7.out⟩
            case measure => simp [intOf]; omega
          | false =>
            go_wp2_with fail
            go_roundw
            case rel => exact ⟨i + 1, m, by go_num, rfl, by omega, by omega, HGS.out, HB7.out⟩
            case measure => simp [intOf]; omega
    · obtain rfl : i = N3 := by omega
      have hgn := HGN.out
      rw [List.take_of_length_le (by rw [HPL.out]; exact Nat.le_refl _)] at hgn
      rw [hgn] at HN
      have HR3 := Lib.hid (own_below HR1.out HB.out)
      clear hgn HGN HR1
      go_wp2_with fail
      refine HK9.out _ _ ?_
      exact HN.out wr _ _ _ _ _ _ _ _ _ _ _ _ _ _ _ _ _ _ _ _ _ _ _ _ _ _ _ _ _ _ _ _ _ _ _ _ _ _ _ _ _ _ _ _ _ _ _ _ _ _ _ _ _ _ _ _ _ _ _ _ _ _ _ _ _ _ _ _ _ _ _ _ _ _ _ _ _ _ _ _ _ _ _ _ _ _ _ _ _ _ _ _ _ _ _ _ _ _ _ _ _ _ _ _ _ _ _ _ _ _ HR3.out HBB.out
end Go.Proofs.Ytkodnagneblgaaa
/- Walks: missing translations, by the reference: the second part, and whole. -/
namespace Go.Proofs.Ytkodnagneblgaaa
open Go.RowKit Go.Maps Go.Sort
attribute [local go_sem] Ext.cell Ext.frozen
attribute [local go_sem ↓] Go.wp_at_zero Go.wp_at_succ
/-- an allowed term with this source -/
def allowT (sk : ByteArray) (x : Tm) : Bool := !x.f && alikeB x.s sk
/-- what the reference's missing answers -/
def rmissV (ts : List Tm) (ps pt : List (Nat × Nat)) (k : Nat) : Bool :=
  ts.any (allowT (ts.getD k tm0).s) && decide (goodN ts (ts.getD k tm0).s pt < cntV ((ts.map (·.s)).map keyB) ps (keyB (ts.getD k tm0).s))
set_option maxRecDepth 100000 in
set_option maxHeartbeats 8000000 in
theorem rm_second (ts : List Tm) (ps : List (Nat × Nat)) (ad : Option Addr) (n c k M : Nat) (a2 : Option Addr) (N2 c2 : Nat) (a3 : Option Addr) (N3 c3 : Nat) (w0 w : World) (v1 v2 : Value) (u4 u5 u6 u7 u8 u13 u14 u15 u16 u17 u18 u19 u20 u21 u22 u23 u24 u25 u26 u27 u28 u29 u30 u31 u32 u33 u34 u35 u36 u37 u38 u39 u40 u41 u42 u43 u44 u45 u46 u47 u48 u49 u50 u51 u52 u53 u54 u55 u56 u57 u58 u59 u60 u61 u62 u63 u64 u65 u66 u67 u68 u69 u70 u71 u72 u73 u74 u75 u76 u77 u78 u79 u80 u81 u82 u83 u84 u85 u86 u87 u88 u89 u90 u91 u92 u93 u94 u95 u96 u97 u98 u99 u100 u101 u102 u103 u104 u105 u106 u107 u108 u109 u110 u111 u112 u113 u114 u115 : Value) (ht : TmAt w ad n ts) (hk : k < n) (hn : n ≤ 1000) (hz : ∀ x ∈ ts, x.s.size ≤ 100000 ∧ x.t.size ≤ 100000) (hps : PrAt w a2 N2 ps) (hN2 : N2 ≤ 1000001) (hm : ∀ p ∈ ps, p.1 < n) (_hM : M ≤ 1000001)
    (hr : StrR w w0.heap.size v1 (ts.map (·.s))) (hb0 : Below w0.heap.size w0 w) :
    (rmC 13).wp Try.prog (bodyPost Try.prog Try.f29 fun e w' => e = .returned (.bool (ts.any (allowT (ts.getD k tm0).s) && decide (M < cntV ((ts.map (·.s)).map keyB) ps (keyB (ts.getD k tm0).s)))) ∧ Below w0.heap.size w0 w') ⟨#[.slice ad n c, .int .i64 (k : Int), .slice a2 N2 c2, .slice a3 N3 c3, u4, u5, u6, u7, u8, v1, v2, .bool false, .int .i64 (M : Int), u13, u14, u15, u16, u17, u18, u19, u20, u21, u22, u23, u24, u25, u26, u27, u28, u29, u30, u31, u32, u33, u34, u35, u36, u37, u38, u39, u40, u41, u42, u43, u44, u45, u46, u47, u48, u49, u50, u51, u52, u53, u54, u55, u56, u57, u58, u59, u60, u61, u62, u63, u64, u65, u66, u67, u68, u69, u70, u71, u72, u73, u74, u75, u76, u77, u78, u79, u80, u81, u82, u83, u84, u85, u86, u87, u88, u89, u90, u91, u92, u93, u94, u95, u96, u97, u98, u99, u100, u101, u102, u103, u104, u105, u106, u107, u108, u109, u110, u111, u112, u113, u114, u115], []⟩ w := by
  have HL := Lib.hid ht.1
  have HT := Lib.hid ht
  have HZ := Lib.hid hz
  have HB0 := Lib.hid hb0
  have HZK := Lib.hid (hz (ts.getD k tm0) (getD_mem _ _ _ (by rw [HL.out]; exact hk)))
  have HA := Lib.hid ralike_any
  obtain ⟨a9, c9, rfl⟩ := hr.form
  have hml : (ts.map (·.s)).length = n := by rw [List.length_map]; exact HL.out
  unfold StrR at hr
  rw [hml] at hr ⊢
  have HSL := Lib.hid (Own.sl hr)
  have HRC := Lib.hid (fun W (h1 : Sl W a9 n (strs (ts.map (·.s)))) (h2 : PrAt W a2 N2 ps) => rcount_any (ts.map (·.s)) ps (ts.getD k tm0).s a9 n c9 a2 N2 c2 W h1 h2 hn hN2 (fun s h => by obtain ⟨x, hx, rfl⟩ := List.mem_map.1 h; have := (hz x hx).1; omega) (Nat.le_trans HZK.out.1 (by omega)) hm)
  have HP := Lib.hid hps
  have hcb : cntV ((ts.map (·.s)).map keyB) ps (keyB (ts.getD k tm0).s) ≤ 1000001 := Nat.le_trans (cntV_le _ _ _) (by rw [hps.1]; exact hN2)
  clear ht hz hb0 hr hml hps hm
  generalize cntV ((ts.map (·.s)).map keyB) ps (keyB (ts.getD k tm0).s) = cv at *
  obtain ⟨sk, hsk⟩ : ∃ sk, (ts.getD k tm0).s = sk := ⟨_, rfl⟩
  rw [hsk] at HRC HZK ⊢
  have HSK := Lib.hid hsk
  clear hsk
  obtain ⟨_, tb, tq, hrk⟩ := HT.out
  have hixk := fun W => hrk.ix 22 48 Try.underlying22 cellsRTm (by omega) hk c W
  have k0 := hrk.cell k 0 hk (by omega)
  rw [Nat.add_zero] at k0
  simp only [tmC] at k0
  rw [HSK.out] at k0
  have HI0 := Lib.hid k0
  clear hrk k0
  obtain ⟨PP, hPP⟩ : ∃ PP, allowT sk = PP := ⟨_, rfl⟩
  rw [hPP]
  unfold rmC
  dsimp only
  conv => arg 2; whnf
  go_wp2_with fail
  go_loopw [11, 16] (fun v u wr => ∃ (j : Nat) (gd : Bool), u = .int .i64 (j : Int) ∧ v = .bool gd ∧ j ≤ n ∧ (ts.take j).any PP = gd ∧ Below w.heap.size w wr) (fun _ u _ => n - (intOf u).toNat)
  case atStart => exact ⟨0, false, rfl, rfl, Nat.zero_le _, rfl, Below.refl _ _⟩
  case round =>
    obtain ⟨j, gd, rfl, rfl, hjn, hgd, hbl⟩ := hrel
    have HG := Lib.hid hgd
    have HBJ := Lib.hid hbl
    clear hgd hbl
    by_cases hjl : j < n
    · obtain ⟨_, sb, sq, hrj⟩ := HT.out.below HBJ.out
      have hixj := fun W => hrj.ix 22 48 Try.underlying22 cellsRTm (by omega) hjl c W
      have j0 := hrj.cell j 0 hjl (by omega)
      have j1 := hrj.cell j 1 hjl (by omega)
      have j2 := hrj.cell j 2 hjl (by omega)
      rw [Nat.add_zero] at j0
      simp only [tmC] at j0 j1 j2
      have i0 := cell_later HBJ.out HI0.out
      have hsb : sb < wr.heap.size := World.block_lt_of_cell? _ _ j0
      have htb : tb < wr.heap.size := World.block_lt_of_cell? _ _ i0
      have HAT := Lib.hid (any_take_g PP ts j (by rw [HL.out]; exact hjl))
      rw [HG.out] at HAT
      obtain ⟨z1, z2⟩ := HZ.out (ts.getD j tm0) (getD_mem _ _ _ (by rw [HL.out]; exact hjl))
      have hjz : (j : Int) < (n : Int) := by omega
      have HA1 : Hid (∀ W, Calls Try.prog 23 #[.string (ts.getD j tm0).s, .string sk] W fun e w' => e = .returned (.bool (alikeB (ts.getD j tm0).s sk)) ∧ Below W.heap.size W w') := fun W => HA.out _ _ W (by omega) (Nat.le_trans HZK.out.1 (by omega))
      rw [show PP (ts.getD j tm0) = (!(ts.getD j tm0).f && alikeB (ts.getD j tm0).s sk) by rw [← hPP]; rfl] at HAT
      clear hrj z1 z2
      generalize alikeB (ts.getD j tm0).s sk = b1 at *
      generalize ts.getD j tm0 = y at *
      obtain ⟨ys, yt, f⟩ := y
      simp only at j0 j1 j2 HAT HA1
      cases gd with
      | true =>
        have HG2 : Hid ((ts.take (j + 1)).any PP = true) := by rw [Hid, HAT.out]; rfl
        clear HAT
        go_wp2_with fail
        refine wp_region_ext (by kernel_rfl) (by kernel_rfl) ?_
        repeat (go_big_quiet_step (fail))
        refine wpQuiet_nil ?_
        intro _ hw'
        obtain ⟨X9, hw''⟩ := hw'
        subst hw''
        go_wp2_with fail
        go_roundw
        case rel => exact ⟨j + 1, true, by go_num, rfl, by omega, HG2.out, HBJ.out.trans (X9.2.mono HBJ.out.size)⟩
        case measure => simp [intOf]; omega
      | false =>
        cases f with
        | true =>
          have HG2 : Hid ((ts.take (j + 1)).any PP = false) := by rw [Hid, HAT.out]; rfl
          clear HAT
          go_wp2_with fail
          refine wp_region_ext (by kernel_rfl) (by kernel_rfl) ?_
          repeat (go_big_quiet_step (fail))
          refine wpQuiet_nil ?_
          intro _ hw'
          obtain ⟨X9, hw''⟩ := hw'
          subst hw''
          go_wp2_with fail
          go_roundw
          case rel => exact ⟨j + 1, false, by go_num, rfl, by omega, HG2.out, HBJ.out.trans (X9.2.mono HBJ.out.size)⟩
          case measure => simp [intOf]; omega
        | false =>
          cases b1 with
          | false =>
            have HG2 : Hid ((ts.take (j + 1)).any PP = false) := by rw [Hid, HAT.out]; rfl
            clear HAT
            go_wp2_with fail
            refine wp_region_ext (by kernel_rfl) (by kernel_rfl) ?_
            repeat (go_big_quiet_step ((first | (go_at_call 23; exact Calls.ext (HA1.out _)))))
            refine wpQuiet_nil ?_
            intro _ hw'
            obtain ⟨X9, hw''⟩ := hw'
            subst hw''
            go_wp2_with fail
            go_roundw
            case rel => exact ⟨j + 1, false, by go_num, rfl, by omega, HG2.out, HBJ.out.trans (X9.2.mono HBJ.out.size)⟩
            case measure => simp [intOf]; omega
          | true =>
            have HG2 : Hid ((ts.take (j + 1)).any PP = true) := by rw [Hid, HAT.out]; rfl
            clear HAT
            go_wp2_with fail
            refine wp_region_ext (by kernel_rfl) (by kernel_rfl) ?_
            repeat (go_big_quiet_step ((first | (go_at_call 23; exact Calls.ext (HA1.out _)))))
            refine wpQuiet_nil ?_
            intro _ hw'
            obtain ⟨X9, hw''⟩ := hw'
            subst hw''
            go_wp2_with fail
            go_roundw
            case rel => exact ⟨j + 1, true, by go_num, rfl, by omega, HG2.out, HBJ.out.trans (X9.2.mono HBJ.out.size)⟩
            case measure => simp [intOf]; omega
    · obtain rfl : j = n := by omega
      have hgd := HG.out
      rw [List.take_of_length_le (by rw [HL.out]; exact Nat.le_refl _)] at hgd
      have HGD := Lib.hid hgd
      have HB5 := Lib.hid (HB0.out.trans (HBJ.out.mono HB0.out.size))
      have i0 := cell_later HBJ.out HI0.out
      clear hgd HG
      cases gd with
      | false =>
        go_wp2_with fail
        go_ret
        exact ⟨by rw [HGD.out]; rfl, HB5.out⟩
      | true =>
        go_wp2_with fail
        refine (HRC.out _ (HSL.out.below HBJ.out) (HP.out.below HBJ.out)).mono ?_
        rintro e w7 ⟨rfl, hb⟩
        have HB7 := Lib.hid (HB5.out.trans (hb.mono HB5.out.size))
        have HD : Hid (decide (M < cv) = decide ((M : Int) < (cv : Int))) := by rw [Hid, Bool.eq_iff_iff, decide_eq_true_eq, decide_eq_true_eq]; omega
        clear hb
        go_wp2_with fail
        go_ret
        exact ⟨by rw [HGD.out, HD.out]; first | rfl | simp, HB7.out⟩
end Go.Proofs.Ytkodnagneblgaaa
