/- Walk: condition.Print. -/
import Derived.Test.YtmleeodfmmpdgaaGreatDoorQ28
import Derived.Test.YtmleeodfmmpdgaaGreatDoorQ24
import Derived.Test.YtmleeodfmmpdgaaGreatDoorQ21
namespace Go.Proofs.YtmleeodfmmpdgaaGreatDoor
open Go.RowKit
attribute [local go_sem] Ext.cell Ext.frozen
attribute [local go_sem ↓] Go.wp_at_zero Go.wp_at_succ
def condP (c : List (List Rel)) : List UInt8 × Nat := if validC c then (condT c, 0) else ([], 1)
set_option maxRecDepth 20000 in
set_option maxHeartbeats 8000000 in
theorem tcprint_any (v : Value) (cs : List (List Rel)) (w : World) (h : CondAt w v cs) (hl : cs.length ≤ 30) (hT : TabTen w) : Calls Tryz.prog 135 #[v] w fun e w' => e = .returned (.tuple #[.string (bs (condP cs).1), .int .i64 ((condP cs).2 : Nat)]) ∧ Below w.heap.size w w' := by
  have HV := Lib.hid (cvalid_any v cs w h hl)
  obtain ⟨ad, c, f, b, off, rfl, hr, _, _, _, hf⟩ := h.opn
  obtain ⟨n, hnn⟩ : ∃ n, cs.length = n := ⟨_, rfl⟩
  rw [hnn] at hr hl HV ⊢
  cases hv : validC cs with
  | false =>
    have HO : Hid (condP cs = ([], 1)) := by unfold Hid condP; rw [hv]; rfl
    rw [Hid, hv] at HV
    replace HV := Lib.hid HV
    rw [HO.out]
    simp only
    clear hr hf h hnn hT
    go_enter Tryz.func135, Tryz.ntmps135
    go_wp2_with fail
    refine HV.out.mono ?_
    rintro e w2 ⟨rfl, hb⟩
    have HB := Lib.hid hb
    clear hb
    go_wp2_with fail
    go_ret2
    exact ⟨rfl, HB.out⟩
  | true =>
    have HO : Hid (condP cs = (condT cs, 0)) := by unfold Hid condP; rw [hv]; rfl
    have hcf := condF_of hv
    rw [Hid, hv] at HV
    replace HV := Lib.hid HV
    rw [HO.out]
    simp only
    have HLN := Lib.hid hnn
    have HR := Lib.hid hr
    have HF := Lib.hid hf
    have HCF := Lib.hid hcf.each
    have HT := Lib.hid hT
    obtain ⟨i0, hi0, hz0, hz1, hz2⟩ := info_parts infoS
    have HI := Lib.hid hi0
    have HZ0 := Lib.hid hz0
    have HZ1 := Lib.hid hz1
    have HZ2 := Lib.hid hz2
    have HMP : Hid ((cs.map andT) = (cs.map (fun l => bs (andT l))).map (·.data.toList)) := by rw [Hid, List.map_map]; rfl
    have HCT : Hid (Lib.join (cs.map andT) [32, 111, 114, 32] = condT cs) := rfl
    have hcz := condT_le hcf
    have HJ : Hid (∀ W ad n c, Sl W ad n (strs (cs.map (fun l => bs (andT l)))) → n ≤ 1000 → n ≤ c → Calls Tryz.prog 83 #[.slice ad n c, .string ⟨#[32, 111, 114, 32]⟩] W fun e w' => e = .returned (.string (bs (condT cs))) ∧ Below W.heap.size W w') := fun W ad n c hs h1 h2 => by
      rw [← HCT.out, HMP.out]
      exact join_sl ad n c _ W hs (fun e => by rw [List.map_eq_nil_iff] at e; exact hcf.pos e) (by omega) h2 ⟨#[32, 111, 114, 32]⟩ (by rw [← HMP.out]; exact Nat.le_trans hcz (by omega))
    clear h hr hf hnn hT hi0 hz0 hz1 hz2 HMP HCT hcz hcf HO
    go_enter Tryz.func135, Tryz.ntmps135
    go_wp2_with fail
    refine HV.out.mono ?_
    rintro e w2 ⟨rfl, hb⟩
    have HB := Lib.hid hb
    have hzb := hb.size
    clear hb HV
    go_wp2_with fail
    go_loopw [4, 15] (fun u i wr => ∃ (k : Nat) (ad' : Option Addr) (c' : Nat), i = .int .i64 (k : Int) ∧ k ≤ n ∧ u = .slice ad' k c' ∧ wr.ownsRow w.heap.size 9 1 (.slice ad' k c') k (strs ((cs.take k).map (fun l => bs (andT l)))) ∧ Below w.heap.size w wr) (fun _ i _ => n - (intOf i).toNat)
    case atStart => exact ⟨0, none, 0, rfl, Nat.zero_le _, rfl, World.ownsRow_nil _ _ _ _, HB.out⟩
    case round =>
      obtain ⟨k, ad', c', rfl, hkn, rfl, hown, hbl⟩ := hrel
      have HOWN := Lib.hid hown
      have HBL := Lib.hid hbl
      have hzr := hbl.size
      clear hown hbl
      by_cases hlt : k < n
      · have hrr := HR.out.below HBL.out
        have hix := fun W => hrr.ix 48 91 Tryz.underlying48 (by kernel_rfl) (by omega) hlt c W
        rw [Nat.mul_one] at hix
        have c0 : wr.cell? ⟨b, off + k, none⟩ = some (f k 0) := by have := hrr.cell k 0 hlt (by omega); rwa [Nat.mul_one, Nat.add_zero] at this
        have hkl : k < cs.length := by rw [HLN.out]; exact hlt
        have hrow : RowsOf 4 RelC wr (f k 0) cs[k] := RowsOf.map (HF.out k hkl) HBL.out fun _ _ h => h.below HBL.out
        obtain ⟨ad2, c2, f2, b2, off2, hv2, hr2, _, _, _, hf2⟩ := hrow.opn
        rw [hv2] at c0
        have HTS : Hid ((cs.take (k + 1)).map (fun l => bs (andT l)) = (cs.take k).map (fun l => bs (andT l)) ++ [bs (andT cs[k])]) := by
          unfold Hid
          rw [List.take_succ_eq_append_getElem hkl, List.map_append]
          rfl
        obtain ⟨hne, hl6, hrf⟩ := HCF.out cs[k] (List.getElem_mem hkl)
        have HRF := Lib.hid hrf
        have haz := andT_le hl6 hrf
        have HMP2 : Hid ((cs[k].map relT) = (cs[k].map (fun r => bs (relT r))).map (·.data.toList)) := by rw [Hid, List.map_map]; rfl
        have HJ2 : Hid (∀ W ad n c, Sl W ad n (strs (cs[k].map (fun r => bs (relT r)))) → n ≤ 1000 → n ≤ c → Calls Tryz.prog 83 #[.slice ad n c, .string ⟨#[32, 97, 110, 100, 32]⟩] W fun e w' => e = .returned (.string (bs (andT cs[k]))) ∧ Below W.heap.size W w') := fun W ad n c hs h1 h2 => by
          rw [show andT cs[k] = Lib.join (cs[k].map relT) [32, 97, 110, 100, 32] from rfl, HMP2.out]
          exact join_sl ad n c _ W hs (fun e => by rw [List.map_eq_nil_iff] at e; exact hne e) (by omega) h2 ⟨#[32, 97, 110, 100, 32]⟩ (by rw [← HMP2.out]; exact Nat.le_trans haz (by omega))
        have HR2 := Lib.hid hr2
        have HF2 := Lib.hid hf2
        have HTW : Hid (TabTen wr) := HT.out.below HBL.out
        clear hrr hrow hv2 hr2 hf2 hne hrf haz HMP2
        generalize bs (andT cs[k]) = q at *
        generalize cs[k] = ls at *
        obtain ⟨m, hmm⟩ : ∃ m, ls.length = m := ⟨_, rfl⟩
        rw [hmm] at hl6 c0
        rw [Hid, hmm] at HR2
        replace HR2 := Lib.hid HR2
        have HLM := Lib.hid hmm
        clear hmm
        rename World => wo
        go_wp2_with fail
        go_loopw [7, 21] (fun u i wi => ∃ (j : Nat) (ad3 : Option Addr) (c3 : Nat), i = .int .i64 (j : Int) ∧ j ≤ m ∧ u = .slice ad3 j c3 ∧ wi.ownsRow wo.heap.size 9 1 (.slice ad3 j c3) j (strs ((ls.take j).map (fun r => bs (relT r)))) ∧ Below wo.heap.size wo wi) (fun _ i _ => m - (intOf i).toNat)
        case atStart => exact ⟨0, none, 0, rfl, Nat.zero_le _, rfl, World.ownsRow_nil _ _ _ _, Below.refl _ _⟩
        case round =>
          obtain ⟨j, ad3, c3, rfl, hjm, rfl, hown2, hbi⟩ := hrel
          have HOI := Lib.hid hown2
          have HBI := Lib.hid hbi
          have hzi := hbi.size
          clear hown2 hbi
          by_cases hlj : j < m
          · have hrr := HR2.out.below HBI.out
            have hix := fun W => hrr.ix 91 94 Tryz.underlying91 (by kernel_rfl) (by omega) hlj c2 W
            have r0 := hrr.cell j 0 hlj (by omega)
            have r1 := hrr.cell j 1 hlj (by omega)
            have r2 := hrr.cell j 2 hlj (by omega)
            have r3 := hrr.cell j 3 hlj (by omega)
            have hjl : j < ls.length := by rw [HLM.out]; exact hlj
            have hrc := HF2.out j hjl
            have hrc2 := hrc
            obtain ⟨e0, e1, e2, e3⟩ := hrc2
            obtain ⟨ad4, c4, hv4⟩ := RowsOf.shape e3
            rw [e0, Nat.add_zero] at r0
            rw [e1] at r1
            rw [e2] at r2
            rw [hv4] at r3
            have HTS2 : Hid ((ls.take (j + 1)).map (fun r => bs (relT r)) = (ls.take j).map (fun r => bs (relT r)) ++ [bs (relT ls[j])]) := by
              unfold Hid
              rw [List.take_succ_eq_append_getElem hjl, List.map_append]
              rfl
            have HEC : Hid (∀ W, Below wo.heap.size wo W → Calls Tryz.prog 188 #[.agg #[.int .i64 ls[j].op, .int .i64 ls[j].md, .bool ls[j].neg, .slice ad4 ls[j].sp.length c4]] W fun e w' => e = .returned (.string (bs (relT ls[j]))) ∧ Below W.heap.size W w') := fun W g => by
              have := trel_any (f2 j) ls[j] W (hrc.below g) (HRF.out _ (List.getElem_mem hjl)) (HTW.out.below g)
              rwa [e0, e1, e2, hv4] at this
            clear hrr hrc e0 e1 e2 e3 hv4
            generalize bs (relT ls[j]) = q2 at *
            generalize ls[j].op = o1 at *
            generalize ls[j].md = o2 at *
            generalize ls[j].neg = o3 at *
            generalize ls[j].sp.length = o4 at *
            go_wp2_with fail
            refine (HEC.out _ (HBI.out.alloc hzi _)).mono ?_
            rintro e w5 ⟨rfl, hb5⟩
            replace hb5 := ((Below.refl wr.heap.size wr).alloc (Nat.le_refl _) _).trans (hb5.mono (by simp))
            have HOV := Lib.hid (own_below2 HOI.out hb5)
            have HBV := Lib.hid (HBI.out.trans (hb5.mono hzi))
            have hzV := HBV.out.size
            clear hb5 HOI HEC
            go_wp2_with (at_builtin; refine wpList_app 44 9 16 Tryz.underlying44 i0 _ HI.out HZ0.out HZ1.out HZ2.out rfl rfl _ _ rfl wo.heap.size ad3 j c3 _ rfl HOV.out _ _ rfl rfl (by unfold maxLen; omega) (by omega) hzV ?_; intro ad6 c6 w6 hown6 hb6 hg6 hz6; have HOWN6 := Lib.hid hown6; have HB6 := Lib.hid hb6; clear hown6 hb6 hg6 hz6)
            go_roundw
            case rel => exact ⟨j + 1, ad6, c6, by go_num, by omega, rfl, by rw [HTS2.out, strs_app]; exact HOWN6.out, HBV.out.trans HB6.out⟩
            case measure => simp [intOf]; omega
          · obtain rfl : j = m := by omega
            have HE : Hid (wr.ownsRow wo.heap.size 9 1 (.slice ad3 j c3) j (strs (ls.map (fun r => bs (relT r))))) := by
              have := HOI.out
              rwa [List.take_of_length_le (by rw [HLM.out]; exact Nat.le_refl _)] at this
            have HJ3 := Lib.hid (HJ2.out wr ad3 j c3 (Own.sl HE.out) (by omega) (own_le HE.out))
            clear HJ2 HE HOI
            go_wp2_with fail
            refine HJ3.out.mono ?_
            rintro e w7 ⟨rfl, hb7⟩
            have hb8 : Below wo.heap.size wo w7 := HBI.out.trans (hb7.mono hzi)
            have HOV := Lib.hid (own_below2 HOWN.out hb8)
            have HBV := Lib.hid (HBL.out.trans (hb8.mono hzr))
            have hzV := HBV.out.size
            clear hb7 hb8 HOWN HJ3
            go_wp2_with (at_builtin; refine wpList_app 44 9 16 Tryz.underlying44 i0 _ HI.out HZ0.out HZ1.out HZ2.out rfl rfl _ _ rfl w.heap.size ad' k c' _ rfl HOV.out _ _ rfl rfl (by unfold maxLen; omega) (by omega) hzV ?_; intro ad9 c9 w9 hown9 hb9 hg9 hz9; have HOWN9 := Lib.hid hown9; have HB9 := Lib.hid hb9; clear hown9 hb9 hg9 hz9)
            go_roundw
            case rel => exact ⟨k + 1, ad9, c9, by go_num, by omega, rfl, by rw [HTS.out, strs_app]; exact HOWN9.out, HBV.out.trans HB9.out⟩
            case measure => simp [intOf]; omega
      · obtain rfl : k = n := by omega
        have HE : Hid (wr.ownsRow w.heap.size 9 1 (.slice ad' k c') k (strs (cs.map (fun l => bs (andT l))))) := by
          have := HOWN.out
          rwa [List.take_of_length_le (by rw [HLN.out]; exact Nat.le_refl _)] at this
        have HJ2 := Lib.hid (HJ.out wr ad' k c' (Own.sl HE.out) (by omega) (own_le HE.out))
        go_wp2_with fail
        refine HJ2.out.mono ?_
        rintro e w5 ⟨rfl, hb5⟩
        have HB5 : Hid (Below w.heap.size w w5) := HBL.out.trans (hb5.mono hzr)
        clear hb5
        go_wp2_with fail
        go_ret2
        exact ⟨rfl, HB5.out⟩
theorem own_nocap {w : World} {base : Nat} {E : TypeId} {ad : Option Addr} {n c : Nat} {xs : List Value} (h : w.ownsRow base E 1 (.slice ad n c) n xs) (e : ad = none) : c = 0 := by
  rcases h.2 with ⟨h1, h0⟩ | ⟨g, cap, cur, h1, _⟩
  · injection h1
  · injection h1 with h2
    rw [e] at h2
    cases h2
theorem lit_own (W0 : World) (xs : List ByteArray) (cs : Array Value) (hcs : cs = (xs.map Value.string).toArray) (_h0 : xs ≠ []) (hn : xs.length ≤ 1000) (base : Nat) (hb : base ≤ W0.heap.size) (B : Nat) (hB : W0.heap.size = B) :
    (W0.alloc (.cells cs 9)).ownsRow base 9 1 (.slice (some ⟨B, 0, none⟩) xs.length xs.length) xs.length (strs xs) := by
  subst hB hcs
  refine ⟨by simp [strs_length], .inr ⟨W0.heap.size, xs.length, (strs xs).toArray, rfl, hb, ?_, Nat.le_refl _, by unfold maxLen; omega, by simp [strs_length], ?_⟩⟩
  · show (W0.heap.push _)[W0.heap.size]? = _
    simp [strs]
  · simp [strs_length, List.take_of_length_le]
theorem PB.grown {B b : Nat} {l : List UInt8} {w w' : World} (h : PB B b l w) {base : Nat} {v : Value} {k : Nat} {xs : List Value} (hr : w.ownsRow base 9 1 v k xs) (hg : w.grownBy w' v.ownBlock) : PB B b l w' := by
  obtain ⟨h1, h2⟩ := h
  have hne0 : some b ≠ v.ownBlock := by
    have hb : ∃ cs, w.heap[b]? = some (.cells cs 84 (0, 0)) := by
      rcases h1 with ⟨_, _, h, _⟩ | ⟨_, _, h, _⟩
      · exact ⟨_, h⟩
      · exact ⟨_, h⟩
    obtain ⟨cs, hb⟩ := hb
    exact fun e => Lib.ownBlock_ne hr hb (by decide) e.symm
  have key : ∀ p, Lib.BuilderAt 84 5 B b p (Lib.byteCells l) w → Lib.BuilderAt 84 5 B b p (Lib.byteCells l) w' := by
    rintro p h
    have hlt := h.lt
    obtain ⟨hB, u, hbk, hown, hne⟩ := h
    refine ⟨hB, u, (hg.block b hlt hne0).trans hbk, hown.kept hg ?_, hne⟩
    rcases hr.2 with ⟨rfl, _⟩ | ⟨g, cap, cur, rfl, _, hb2, _⟩
    · exact Decidable.em _
    · exact .inr (Lib.ownBlock_ne hown hb2 (by decide))
  have hlt : b < w.heap.size := by
    rcases h1 with h | h
    · exact h.lt
    · exact h.lt
  refine ⟨h1.imp (key _) (key _), fun e => ?_⟩
  rw [show w'.cell? ⟨b, 1, none⟩ = w.cell? ⟨b, 1, none⟩ by unfold World.cell?; rw [hg.block b hlt hne0]]
  exact h2 e
set_option maxRecDepth 20000 in
set_option maxHeartbeats 8000000 in
theorem pitem_any (B b : Nat) (t : List UInt8) (ad : Option Addr) (k c : Nat) (xs : List ByteArray) (v : Value) (l : List ByteArray) (w : World) (h : PB B b t w) (hx : xs ≠ []) (hB : B ≤ w.heap.size) (hown : w.ownsRow B 9 1 (.slice ad k c) k (strs xs))
    (hk : k ≤ 1000) (hv : RowsOf 1 OneS w v l) (hn : l.length ≤ 1000) (hz : ∀ s ∈ l, s.size ≤ 200000) (hD : TabDeB w) (hl : (itemT (xs.map (·.data.toList)) l).length ≤ 100000000) (ht : t.length ≤ 1000000000000) :
    Calls Tryz.prog 82 #[.pointer (some ⟨b, 0, none⟩), .slice ad k c, v] w fun e w' => e = .returned (.tuple #[]) ∧ PB B b (t ++ itemT (xs.map (·.data.toList)) l) w' ∧ Below B w w' ∧ Oth b w w' := by
  have HQ := Lib.hid (tquoted_any v l w hv hn hz hD)
  have HE : Hid ((xs ++ l.map (fun s => bs (qT s))).map (·.data.toList) = xs.map (·.data.toList) ++ l.map qT) := by
    rw [Hid, List.map_append, List.map_map]
    rfl
  have HLI : Hid (itemT (xs.map (·.data.toList)) l = lineT [9] ((xs ++ l.map (fun s => bs (qT s))).map (·.data.toList))) := by rw [Hid, HE.out]; rfl
  rw [HLI.out] at hl ⊢
  have HP := Lib.hid h
  have HO := Lib.hid hown
  have HLL : Hid ((l.map (fun s => bs (qT s))).length = l.length) := List.length_map _
  have HNE : Hid (xs ++ l.map (fun s => bs (qT s)) ≠ []) := fun e => hx (List.append_eq_nil_iff.1 e).1
  have HSA : Hid (strs xs ++ strs (l.map (fun s => bs (qT s))) = strs (xs ++ l.map (fun s => bs (qT s)))) := by unfold Hid strs; rw [List.map_append]
  have HXL : Hid (xs.length = k) := by have := hown.1; rwa [strs_length, Nat.mul_one] at this
  clear h hown hv hz hD HE HLI hx
  generalize l.map (fun s => bs (qT s)) = ql at *
  generalize l.length = n at *
  go_enter Tryz.func82, Tryz.ntmps82
  go_wp2_with fail
  refine HQ.out.mono ?_
  rintro e w2 ⟨ad2, c2, rfl, hq, hb2⟩
  have HQ2 := Lib.hid hq
  have HP2 := Lib.hid (HP.out.kept hb2)
  have HO2 := Lib.hid (own_below2 HO.out hb2)
  have HB2 : Hid (Below B w w2) := hb2.mono hB
  have HOT2 : Hid (Oth b w w2) := Oth.below hb2
  have hz2 := HB2.out.size
  clear hq hb2 HQ HP HO
  go_wp2_with (at_builtin; go_loud (refine wpList_app_strs rfl (.tmp 7) (.tmp 9) rfl B ad k c (strs xs) rfl HO2.out ad2 n c2 ql rfl (Own.sl HQ2.out) (own_nocap HQ2.out) (by omega) (by omega) ?_; intro ad3 c3 w3 hown3 hg3 _; have HO3 := Lib.hid hown3; have HP3 := Lib.hid (HP2.out.grown HO2.out hg3); have HOT3 : Hid (Oth b w w3) := HOT2.out.trans (Oth.grown HO2.out (.inr rfl) hg3); have HB3 : Hid (Below B w w3) := HB2.out.grown hg3 (Nat.le_trans hB hz2) (fun j hj => (World.ownsRow.lt HO2.out j hj).1); clear hown3 hg3))
  rw [Hid, HSA.out] at HO3
  replace HO3 := Lib.hid HO3
  refine (line_any B b t ⟨#[9]⟩ ad3 (k + n) c3 (xs ++ ql) w3 HP3.out (Own.sl HO3.out) HNE.out (by omega) (own_le HO3.out) (by decide) (Nat.le_trans hB HB3.out.size) hl ht).mono ?_
  rintro e w4 ⟨rfl, hp4, hb4, ho4⟩
  have HP4 := Lib.hid hp4
  have HOT4 : Hid (Oth b w w4) := HOT3.out.trans ho4
  have HB4 : Hid (Below B w w4) := HB3.out.trans hb4
  clear hp4 hb4 ho4
  go_wp2_with fail
  go_end0
  exact ⟨rfl, HP4.out, HB4.out, HOT4.out⟩
theorem own_first {w : World} {base : Nat} {ad : Option Addr} {c : Nat} {s : ByteArray} (h : w.ownsRow base 9 1 (.slice ad 1 c) 1 (strs [s])) :
    ∃ g, base ≤ g ∧ (∀ W, (Instr.indexAt 44 (.slice ad 1 c) (.int .i64 0)).run Tryz.prog W = .ok (.pointer (some ⟨g, 0, none⟩)) W) ∧ w.cell? ⟨g, 0, none⟩ = some (.string s) ∧ g < w.heap.size := by
  rcases h.2 with ⟨e1, e0⟩ | ⟨g, cap, cur, e1, hg, hb, hc, hm, hs, ht⟩
  · omega
  · injection e1 with i1 i2 i3
    subst i1
    have hc0 : w.cell? ⟨g, 0, none⟩ = some (.string s) := by
      have h1 : cur.toList[0]? = some (.string s) := by
        have h2 : (cur.toList.take (1 * 1))[0]? = (strs [s])[0]? := by rw [ht]
        rw [List.getElem?_take] at h2
        simpa [strs] using h2
      simp only [World.cell?, hb]
      rw [← Array.getElem?_toList]
      exact h1
    have hlt := World.block_lt_of_cell? _ _ hc0
    have hr : Rw w (some ⟨g, 0, none⟩) 1 1 (fun _ _ => .string s) g 0 := ⟨by decide, fun _ => rfl, fun i j hi hj => by
      obtain rfl : i = 0 := by omega
      obtain rfl : j = 0 := by omega
      exact hc0⟩
    have hix := hr.ix (P := Tryz.prog) 44 9 Tryz.underlying44 (by kernel_rfl) (by decide) (i := 0) (by decide) c
    simp only [Nat.zero_mul, Nat.add_zero] at hix
    exact ⟨g, hg, fun W => hix W, hc0, hlt⟩
set_option maxRecDepth 20000 in
set_option maxHeartbeats 8000000 in
theorem prules_any (w0 : World) (b : Nat) (t : List UInt8) (kw : ByteArray) (v : Value) (l : List (ByteArray × List (List Rel))) (w : World) (h : RulesAt w0 v l) (h0 : Below w0.heap.size w0 w) (hp : PB w0.heap.size b t w)
    (hok : ∀ r ∈ l, okRule r = true) (hl : l.length ≤ 1000) (hc : ∀ r ∈ l, r.2.length ≤ 30) (hkw : kw.size ≤ 10) (ht : t.length ≤ 500000000000) (hT : TabTen w0) (hD : TabDeB w0) :
    Calls Tryz.prog 80 #[.pointer (some ⟨b, 0, none⟩), .string kw, v] w fun e w' => e = .returned (.tuple #[]) ∧ PB w0.heap.size b (t ++ rulesT kw.data.toList l) w' ∧ Below w0.heap.size w w' ∧ Oth b w w' := by
  obtain ⟨ad, c, f, bb, off, rfl, hr, _, _, _, hf⟩ := h.opn
  have hrl : ∀ k, (rulesT kw.data.toList (l.take k)).length ≤ 160000000 := fun k => by
    have h1 := rulesT_le (l := l.take k) (fun r hr => hok r (List.mem_of_mem_take hr)) kw.data.toList (by rw [sz_data]; exact hkw)
    rw [List.length_take] at h1
    have h2 := Nat.mul_le_mul_right 160000 (show min k l.length ≤ 1000 by omega)
    omega
  obtain ⟨n, hnn⟩ : ∃ n, l.length = n := ⟨_, rfl⟩
  rw [hnn] at hr hl ⊢
  have HLN := Lib.hid hnn
  have HR := Lib.hid hr
  have HF := Lib.hid hf
  have HP := Lib.hid hp
  have H0 := Lib.hid h0
  have hz0 := h0.size
  have HRL := Lib.hid hrl
  have HOK := Lib.hid hok
  have HCC := Lib.hid hc
  have HTT := Lib.hid hT
  have HDD := Lib.hid hD
  clear h hr hf hnn hp h0 hrl hok hc hT hD
  go_enter Tryz.func80, Tryz.ntmps80
  go_wp2_with fail
  go_loopw [12] (fun i wr => ∃ k : Nat, i = .int .i64 (k : Int) ∧ k ≤ n ∧ PB w0.heap.size b (t ++ rulesT kw.data.toList (l.take k)) wr ∧ Below w0.heap.size w wr ∧ Oth b w wr) (fun i _ => n - (intOf i).toNat)
  case atStart => exact ⟨0, rfl, Nat.zero_le _, by have := HP.out; simpa [rulesT] using this, Below.refl _ _, Oth.refl _ _⟩
  case round =>
    obtain ⟨k, rfl, hkn, hp, hbl, hot⟩ := hrel
    have HPW := Lib.hid hp
    have HOT := Lib.hid hot
    have hbp := hp.lt
    have HBL := Lib.hid hbl
    have HB0 : Hid (Below w0.heap.size w0 wr) := H0.out.trans hbl
    have hzr := HB0.out.size
    clear hp hbl hot
    by_cases hlt : k < n
    · have hrr := HR.out.below HB0.out
      have hix := fun W => hrr.ix 38 51 Tryz.underlying38 (by kernel_rfl) (by omega) hlt c W
      have c0 := hrr.cell k 0 hlt (by omega)
      have c1 := hrr.cell k 1 hlt (by omega)
      have hkl : k < l.length := by rw [HLN.out]; exact hlt
      obtain ⟨e0, e1⟩ := HF.out k hkl
      obtain ⟨ad4, c4, hv4⟩ := RowsOf.shape e1
      have hok := HOK.out l[k] (List.getElem_mem hkl)
      have HCP : Hid (∀ W, Below w0.heap.size w0 W → Calls Tryz.prog 135 #[.slice ad4 l[k].2.length c4] W fun e w' => e = .returned (.tuple #[.string (bs (condT l[k].2)), .int .i64 (0 : Nat)]) ∧ Below W.heap.size W w') := fun W g => by
        have hvc : validC l[k].2 = true := by unfold okRule at hok; rw [Bool.and_eq_true] at hok; exact hok.2
        have := tcprint_any (f k 1) l[k].2 W (e1.below g) (HCC.out _ (List.getElem_mem hkl)) (HTT.out.below g)
        rwa [show condP l[k].2 = (condT l[k].2, 0) by unfold condP; rw [hvc]; rfl, hv4] at this
      have hcz : (bs (condT l[k].2)).size ≤ 13000 := by
        unfold okRule at hok
        rw [Bool.and_eq_true] at hok
        rw [bs_size]
        exact condT_le (condF_of hok.2)
      have hlz := ruleT_le hok kw.data.toList (by rw [sz_data]; exact hkw)
      have HTS : Hid (rulesT kw.data.toList (l.take (k + 1)) = rulesT kw.data.toList (l.take k) ++ lineT [9] ([kw, l[k].1, bs (qT (bs (condT l[k].2)))].map (·.data.toList))) := by
        unfold Hid rulesT
        rw [List.take_succ_eq_append_getElem hkl, List.flatMap_append]
        simp only [List.flatMap_cons, List.flatMap_nil, List.append_nil]
        rfl
      have htl := HRL.out k
      rw [e0, Nat.add_zero] at c0
      rw [hv4] at c1
      replace hlz : (lineT [9] ([kw, l[k].1, bs (qT (bs (condT l[k].2)))].map (·.data.toList))).length ≤ 160000 := hlz
      clear hrr e0 e1 hv4 hok
      generalize rulesT kw.data.toList (l.take k) = T0 at *
      generalize bs (condT l[k].2) = C at *
      generalize l[k].1 = r1 at *
      generalize l[k].2.length = m4 at *
      obtain ⟨A, hA⟩ : ∃ A, wr.heap.size = A := ⟨_, rfl⟩
      have hAb : A ≠ b := by omega
      go_wp2_with fail
      have HBX : Hid (Below w0.heap.size w0 (wr.alloc (.cells #[.string r1, .slice ad4 m4 c4] 51))) := HB0.out.alloc hzr _
      refine (HCP.out _ HBX.out).mono ?_
      rintro e wa ⟨rfl, hb⟩
      have k0 : wa.cell? ⟨A, 0, none⟩ = some (.string r1) := by rw [← hA, hb.cell (p := ⟨wr.heap.size, 0, none⟩) (by simp)]; simp [go_sem]
      have k1 : wa.cell? ⟨A, 1, none⟩ = some (.slice ad4 m4 c4) := by rw [← hA, hb.cell (p := ⟨wr.heap.size, 1, none⟩) (by simp)]; simp [go_sem]
      have hAz : A < wa.heap.size := World.block_lt_of_cell? _ _ k0
      have HPA := Lib.hid (HPW.out.kept (((Below.refl wr.heap.size wr).alloc (Nat.le_refl _) (.cells #[.string r1, .slice ad4 m4 c4] 51)).trans (hb.mono (by simp))))
      have HB : Hid (Below w0.heap.size w0 wa) := HBX.out.trans (hb.mono HBX.out.size)
      have HOA : Hid (Oth b w wa) := HOT.out.trans (Oth.below (((Below.refl wr.heap.size wr).alloc (Nat.le_refl _) (.cells #[.string r1, .slice ad4 m4 c4] 51)).trans (hb.mono (by simp))))
      have HXA : Hid (Cel wa A 51 [.string r1, .slice ad4 m4 c4]) := by rw [← hA]; exact (Cel.new wr [.string r1, .slice ad4 m4 c4] 51).below (hb.mono (by simp))
      have HWA : Hid (Below w0.heap.size wr wa) := (((Below.refl wr.heap.size wr).alloc (Nat.le_refl _) (.cells #[.string r1, .slice ad4 m4 c4] 51)).trans (hb.mono (by simp))).mono HB0.out.size
      clear hb HPW HCP HBX c0 c1 hix
      go_wp2_with fail
      refine wp_region_held_drew (S := (fun w' => w'.cell? ⟨A, 0, none⟩ = some (.string r1) ∧ w'.cell? ⟨A, 1, none⟩ = some (.slice ad4 m4 c4))) (by kernel_rfl) ?_ (fun hHeld => ?_)
      · go_keep
      refine wpAnyH_take (i := 0) (v := ?_) rfl (by kernel_rfl) (by kernel_rfl) (by kernel_rfl) (fun _ _ _ h => h) (Or.inl ⟨by kernel_rfl, ?_⟩) hHeld ?_
      rotate_left
      · (intro wx hSw; (try dsimp only at hSw); go_simp; try with_reducible rfl)
      refine wpAnyH_take (i := 1) (v := ?_) rfl (by kernel_rfl) (by kernel_rfl) (by kernel_rfl) (fun _ _ _ h => h) (Or.inl ⟨by kernel_rfl, ?_⟩) hHeld ?_
      rotate_left
      · (intro wx hSw; (try dsimp only at hSw); go_simp; try with_reducible rfl)
      refine wpAnyH_take (i := 2) (v := ?_) rfl (by kernel_rfl) (by kernel_rfl) (by kernel_rfl) (fun _ _ _ h => h) (Or.inl ⟨by kernel_rfl, ?_⟩) hHeld ?_
      rotate_left
      · (intro wx hSw; (try dsimp only at hSw); go_simp; try with_reducible rfl)
      refine wpAnyH_take (i := 3) (v := ?_) rfl (by kernel_rfl) (by kernel_rfl) (by kernel_rfl) (fun _ _ _ h => h) (Or.inl ⟨by kernel_rfl, ?_⟩) hHeld ?_
      rotate_left
      · (intro wx hSw; (try dsimp only at hSw); go_simp; try with_reducible rfl)
      refine wpAnyH_take (i := 4) (v := ?_) rfl (by kernel_rfl) (by kernel_rfl) (by kernel_rfl) (fun _ _ _ h => h) (Or.inl ⟨by kernel_rfl, ?_⟩) hHeld ?_
      rotate_left
      · (intro wx hSw; (try dsimp only at hSw); go_simp; try with_reducible rfl)
      simp only [Act.put, List.getElem_toArray, List.getElem_cons_succ, List.getElem_cons_zero, List.setIfInBounds_toArray, List.set_cons_zero, List.set_cons_succ]
      replace HPA : Hid (PB w0.heap.size b (t ++ T0) wa.drew) := HPA.out.kept (Below.refl _ _).drew
      replace HB : Hid (Below w0.heap.size w0 wa.drew) := HB.out.drew
      replace HOA : Hid (Oth b w wa.drew) := HOA.out.trans (Oth.below (Below.refl _ _).drew)
      replace HXA : Hid (Cel wa.drew A 51 [.string r1, .slice ad4 m4 c4]) := HXA.out
      replace HWA : Hid (Below w0.heap.size wr wa.drew) := HWA.out.drew
      replace k0 : wa.drew.cell? ⟨A, 0, none⟩ = some (.string r1) := k0
      replace k1 : wa.drew.cell? ⟨A, 1, none⟩ = some (.slice ad4 m4 c4) := k1
      replace hAz : A < wa.drew.heap.size := hAz
      generalize wa.drew = wd at *
      refine wpAnyH_ready (rs := [5]) (by kernel_rfl) (by simp) ?_
      refine AllReadyH.cons rfl (fun K hK => ?_) AllReadyH.nil
      go_simp
      clear hHeld
      refine hK.out _ _ ?_ (fun hHeld => ?_)
      · exact ⟨cell_al k0, cell_al k1⟩
      clear hK K
      have HR1 := Lib.hid (lit_rows wd [C] #[.string C] 9 rfl (by simp) (fun s hs => by rw [List.mem_singleton.1 hs]; omega) wd.heap.size rfl)
      refine wpAnyH_ready (rs := [6]) (by kernel_rfl) (by simp) ?_
      refine AllReadyH.cons rfl (fun K hK => ?_) AllReadyH.nil
      go_simp
      have hb1 := (Below.refl wd.heap.size wd).alloc (Nat.le_refl _) (.cells #[.string C] 9)
      refine (tquoted_any _ [C] _ HR1.out (by simp) (fun s hs => by rw [List.mem_singleton.1 hs]; omega) (HDD.out.below (HB.out.trans (hb1.mono HB.out.size)))).mono ?_
      rintro e w5 ⟨ad5, c5, rfl, hq5, hb⟩
      replace hb := hb1.trans (hb.mono (by simp))
      replace k0 := (Below.cell hb (p := ⟨A, 0, none⟩) hAz).trans k0
      replace k1 := (Below.cell hb (p := ⟨A, 1, none⟩) hAz).trans k1
      replace HPA : Hid (PB w0.heap.size b (t ++ T0) w5) := HPA.out.kept hb
      have HB5 : Hid (Below w0.heap.size w0 w5) := HB.out.trans (hb.mono HB.out.size)
      replace HWA : Hid (Below w0.heap.size wr w5) := HWA.out.trans (hb.mono HB.out.size)
      replace HOA : Hid (Oth b w w5) := HOA.out.trans (Oth.below hb)
      replace HXA : Hid (Cel w5 A 51 [.string r1, .slice ad4 m4 c4]) := HXA.out.below hb
      replace HB := HB5
      replace hAz : A < w5.heap.size := Nat.lt_of_lt_of_le hAz hb.size
      obtain ⟨g5, hg5, hix5, hc5, hgz⟩ := own_first hq5
      clear hb hb1 hq5 HR1
      go_simp
      clear hHeld
      refine hK.out _ _ ?_ (fun hHeld => ?_)
      · exact ⟨k0, k1⟩
      clear hK K
      refine wpAnyH_take (i := 7) (v := ?_) rfl (by kernel_rfl) (by kernel_rfl) (by kernel_rfl) (fun _ _ _ h => h) (Or.inl ⟨by kernel_rfl, ?_⟩) hHeld ?_
      rotate_left
      · (intro wx hSw; (try dsimp only at hSw); go_simp; try with_reducible rfl)
      simp only [Act.put, List.getElem_toArray, List.getElem_cons_succ, List.getElem_cons_zero, List.setIfInBounds_toArray, List.set_cons_zero, List.set_cons_succ]
      refine wpAnyH_ready (rs := [8]) (by kernel_rfl) (by simp) ?_
      refine AllReadyH.cons rfl (fun K hK => ?_) AllReadyH.nil
      go_simp
      clear hHeld
      refine hK.out _ _ ?_ (fun hHeld => ?_)
      · exact ⟨k0, k1⟩
      clear hK K
      refine wpAnyH_ready (rs := [9]) (by kernel_rfl) (by simp) ?_
      refine AllReadyH.cons rfl (fun K hK => ?_) AllReadyH.nil
      go_simp
      clear hHeld
      refine hK.out _ _ ?_ (fun hHeld => ?_)
      · exact ⟨cell_al k0, cell_al k1⟩
      clear hK K
      refine wpAnyH_ready (rs := [10]) (by kernel_rfl) (by simp) ?_
      refine AllReadyH.cons rfl (fun K hK => ?_) AllReadyH.nil
      go_simp
      have hb1 := (Below.refl w5.heap.size w5).alloc (Nat.le_refl _) (.cells #[.string kw, .string r1, .string (bs (qT C))] 9)
      have HLO := lit_own w5 [kw, r1, bs (qT C)] #[.string kw, .string r1, .string (bs (qT C))] rfl (by simp) (by simp) w0.heap.size HB.out.size w5.heap.size rfl
      refine (line_any w0.heap.size b (t ++ T0) ⟨#[9]⟩ _ 3 3 [kw, r1, bs (qT C)] _ (HPA.out.kept hb1) (Own.sl HLO) (by simp) (by omega) (by omega) (by decide) (Nat.le_trans HB.out.size (by simp)) (Nat.le_trans hlz (by omega)) (by rw [List.length_append]; omega)).mono ?_
      rintro e w6 ⟨rfl, hp6, hb6, ho6⟩
      have HP6 := Lib.hid hp6
      have HWB : Hid (Below w0.heap.size wr w6) := HWA.out.trans ((hb1.mono HB.out.size).trans hb6)
      have HOB : Hid (Oth b w w6) := HOA.out.trans ((Oth.below hb1).trans ho6)
      have hx6 := (HXA.out.below hb1).oth ho6 hAb (by decide) (by decide)
      replace k0 := hx6.cell 0
      replace k1 := hx6.cell 1
      simp only [List.getElem?_cons_zero, List.getElem?_cons_succ] at k0 k1
      clear hp6 hb6 hb1 HLO ho6 hx6
      go_simp
      clear hHeld
      refine hK.out _ _ ?_ (fun hHeld => ?_)
      · exact ⟨k0, k1⟩
      clear hK K
      refine wpAnyH_done (by kernel_rfl) ?_ _
      clear hHeld
      go_wp2_with fail
      go_roundw
      case rel => exact ⟨k + 1, by go_num, by omega, by rw [HTS.out, ← List.append_assoc]; exact HP6.out, HBL.out.trans HWB.out, HOB.out⟩
      case measure => simp [intOf]; omega
    · obtain rfl : k = n := by omega
      have HE : Hid (PB w0.heap.size b (t ++ rulesT kw.data.toList l) wr) := by
        have := HPW.out
        rwa [List.take_of_length_le (by rw [HLN.out]; exact Nat.le_refl _)] at this
      go_wp2_with fail
      go_end0
      exact ⟨rfl, HE.out, HBL.out, HOT.out⟩
structure LS (w0 w : World) (b A : Nat) (cl : List Value) (t : List UInt8) (wx : World) : Prop where
  pb : PB w0.heap.size b t wx
  cel : Cel wx A 46 cl
  bel : Below w0.heap.size w wx
  oth : Oth b w wx
  all : Below w0.heap.size w0 wx
theorem strs_app2 (a b c : List ByteArray) : strs (a ++ b ++ c) = strs a ++ strs b ++ strs c := by unfold strs; rw [List.map_append, List.map_append]
section
variable {w0 w : World} {b A : Nat} {cl : List Value} {t : List UInt8} {wx : World}
theorem LS.step (h : LS w0 w b A cl t wx) (hA : A ≠ b) {t' : List UInt8} {w' : World} (hp : PB w0.heap.size b t' w') (hb : Below w0.heap.size wx w') (ho : Oth b wx w') : LS w0 w b A cl t' w' :=
  ⟨hp, h.cel.oth ho hA (by decide) (by decide), h.bel.trans hb, h.oth.trans ho, h.all.trans hb⟩
theorem LS.below (h : LS w0 w b A cl t wx) {w' : World} (hb : Below wx.heap.size wx w') : LS w0 w b A cl t w' :=
  ⟨h.pb.kept hb, h.cel.below hb, h.bel.trans (hb.mono h.all.size), h.oth.trans (Oth.below hb), h.all.trans (hb.mono h.all.size)⟩
theorem LS.alloc (h : LS w0 w b A cl t wx) (o : Obj) : LS w0 w b A cl t (wx.alloc o) := h.below ((Below.refl _ _).alloc (Nat.le_refl _) _)
theorem LS.drew (h : LS w0 w b A cl t wx) : LS w0 w b A cl t wx.drew := h.below (Below.refl _ _).drew
theorem LS.app (h : LS w0 w b A cl t wx) (hA : A ≠ b) {v : Value} {k : Nat} {xs : List Value} (hown : wx.ownsRow w0.heap.size 9 1 v k xs) {w' : World} (hg : wx.grownBy w' v.ownBlock) : LS w0 w b A cl t w' :=
  h.step hA (h.pb.grown hown hg) ((Below.refl _ _).grown hg h.all.size (fun j hj => (World.ownsRow.lt hown j hj).1)) (Oth.grown hown (.inr rfl) hg)
theorem LS.write (h : LS w0 w b A cl t wx) (hA : A ≠ b) (s : ByteArray) (hs : s.size ≠ 0) (hz : s.size ≤ 1000000) (ht : t.length ≤ 1000000000000) :
    Calls Tryz.prog 79 #[.pointer (some ⟨b, 0, none⟩), .string s] wx fun e w' => e = .returned (.tuple #[.int .i64 s.size, .nilIface]) ∧ LS w0 w b A cl (t ++ s.data.toList) w' :=
  (pwrite_any w0.heap.size b t s wx h.pb hs (by omega) h.all.size).mono fun _ _ ⟨h1, h2, h3, h4⟩ => ⟨h1, h.step hA h2 h3 h4⟩
theorem LS.line (h : LS w0 w b A cl t wx) (hA : A ≠ b) (id : ByteArray) (hi : id.size ≤ 1) (xs : List ByteArray) (cs : Array Value) (hcs : cs = (xs.map Value.string).toArray) (h0 : xs ≠ []) (hn : xs.length ≤ 1000) (B : Nat) (hB : wx.heap.size = B)
    (hl : (lineT id.data.toList (xs.map (·.data.toList))).length ≤ 100000000) (ht : t.length ≤ 1000000000000) :
    Calls Tryz.prog 33 #[.pointer (some ⟨b, 0, none⟩), .string id, .slice (some ⟨B, 0, none⟩) xs.length xs.length] (wx.alloc (.cells cs 9)) fun e w' => e = .returned (.tuple #[]) ∧ LS w0 w b A cl (t ++ lineT id.data.toList (xs.map (·.data.toList))) w' := by
  have h' := h.alloc (.cells cs 9)
  exact (line_any w0.heap.size b t id _ _ _ xs _ h'.pb (Own.sl (lit_own wx xs cs hcs h0 hn w0.heap.size h.all.size B hB)) h0 (by omega) (Nat.le_refl _) hi h'.all.size hl ht).mono fun _ _ ⟨h1, h2, h3, h4⟩ => ⟨h1, h'.step hA h2 h3 h4⟩
theorem LS.item (h : LS w0 w b A cl t wx) (hA : A ≠ b) (xs : List ByteArray) (cs : Array Value) (hcs : cs = (xs.map Value.string).toArray) (h0 : xs ≠ []) (hn : xs.length ≤ 1000) (B : Nat) (hB : wx.heap.size = B)
    (l : List ByteArray) (ds : Array Value) (hds : ds = (l.map Value.string).toArray) (hn2 : l.length ≤ 1000) (hz : ∀ s ∈ l, s.size ≤ 200000) (C : Nat) (hC : wx.heap.size + 1 = C) (hD : TabDeB w0)
    (hl : (itemT (xs.map (·.data.toList)) l).length ≤ 100000000) (ht : t.length ≤ 1000000000000) :
    Calls Tryz.prog 82 #[.pointer (some ⟨b, 0, none⟩), .slice (some ⟨B, 0, none⟩) xs.length xs.length, .slice (some ⟨C, 0, none⟩) l.length l.length] ((wx.alloc (.cells cs 9)).alloc (.cells ds 9)) fun e w' => e = .returned (.tuple #[]) ∧ LS w0 w b A cl (t ++ itemT (xs.map (·.data.toList)) l) w' := by
  have h' := h.alloc (.cells cs 9)
  have h'' := h'.alloc (.cells ds 9)
  exact (pitem_any w0.heap.size b t _ _ _ xs _ l _ h''.pb h0 h''.all.size (World.ownsRow.alloc (lit_own wx xs cs hcs h0 hn w0.heap.size h.all.size B hB) _) hn (lit_rows _ l ds _ hds hn2 (fun s hs => Nat.le_trans (hz s hs) (by omega)) C (by simp; omega)) hn2 hz (hD.below h''.all) hl ht).mono fun _ _ ⟨h1, h2, h3, h4⟩ => ⟨h1, h''.step hA h2 h3 h4⟩
theorem LS.names (h : LS w0 w b A cl t wx) (hA : A ≠ b) (xs : List ByteArray) (cs : Array Value) (hcs : cs = (xs.map Value.string).toArray) (h0 : xs ≠ []) (hn : xs.length ≤ 1000) (B : Nat) (hB : wx.heap.size = B)
    (v : Value) (l : List ByteArray) (hv : RowsOf 1 OneS w0 v l) (hn2 : l.length ≤ 1000) (hz : ∀ s ∈ l, s.size ≤ 200000) (hD : TabDeB w0)
    (hl : (itemT (xs.map (·.data.toList)) l).length ≤ 100000000) (ht : t.length ≤ 1000000000000) :
    Calls Tryz.prog 82 #[.pointer (some ⟨b, 0, none⟩), .slice (some ⟨B, 0, none⟩) xs.length xs.length, v] (wx.alloc (.cells cs 9)) fun e w' => e = .returned (.tuple #[]) ∧ LS w0 w b A cl (t ++ itemT (xs.map (·.data.toList)) l) w' := by
  have h' := h.alloc (.cells cs 9)
  exact (pitem_any w0.heap.size b t _ _ _ xs _ l _ h'.pb h0 h'.all.size (lit_own wx xs cs hcs h0 hn w0.heap.size h.all.size B hB) hn (hv.map h'.all fun _ _ h => h) hn2 hz (hD.below h'.all) hl ht).mono fun _ _ ⟨h1, h2, h3, h4⟩ => ⟨h1, h'.step hA h2 h3 h4⟩
theorem LS.rules (h : LS w0 w b A cl t wx) (hA : A ≠ b) (kw : ByteArray) (v : Value) (l : List (ByteArray × List (List Rel))) (hv : RulesAt w0 v l) (hok : ∀ r ∈ l, okRule r = true) (hl : l.length ≤ 1000) (hc : ∀ r ∈ l, r.2.length ≤ 30) (hkw : kw.size ≤ 10) (ht : t.length ≤ 500000000000) (hT : TabTen w0) (hD : TabDeB w0) :
    Calls Tryz.prog 80 #[.pointer (some ⟨b, 0, none⟩), .string kw, v] wx fun e w' => e = .returned (.tuple #[]) ∧ LS w0 w b A cl (t ++ rulesT kw.data.toList l) w' :=
  (prules_any w0 b t kw v l wx hv h.all h.pb hok hl hc hkw ht hT hD).mono fun _ _ ⟨h1, h2, h3, h4⟩ => ⟨h1, h.step hA h2 h3 h4⟩
end
structure SmL (y : Lc) : Prop where
  s7 : ∀ s ∈ [y.tag, y.par, y.dir, y.dec, y.grp, y.mi, y.pct], s.size ≤ 200000
  mo : y.months.length ≤ 1000 ∧ ∀ s ∈ y.months, s.size ≤ 200000
  da : y.days.length ≤ 1000 ∧ ∀ s ∈ y.days, s.size ≤ 200000
  li : y.lists.length ≤ 1000 ∧ ∀ x ∈ y.lists, ∀ s ∈ [x.style, x.two, x.start, x.mid, x.fin], s.size ≤ 200000
  un : y.units.length ≤ 1000 ∧ ∀ x ∈ y.units, ∀ s ∈ [x.unit, x.cls, x.pat], s.size ≤ 200000
  dt : y.dates.length ≤ 1000 ∧ ∀ x ∈ y.dates, ∀ s ∈ [x.skel, x.pat], s.size ≤ 200000
  ca : y.card.length ≤ 1000 ∧ ∀ r ∈ y.card, r.1.size ≤ 200000 ∧ r.2.length ≤ 30
  od : y.ord.length ≤ 1000 ∧ ∀ r ∈ y.ord, r.1.size ≤ 200000 ∧ r.2.length ≤ 30
theorem uniqV_range {α β : Type} [DecidableEq β] (key : α → β) (l : List α) (d : α) : decide (((List.range l.length).map fun i => key (l.getD i d)).Nodup) = uniqV key l := by
  unfold uniqV
  rw [show (List.range l.length).map (fun i => key (l.getD i d)) = l.map key from ?_]
  apply List.ext_getElem
  · simp
  · intro i h1 h2
    simp only [List.length_map, List.length_range] at h1
    simp [List.getD_eq_getElem?_getD, List.getElem?_eq_getElem h1]
theorem every_list {α : Type} (q : α → Bool) (l : List α) (d : α) : (!anyP (fun i => !q (l.getD i d)) l.length) = l.all q := by
  rw [anyP_list (fun x => !q x), all_any, Bool.not_not]
theorem getD_eq {α : Type} (l : List α) (i : Nat) (d : α) (h : i < l.length) : l.getD i d = l[i] := by rw [List.getD_eq_getElem?_getD, List.getElem?_eq_getElem h]; rfl
theorem uniq_Rule (v : Value) (l : List (ByteArray × List (List Rel))) (w : World) (h : RowsOf 2 RuleC w v l) (hn : l.length ≤ 1000) (hz : ∀ r ∈ l, r.1.size ≤ 200000 ∧ r.2.length ≤ 30) :
    Calls Tryz.prog 147 #[v, .func (.func 148) #[] #[]] w fun e w' => e = .returned (.bool (uniqV (fun r : ByteArray × List (List Rel) => r.1) l)) ∧ Below w.heap.size w w' := by
  obtain ⟨ad, c, f, b, off, rfl, hr, _, _, _, hf⟩ := h.opn
  rw [← uniqV_range (fun r : ByteArray × List (List Rel) => r.1) l (.empty, [])]
  refine unique_Rule (fun i => (l.getD i (.empty, [])).1) ad l.length c f b off w hr (by omega) (fun i hi => ?_) (fun i hi => ?_)
  · obtain ⟨h0, h1⟩ := hf i hi
    obtain ⟨ad2, c2, hv2⟩ := RowsOf.shape h1
    exact ⟨by rw [h0, getD_eq l i _ hi], ad2, _, c2, hv2⟩
  · simp only [getD_eq l i _ hi]
    exact Nat.le_trans (hz _ (List.getElem_mem hi)).1 (by omega)
theorem all_Rule (v : Value) (l : List (ByteArray × List (List Rel))) (w : World) (h : RowsOf 2 RuleC w v l) (hz : ∀ r ∈ l, r.1.size ≤ 200000 ∧ r.2.length ≤ 30) :
    Calls Tryz.prog 149 #[v, .func (.func 150) #[] #[]] w fun e w' => e = .returned (.bool (l.all okRule)) ∧ Below w.heap.size w w' := by
  obtain ⟨ad, c, f, b, off, rfl, hr, _, _, _, hf⟩ := h.opn
  rw [← every_list okRule l (.empty, [])]
  refine every_Rule (fun i => okRule (l.getD i (.empty, []))) 150 (enters_of Tryz.func150 (by kernel_rfl) rfl) ad l.length c f b off w hr (fun W i hi hb => ?_)
  · rw [getD_eq l i _ hi]
    exact rules1_any (f i) l[i] W (show RuleC W (f i) l[i] from RuleC.below (hf i hi) hb) (hz _ (List.getElem_mem hi)).2
set_option maxRecDepth 20000 in
set_option maxHeartbeats 8000000 in
theorem trules_any (v : Value) (l : List (ByteArray × List (List Rel))) (w : World) (h : RulesAt w v l) (hn : l.length ≤ 1000) (hz : ∀ r ∈ l, r.1.size ≤ 200000 ∧ r.2.length ≤ 30) :
    Calls Tryz.prog 97 #[v] w fun e w' => e = .returned (.bool (okRules l)) ∧ Below w.heap.size w w' := by
  have HA := Lib.hid (uniq_Rule v l w h hn hz)
  have HE : Hid (∀ W, Below w.heap.size w W → Calls Tryz.prog 149 #[v, .func (.func 150) #[] #[]] W fun e w' => e = .returned (.bool (l.all okRule)) ∧ Below W.heap.size W w') := fun W hb => all_Rule v l W (RulesAt.below h hb) hz
  have HO : Hid (okRules l = (uniqV (fun r : ByteArray × List (List Rel) => r.1) l && l.all okRule)) := rfl
  rw [HO.out]
  clear h hn hz HO
  generalize uniqV (fun r : ByteArray × List (List Rel) => r.1) l = p at *
  generalize l.all okRule = q at *
  go_enter Tryz.func97, Tryz.ntmps97
  go_wp2_with fail
  refine HA.out.mono ?_
  rintro e w2 ⟨rfl, hb⟩
  have HB := Lib.hid hb
  clear hb
  cases p with
  | false =>
    go_wp2_with fail
    go_ret
    exact ⟨rfl, HB.out⟩
  | true =>
    go_wp2_with fail
    refine (HE.out _ HB.out).mono ?_
    rintro e w3 ⟨rfl, hb⟩
    replace HB := Lib.hid (HB.out.trans (hb.mono HB.out.size))
    go_wp2_with fail
    go_ret
    exact ⟨by cases q <;> rfl, HB.out⟩
theorem uniq_Lp (v : Value) (l : List (Lp)) (w : World) (h : RowsOf 5 LpC w v l) (hn : l.length ≤ 1000) (hz : ∀ x ∈ l, ∀ s ∈ [x.style, x.two, x.start, x.mid, x.fin], s.size ≤ 200000) :
    Calls Tryz.prog 153 #[v, .func (.func 154) #[] #[]] w fun e w' => e = .returned (.bool (uniqV (Lp.style) l)) ∧ Below w.heap.size w w' := by
  obtain ⟨ad, c, f, b, off, rfl, hr, _, _, _, hf⟩ := h.opn
  rw [← uniqV_range (Lp.style) l default]
  refine unique_Lp (fun i => (l.getD i default).style) (fun i => (l.getD i default).two) (fun i => (l.getD i default).start) (fun i => (l.getD i default).mid) (fun i => (l.getD i default).fin) ad l.length c f b off w hr (by omega) (fun i hi => ?_) (fun i hi => ?_)
  · have h := hf i hi
    simp only [getD_eq l i _ hi]
    exact ⟨h.c0.1, h.c1.1, h.c2.1, h.c3.1, h.c4.1⟩
  · simp only [getD_eq l i _ hi]
    exact Nat.le_trans (hz _ (List.getElem_mem hi) _ (List.mem_cons_self ..)) (by omega)
theorem all_Lp (v : Value) (l : List (Lp)) (w : World) (h : RowsOf 5 LpC w v l) (hz : ∀ x ∈ l, ∀ s ∈ [x.style, x.two, x.start, x.mid, x.fin], s.size ≤ 200000) (hU : TabU w) :
    Calls Tryz.prog 159 #[v, .func (.func 160) #[] #[]] w fun e w' => e = .returned (.bool (l.all okLp)) ∧ Below w.heap.size w w' := by
  obtain ⟨ad, c, f, b, off, rfl, hr, _, _, _, hf⟩ := h.opn
  rw [← every_list okLp l default]
  refine every_lp (fun i => okLp (l.getD i default)) 160 (enters_of Tryz.func160 (by kernel_rfl) rfl) ad l.length c f b off w hr (fun W i hi hb => ?_)
  · rw [getD_eq l i _ hi]
    exact pat1_any (f i) l[i] W (hf i hi).at (hz _ (List.getElem_mem hi)) (hU.below hb)
theorem uniq_Up (v : Value) (l : List (Up)) (w : World) (h : RowsOf 3 UpC w v l) (hn : l.length ≤ 1000) (hz : ∀ x ∈ l, ∀ s ∈ [x.unit, x.cls, x.pat], s.size ≤ 200000) :
    Calls Tryz.prog 155 #[v, .func (.func 156) #[] #[]] w fun e w' => e = .returned (.bool (uniqV (fun u : Up => (u.unit, u.cls)) l)) ∧ Below w.heap.size w w' := by
  obtain ⟨ad, c, f, b, off, rfl, hr, _, _, _, hf⟩ := h.opn
  rw [← uniqV_range (fun u : Up => (u.unit, u.cls)) l default]
  refine unique_Up (fun i => (l.getD i default).unit) (fun i => (l.getD i default).cls) (fun i => (l.getD i default).pat) ad l.length c f b off w hr (by omega) (fun i hi => ?_) (fun i hi => ?_)
  · have h := hf i hi
    simp only [getD_eq l i _ hi]
    exact ⟨h.c0.1, h.c1.1, h.c2.1⟩
  · simp only [getD_eq l i _ hi]
    exact ⟨Nat.le_trans (hz _ (List.getElem_mem hi) _ (List.mem_cons_self ..)) (by omega), Nat.le_trans (hz _ (List.getElem_mem hi) _ (List.mem_cons_of_mem _ (List.mem_cons_self ..))) (by omega)⟩
theorem all_Up (v : Value) (l : List (Up)) (w : World) (h : RowsOf 3 UpC w v l) (hz : ∀ x ∈ l, ∀ s ∈ [x.unit, x.cls, x.pat], s.size ≤ 200000) (hU : TabU w) :
    Calls Tryz.prog 161 #[v, .func (.func 162) #[] #[]] w fun e w' => e = .returned (.bool (l.all okUp)) ∧ Below w.heap.size w w' := by
  obtain ⟨ad, c, f, b, off, rfl, hr, _, _, _, hf⟩ := h.opn
  rw [← every_list okUp l default]
  refine every_up (fun i => okUp (l.getD i default)) 162 (enters_of Tryz.func162 (by kernel_rfl) rfl) ad l.length c f b off w hr (fun W i hi hb => ?_)
  · rw [getD_eq l i _ hi]
    exact pat2_any (f i) l[i] W (hf i hi).at (hz _ (List.getElem_mem hi)) (hU.below hb)
theorem uniq_Dp (v : Value) (l : List (Dp)) (w : World) (h : RowsOf 2 DpC w v l) (hn : l.length ≤ 1000) (hz : ∀ x ∈ l, ∀ s ∈ [x.skel, x.pat], s.size ≤ 200000) :
    Calls Tryz.prog 157 #[v, .func (.func 158) #[] #[]] w fun e w' => e = .returned (.bool (uniqV (Dp.skel) l)) ∧ Below w.heap.size w w' := by
  obtain ⟨ad, c, f, b, off, rfl, hr, _, _, _, hf⟩ := h.opn
  rw [← uniqV_range (Dp.skel) l default]
  refine unique_Dp (fun i => (l.getD i default).skel) (fun i => (l.getD i default).pat) ad l.length c f b off w hr (by omega) (fun i hi => ?_) (fun i hi => ?_)
  · have h := hf i hi
    simp only [getD_eq l i _ hi]
    exact ⟨h.c0.1, h.c1.1⟩
  · simp only [getD_eq l i _ hi]
    exact Nat.le_trans (hz _ (List.getElem_mem hi) _ (List.mem_cons_self ..)) (by omega)
theorem all_Dp (v : Value) (l : List (Dp)) (w : World) (h : RowsOf 2 DpC w v l) (hz : ∀ x ∈ l, ∀ s ∈ [x.skel, x.pat], s.size ≤ 200000) (hU : TabU w) :
    Calls Tryz.prog 164 #[v, .func (.func 165) #[] #[]] w fun e w' => e = .returned (.bool (l.all okDp)) ∧ Below w.heap.size w w' := by
  obtain ⟨ad, c, f, b, off, rfl, hr, _, _, _, hf⟩ := h.opn
  rw [← every_list okDp l default]
  refine every_dp (fun i => okDp (l.getD i default)) 165 (enters_of Tryz.func165 (by kernel_rfl) rfl) ad l.length c f b off w hr (fun W i hi hb => ?_)
  · rw [getD_eq l i _ hi]
    exact pat3_any (f i) l[i] W (hf i hi).at (hz _ (List.getElem_mem hi)) (hU.below hb)
theorem str_empty {s : ByteArray} (h : s = .empty) : (s.toList == ([] : List UInt8)) = true := by rw [h, ByteArray.toList_eq]; rfl
theorem str_empty2 {s : ByteArray} (h : s = .empty) : s.toList.isEmpty = true := by rw [h, ByteArray.toList_eq]; rfl
theorem str_full2 {s : ByteArray} (h : ¬ s = .empty) : s.toList.isEmpty = false := by
  rw [List.isEmpty_eq_false_iff]
  intro e
  exact h (ByteArray.ext (by simpa [ByteArray.toList_eq] using e))
theorem str_full {s : ByteArray} (h : ¬ s = .empty) : (s.toList == ([] : List UInt8)) = false := by
  have := str_full2 h
  rw [List.isEmpty_eq_false_iff] at this
  rwa [beq_eq_false_iff_ne]
set_option maxRecDepth 20000 in
set_option maxHeartbeats 8000000 in
theorem tsymbols_any (y : Lc) (w : World) (hs : SmL y) (_h9 : W6i y.pri) (_h10 : W6i y.sec) (hU : TabU w) : Calls Tryz.prog 98 #[.agg #[.string y.dec, .string y.grp, .string y.mi, .string y.pct, .int .i64 y.pri, .int .i64 y.sec]] w fun e w' => e = .returned (.bool (okSym y)) ∧ Below w.heap.size w w' := by
  have hsz : ∀ s ∈ [y.dec, y.grp, y.mi, y.pct], s.size ≤ 200000 := fun s h => hs.s7 s (List.mem_append_right [y.tag, y.par, y.dir] h)
  have HT : Hid (∀ W0, Below w.heap.size w W0 → ∀ b, W0.heap.size = b → Calls Tryz.prog 96 #[.slice (some ⟨b, 0, none⟩) 4 4] (W0.alloc (.cells #[.string (y.dec), .string (y.grp), .string (y.mi), .string (y.pct)] 9)) fun e w' => e = .returned (.bool (okXs [y.dec, y.grp, y.mi, y.pct])) ∧ Below W0.heap.size W0 w') := fun W0 hb0 b hb => texts_lit 9 [y.dec, y.grp, y.mi, y.pct] _ rfl (by simp) hsz W0 (hU.below hb0) b hb
  have HO : Hid (okSym y = (decide (y.dec = .empty ∧ y.grp = .empty ∧ y.mi = .empty ∧ y.pct = .empty ∧ y.pri = 0 ∧ y.sec = 0) || (decide (y.dec ≠ .empty) && (okXs [y.dec, y.grp, y.mi, y.pct] && (decide (0 ≤ y.pri) && (decide (y.pri ≤ 9) && (decide (0 ≤ y.sec) && decide (y.sec ≤ 9)))))))) := rfl
  rw [HO.out]
  clear hs _h9 _h10 hU hsz HO
  generalize okXs [y.dec, y.grp, y.mi, y.pct] = X at *
  generalize y.dec = a0 at *
  generalize y.grp = a1 at *
  generalize y.mi = a2 at *
  generalize y.pct = a3 at *
  generalize y.pri = pr at *
  generalize y.sec = se at *
  go_enter Tryz.func98, Tryz.ntmps98
  go_upto_region 1 with (fail)
  refine wp_at_worldF ?_
  intro wa hwa
  have HX : Hid (Cel wa w.heap.size 40 [.string a0, .string a1, .string a2, .string a3, .int .i64 pr, .int .i64 se]) := by rw [hwa]; exact Cel.new w [.string a0, .string a1, .string a2, .string a3, .int .i64 pr, .int .i64 se] 40
  have HB : Hid (Below w.heap.size w wa) := by rw [hwa]; exact (Below.refl _ _).alloc (Nat.le_refl _) _
  have hz := HB.out.size
  clear hwa
  have x0 := HX.out.cell 0
  have x1 := HX.out.cell 1
  have x2 := HX.out.cell 2
  have x3 := HX.out.cell 3
  have x4 := HX.out.cell 4
  have x5 := HX.out.cell 5
  have hlx := HX.out.lt
  simp only [List.getElem?_cons_zero, List.getElem?_cons_succ] at x0 x1 x2 x3 x4 x5
  by_cases e0 : a0 = .empty
  · have d_e0 := str_empty e0
    have i_e0 := str_empty2 e0
    have l_e0 := List.isEmpty_iff.1 i_e0
    by_cases e1 : a1 = .empty
    · have d_e1 := str_empty e1
      have i_e1 := str_empty2 e1
      have l_e1 := List.isEmpty_iff.1 i_e1
      by_cases e2 : a2 = .empty
      · have d_e2 := str_empty e2
        have i_e2 := str_empty2 e2
        have l_e2 := List.isEmpty_iff.1 i_e2
        by_cases e3 : a3 = .empty
        · have d_e3 := str_empty e3
          have i_e3 := str_empty2 e3
          have l_e3 := List.isEmpty_iff.1 i_e3
          by_cases f4 : pr = 0
          · have d_f4 := decide_eq_true f4
            have b_f4 := beq_iff_eq.2 f4
            by_cases f5 : se = 0
            · have d_f5 := decide_eq_true f5
              have b_f5 := beq_iff_eq.2 f5
              go_wp2_with fail
              go_ret
              exact ⟨by first | (simp [e0, e1, e2, e3, f4, f5]; done) | (simp [e0, e1, e2, e3, f4, f5]; intros; omega), HB.out⟩
            · have d_f5 := decide_eq_false f5
              have b_f5 := beq_eq_false_iff_ne.2 f5
              go_wp2_with fail
              go_ret
              exact ⟨by first | (simp [e0, e1, e2, e3, f4, f5]; done) | (simp [e0, e1, e2, e3, f4, f5]; intros; omega), HB.out⟩
          · have d_f4 := decide_eq_false f4
            have b_f4 := beq_eq_false_iff_ne.2 f4
            go_wp2_with fail
            go_ret
            exact ⟨by first | (simp [e0, e1, e2, e3, f4]; done) | (simp [e0, e1, e2, e3, f4]; intros; omega), HB.out⟩
        · have d_e3 := str_full e3
          have i_e3 := str_full2 e3
          have l_e3 := List.isEmpty_eq_false_iff.1 i_e3
          go_wp2_with fail
          go_ret
          exact ⟨by first | (simp [e0, e1, e2, e3]; done) | (simp [e0, e1, e2, e3]; intros; omega), HB.out⟩
      · have d_e2 := str_full e2
        have i_e2 := str_full2 e2
        have l_e2 := List.isEmpty_eq_false_iff.1 i_e2
        go_wp2_with fail
        go_ret
        exact ⟨by first | (simp [e0, e1, e2]; done) | (simp [e0, e1, e2]; intros; omega), HB.out⟩
    · have d_e1 := str_full e1
      have i_e1 := str_full2 e1
      have l_e1 := List.isEmpty_eq_false_iff.1 i_e1
      go_wp2_with fail
      go_ret
      exact ⟨by first | (simp [e0, e1]; done) | (simp [e0, e1]; intros; omega), HB.out⟩
  · have d_e0 := str_full e0
    have i_e0 := str_full2 e0
    have l_e0 := List.isEmpty_eq_false_iff.1 i_e0
    go_wp2_with fail
    refine (HT.out _ HB.out _ (by first | rfl | simp)).mono ?_
    rintro e w3 ⟨rfl, hb⟩
    replace HX := Lib.hid (HX.out.below hb)
    replace HB := Lib.hid (HB.out.trans (hb.mono HB.out.size))
    clear hb hlx x0 x1 x2 x3 x4 x5
    have x0 := HX.out.cell 0
    have x1 := HX.out.cell 1
    have x2 := HX.out.cell 2
    have x3 := HX.out.cell 3
    have x4 := HX.out.cell 4
    have x5 := HX.out.cell 5
    have hlx := HX.out.lt
    simp only [List.getElem?_cons_zero, List.getElem?_cons_succ] at x0 x1 x2 x3 x4 x5
    cases X with
    | false =>
      go_wp2_with fail
      go_ret
      exact ⟨by first | (simp [e0]; done) | (simp [e0]; intros; omega), HB.out⟩
    | true =>
      by_cases g1 : 0 ≤ pr
      · have d_g1 := decide_eq_true g1
        by_cases g2 : pr ≤ 9
        · have d_g2 := decide_eq_true g2
          by_cases g3 : 0 ≤ se
          · have d_g3 := decide_eq_true g3
            by_cases g4 : se ≤ 9
            · have d_g4 := decide_eq_true g4
              go_wp2_with fail
              go_ret
              exact ⟨by first | (simp [e0, g1, g2, g3, g4]; done) | (simp [e0, g1, g2, g3, g4]; intros; omega), HB.out⟩
            · have d_g4 := decide_eq_false g4
              go_wp2_with fail
              go_ret
              exact ⟨by first | (simp [e0, g1, g2, g3, g4]; done) | (simp [e0, g1, g2, g3, g4]; intros; omega), HB.out⟩
          · have d_g3 := decide_eq_false g3
            go_wp2_with fail
            go_ret
            exact ⟨by first | (simp [e0, g1, g2]; done) | (simp [e0, g1, g2]; intros; omega), HB.out⟩
        · have d_g2 := decide_eq_false g2
          go_wp2_with fail
          go_ret
          exact ⟨by first | (simp [e0, g1]; done) | (simp [e0, g1]; intros; omega), HB.out⟩
      · have d_g1 := decide_eq_false g1
        go_wp2_with fail
        go_ret
        exact ⟨by first | (simp [e0]; done) | (simp [e0]; intros; omega), HB.out⟩
end Go.Proofs.YtmleeodfmmpdgaaGreatDoor
