/- GlossaryCase: plain facts and walk. -/
import Derived.Test.YtkodnagneblgaaaH2
import Derived.Test.YtkodnagneblgaaaGP
namespace Go.Proofs.Ytkodnagneblgaaa
open Go.RowKit Go.Maps Go.Sort
attribute [local go_sem] Ext.cell Ext.frozen
attribute [local go_sem ↓] Go.wp_at_zero Go.wp_at_succ
theorem pf_up (ts : List Tm) (s t : ByteArray) : pfindings ts (upB s) (upB t) = pfindings ts s t := by
  unfold pfindings cntS cntT
  rw [upB_words, upB_words]
theorem err_up (ts : List Tm) (s t : ByteArray) (hs : s.size ≤ 300) (ht : t.size ≤ 300) : errV ts (upB s) (upB t) = errV ts s t := by
  have h1 := upB_size s
  have h2 := upB_size t
  unfold errV
  rw [if_neg (show ¬ (20000 < (upB s).size ∨ 20000 < (upB t).size) by omega), if_neg (show ¬ (20000 < s.size ∨ 20000 < t.size) by omega)]
theorem res_up (ts : List Tm) (s t : ByteArray) (hs : s.size ≤ 300) (ht : t.size ≤ 300) : resV ts (upB s) (upB t) (pfindings ts (upB s) (upB t)) = resV ts s t (pfindings ts s t) := by
  have h1 := upB_size s
  have h2 := upB_size t
  rw [pf_up]
  unfold resV
  rw [if_neg (show ¬ (20000 < (upB s).size ∨ 20000 < (upB t).size) by omega), if_neg (show ¬ (20000 < s.size ∨ 20000 < t.size) by omega)]
theorem res_mem (ts : List Tm) (s t : ByteArray) (h : ts.length ≤ 30) : ∀ p ∈ resV ts s t (pfindings ts s t), p.1 ≤ 1000 ∧ p.2 ≤ 1000 := fun p hp => by
  have hp : p ∈ pfindings ts s t := by
    unfold resV at hp
    split at hp
    · split at hp
      · cases hp
      · exact hp
    · cases hp
  obtain ⟨h1, ⟨h2, _⟩ | ⟨h2, _⟩⟩ := mem_chkF hp <;> omega
theorem res_len (ts : List Tm) (s t : ByteArray) (h : ts.length ≤ 30) : (resV ts s t (pfindings ts s t)).length ≤ 60 := by
  have hl : (pfindings ts s t).length ≤ 60 := by
    have := chkF_len (missV ts (cntS ts s) (cntT ts t)) (wrongV ts (cntS ts s) (cntT ts t)) ts.length
    unfold pfindings
    omega
  unfold resV
  split
  · split
    · simp
    · exact hl
  · simp
set_option maxRecDepth 100000 in
set_option maxHeartbeats 8000000 in
theorem glossaryCase_walk (ad : Option Addr) (n c : Nat) (ts : List Tm) (source target : ByteArray) (w : World) (ht : TmAt w ad n ts) (hn : n ≤ 9223372036854775807) (hs : source.size ≤ 9223372036854775807) (htg : target.size ≤ 9223372036854775807) :
    Calls Try.prog 4 #[.slice ad n c, .string source, .string target] w fun e w' => e = .returned (.bool true) ∧ Below w.heap.size w w' := by
  have HT := Lib.hid ht
  have HL := Lib.hid ht.1
  have HAW := Lib.hid awake_any
  have HF := Lib.hid (fun W (h : TmAt W ad n ts) => few_any ts ad n c W h hn)
  have HFI := Lib.hid (@fewT_iff ts)
  clear ht
  generalize fewT ts = fw at *
  go_enter Try.func4, Try.ntmps4
  go_wp2_with fail
  refine (HAW.out _).mono ?_
  rintro e w1 ⟨rfl, hb⟩
  have HB1 := Lib.hid hb
  clear hb
  go_wp2_with fail
  refine (HF.out _ (HT.out.below HB1.out)).mono ?_
  rintro e _ ⟨rfl, rfl⟩
  cases fw with
  | false =>
    go_wp2_with fail
    refine (HAW.out _).mono ?_
    rintro e w9 ⟨rfl, hb⟩
    have HB9 := Lib.hid (HB1.out.trans (hb.mono HB1.out.size))
    clear hb
    go_wp2_with fail
    go_ret
    exact ⟨rfl, HB9.out⟩
  | true =>
    obtain ⟨hf1, hf2⟩ := HFI.out rfl
    have hn30 : n ≤ 30 := by have := HL.out; omega
    have HF2 := Lib.hid hf2
    clear hf2 HFI
    by_cases h1 : 300 < source.size
    · have h1z : (300 : Int) < (source.size : Int) := by omega
      have h1d : decide ((300 : Int) < (source.size : Int)) = true := decide_eq_true h1z
      go_wp2_with fail
      refine (HAW.out _).mono ?_
      rintro e w9 ⟨rfl, hb⟩
      have HB9 := Lib.hid (HB1.out.trans (hb.mono HB1.out.size))
      clear hb
      go_wp2_with fail
      go_ret
      exact ⟨rfl, HB9.out⟩
    · have h1z : ¬ (300 : Int) < (source.size : Int) := by omega
      have h1d : decide ((300 : Int) < (source.size : Int)) = false := decide_eq_false h1z
      by_cases h2 : 300 < target.size
      · have h2z : (300 : Int) < (target.size : Int) := by omega
        have h2d : decide ((300 : Int) < (target.size : Int)) = true := decide_eq_true h2z
        go_wp2_with fail
        refine (HAW.out _).mono ?_
        rintro e w9 ⟨rfl, hb⟩
        have HB9 := Lib.hid (HB1.out.trans (hb.mono HB1.out.size))
        clear hb
        go_wp2_with fail
        go_ret
        exact ⟨rfl, HB9.out⟩
      · have h2z : ¬ (300 : Int) < (target.size : Int) := by omega
        have h2d : decide ((300 : Int) < (target.size : Int)) = false := decide_eq_false h2z
        have HTO := Lib.hid (fun W (h : TmAt W ad n ts) => to_any ts ad n c W h (by omega))
        have HPC := Lib.hid (fun a1 c1 W (h : TmAt W a1 n ts) => pcheck_any ts source target a1 n c1 W h (by omega) (fun x hx => by have := HF2.out x hx; omega))
        have HPU := Lib.hid (fun a1 c1 W (h : TmAt W a1 n ts) => pcheck_any ts (upB source) (upB target) a1 n c1 W h (by omega) (fun x hx => by have := HF2.out x hx; omega))
        rw [err_up ts source target (by omega) (by omega), res_up ts source target (by omega) (by omega)] at HPU
        have HU1 := Lib.hid (fun W => upper_any source W (by omega))
        have HU2 := Lib.hid (fun W => upper_any target W (by omega))
        have HRM := Lib.hid (res_mem ts source target (by omega))
        have hrl := res_len ts source target (by omega)
        unfold ChkPost at HPC HPU
        generalize errV ts source target = er at *
        generalize resV ts source target (pfindings ts source target) = fs at *
        obtain ⟨F, hF⟩ : ∃ F, fs.length = F := ⟨_, rfl⟩
        rw [hF] at HPC HPU hrl
        have HSF := Lib.hid (fun a c a' c' W (h1 : PrAt W a F fs) (h2 : PrAt W a' F fs) => same_eq fs HRM.out a F c a' c' W h1 h2 (by omega))
        have HFR := Lib.hid (fun a c W (h1 : PrAt W a F fs) => from_any fs a F c W h1 (by omega))
        clear hF HRM
        go_wp2_with fail
        refine (HTO.out _ (HT.out.below HB1.out)).mono ?_
        rintro e w2 ⟨a2, c2, rfl, htr, hb⟩
        have HB2 := Lib.hid (HB1.out.trans (hb.mono HB1.out.size))
        have HR2 := Lib.hid (TmR.at htr)
        clear htr hb HB1
        go_wp2_with fail
        refine (HPC.out a2 c2 _ HR2.out).mono ?_
        rintro e w3 ⟨a3, c3, rfl, hfn, hb⟩
        have HB3 := Lib.hid (HB2.out.trans (hb.mono HB2.out.size))
        have HP3 := Lib.hid (FnR.at hfn)
        clear hfn hb HB2 HR2
        go_wp2_with fail
        refine (HTO.out _ (HT.out.below HB3.out)).mono ?_
        rintro e w4 ⟨a4, c4, rfl, htr, hb⟩
        have HB4 := Lib.hid (HB3.out.trans (hb.mono HB3.out.size))
        have HP4 := Lib.hid (HP3.out.below hb)
        have HR4 := Lib.hid (TmR.at htr)
        clear htr hb HB3 HP3
        go_wp2_with fail
        refine (HU1.out _).mono ?_
        rintro e w5 ⟨rfl, hb⟩
        have HB5 := Lib.hid (HB4.out.trans (hb.mono HB4.out.size))
        have HP5 := Lib.hid (HP4.out.below hb)
        have HR5 := Lib.hid (HR4.out.below hb)
        clear hb HB4 HP4 HR4
        go_wp2_with fail
        refine (HU2.out _).mono ?_
        rintro e w6 ⟨rfl, hb⟩
        have HB6 := Lib.hid (HB5.out.trans (hb.mono HB5.out.size))
        have HP6 := Lib.hid (HP5.out.below hb)
        have HR6 := Lib.hid (HR5.out.below hb)
        clear hb HB5 HP5 HR5
        go_wp2_with fail
        refine (HPU.out a4 c4 _ HR6.out).mono ?_
        rintro e w7 ⟨a7, c7, rfl, hfn, hb⟩
        have HB7 := Lib.hid (HB6.out.trans (hb.mono HB6.out.size))
        have HP7 := Lib.hid (HP6.out.below hb)
        have HQ7 := Lib.hid (FnR.at hfn)
        clear hfn hb HB6 HP6 HR6
        go_wp2_with fail
        refine (HFR.out a3 c3 _ HP7.out).mono ?_
        rintro e w8 ⟨a8, c8, rfl, hfn, hb⟩
        have HB8 := Lib.hid (HB7.out.trans (hb.mono HB7.out.size))
        have HQ8 := Lib.hid (HQ7.out.below hb)
        have HS8 := Lib.hid (FnR.at hfn)
        clear hfn hb HB7 HP7 HQ7
        go_wp2_with fail
        refine (HFR.out a7 c7 _ HQ8.out).mono ?_
        rintro e w9 ⟨a9, c9, rfl, hfn, hb⟩
        have HB9 := Lib.hid (HB8.out.trans (hb.mono HB8.out.size))
        have HS9 := Lib.hid (HS8.out.below hb)
        have HT9 := Lib.hid (FnR.at hfn)
        clear hfn hb HB8 HQ8 HS8
        go_wp2_with fail
        refine (HSF.out a8 c8 a9 c9 _ HS9.out HT9.out).mono ?_
        rintro e wA ⟨rfl, hb⟩
        have HBA := Lib.hid (HB9.out.trans (hb.mono HB9.out.size))
        clear hb
        go_wp2_with fail
        go_ret
        exact ⟨rfl, HBA.out⟩
end Go.Proofs.Ytkodnagneblgaaa
