/- GlossaryNone: plain facts; the first part of the walk. -/
import Derived.Test.YtkodnagneblgaaaG8
import Derived.Test.YtkodnagneblgaaaGA0
namespace Go.Proofs.Ytkodnagneblgaaa
open Go.RowKit Go.Maps Go.Sort
attribute [local go_sem] Ext.cell Ext.frozen
attribute [local go_sem ↓] Go.wp_at_zero Go.wp_at_succ
noncomputable def gnC (n : Nat) : Code := fromReg n ((Try.f7.body).getD .skip)
set_option maxRecDepth 100000 in
set_option maxHeartbeats 8000000 in
theorem gn_first (ts : List Tm) (source target : ByteArray) (ad : Option Addr) (n c : Nat) (w : World) (ht : TmAt w ad n ts) (hn : n ≤ 9223372036854775807) (hs : source.size ≤ 9223372036854775807) (htg : target.size ≤ 9223372036854775807)
    (hnext : ∀ (wr : World) (u3 u4 u5 u6 u7 u8 u9 u10 u11 u12 u13 u14 u15 u16 u17 u18 u19 u20 u21 u22 u23 u24 u25 u26 u27 u28 u29 u30 u31 u32 u33 u34 u35 u36 u37 u38 u39 u40 u41 u42 u43 u44 u45 u46 u47 u48 u49 u50 u51 u52 u53 u54 u55 u56 u57 u58 u59 u60 u61 u62 u63 u64 u65 u66 u67 u68 u69 u70 u71 u72 u73 u74 u75 u76 u77 u78 u79 u80 u81 u82 u83 u84 u85 u86 u87 u88 u89 u90 u91 u92 u93 u94 u95 u96 u97 u98 u99 u100 : Value), fewT ts = true → source.size ≤ 600 → target.size ≤ 600 → validT ts = true → Below w.heap.size w wr →
      (gnC 3).wp Try.prog (bodyPost Try.prog Try.f7 (fun e w' => e = .returned (.bool true) ∧ Below w.heap.size w w')) ⟨#[.slice ad n c, .string source, .string target, u3, u4, u5, u6, u7, u8, u9, u10, u11, u12, u13, u14, u15, u16, u17, u18, u19, u20, u21, u22, u23, u24, u25, u26, u27, u28, u29, u30, u31, u32, u33, u34, u35, u36, u37, u38, u39, u40, u41, u42, u43, u44, u45, u46, u47, u48, u49, u50, u51, u52, u53, u54, u55, u56, u57, u58, u59, u60, u61, u62, u63, u64, u65, u66, u67, u68, u69, u70, u71, u72, u73, u74, u75, u76, u77, u78, u79, u80, u81, u82, u83, u84, u85, u86, u87, u88, u89, u90, u91, u92, u93, u94, u95, u96, u97, u98, u99, u100], []⟩ wr) :
    Calls Try.prog 7 #[.slice ad n c, .string source, .string target] w fun e w' => e = .returned (.bool true) ∧ Below w.heap.size w w' := by
  have HT := Lib.hid ht
  have HN := Lib.hid hnext
  have HAW := Lib.hid awake_any
  have HF := Lib.hid (fun W (h : TmAt W ad n ts) => few_any ts ad n c W h hn)
  have HVV : Hid (fewT ts = true → ∀ W, TmAt W ad n ts → Calls Try.prog 16 #[.slice ad n c] W fun e w' => e = .returned (.bool (validT ts)) ∧ Below W.heap.size W w') := fun hf W h => by
    obtain ⟨h1, h2⟩ := fewT_iff hf
    refine rvalid_any ts ad n c W h (by have := h.1; omega) (fun x hx => ?_)
    have := h2 x hx
    omega
  clear ht hnext
  generalize fewT ts = fw at *
  go_enter Try.func7, Try.ntmps7
  go_upto_region 1 with (fail)
  rename_i K8 hK8 K9 hK9
  have HK8 := Lib.hid hK8
  clear hK8
  go_wp2_with fail
  refine (HAW.out _).mono ?_
  rintro e w1 ⟨rfl, hb⟩
  have HB1 := Lib.hid hb
  clear hb
  go_wp2_with fail
  refine (HF.out _ (HT.out.below HB1.out)).mono ?_
  rintro e _ ⟨rfl, rfl⟩
  cases fw with
  | false =>
    go_wp2_with fail
    refine (HAW.out _).mono ?_
    rintro e w9 ⟨rfl, hb⟩
    have HB9 := Lib.hid (HB1.out.trans (hb.mono HB1.out.size))
    clear hb
    go_wp2_with fail
    go_ret
    exact ⟨rfl, HB9.out⟩
  | true =>
    by_cases h1 : 600 < source.size
    · have h1z : (600 : Int) < (source.size : Int) := by omega
      have h1d : decide ((600 : Int) < (source.size : Int)) = true := decide_eq_true h1z
      go_wp2_with fail
      refine (HAW.out _).mono ?_
      rintro e w9 ⟨rfl, hb⟩
      have HB9 := Lib.hid (HB1.out.trans (hb.mono HB1.out.size))
      clear hb
      go_wp2_with fail
      go_ret
      exact ⟨rfl, HB9.out⟩
    · have h1z : ¬ (600 : Int) < (source.size : Int) := by omega
      have h1d : decide ((600 : Int) < (source.size : Int)) = false := decide_eq_false h1z
      by_cases h2 : 600 < target.size
      · have h2z : (600 : Int) < (target.size : Int) := by omega
        have h2d : decide ((600 : Int) < (target.size : Int)) = true := decide_eq_true h2z
        go_wp2_with fail
        refine (HAW.out _).mono ?_
        rintro e w9 ⟨rfl, hb⟩
        have HB9 := Lib.hid (HB1.out.trans (hb.mono HB1.out.size))
        clear hb
        go_wp2_with fail
        go_ret
        exact ⟨rfl, HB9.out⟩
      · have h2z : ¬ (600 : Int) < (target.size : Int) := by omega
        have h2d : decide ((600 : Int) < (target.size : Int)) = false := decide_eq_false h2z
        have HN2 := Lib.hid (fun (wr : World) (u3 u4 u5 u6 u7 u8 u9 u10 u11 u12 u13 u14 u15 u16 u17 u18 u19 u20 u21 u22 u23 u24 u25 u26 u27 u28 u29 u30 u31 u32 u33 u34 u35 u36 u37 u38 u39 u40 u41 u42 u43 u44 u45 u46 u47 u48 u49 u50 u51 u52 u53 u54 u55 u56 u57 u58 u59 u60 u61 u62 u63 u64 u65 u66 u67 u68 u69 u70 u71 u72 u73 u74 u75 u76 u77 u78 u79 u80 u81 u82 u83 u84 u85 u86 u87 u88 u89 u90 u91 u92 u93 u94 u95 u96 u97 u98 u99 u100 : Value) => HN.out wr u3 u4 u5 u6 u7 u8 u9 u10 u11 u12 u13 u14 u15 u16 u17 u18 u19 u20 u21 u22 u23 u24 u25 u26 u27 u28 u29 u30 u31 u32 u33 u34 u35 u36 u37 u38 u39 u40 u41 u42 u43 u44 u45 u46 u47 u48 u49 u50 u51 u52 u53 u54 u55 u56 u57 u58 u59 u60 u61 u62 u63 u64 u65 u66 u67 u68 u69 u70 u71 u72 u73 u74 u75 u76 u77 u78 u79 u80 u81 u82 u83 u84 u85 u86 u87 u88 u89 u90 u91 u92 u93 u94 u95 u96 u97 u98 u99 u100 rfl (by omega) (by omega))
        have HV1 := Lib.hid (HVV.out rfl)
        clear HN HVV
        generalize validT ts = vd at *
        go_wp2_with fail
        refine (HV1.out _ (HT.out.below HB1.out)).mono ?_
        rintro e w2 ⟨rfl, hb⟩
        have HB1 := Lib.hid (HB1.out.trans (hb.mono HB1.out.size))
        clear hb
        cases vd with
        | false =>
          go_wp2_with fail
          refine (HAW.out _).mono ?_
          rintro e w9 ⟨rfl, hb⟩
          have HB9 := Lib.hid (HB1.out.trans (hb.mono HB1.out.size))
          clear hb
          go_wp2_with fail
          go_ret
          exact ⟨rfl, HB9.out⟩
        | true =>
          go_wp2_with fail
          refine HK8.out _ _ ?_
          exact HN2.out _ _ _ _ _ _ _ _ _ _ _ _ _ _ _ _ _ _ _ _ _ _ _ _ _ _ _ _ _ _ _ _ _ _ _ _ _ _ _ _ _ _ _ _ _ _ _ _ _ _ _ _ _ _ _ _ _ _ _ _ _ _ _ _ _ _ _ _ _ _ _ _ _ _ _ _ _ _ _ _ _ _ _ _ _ _ _ _ _ _ _ _ _ _ _ _ _ _ _ (by trivial) HB1.out
end Go.Proofs.Ytkodnagneblgaaa
