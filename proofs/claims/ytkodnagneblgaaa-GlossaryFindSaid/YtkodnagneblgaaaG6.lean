/- Walks: GlossaryFind. -/
import Derived.Test.YtkodnagneblgaaaG5
namespace Go.Proofs.Ytkodnagneblgaaa
open Go.RowKit Go.Maps Go.Sort
attribute [local go_sem] Ext.cell Ext.frozen
attribute [local go_sem ↓] Go.wp_at_zero Go.wp_at_succ
noncomputable def gfC (n : Nat) : Code := fromReg n ((Try.f5.body).getD .skip)
set_option maxRecDepth 100000 in
set_option maxHeartbeats 8000000 in
theorem gf_first (terms : List ByteArray) (s : ByteArray) (ad : Option Addr) (n c : Nat) (w : World) (ht : Sl w ad n (strs terms)) (hsz : s.size ≤ 9223372036854775807) (hz : ∀ s ∈ terms, s.size ≤ 9223372036854775807)
    (hnext : ∀ (wr : World) (u2 u3 u4 u5 u6 u7 u8 u9 u10 u11 u12 u13 u14 u15 u16 u17 u18 u19 u20 u21 u22 u23 u24 u25 u26 u27 u28 u29 u30 u31 u32 u33 u34 u35 u36 u37 u38 u39 u40 u41 u42 u43 u44 u45 u46 u47 u48 u49 u50 u51 u52 u53 u54 u55 u56 u57 u58 u59 u60 u61 u62 u63 u64 u65 u66 u67 u68 u69 u70 u71 u72 u73 u74 u75 u76 u77 u78 u79 u80 u81 u82 u83 u84 u85 u86 u87 u88 u89 u90 u91 u92 u93 u94 u95 u96 u97 u98 u99 u100 u101 u102 u103 u104 u105 u106 u107 u108 u109 u110 u111 u112 u113 u114 u115 u116 u117 u118 u119 u120 u121 u122 u123 u124 u125 : Value), n ≤ 40 → s.size ≤ 600 → (∀ s ∈ terms, s.size ≤ 300) → Below w.heap.size w wr →
      (gfC 9).wp Try.prog (bodyPost Try.prog Try.f5 (fun e w' => e = .returned (.bool true) ∧ Below w.heap.size w w')) ⟨#[.slice ad n c, .string s, u2, u3, u4, u5, u6, u7, u8, u9, u10, u11, u12, u13, u14, u15, u16, u17, u18, u19, u20, u21, u22, u23, u24, u25, u26, u27, u28, u29, u30, u31, u32, u33, u34, u35, u36, u37, u38, u39, u40, u41, u42, u43, u44, u45, u46, u47, u48, u49, u50, u51, u52, u53, u54, u55, u56, u57, u58, u59, u60, u61, u62, u63, u64, u65, u66, u67, u68, u69, u70, u71, u72, u73, u74, u75, u76, u77, u78, u79, u80, u81, u82, u83, u84, u85, u86, u87, u88, u89, u90, u91, u92, u93, u94, u95, u96, u97, u98, u99, u100, u101, u102, u103, u104, u105, u106, u107, u108, u109, u110, u111, u112, u113, u114, u115, u116, u117, u118, u119, u120, u121, u122, u123, u124, u125], []⟩ wr) :
    Calls Try.prog 5 #[.slice ad n c, .string s] w fun e w' => e = .returned (.bool true) ∧ Below w.heap.size w w' := by
  have hl := ht.len
  rw [strs_length] at hl
  have hnm := ht.max
  have HT := Lib.hid ht
  have HL := Lib.hid hl
  have HZ := Lib.hid hz
  have HN := Lib.hid hnext
  have HAW := Lib.hid awake_any
  clear ht hz hnext hl
  go_enter Try.func5, Try.ntmps5
  go_wp2_with fail
  refine (HAW.out _).mono ?_
  rintro e w1 ⟨rfl, hb⟩
  have HB1 := Lib.hid hb
  clear hb
  by_cases h1 : 40 < n
  · have h1z : (40 : Int) < (n : Int) := by omega
    have h1d : decide ((40 : Int) < (n : Int)) = true := decide_eq_true h1z
    go_wp2_with fail
    refine (HAW.out _).mono ?_
    rintro e w2 ⟨rfl, hb⟩
    have HB2 := Lib.hid (HB1.out.trans (hb.mono HB1.out.size))
    clear hb
    go_wp2_with fail
    go_ret
    exact ⟨rfl, HB2.out⟩
  · have h1z : ¬ (40 : Int) < (n : Int) := by omega
    have h1d : decide ((40 : Int) < (n : Int)) = false := decide_eq_false h1z
    by_cases h2 : 600 < s.size
    · have h2z : (600 : Int) < (s.size : Int) := by omega
      have h2d : decide ((600 : Int) < (s.size : Int)) = true := decide_eq_true h2z
      go_wp2_with fail
      refine (HAW.out _).mono ?_
      rintro e w2 ⟨rfl, hb⟩
      have HB2 := Lib.hid (HB1.out.trans (hb.mono HB1.out.size))
      clear hb
      go_wp2_with fail
      go_ret
      exact ⟨rfl, HB2.out⟩
    · have h2z : ¬ (600 : Int) < (s.size : Int) := by omega
      have h2d : decide ((600 : Int) < (s.size : Int)) = false := decide_eq_false h2z
      have HN2 := Lib.hid (fun (wr : World) (u2 u3 u4 u5 u6 u7 u8 u9 u10 u11 u12 u13 u14 u15 u16 u17 u18 u19 u20 u21 u22 u23 u24 u25 u26 u27 u28 u29 u30 u31 u32 u33 u34 u35 u36 u37 u38 u39 u40 u41 u42 u43 u44 u45 u46 u47 u48 u49 u50 u51 u52 u53 u54 u55 u56 u57 u58 u59 u60 u61 u62 u63 u64 u65 u66 u67 u68 u69 u70 u71 u72 u73 u74 u75 u76 u77 u78 u79 u80 u81 u82 u83 u84 u85 u86 u87 u88 u89 u90 u91 u92 u93 u94 u95 u96 u97 u98 u99 u100 u101 u102 u103 u104 u105 u106 u107 u108 u109 u110 u111 u112 u113 u114 u115 u116 u117 u118 u119 u120 u121 u122 u123 u124 u125 : Value) => HN.out wr u2 u3 u4 u5 u6 u7 u8 u9 u10 u11 u12 u13 u14 u15 u16 u17 u18 u19 u20 u21 u22 u23 u24 u25 u26 u27 u28 u29 u30 u31 u32 u33 u34 u35 u36 u37 u38 u39 u40 u41 u42 u43 u44 u45 u46 u47 u48 u49 u50 u51 u52 u53 u54 u55 u56 u57 u58 u59 u60 u61 u62 u63 u64 u65 u66 u67 u68 u69 u70 u71 u72 u73 u74 u75 u76 u77 u78 u79 u80 u81 u82 u83 u84 u85 u86 u87 u88 u89 u90 u91 u92 u93 u94 u95 u96 u97 u98 u99 u100 u101 u102 u103 u104 u105 u106 u107 u108 u109 u110 u111 u112 u113 u114 u115 u116 u117 u118 u119 u120 u121 u122 u123 u124 u125 (by omega) (by omega))
      clear HN
      go_wp2_with fail
      rename_i K9 hK9
      have HK9 := Lib.hid hK9
      clear hK9 h1z h1d h2z h2d
      go_loopw [29] (fun u wr => ∃ (i : Nat), u = .int .i64 (i : Int) ∧ i ≤ n ∧ (∀ j, j < i → (terms.getD j .empty).size ≤ 300) ∧ Below w.heap.size w wr) (fun u _ => n - (intOf u).toNat)
      case atStart => exact ⟨0, rfl, Nat.zero_le _, fun j hj => absurd hj (Nat.not_lt_zero _), HB1.out⟩
      case round =>
        obtain ⟨i, rfl, hin, hal, hbl⟩ := hrel
        have HAL := Lib.hid hal
        have HB := Lib.hid hbl
        clear hal hbl HB1
        by_cases hlt : i < n
        · obtain ⟨tb, tq, hst⟩ := HT.out.below HB.out
          have hixt := fun W => hst.ix (c := c) 39 9 Try.underlying39 cellsStr hlt W
          have hct := hst.cell i hlt
          rw [strs_getD _ _ (by rw [HL.out]; exact hlt)] at hct
          have hlz : (i : Int) < (n : Int) := by omega
          have hsm := HZ.out (terms.getD i .empty) (getD_mem _ _ _ (by rw [HL.out]; exact hlt))
          have HNX : Hid ((terms.getD i .empty).size ≤ 300 → ∀ j, j < i + 1 → (terms.getD j .empty).size ≤ 300) := fun e1 j hj => by
            by_cases e : j = i
            · rw [e]; exact e1
            · exact HAL.out j (by omega)
          clear hst
          generalize terms.getD i .empty = st at *
          by_cases h3 : 300 < st.size
          · have h3z : (300 : Int) < (st.size : Int) := by omega
            have h3d : decide ((300 : Int) < (st.size : Int)) = true := decide_eq_true h3z
            go_wp2_with fail
            go_ret
            exact ⟨rfl, HB.out⟩
          · have h3z : ¬ (300 : Int) < (st.size : Int) := by omega
            have h3d : decide ((300 : Int) < (st.size : Int)) = false := decide_eq_false h3z
            have HN3 := Lib.hid (HNX.out (by omega))
            clear HNX
            go_wp2_with fail
            go_roundw
            case rel => exact ⟨i + 1, by go_num, by omega, HN3.out, HB.out⟩
            case measure => simp [intOf]; omega
        · obtain rfl : i = n := by omega
          have HALL : Hid (∀ s ∈ terms, s.size ≤ 300) := fun x hx => by
            obtain ⟨j, hj, rfl⟩ := List.getElem_of_mem hx
            have := HAL.out j (by rw [← HL.out]; exact hj)
            rw [List.getD_eq_getElem?_getD, List.getElem?_eq_getElem hj] at this
            exact this
          go_wp2_with fail
          refine HK9.out _ _ ?_
          exact HN2.out wr _ _ _ _ _ _ _ _ _ _ _ _ _ _ _ _ _ _ _ _ _ _ _ _ _ _ _ _ _ _ _ _ _ _ _ _ _ _ _ _ _ _ _ _ _ _ _ _ _ _ _ _ _ _ _ _ _ _ _ _ _ _ _ _ _ _ _ _ _ _ _ _ _ _ _ _ _ _ _ _ _ _ _ _ _ _ _ _ _ _ _ _ _ _ _ _ _ _ _ _ _ _ _ _ _ _ _ _ _ _ _ _ _ _ _ _ _ _ _ _ _ _ _ _ HALL.out HB.out
end Go.Proofs.Ytkodnagneblgaaa
