/- GlossaryTranslated: the walk up to the places. -/
import Derived.Test.YtkodnagneblgaaaQ18
import Derived.Test.YtkodnagneblgaaaQ17
namespace Go.Proofs.Ytkodnagneblgaaa
open Go.RowKit Go.Maps Go.Sort
attribute [local go_sem] Ext.cell Ext.frozen
attribute [local go_sem ↓] Go.wp_at_zero Go.wp_at_succ
noncomputable def gtC (n : Nat) : Code := fromReg n ((Try.f6.body).getD .skip)
set_option maxRecDepth 100000 in
set_option maxHeartbeats 8000000 in
theorem gt_first (ts : List Tm) (source : ByteArray) (back : Bool) (ad : Option Addr) (n c : Nat) (w0 : World) (ht : TmAt w0 ad n ts) (hn : n ≤ 9223372036854775807) (hs : source.size ≤ 9223372036854775807)
    (hnext : ∀ (wr : World) (u3 u4 u5 u6 u7 u8 u9 u10 u11 u12 u13 u14 u15 u16 u17 u18 u19 u20 u21 u22 u23 u24 u25 u26 u27 u28 u29 u30 u31 u32 u33 u34 u35 u36 u37 u38 u39 u40 u41 u42 u43 u44 u45 u46 u47 u48 u49 u50 u51 u52 u53 u54 u55 u56 u57 u58 u59 u60 u61 u62 u63 u64 u65 u66 u67 u68 u69 u70 u71 u72 u73 u74 u75 u76 u77 u78 u79 u80 u81 u82 u83 u84 u85 u86 u87 u88 u89 u90 u91 u92 u93 u94 u95 u96 u97 u98 u99 u100 u101 u102 u103 u104 u105 u106 u107 u108 u109 u110 u111 u112 u113 u114 u115 u116 u117 u118 u119 u120 u121 u122 u123 u124 u125 u126 u127 u128 u129 u130 u131 u132 u133 u134 u135 u136 u137 u138 u139 u140 u141 u142 u143 u144 : Value), fewT ts = true → source.size ≤ 600 → validT ts = true → Below w0.heap.size w0 wr → (gtC 3).wp Try.prog (bodyPost Try.prog Try.f6 (fun e w' => e = .returned (.bool true) ∧ Below w0.heap.size w0 w')) ⟨#[.slice ad n c, .string source, .bool back, u3, u4, u5, u6, u7, u8, u9, u10, u11, u12, u13, u14, u15, u16, u17, u18, u19, u20, u21, u22, u23, u24, u25, u26, u27, u28, u29, u30, u31, u32, u33, u34, u35, u36, u37, u38, u39, u40, u41, u42, u43, u44, u45, u46, u47, u48, u49, u50, u51, u52, u53, u54, u55, u56, u57, u58, u59, u60, u61, u62, u63, u64, u65, u66, u67, u68, u69, u70, u71, u72, u73, u74, u75, u76, u77, u78, u79, u80, u81, u82, u83, u84, u85, u86, u87, u88, u89, u90, u91, u92, u93, u94, u95, u96, u97, u98, u99, u100, u101, u102, u103, u104, u105, u106, u107, u108, u109, u110, u111, u112, u113, u114, u115, u116, u117, u118, u119, u120, u121, u122, u123, u124, u125, u126, u127, u128, u129, u130, u131, u132, u133, u134, u135, u136, u137, u138, u139, u140, u141, u142, u143, u144], []⟩ wr) :
    Calls Try.prog 6 #[.slice ad n c, .string source, .bool back] w0 fun e w' => e = .returned (.bool true) ∧ Below w0.heap.size w0 w' := by
  have HT := Lib.hid ht
  have HN := Lib.hid hnext
  have HAW := Lib.hid awake_any
  have HF := Lib.hid (fun W (h : TmAt W ad n ts) => few_any ts ad n c W h hn)
  have HVV : Hid (fewT ts = true → ∀ W, TmAt W ad n ts → Calls Try.prog 16 #[.slice ad n c] W fun e w' => e = .returned (.bool (validT ts)) ∧ Below W.heap.size W w') := fun hf W h => by
    obtain ⟨h1, h2⟩ := fewT_iff hf
    refine rvalid_any ts ad n c W h (by have := h.1; omega) (fun x hx => ?_)
    have := h2 x hx
    omega
  clear ht hnext
  generalize fewT ts = fw at *
  go_enter Try.func6, Try.ntmps6
  go_upto_region 1 with (fail)
  rename_i K8 hK8 K9 hK9
  have HK8 := Lib.hid hK8
  clear hK8
  go_wp2_with fail
  refine (HAW.out _).mono ?_
  rintro e w1 ⟨rfl, hb⟩
  have HB1 := Lib.hid hb
  clear hb
  go_wp2_with fail
  refine (HF.out _ (HT.out.below HB1.out)).mono ?_
  rintro e _ ⟨rfl, rfl⟩
  cases fw with
  | false =>
    go_wp2_with fail
    refine (HAW.out _).mono ?_
    rintro e w9 ⟨rfl, hb⟩
    have HB9 := Lib.hid (HB1.out.trans (hb.mono HB1.out.size))
    clear hb
    go_wp2_with fail
    go_ret
    exact ⟨rfl, HB9.out⟩
  | true =>
    by_cases h1 : 600 < source.size
    · have h1z : (600 : Int) < (source.size : Int) := by omega
      have h1d : decide ((600 : Int) < (source.size : Int)) = true := decide_eq_true h1z
      go_wp2_with fail
      refine (HAW.out _).mono ?_
      rintro e w9 ⟨rfl, hb⟩
      have HB9 := Lib.hid (HB1.out.trans (hb.mono HB1.out.size))
      clear hb
      go_wp2_with fail
      go_ret
      exact ⟨rfl, HB9.out⟩
    · have h1z : ¬ (600 : Int) < (source.size : Int) := by omega
      have h1d : decide ((600 : Int) < (source.size : Int)) = false := decide_eq_false h1z
      have HN2 := Lib.hid (fun (wr : World) (u3 u4 u5 u6 u7 u8 u9 u10 u11 u12 u13 u14 u15 u16 u17 u18 u19 u20 u21 u22 u23 u24 u25 u26 u27 u28 u29 u30 u31 u32 u33 u34 u35 u36 u37 u38 u39 u40 u41 u42 u43 u44 u45 u46 u47 u48 u49 u50 u51 u52 u53 u54 u55 u56 u57 u58 u59 u60 u61 u62 u63 u64 u65 u66 u67 u68 u69 u70 u71 u72 u73 u74 u75 u76 u77 u78 u79 u80 u81 u82 u83 u84 u85 u86 u87 u88 u89 u90 u91 u92 u93 u94 u95 u96 u97 u98 u99 u100 u101 u102 u103 u104 u105 u106 u107 u108 u109 u110 u111 u112 u113 u114 u115 u116 u117 u118 u119 u120 u121 u122 u123 u124 u125 u126 u127 u128 u129 u130 u131 u132 u133 u134 u135 u136 u137 u138 u139 u140 u141 u142 u143 u144 : Value) => HN.out wr u3 u4 u5 u6 u7 u8 u9 u10 u11 u12 u13 u14 u15 u16 u17 u18 u19 u20 u21 u22 u23 u24 u25 u26 u27 u28 u29 u30 u31 u32 u33 u34 u35 u36 u37 u38 u39 u40 u41 u42 u43 u44 u45 u46 u47 u48 u49 u50 u51 u52 u53 u54 u55 u56 u57 u58 u59 u60 u61 u62 u63 u64 u65 u66 u67 u68 u69 u70 u71 u72 u73 u74 u75 u76 u77 u78 u79 u80 u81 u82 u83 u84 u85 u86 u87 u88 u89 u90 u91 u92 u93 u94 u95 u96 u97 u98 u99 u100 u101 u102 u103 u104 u105 u106 u107 u108 u109 u110 u111 u112 u113 u114 u115 u116 u117 u118 u119 u120 u121 u122 u123 u124 u125 u126 u127 u128 u129 u130 u131 u132 u133 u134 u135 u136 u137 u138 u139 u140 u141 u142 u143 u144 rfl (by omega))
      have HV1 := Lib.hid (HVV.out rfl)
      clear HN HVV
      generalize validT ts = vd at *
      go_wp2_with fail
      refine (HV1.out _ (HT.out.below HB1.out)).mono ?_
      rintro e w2 ⟨rfl, hb⟩
      have HB1 := Lib.hid (HB1.out.trans (hb.mono HB1.out.size))
      clear hb
      cases vd with
      | false =>
        go_wp2_with fail
        refine (HAW.out _).mono ?_
        rintro e w9 ⟨rfl, hb⟩
        have HB9 := Lib.hid (HB1.out.trans (hb.mono HB1.out.size))
        clear hb
        go_wp2_with fail
        go_ret
        exact ⟨rfl, HB9.out⟩
      | true =>
        go_wp2_with fail
        refine HK8.out _ _ ?_
        exact HN2.out _ _ _ _ _ _ _ _ _ _ _ _ _ _ _ _ _ _ _ _ _ _ _ _ _ _ _ _ _ _ _ _ _ _ _ _ _ _ _ _ _ _ _ _ _ _ _ _ _ _ _ _ _ _ _ _ _ _ _ _ _ _ _ _ _ _ _ _ _ _ _ _ _ _ _ _ _ _ _ _ _ _ _ _ _ _ _ _ _ _ _ _ _ _ _ _ _ _ _ _ _ _ _ _ _ _ _ _ _ _ _ _ _ _ _ _ _ _ _ _ _ _ _ _ _ _ _ _ _ _ _ _ _ _ _ _ _ _ _ _ _ _ _ (by trivial) HB1.out
set_option maxRecDepth 100000 in
set_option maxHeartbeats 8000000 in
theorem gt_second (ts : List Tm) (source : ByteArray) (back : Bool) (ad : Option Addr) (n c : Nat) (w0 w : World) (u3 u4 u5 u6 u7 u8 u9 u10 u11 u12 u13 u14 u15 u16 u17 u18 u19 u20 u21 u22 u23 u24 u25 u26 u27 u28 u29 u30 u31 u32 u33 u34 u35 u36 u37 u38 u39 u40 u41 u42 u43 u44 u45 u46 u47 u48 u49 u50 u51 u52 u53 u54 u55 u56 u57 u58 u59 u60 u61 u62 u63 u64 u65 u66 u67 u68 u69 u70 u71 u72 u73 u74 u75 u76 u77 u78 u79 u80 u81 u82 u83 u84 u85 u86 u87 u88 u89 u90 u91 u92 u93 u94 u95 u96 u97 u98 u99 u100 u101 u102 u103 u104 u105 u106 u107 u108 u109 u110 u111 u112 u113 u114 u115 u116 u117 u118 u119 u120 u121 u122 u123 u124 u125 u126 u127 u128 u129 u130 u131 u132 u133 u134 u135 u136 u137 u138 u139 u140 u141 u142 u143 u144 : Value) (ht : TmAt w ad n ts) (hf : fewT ts = true) (hb0 : Below w0.heap.size w0 w)
    (hnext : ∀ (wr : World) (v7 : Value) (u3 u4 u5 u6 u8 u9 u10 u11 u12 u13 u14 u15 u16 u17 u18 u19 u20 u21 u22 u23 u24 u25 u26 u27 u28 u29 u30 u31 u32 u33 u34 u35 u36 u37 u38 u39 u40 u41 u42 u43 u44 u45 u46 u47 u48 u49 u50 u51 u52 u53 u54 u55 u56 u57 u58 u59 u60 u61 u62 u63 u64 u65 u66 u67 u68 u69 u70 u71 u72 u73 u74 u75 u76 u77 u78 u79 u80 u81 u82 u83 u84 u85 u86 u87 u88 u89 u90 u91 u92 u93 u94 u95 u96 u97 u98 u99 u100 u101 u102 u103 u104 u105 u106 u107 u108 u109 u110 u111 u112 u113 u114 u115 u116 u117 u118 u119 u120 u121 u122 u123 u124 u125 u126 u127 u128 u129 u130 u131 u132 u133 u134 u135 u136 u137 u138 u139 u140 u141 u142 u143 u144 : Value), StrR wr w.heap.size v7 (ts.map (·.s)) → (∀ x ∈ ts, zB ∉ wordsB x.t) → Below w.heap.size w wr → (gtC 15).wp Try.prog (bodyPost Try.prog Try.f6 (fun e w' => e = .returned (.bool true) ∧ Below w0.heap.size w0 w')) ⟨#[.slice ad n c, .string source, .bool back, u3, u4, u5, u6, v7, u8, u9, u10, u11, u12, u13, u14, u15, u16, u17, u18, u19, u20, u21, u22, u23, u24, u25, u26, u27, u28, u29, u30, u31, u32, u33, u34, u35, u36, u37, u38, u39, u40, u41, u42, u43, u44, u45, u46, u47, u48, u49, u50, u51, u52, u53, u54, u55, u56, u57, u58, u59, u60, u61, u62, u63, u64, u65, u66, u67, u68, u69, u70, u71, u72, u73, u74, u75, u76, u77, u78, u79, u80, u81, u82, u83, u84, u85, u86, u87, u88, u89, u90, u91, u92, u93, u94, u95, u96, u97, u98, u99, u100, u101, u102, u103, u104, u105, u106, u107, u108, u109, u110, u111, u112, u113, u114, u115, u116, u117, u118, u119, u120, u121, u122, u123, u124, u125, u126, u127, u128, u129, u130, u131, u132, u133, u134, u135, u136, u137, u138, u139, u140, u141, u142, u143, u144], []⟩ wr) :
    (gtC 3).wp Try.prog (bodyPost Try.prog Try.f6 (fun e w' => e = .returned (.bool true) ∧ Below w0.heap.size w0 w')) ⟨#[.slice ad n c, .string source, .bool back, u3, u4, u5, u6, u7, u8, u9, u10, u11, u12, u13, u14, u15, u16, u17, u18, u19, u20, u21, u22, u23, u24, u25, u26, u27, u28, u29, u30, u31, u32, u33, u34, u35, u36, u37, u38, u39, u40, u41, u42, u43, u44, u45, u46, u47, u48, u49, u50, u51, u52, u53, u54, u55, u56, u57, u58, u59, u60, u61, u62, u63, u64, u65, u66, u67, u68, u69, u70, u71, u72, u73, u74, u75, u76, u77, u78, u79, u80, u81, u82, u83, u84, u85, u86, u87, u88, u89, u90, u91, u92, u93, u94, u95, u96, u97, u98, u99, u100, u101, u102, u103, u104, u105, u106, u107, u108, u109, u110, u111, u112, u113, u114, u115, u116, u117, u118, u119, u120, u121, u122, u123, u124, u125, u126, u127, u128, u129, u130, u131, u132, u133, u134, u135, u136, u137, u138, u139, u140, u141, u142, u143, u144], []⟩ w := by
  obtain ⟨hf1, hf2⟩ := fewT_iff hf
  have hn : n ≤ 30 := by have := ht.1; omega
  have HT := Lib.hid ht
  have HL := Lib.hid ht.1
  have HZ := Lib.hid hf2
  have HB0 := Lib.hid hb0
  have HN := Lib.hid hnext
  have HRW := Lib.hid rwords_any
  obtain ⟨base, hbase⟩ : ∃ base, w.heap.size = base := ⟨_, rfl⟩
  have HBR : Hid (Below base w w) := Below.refl _ _
  rw [hbase] at HN
  have HBE := Lib.hid hbase
  have hwb : base ≤ w.heap.size := Nat.le_of_eq hbase.symm
  clear ht hf hb0 hf2 hf1 hnext hbase
  unfold gtC
  dsimp only
  conv => arg 2; whnf
  go_wp2_with fail
  rename_i K9 hK9
  have HK9 := Lib.hid hK9
  clear hK9
  go_loopw [7, 43] (fun r u wr => ∃ (i : Nat) (v1 : Value), u = .int .i64 (i : Int) ∧ v1 = r ∧ i ≤ n ∧ StrR wr base v1 ((ts.take i).map (·.s)) ∧ (∀ x ∈ ts.take i, zB ∉ wordsB x.t) ∧ Below base w wr) (fun _ u _ => n - (intOf u).toNat)
  case atStart => exact ⟨0, _, rfl, rfl, Nat.zero_le _, ⟨rfl, .inl ⟨rfl, rfl⟩⟩, fun x hx => (by cases hx), HBR.out⟩
  case round =>
    obtain ⟨i, v1, rfl, hr1, hin, hst, hno, hbl⟩ := hrel
    subst hr1
    have HBR := Lib.hid hbl
    have HNO := Lib.hid hno
    have hzr := hbl.size
    obtain ⟨a1, c1, rfl⟩ := hst.form
    have hlen : ((ts.take i).map (·.s)).length = i := by rw [List.length_map, List.length_take, HL.out]; omega
    unfold StrR at hst
    rw [hlen] at hst ⊢
    have HST := Lib.hid hst
    clear hst hbl hno hlen
    by_cases hlt : i < n
    · obtain ⟨_, tb, tq, hrw⟩ := HT.out.below (by rw [HBE.out]; exact HBR.out)
      have hix := fun W => hrw.ix 22 48 Try.underlying22 cellsRTm (by omega) hlt c W
      have h0 := hrw.cell i 0 hlt (by omega)
      have h1 := hrw.cell i 1 hlt (by omega)
      have h2 := hrw.cell i 2 hlt (by omega)
      rw [Nat.add_zero] at h0
      simp only [tmC] at h0 h1 h2
      have HTK := Lib.hid (map_take_succ (·.s) ts i (by rw [HL.out]; exact hlt))
      have HTN : Hid (zB ∉ wordsB (ts.getD i tm0).t → ∀ x ∈ ts.take (i + 1), zB ∉ wordsB x.t) := fun h x hx => by
        have hi : i < ts.length := by rw [HL.out]; exact hlt
        have hg : ts.getD i tm0 = ts[i] := by rw [List.getD_eq_getElem?_getD, List.getElem?_eq_getElem hi]; rfl
        rw [List.take_add_one, List.getElem?_eq_getElem hi, ← hg, Option.toList_some, List.mem_append, List.mem_singleton] at hx
        rcases hx with hx | rfl
        · exact HNO.out x hx
        · exact h
      have hzt := (HZ.out (ts.getD i tm0) (getD_mem _ _ _ (by rw [HL.out]; exact hlt))).2
      have hlz : (i : Int) < (n : Int) := by omega
      clear hrw HNO
      generalize hxs : (ts.take i).map (·.s) = xs at *
      have HXL : Hid (xs.length = i) := by rw [Hid, ← hxs, List.length_map, List.length_take, HL.out]; omega
      clear hxs
      generalize ts.getD i tm0 = x at *
      obtain ⟨s, t, f⟩ := x
      simp only at h0 h1 h2 HTK HTN hzt
      go_upto_region 7 with (fail)
      have HBW : Hid (Below base w (wr.alloc (.cells #[.string s, .string t, .bool f] 48))) := HBR.out.alloc (by omega) _
      have hbk : Below wr.heap.size wr (wr.alloc (.cells #[.string s, .string t, .bool f] 48)) := Bel.alloc (Bel.refl wr) _
      have HSW := Lib.hid (own_below HST.out hbk)
      have HX : Hid ((wr.alloc (.cells #[.string s, .string t, .bool f] 48)).heap[wr.heap.size]? = some (.cells #[.string s, .string t, .bool f] 48 (0, 0))) := heap_alloc_new wr _
      have hne1 : (Value.slice a1 i c1).ownBlock ≠ some wr.heap.size := fun e => absurd (World.ownsRow.lt HST.out _ e).2 (by omega)
      have hlt3 : base ≤ (wr.alloc (.cells #[.string s, .string t, .bool f] 48)).heap.size := Nat.le_trans hwb HBW.out.size
      generalize wr.alloc (.cells #[.string s, .string t, .bool f] 48) = w3 at *
      obtain ⟨B, hB⟩ : ∃ B, wr.heap.size = B := ⟨_, rfl⟩
      rw [hB] at HX hne1 ⊢
      have x0 : w3.cell? ⟨B, 0, none⟩ = some (.string s) := row_cells HX.out 0
      have HX1 : Hid (w3.cell? ⟨B, 1, none⟩ = some (.string t)) := row_cells HX.out 1
      clear hbk hB HBR HST hzr h0 h1 h2 hix HX
      go_wp2_with (at_builtin; refine appStr rfl _ _ rfl base _ _ _ _ rfl HSW.out _ _ rfl rfl (by unfold maxLen; omega) (by omega) hlt3 ?_; intro ad6 c6 w4 hown4 hb4 hg4 hz4; have HO4 := Lib.hid hown4; have HB4 := Lib.hid hb4; have hx1 := hg4.cell HX1.out (fun e => hne1 e.symm); clear hown4 hb4 hg4 hz4)
      refine (HRW.out t _ (by omega)).mono ?_
      rintro e w5 ⟨aw, cw, rfl, hown, hb⟩
      have HSX := Lib.hid (Own.sl hown)
      have HO5 := Lib.hid (own_below HO4.out hb)
      have HB5 : Hid (Below base w w5) := (HBW.out.trans HB4.out).trans (hb.mono (Nat.le_trans hlt3 HB4.out.size))
      have HB5' : Hid (Below w0.heap.size w0 w5) := HB0.out.trans (HB5.out.mono (by have := HB0.out.size; have := HBE.out; omega))
      have hwl := wordsB_le t
      clear hown hb HO4 hx1 x0 HB4 HBW HSW
      obtain ⟨N, hN⟩ : ∃ N, (wordsB t).length = N := ⟨_, rfl⟩
      rw [hN] at HSX hwl ⊢
      generalize wordsB t = ws at *
      have HWN := Lib.hid hN
      clear hN
      go_wp2_with fail
      go_loopw [56] (fun u wx => ∃ (k : Nat), u = .int .i64 (k : Int) ∧ k ≤ N ∧ (∀ j, j < k → ws.getD j .empty ≠ zB) ∧ wx = w5) (fun u _ => N - (intOf u).toNat)
      case atStart => exact ⟨0, rfl, Nat.zero_le _, fun j hj => absurd hj (Nat.not_lt_zero _), rfl⟩
      case round =>
        obtain ⟨k, rfl, hkN, hal, rfl⟩ := hrel
        have HAL := Lib.hid hal
        clear hal
        by_cases hlk : k < N
        · obtain ⟨b5, o5, hsa⟩ := HSX.out
          have hixw := fun W => hsa.ix (c := cw) 39 9 Try.underlying39 cellsStr hlk W
          have hc0 := hsa.cell k hlk
          rw [strs_getD _ _ (by rw [HWN.out]; exact hlk)] at hc0
          have hkz : (k : Int) < (N : Int) := by omega
          have HNX : Hid (ws.getD k .empty ≠ zB → ∀ j, j < k + 1 → ws.getD j .empty ≠ zB) := fun h j hj => by
            rcases Nat.lt_or_ge j k with h' | h'
            · exact HAL.out j h'
            · rw [show j = k by omega]; exact h
          clear hsa
          generalize ws.getD k .empty = y at *
          by_cases he : y = zB
          · have kq : (y.toList == [122, 113, 120, 106]) = true := by rw [he, zB_list]; rfl
            clear HNX he
            go_wp2_with fail
            go_ret
            exact ⟨rfl, HB5'.out⟩
          · have kq : (y.toList == [122, 113, 120, 106]) = false := by
              rw [← zB_list, ba_bne]; exact decide_eq_false he
            have HN2 := Lib.hid (HNX.out he)
            clear HNX he
            go_wp2_with fail
            go_roundw
            case rel => exact ⟨k + 1, by go_num, by omega, HN2.out, trivial⟩
            case measure => simp [intOf]; omega
        · obtain rfl : k = N := by omega
          have HZN : Hid (zB ∉ ws) := fun h => by
            obtain ⟨j, hj, e⟩ := List.getElem_of_mem h
            refine HAL.out j (by rw [← HWN.out]; exact hj) ?_
            rw [List.getD_eq_getElem?_getD, List.getElem?_eq_getElem hj]
            exact e
          go_wp2_with fail
          go_roundw
          case rel => exact ⟨i + 1, _, by go_num, rfl, by omega, by rw [HTK.out]; unfold StrR; rw [List.length_append, strs_snoc, HXL.out]; exact HO5.out, HTN.out HZN.out, HB5.out⟩
          case measure => simp [intOf]; omega
    · obtain rfl : i = n := by omega
      have hst := HST.out
      have hno := HNO.out
      have htk : ts.take i = ts := List.take_of_length_le (by rw [HL.out]; exact Nat.le_refl _)
      rw [htk] at hst hno
      have HS1 : Hid (StrR wr base (.slice a1 i c1) (ts.map (·.s))) := by unfold Hid StrR; rw [List.length_map, HL.out]; exact hst
      have HN1 := Lib.hid hno
      clear hst hno HST HNO htk
      go_wp2_with fail
      refine HK9.out _ _ ?_
      exact HN.out wr _ _ _ _ _ _ _ _ _ _ _ _ _ _ _ _ _ _ _ _ _ _ _ _ _ _ _ _ _ _ _ _ _ _ _ _ _ _ _ _ _ _ _ _ _ _ _ _ _ _ _ _ _ _ _ _ _ _ _ _ _ _ _ _ _ _ _ _ _ _ _ _ _ _ _ _ _ _ _ _ _ _ _ _ _ _ _ _ _ _ _ _ _ _ _ _ _ _ _ _ _ _ _ _ _ _ _ _ _ _ _ _ _ _ _ _ _ _ _ _ _ _ _ _ _ _ _ _ _ _ _ _ _ _ _ _ _ _ _ _ _ _ HS1.out HN1.out HBR.out
end Go.Proofs.Ytkodnagneblgaaa
/- GlossaryTranslated: the walk of the loop that builds the target. -/
namespace Go.Proofs.Ytkodnagneblgaaa
open Go.RowKit Go.Maps Go.Sort
attribute [local go_sem] Ext.cell Ext.frozen
attribute [local go_sem ↓] Go.wp_at_zero Go.wp_at_succ
set_option maxRecDepth 100000 in
set_option maxHeartbeats 8000000 in
theorem gt_third (ts : List Tm) (source : ByteArray) (back : Bool) (ad : Option Addr) (n c : Nat) (w0 w : World) (base : Nat) (v7 : Value) (u3 u4 u5 u6 u8 u9 u10 u11 u12 u13 u14 u15 u16 u17 u18 u19 u20 u21 u22 u23 u24 u25 u26 u27 u28 u29 u30 u31 u32 u33 u34 u35 u36 u37 u38 u39 u40 u41 u42 u43 u44 u45 u46 u47 u48 u49 u50 u51 u52 u53 u54 u55 u56 u57 u58 u59 u60 u61 u62 u63 u64 u65 u66 u67 u68 u69 u70 u71 u72 u73 u74 u75 u76 u77 u78 u79 u80 u81 u82 u83 u84 u85 u86 u87 u88 u89 u90 u91 u92 u93 u94 u95 u96 u97 u98 u99 u100 u101 u102 u103 u104 u105 u106 u107 u108 u109 u110 u111 u112 u113 u114 u115 u116 u117 u118 u119 u120 u121 u122 u123 u124 u125 u126 u127 u128 u129 u130 u131 u132 u133 u134 u135 u136 u137 u138 u139 u140 u141 u142 u143 u144 : Value) (ht : TmAt w ad n ts) (hf : fewT ts = true) (hs : source.size ≤ 600) (hst : StrR w base v7 (ts.map (·.s))) (hb0 : Below w0.heap.size w0 w)
    (hnext : ∀ (wr : World) (u3 u4 u5 u6 u7 u8 u9 u10 u11 u12 u13 u15 u16 u17 u18 u19 u20 u21 u22 u23 u24 u25 u26 u27 u28 u29 u30 u31 u32 u33 u34 u35 u36 u37 u38 u39 u40 u41 u42 u43 u44 u45 u46 u47 u48 u49 u50 u51 u52 u53 u54 u55 u56 u57 u58 u59 u60 u61 u62 u63 u64 u65 u66 u67 u68 u69 u70 u71 u72 u73 u74 u75 u76 u77 u78 u79 u80 u81 u82 u83 u84 u85 u86 u87 u88 u89 u90 u91 u92 u93 u94 u95 u96 u97 u98 u99 u100 u101 u102 u103 u104 u105 u106 u107 u108 u109 u110 u111 u112 u113 u114 u115 u116 u117 u118 u119 u120 u121 u122 u123 u124 u125 u126 u127 u128 u129 u130 u131 u132 u133 u134 u135 u136 u137 u138 u139 u140 u141 u142 u143 u144 : Value), (builtT ts back (findL ((ts.map (·.s)).map wordsB) (wordsB source))).size ≤ 200000 → Below w.heap.size w wr → (gtC 33).wp Try.prog (bodyPost Try.prog Try.f6 (fun e w' => e = .returned (.bool true) ∧ Below w0.heap.size w0 w')) ⟨#[.slice ad n c, .string source, .bool back, u3, u4, u5, u6, u7, u8, u9, u10, u11, u12, u13, .string (builtT ts back (findL ((ts.map (·.s)).map wordsB) (wordsB source))), u15, u16, u17, u18, u19, u20, u21, u22, u23, u24, u25, u26, u27, u28, u29, u30, u31, u32, u33, u34, u35, u36, u37, u38, u39, u40, u41, u42, u43, u44, u45, u46, u47, u48, u49, u50, u51, u52, u53, u54, u55, u56, u57, u58, u59, u60, u61, u62, u63, u64, u65, u66, u67, u68, u69, u70, u71, u72, u73, u74, u75, u76, u77, u78, u79, u80, u81, u82, u83, u84, u85, u86, u87, u88, u89, u90, u91, u92, u93, u94, u95, u96, u97, u98, u99, u100, u101, u102, u103, u104, u105, u106, u107, u108, u109, u110, u111, u112, u113, u114, u115, u116, u117, u118, u119, u120, u121, u122, u123, u124, u125, u126, u127, u128, u129, u130, u131, u132, u133, u134, u135, u136, u137, u138, u139, u140, u141, u142, u143, u144], []⟩ wr) :
    (gtC 15).wp Try.prog (bodyPost Try.prog Try.f6 (fun e w' => e = .returned (.bool true) ∧ Below w0.heap.size w0 w')) ⟨#[.slice ad n c, .string source, .bool back, u3, u4, u5, u6, v7, u8, u9, u10, u11, u12, u13, u14, u15, u16, u17, u18, u19, u20, u21, u22, u23, u24, u25, u26, u27, u28, u29, u30, u31, u32, u33, u34, u35, u36, u37, u38, u39, u40, u41, u42, u43, u44, u45, u46, u47, u48, u49, u50, u51, u52, u53, u54, u55, u56, u57, u58, u59, u60, u61, u62, u63, u64, u65, u66, u67, u68, u69, u70, u71, u72, u73, u74, u75, u76, u77, u78, u79, u80, u81, u82, u83, u84, u85, u86, u87, u88, u89, u90, u91, u92, u93, u94, u95, u96, u97, u98, u99, u100, u101, u102, u103, u104, u105, u106, u107, u108, u109, u110, u111, u112, u113, u114, u115, u116, u117, u118, u119, u120, u121, u122, u123, u124, u125, u126, u127, u128, u129, u130, u131, u132, u133, u134, u135, u136, u137, u138, u139, u140, u141, u142, u143, u144], []⟩ w := by
  obtain ⟨hf1, hf2⟩ := fewT_iff hf
  have hn : n ≤ 30 := by have := ht.1; omega
  have HT := Lib.hid ht
  have HL := Lib.hid ht.1
  have HZ := Lib.hid hf2
  have HB0 := Lib.hid hb0
  have HN := Lib.hid hnext
  have HA := Lib.hid ralike_any
  obtain ⟨a7, c7, rfl⟩ := hst.form
  have hlen : (ts.map (·.s)).length = n := by rw [List.length_map]; exact HL.out
  unfold StrR at hst
  rw [hlen] at hst ⊢
  have HSL := Lib.hid (Own.sl hst)
  have HPF := Lib.hid (fun W (h : Sl W a7 n (strs (ts.map (·.s)))) => pfind_any (ts.map (·.s)) a7 n c7 source W h (by omega) (fun s h => by obtain ⟨x, hx, rfl⟩ := List.mem_map.1 h; have := (hf2 x hx).1; omega) (by omega))
  unfold FindPost at HPF
  have HFM := Lib.hid (find_lt ts (·.s) source)
  have hpl : (findL ((ts.map (·.s)).map wordsB) (wordsB source)).length ≤ 601 := Nat.le_trans (findV_len _ _) (Nat.le_trans (wordsB_le source) (by omega))
  clear ht hf hst hf2 hnext hlen hb0
  generalize findL ((ts.map (·.s)).map wordsB) (wordsB source) = pl at *
  obtain ⟨P, hP⟩ : ∃ P, pl.length = P := ⟨_, rfl⟩
  rw [hP] at HPF hpl
  have HPL := Lib.hid hP
  clear hP
  unfold gtC
  dsimp only
  conv => arg 2; whnf
  go_wp2_with fail
  refine (HPF.out _ HSL.out).mono ?_
  rintro e w2 ⟨a2, c2, rfl, hpr, hb⟩
  have HB2 : Hid (Below w.heap.size w w2) := hb
  have HP2 := Lib.hid (PrR.at hpr)
  clear hpr hb HPF
  go_wp2_with fail
  rename_i K9 hK9
  have HK9 := Lib.hid hK9
  clear hK9
  go_loopw [14, 74] (fun tv u wr => ∃ (i : Nat) (sv : ByteArray), u = .int .i64 (i : Int) ∧ tv = .string sv ∧ sv = builtT ts back (pl.take i) ∧ sv.size ≤ 256 * i ∧ i ≤ P ∧ Below w2.heap.size w2 wr) (fun _ u _ => P - (intOf u).toNat)
  case atStart => exact ⟨0, _, rfl, rfl, rfl, Nat.le_refl _, Nat.zero_le _, Below.refl _ _⟩
  case round =>
    obtain ⟨i, sv, rfl, rfl, hsv, hsz, hin, hbl⟩ := hrel
    have HSV := Lib.hid hsv
    have HBR := Lib.hid hbl
    have hzr := hbl.size
    clear hsv hbl
    by_cases hlt : i < P
    · obtain ⟨_, pb, po, hrp⟩ := HP2.out.below HBR.out
      have hix := fun W => hrp.ix 42 45 Try.underlying42 cellsPair (by omega) hlt c2 W
      have h0 := hrp.cell i 0 hlt (by omega)
      have h1 := hrp.cell i 1 hlt (by omega)
      rw [Nat.add_zero] at h0
      simp only [prC] at h0 h1
      have hmem : (pl.getD i (0, 0)).1 < n := by rw [← HL.out]; exact HFM.out (pl.getD i (0, 0)) (getD_mem _ _ _ (by rw [HPL.out]; exact hlt))
      have HTK := Lib.hid (builtT_succ ts back pl i (by rw [HPL.out]; exact hlt))
      have HTZ : Hid ((stepT back sv (pickT ts (ts.getD (pl.getD i (0, 0)).1 tm0).s)).size ≤ sv.size + 256) := step_size (fun x hx => (HZ.out x hx).2) back sv _
      rw [← HSV.out] at HTK
      have hlz : (i : Int) < (P : Int) := by omega
      clear hrp HSV
      generalize pl.getD i (0, 0) = x at *
      obtain ⟨a, b⟩ := x
      simp only at h0 h1 hmem HTK HTZ
      obtain ⟨sp, hsp⟩ : ∃ sp, (ts.getD a tm0).s = sp := ⟨_, rfl⟩
      have hspz : sp.size ≤ 250 := by rw [← hsp]; exact (HZ.out _ (getD_mem _ _ _ (by rw [HL.out]; exact hmem))).1
      rw [hsp] at HTK HTZ
      have HSPE : Hid ((ts.map (·.s)).getD a .empty = sp) := by
        rw [Hid, ← hsp, List.getD_eq_getElem?_getD, List.getElem?_map, List.getD_eq_getElem?_getD, List.getElem?_eq_getElem (by rw [HL.out]; exact hmem)]
        rfl
      clear hsp
      have hd1 : ¬ (a : Int) < 0 := by omega
      have hd2 : decide ((a : Int) < 0) = false := decide_eq_false hd1
      have hd3 : ¬ (n : Int) ≤ (a : Int) := by omega
      have hd4 : decide ((n : Int) ≤ (a : Int)) = false := decide_eq_false hd3
      go_upto_region 22 with (fail)
      have HB1 : Hid (Below w2.heap.size w2 (wr.alloc (.cells #[.int .i64 (a : Int), .int .i64 (b : Int)] 45))) := HBR.out.alloc hzr _
      have HX1 : Hid ((wr.alloc (.cells #[.int .i64 (a : Int), .int .i64 (b : Int)] 45)).heap[wr.heap.size]? = some (.cells #[.int .i64 (a : Int), .int .i64 (b : Int)] 45 (0, 0))) := heap_alloc_new wr _
      generalize wr.alloc (.cells #[.int .i64 (a : Int), .int .i64 (b : Int)] 45) = w3 at *
      obtain ⟨BP, hBP⟩ : ∃ BP, wr.heap.size = BP := ⟨_, rfl⟩
      rw [hBP] at HX1 ⊢
      have y0 : w3.cell? ⟨BP, 0, none⟩ = some (.int .i64 (a : Int)) := row_cells HX1.out 0
      have HY0 := Lib.hid y0
      clear HX1 h0 h1 hix HBR hBP hzr
      go_wp2_with fail
      go_loopw [14, 90] (fun tv u wx => ∃ (k : Nat), u = .int .i64 (k : Int) ∧ tv = .string sv ∧ k ≤ n ∧ (∀ j, j < k → allowT sp (ts.getD j tm0) = false) ∧ Below w3.heap.size w3 wx) (fun _ u _ => n - (intOf u).toNat)
      case atStart => exact ⟨0, rfl, rfl, Nat.zero_le _, fun j hj => absurd hj (Nat.not_lt_zero _), Below.refl _ _⟩
      case round =>
        obtain ⟨k, rfl, rfl, hkn, hal, hbl⟩ := hrel
        have HAL := Lib.hid hal
        have HBX := Lib.hid hbl
        have hzx := hbl.size
        clear hal hbl y0
        by_cases hlk : k < n
        · obtain ⟨_, tb, tq, hrw⟩ := HT.out.below ((HB2.out.trans (HB1.out.mono HB2.out.size)).trans (HBX.out.mono (Nat.le_trans HB2.out.size HB1.out.size)))
          have hixk := fun W => hrw.ix 22 48 Try.underlying22 cellsRTm (by omega) hlk c W
          have h0 := hrw.cell k 0 hlk (by omega)
          have h1 := hrw.cell k 1 hlk (by omega)
          have h2 := hrw.cell k 2 hlk (by omega)
          rw [Nat.add_zero] at h0
          simp only [tmC] at h0 h1 h2
          have HNX0 : Hid (allowT sp (ts.getD k tm0) = false → ∀ j, j < k + 1 → allowT sp (ts.getD j tm0) = false) := fun h j hj => by
            rcases Nat.lt_or_ge j k with h' | h'
            · exact HAL.out j h'
            · rw [show j = k by omega]; exact h
          have HPK0 : Hid (allowT sp (ts.getD k tm0) = true → pickT ts sp = some (ts.getD k tm0)) := fun h => find_at HAL.out (by rw [HL.out]; exact hlk) h
          have hzk := HZ.out (ts.getD k tm0) (getD_mem _ _ _ (by rw [HL.out]; exact hlk))
          obtain ⟨zk1, zk2⟩ := hzk
          have HA1 : Hid (∀ W, Calls Try.prog 23 #[.string (ts.getD k tm0).s, .string sp] W fun e w' => e = .returned (.bool (alikeB (ts.getD k tm0).s sp)) ∧ Below W.heap.size W w') := fun W => HA.out _ _ W (by omega) (by omega)
          have HAE : Hid (allowT sp (ts.getD k tm0) = (!(ts.getD k tm0).f && alikeB (ts.getD k tm0).s sp)) := rfl
          have hkz : (k : Int) < (n : Int) := by omega
          clear hrw HAL
          generalize alikeB (ts.getD k tm0).s sp = b1 at *
          generalize allowT sp (ts.getD k tm0) = al at *
          generalize ts.getD k tm0 = z at *
          obtain ⟨s, t, f⟩ := z
          simp only at h0 h1 h2 HA1 HAE zk1 zk2
          go_upto_region 27 with (fail)
          have HB4 : Hid (Below w3.heap.size w3 (wr.alloc (.cells #[.string s, .string t, .bool f] 48))) := HBX.out.alloc hzx _
          have HX : Hid ((wr.alloc (.cells #[.string s, .string t, .bool f] 48)).heap[wr.heap.size]? = some (.cells #[.string s, .string t, .bool f] 48 (0, 0))) := heap_alloc_new wr _
          generalize wr.alloc (.cells #[.string s, .string t, .bool f] 48) = w4 at *
          obtain ⟨B, hB⟩ : ∃ B, wr.heap.size = B := ⟨_, rfl⟩
          rw [hB] at HX ⊢
          have x0 : w4.cell? ⟨B, 0, none⟩ = some (.string s) := row_cells HX.out 0
          have x1 : w4.cell? ⟨B, 1, none⟩ = some (.string t) := row_cells HX.out 1
          have x2 : w4.cell? ⟨B, 2, none⟩ = some (.bool f) := row_cells HX.out 2
          have y0 := cell_later HB4.out HY0.out
          obtain ⟨sb, so, hsa⟩ := HSL.out.below ((HB2.out.trans (HB1.out.mono HB2.out.size)).trans (HB4.out.mono (Nat.le_trans HB2.out.size HB1.out.size)))
          have hixs := fun W => hsa.ix (c := c7) 39 9 Try.underlying39 cellsStr hmem W
          have g0 := hsa.cell a hmem
          rw [strs_getD _ _ (by rw [List.length_map, HL.out]; exact hmem), HSPE.out] at g0
          have hlB : B < w4.heap.size := World.block_lt_of_cell? _ _ x0
          have hlP : BP < w4.heap.size := World.block_lt_of_cell? _ _ y0
          have hlS : sb < w4.heap.size := World.block_lt_of_cell? _ _ g0
          clear hB HX h0 h1 h2 hixk hzx hsa HBX
          cases f with
          | true =>
            have HNX := Lib.hid (HNX0.out HAE.out)
            clear HNX0 HPK0
            go_wp2_with fail
            refine wp_region_ext (by kernel_rfl) (by kernel_rfl) ?_
            repeat (go_big_quiet_step (fail))
            refine wpQuiet_nil ?_
            intro _ hw'
            obtain ⟨X9, hw''⟩ := hw'
            subst hw''
            go_wp2_with fail
            go_roundw
            case rel => exact ⟨k + 1, by go_num, rfl, by omega, HNX.out, HB4.out.trans (X9.2.mono HB4.out.size)⟩
            case measure => simp [intOf]; omega
          | false =>
            cases b1 with
            | false =>
              have HNX := Lib.hid (HNX0.out HAE.out)
              clear HNX0 HPK0
              go_wp2_with fail
              refine wp_region_ext (by kernel_rfl) (by kernel_rfl) ?_
              repeat (go_big_quiet_step ((first | (go_at_call 23; exact Calls.ext (HA1.out _)))))
              refine wpQuiet_nil ?_
              intro _ hw'
              obtain ⟨X9, hw''⟩ := hw'
              subst hw''
              go_wp2_with fail
              go_roundw
              case rel => exact ⟨k + 1, by go_num, rfl, by omega, HNX.out, HB4.out.trans (X9.2.mono HB4.out.size)⟩
              case measure => simp [intOf]; omega
            | true =>
              have HPK := Lib.hid (HPK0.out HAE.out)
              rw [HPK.out] at HTK HTZ
              clear HNX0 HPK0 HPK HAE
              go_wp2_with fail
              refine wp_region_ext (by kernel_rfl) (by kernel_rfl) ?_
              repeat (go_big_quiet_step ((first | (go_at_call 23; exact Calls.ext (HA1.out _)))))
              refine wpQuiet_nil ?_
              intro _ hw'
              obtain ⟨X9, hw''⟩ := hw'
              subst hw''
              have HB5 := Lib.hid (HB4.out.trans (X9.2.mono HB4.out.size))
              cases back with
              | true =>
                have ka1 := fun W => run_string_add_sum (P := Try.prog) (w := W) t (⟨#[32, 122, 113, 120, 106, 32]⟩ : ByteArray) (by have : (⟨#[32, 122, 113, 120, 106, 32]⟩ : ByteArray).size = 6 := rfl; rw [this]; omega)
                have ka2 := fun W => run_string_add_sum (P := Try.prog) (w := W) (t ++ (⟨#[32, 122, 113, 120, 106, 32]⟩ : ByteArray)) sv (by rw [ByteArray.size_append]; have : (⟨#[32, 122, 113, 120, 106, 32]⟩ : ByteArray).size = 6 := rfl; rw [this]; omega)
                change Hid (builtT ts true (pl.take (i + 1)) = t ++ (⟨#[32, 122, 113, 120, 106, 32]⟩ : ByteArray) ++ sv) at HTK
                change Hid ((t ++ (⟨#[32, 122, 113, 120, 106, 32]⟩ : ByteArray) ++ sv).size ≤ sv.size + 256) at HTZ
                go_wp2_with fail
                go_roundw
                case rel => exact ⟨i + 1, _, by go_num, rfl, HTK.out.symm, by have := HTZ.out; omega, by omega, HB1.out.trans (HB5.out.mono HB1.out.size)⟩
                case measure => simp [intOf]; omega
              | false =>
                have ka1 := fun W => run_string_add_sum (P := Try.prog) (w := W) (⟨#[32, 122, 113, 120, 106, 32]⟩ : ByteArray) t (by have : (⟨#[32, 122, 113, 120, 106, 32]⟩ : ByteArray).size = 6 := rfl; rw [this]; omega)
                have ka2 := fun W => run_string_add_sum (P := Try.prog) (w := W) sv ((⟨#[32, 122, 113, 120, 106, 32]⟩ : ByteArray) ++ t) (by rw [ByteArray.size_append]; have : (⟨#[32, 122, 113, 120, 106, 32]⟩ : ByteArray).size = 6 := rfl; rw [this]; omega)
                change Hid (builtT ts false (pl.take (i + 1)) = sv ++ ((⟨#[32, 122, 113, 120, 106, 32]⟩ : ByteArray) ++ t)) at HTK
                change Hid ((sv ++ ((⟨#[32, 122, 113, 120, 106, 32]⟩ : ByteArray) ++ t)).size ≤ sv.size + 256) at HTZ
                go_wp2_with fail
                go_roundw
                case rel => exact ⟨i + 1, _, by go_num, rfl, HTK.out.symm, by have := HTZ.out; omega, by omega, HB1.out.trans (HB5.out.mono HB1.out.size)⟩
                case measure => simp [intOf]; omega
        · obtain rfl : k = n := by omega
          have HPK : Hid (pickT ts sp = none) := find_no (fun j hj => HAL.out j (by rw [← HL.out]; exact hj))
          rw [HPK.out] at HTK
          change Hid (builtT ts back (pl.take (i + 1)) = sv) at HTK
          clear HAL HPK
          go_wp2_with fail
          go_roundw
          case rel => exact ⟨i + 1, _, by go_num, rfl, HTK.out.symm, by omega, by omega, HB1.out.trans (HBX.out.mono HB1.out.size)⟩
          case measure => simp [intOf]; omega
    · obtain rfl : i = P := by omega
      have hsv := HSV.out
      rw [List.take_of_length_le (by rw [HPL.out]; exact Nat.le_refl _)] at hsv
      subst hsv
      have HB9 := Lib.hid (HB2.out.trans (HBR.out.mono HB2.out.size))
      clear HSV
      go_wp2_with fail
      refine HK9.out _ _ ?_
      exact HN.out wr _ _ _ _ _ _ _ _ _ _ _ _ _ _ _ _ _ _ _ _ _ _ _ _ _ _ _ _ _ _ _ _ _ _ _ _ _ _ _ _ _ _ _ _ _ _ _ _ _ _ _ _ _ _ _ _ _ _ _ _ _ _ _ _ _ _ _ _ _ _ _ _ _ _ _ _ _ _ _ _ _ _ _ _ _ _ _ _ _ _ _ _ _ _ _ _ _ _ _ _ _ _ _ _ _ _ _ _ _ _ _ _ _ _ _ _ _ _ _ _ _ _ _ _ _ _ _ _ _ _ _ _ _ _ _ _ _ _ _ _ _ (by omega) HB9.out
end Go.Proofs.Ytkodnagneblgaaa
/- GlossaryTranslated: the end of the walk. -/
namespace Go.Proofs.Ytkodnagneblgaaa
open Go.RowKit Go.Maps Go.Sort
attribute [local go_sem] Ext.cell Ext.frozen
attribute [local go_sem ↓] Go.wp_at_zero Go.wp_at_succ
set_option maxRecDepth 100000 in
set_option maxHeartbeats 8000000 in
theorem gt_end (ts : List Tm) (source tg : ByteArray) (back : Bool) (ad : Option Addr) (n c : Nat) (w0 w : World) (u3 u4 u5 u6 u7 u8 u9 u10 u11 u12 u13 u15 u16 u17 u18 u19 u20 u21 u22 u23 u24 u25 u26 u27 u28 u29 u30 u31 u32 u33 u34 u35 u36 u37 u38 u39 u40 u41 u42 u43 u44 u45 u46 u47 u48 u49 u50 u51 u52 u53 u54 u55 u56 u57 u58 u59 u60 u61 u62 u63 u64 u65 u66 u67 u68 u69 u70 u71 u72 u73 u74 u75 u76 u77 u78 u79 u80 u81 u82 u83 u84 u85 u86 u87 u88 u89 u90 u91 u92 u93 u94 u95 u96 u97 u98 u99 u100 u101 u102 u103 u104 u105 u106 u107 u108 u109 u110 u111 u112 u113 u114 u115 u116 u117 u118 u119 u120 u121 u122 u123 u124 u125 u126 u127 u128 u129 u130 u131 u132 u133 u134 u135 u136 u137 u138 u139 u140 u141 u142 u143 u144 : Value) (ht : TmAt w ad n ts) (hf : fewT ts = true) (hs : source.size ≤ 600) (htg : tg.size ≤ 200000) (hv : validT ts = true) (hb0 : Below w0.heap.size w0 w)
    (hmi : ∀ p ∈ pfindings ts source tg, p.1 ≠ 1) :
    (gtC 33).wp Try.prog (bodyPost Try.prog Try.f6 (fun e w' => e = .returned (.bool true) ∧ Below w0.heap.size w0 w')) ⟨#[.slice ad n c, .string source, .bool back, u3, u4, u5, u6, u7, u8, u9, u10, u11, u12, u13, .string tg, u15, u16, u17, u18, u19, u20, u21, u22, u23, u24, u25, u26, u27, u28, u29, u30, u31, u32, u33, u34, u35, u36, u37, u38, u39, u40, u41, u42, u43, u44, u45, u46, u47, u48, u49, u50, u51, u52, u53, u54, u55, u56, u57, u58, u59, u60, u61, u62, u63, u64, u65, u66, u67, u68, u69, u70, u71, u72, u73, u74, u75, u76, u77, u78, u79, u80, u81, u82, u83, u84, u85, u86, u87, u88, u89, u90, u91, u92, u93, u94, u95, u96, u97, u98, u99, u100, u101, u102, u103, u104, u105, u106, u107, u108, u109, u110, u111, u112, u113, u114, u115, u116, u117, u118, u119, u120, u121, u122, u123, u124, u125, u126, u127, u128, u129, u130, u131, u132, u133, u134, u135, u136, u137, u138, u139, u140, u141, u142, u143, u144], []⟩ w := by
  obtain ⟨hf1, hf2⟩ := fewT_iff hf
  have hn : n ≤ 30 := by have := ht.1; omega
  have HT := Lib.hid ht
  have HB0 := Lib.hid hb0
  have HMI := Lib.hid hmi
  have HTO := Lib.hid (fun W (h : TmAt W ad n ts) => to_any ts ad n c W h (by omega))
  have HPC := Lib.hid (fun a1 c1 W (h : TmAt W a1 n ts) => pcheck_any ts source tg a1 n c1 W h (by omega) (fun x hx => by have := hf2 x hx; omega))
  have hfl : (pfindings ts source tg).length ≤ 60 := by
    have := chkF_len (missV ts (cntS ts source) (cntT ts tg)) (wrongV ts (cntS ts source) (cntT ts tg)) ts.length
    unfold pfindings
    omega
  unfold ChkPost at HPC
  clear ht hf hb0 hf2 hmi
  by_cases hlong : 20000 < tg.size
  · have e1 : errV ts source tg = 6 := by unfold errV; rw [if_pos hv, if_pos (.inr hlong)]
    have e2 : resV ts source tg (pfindings ts source tg) = [] := by unfold resV; rw [if_pos hv, if_pos (.inr hlong)]
    rw [e1, e2] at HPC
    have h1z : (20000 : Int) < (tg.size : Int) := by omega
    have h1d : decide ((20000 : Int) < (tg.size : Int)) = true := decide_eq_true h1z
    clear e1 e2 hv HMI hfl
    unfold gtC
    dsimp only
    conv => arg 2; whnf
    go_wp2_with fail
    refine (HTO.out _ HT.out).mono ?_
    rintro e w3 ⟨a3, c3, rfl, htr, hb⟩
    have HB3 := Lib.hid (HB0.out.trans (hb.mono HB0.out.size))
    have HR3 := Lib.hid (TmR.at htr)
    clear htr hb
    go_wp2_with fail
    refine (HPC.out a3 c3 _ HR3.out).mono ?_
    rintro e w4 ⟨a4, c4, rfl, hfn, hb⟩
    have HB4 := Lib.hid (HB3.out.trans (hb.mono HB3.out.size))
    clear hfn hb HB3 HR3
    go_wp2_with fail
    go_ret
    exact ⟨rfl, HB4.out⟩
  · have e1 : errV ts source tg = 0 := by unfold errV; rw [if_pos hv, if_neg (by omega)]
    have e2 : resV ts source tg (pfindings ts source tg) = pfindings ts source tg := by unfold resV; rw [if_pos hv, if_neg (by omega)]
    rw [e1, e2] at HPC
    have h1z : ¬ (20000 : Int) < (tg.size : Int) := by omega
    have h1d : decide ((20000 : Int) < (tg.size : Int)) = false := decide_eq_false h1z
    generalize pfindings ts source tg = fs at *
    obtain ⟨F, hF⟩ : ∃ F, fs.length = F := ⟨_, rfl⟩
    rw [hF] at HPC hfl
    have HFF := Lib.hid hF
    clear e1 e2 hv hF
    unfold gtC
    dsimp only
    conv => arg 2; whnf
    go_wp2_with fail
    refine (HTO.out _ HT.out).mono ?_
    rintro e w3 ⟨a3, c3, rfl, htr, hb⟩
    have HB3 := Lib.hid (HB0.out.trans (hb.mono HB0.out.size))
    have HR3 := Lib.hid (TmR.at htr)
    clear htr hb
    go_wp2_with fail
    refine (HPC.out a3 c3 _ HR3.out).mono ?_
    rintro e w4 ⟨a4, c4, rfl, hfn, hb⟩
    have HB4 := Lib.hid (HB3.out.trans (hb.mono HB3.out.size))
    have HFN := Lib.hid (FnR.at hfn)
    clear hfn hb HB3 HR3
    go_wp2_with fail
    go_loopw [135] (fun u wx => ∃ (k : Nat), u = .int .i64 (k : Int) ∧ k ≤ F ∧ Below w4.heap.size w4 wx) (fun u _ => F - (intOf u).toNat)
    case atStart => exact ⟨0, rfl, Nat.zero_le _, Below.refl _ _⟩
    case round =>
      obtain ⟨k, rfl, hkF, hbl⟩ := hrel
      have HBX := Lib.hid hbl
      have hzx := hbl.size
      clear hbl
      by_cases hlk : k < F
      · obtain ⟨_, pb, po, hrp⟩ := HFN.out.below HBX.out
        have hixp := fun W => hrp.ix 25 51 Try.underlying25 cellsFnP (by omega) hlk c4 W
        have p0 := hrp.cell k 0 hlk (by omega)
        have p1 := hrp.cell k 1 hlk (by omega)
        rw [Nat.add_zero] at p0
        simp only [prC] at p0 p1
        have hfb := HMI.out (fs.getD k (0, 0)) (getD_mem _ _ _ (by rw [HFF.out]; exact hlk))
        have hkz : (k : Int) < ((F : Nat) : Int) := by omega
        clear hrp
        generalize fs.getD k (0, 0) = x at *
        obtain ⟨a, b⟩ := x
        simp only at p0 p1 hfb
        go_upto_region 39 with (fail)
        have HBY : Hid (Below w4.heap.size w4 (wr.alloc (.cells #[.int .i64 (a : Int), .int .i64 (b : Int)] 51))) := HBX.out.alloc hzx _
        have HX : Hid ((wr.alloc (.cells #[.int .i64 (a : Int), .int .i64 (b : Int)] 51)).heap[wr.heap.size]? = some (.cells #[.int .i64 (a : Int), .int .i64 (b : Int)] 51 (0, 0))) := heap_alloc_new wr _
        generalize wr.alloc (.cells #[.int .i64 (a : Int), .int .i64 (b : Int)] 51) = w5 at *
        have x0 := row_cells HX.out 0
        clear p0 p1 HX
        have haz : ¬ (a : Int) = 1 := by omega
        have had : decide ((a : Int) = 1) = false := decide_eq_false haz
        have hab : ((a : Int) == 1) = false := by simpa using haz
        clear hfb
        go_wp2_with fail
        go_roundw
        case rel => exact ⟨k + 1, by go_num, by omega, HBY.out⟩
        case measure => simp [intOf]; omega
      · obtain rfl : k = F := by omega
        go_wp2_with fail
        go_ret
        exact ⟨rfl, HB4.out.trans (HBX.out.mono HB4.out.size)⟩
theorem glossaryTranslated_walk (ad : Option Addr) (n c : Nat) (ts : List Tm) (source : ByteArray) (back : Bool) (w : World) (ht : TmAt w ad n ts) (hn : n ≤ 9223372036854775807) (hs : source.size ≤ 9223372036854775807) :
    Calls Try.prog 6 #[.slice ad n c, .string source, .bool back] w fun e w' => e = .returned (.bool true) ∧ Below w.heap.size w w' := by
  refine gt_first ts source back ad n c w ht hn hs ?_
  intro w1
  intros
  rename_i h1 h2 h3 h4
  refine gt_second ts source back ad n c w w1 _ _ _ _ _ _ _ _ _ _ _ _ _ _ _ _ _ _ _ _ _ _ _ _ _ _ _ _ _ _ _ _ _ _ _ _ _ _ _ _ _ _ _ _ _ _ _ _ _ _ _ _ _ _ _ _ _ _ _ _ _ _ _ _ _ _ _ _ _ _ _ _ _ _ _ _ _ _ _ _ _ _ _ _ _ _ _ _ _ _ _ _ _ _ _ _ _ _ _ _ _ _ _ _ _ _ _ _ _ _ _ _ _ _ _ _ _ _ _ _ _ _ _ _ _ _ _ _ _ _ _ _ _ _ _ _ _ _ _ _ _ _ (ht.below h4) h1 h4 ?_
  intro w2 v7
  intros
  rename_i g1 g2 g3
  have hb2 := h4.trans (g3.mono h4.size)
  refine gt_third ts source back ad n c w w2 w1.heap.size v7 _ _ _ _ _ _ _ _ _ _ _ _ _ _ _ _ _ _ _ _ _ _ _ _ _ _ _ _ _ _ _ _ _ _ _ _ _ _ _ _ _ _ _ _ _ _ _ _ _ _ _ _ _ _ _ _ _ _ _ _ _ _ _ _ _ _ _ _ _ _ _ _ _ _ _ _ _ _ _ _ _ _ _ _ _ _ _ _ _ _ _ _ _ _ _ _ _ _ _ _ _ _ _ _ _ _ _ _ _ _ _ _ _ _ _ _ _ _ _ _ _ _ _ _ _ _ _ _ _ _ _ _ _ _ _ _ _ _ _ _ _ (ht.below hb2) h1 h2 g1 hb2 ?_
  intro w3
  intros
  rename_i k1 k2
  have hb3 := hb2.trans (k2.mono hb2.size)
  exact gt_end ts source _ back ad n c w w3 _ _ _ _ _ _ _ _ _ _ _ _ _ _ _ _ _ _ _ _ _ _ _ _ _ _ _ _ _ _ _ _ _ _ _ _ _ _ _ _ _ _ _ _ _ _ _ _ _ _ _ _ _ _ _ _ _ _ _ _ _ _ _ _ _ _ _ _ _ _ _ _ _ _ _ _ _ _ _ _ _ _ _ _ _ _ _ _ _ _ _ _ _ _ _ _ _ _ _ _ _ _ _ _ _ _ _ _ _ _ _ _ _ _ _ _ _ _ _ _ _ _ _ _ _ _ _ _ _ _ _ _ _ _ _ _ _ _ _ _ _ (ht.below hb3) h1 h2 k1 h3 hb3 (fun p hp => no_missing h3 g2 back source p hp)
end Go.Proofs.Ytkodnagneblgaaa
