/- Walks: Atoi of any string; a piece read from any string. -/
import Derived.Test.YtkkggpahanddnaaGreatDoorQ08
import Derived.Test.YtkkggpahanddnaaGreatDoorQ11
import Derived.Test.YtkkggpahanddnaaGreatDoorQ12
import Derived.Lib.AtoiAllCases
import Derived.Deep.DeepCutAuto
import Derived.Test.YtkkggpahanddnaaGreatDoorQ09
namespace Go.Proofs.YtkkggpahanddnaaGreatDoor
open Go.RowKit
attribute [local go_sem] Ext.cell Ext.frozen
attribute [local go_sem ↓] Go.wp_at_zero Go.wp_at_succ
def ErrCell (g : Nat) (w : World) : Prop := ∃ ev, w.cell? ⟨g, 0, none⟩ = some ev ∧ (ev = .nilIface ∨ ∃ te pe, ev = .iface te pe)
theorem ErrCell.below {g : Nat} {w w' : World} (h : ErrCell g w) (hb : Below w.heap.size w w') : ErrCell g w' := by
  obtain ⟨ev, h, h2⟩ := h
  exact ⟨ev, (hb.cell (p := ⟨g, 0, none⟩) (World.block_lt_of_cell? w _ h)).trans h, h2⟩
/-- what reading pieces asks of the world -/
structure RdOk (w : World) : Prop where
  max : MaxLen w
  syn : ErrCell 1 w
  rng : ErrCell 2 w
theorem RdOk.below {w w' : World} (h : RdOk w) (hb : Below w.heap.size w w') : RdOk w' := ⟨h.max.below hb, h.syn.below hb, h.rng.below hb⟩
def Int64 (n : Int) : Prop := -9223372036854775808 ≤ n ∧ n ≤ 9223372036854775807
def AtoiP (w : World) (e : Ending) (w' : World) : Prop := ∃ n ev, e = .returned (.tuple #[.int .i64 n, ev]) ∧ Int64 n ∧ (ev = .nilIface ∨ ∃ te pe, ev = .iface te pe) ∧ Below w.heap.size w w'
theorem atoi_any (s : ByteArray) (hs : s.size ≤ 1000000) (w : World) (h : RdOk w) : Calls Tryz.prog 27 #[.string s] w (AtoiP w) := by
  rcases hv : Lib.atoiAll s.data.toList with v | _ | _
  · refine (Tryz.strconv_Atoi_ok s (by omega) v hv w).mono ?_
    rintro e w' ⟨rfl, hw⟩
    refine ⟨v, .nilIface, rfl, Lib.atoiAll_bounds hv, .inl rfl, ?_⟩
    rcases hw with rfl | ⟨t, rfl⟩
    · exact Below.refl _ _
    · exact bytes_below _ _ _
  · obtain ⟨ev, h1, h2⟩ := h.syn
    refine (Any.strconv_Atoi_syntax Tryz.laysC172 s (by omega) hv ev w h1 h2).mono ?_
    rintro e w' ⟨N, rfl, _, _, hb⟩
    exact ⟨_, _, rfl, ⟨by decide, by decide⟩, .inr ⟨_, _, rfl⟩, hb⟩
  · obtain ⟨ev, h1, h2⟩ := h.rng
    refine (Any.strconv_Atoi_range Tryz.laysC172 s (by omega) hv ev w h1 h2).mono ?_
    rintro e w' ⟨N, rfl, _, _, hb⟩
    exact ⟨_, _, rfl, by unfold Int64 Lib.atoiSat; split <;> decide, .inr ⟨_, _, rfl⟩, hb⟩
theorem endL_lt : ∀ {l : List UInt8} {k : Nat}, endL l = some k → k < l.length
  | [], k, h => by cases h
  | [c], k, h => by
    by_cases e : c = 34
    · simp [endL, e] at h; simp; omega
    · simp [endL, e] at h
  | c :: d :: r, k, h => by
    unfold endL at h
    split at h
    · injection h with h; simp; omega
    · split at h
      · obtain ⟨j, h1, rfl⟩ := Option.map_eq_some_iff.1 h
        have := endL_lt h1
        simp; omega
      · obtain ⟨j, h1, rfl⟩ := Option.map_eq_some_iff.1 h
        have := endL_lt h1
        simp at this ⊢; omega
theorem cut_len (l sep : List UInt8) : (Lib.cut l sep).1.length ≤ l.length ∧ (Lib.cut l sep).2.1.length ≤ l.length := by
  unfold Lib.cut
  split
  · exact ⟨by rw [List.length_take]; omega, by rw [List.length_drop]; omega⟩
  · exact ⟨Nat.le_refl _, Nat.zero_le _⟩
def PieceP (s : ByteArray) (w : World) (e : Ending) (w' : World) : Prop :=
  ∃ (n : Int) (t R : ByteArray) (b : Bool), e = .returned (.tuple #[.agg #[.int .i64 n, .string t], .string R, .bool b]) ∧ Int64 n ∧ t.size ≤ s.size ∧ (b = true → R.size < s.size) ∧ Below w.heap.size w w'
theorem cut_exact (s : ByteArray) (hs : s.size ≤ 1000000) (w : World) (h : RdOk w) : Calls Tryz.prog 26 #[.string s, .string ⟨#[32, 34]⟩] w fun e w' => ∃ (D E : ByteArray) (b : Bool), e = .returned (.tuple #[.string D, .string E, .bool b]) ∧ D.size ≤ s.size ∧ E.size ≤ s.size ∧ Below w.heap.size w w' := by
  obtain ⟨m, hm⟩ := h.max
  obtain ⟨l1, l2⟩ := cut_len s.data.toList [32, 34]
  rw [ba_len] at l1 l2
  refine (Tryz.strings_Cut s ⟨#[32, 34]⟩ m w (by omega) hm).mono ?_
  rintro e _ ⟨rfl, k, rfl⟩
  exact ⟨bs (Lib.cut s.data.toList [32, 34]).1, bs (Lib.cut s.data.toList [32, 34]).2.1, _, rfl, by rw [bs_size]; exact l1, by rw [bs_size]; exact l2, below_drewN _ _⟩
set_option maxRecDepth 20000 in
set_option maxHeartbeats 4000000 in
theorem piece_exists (s : ByteArray) (w : World) (hs : s.size ≤ 100000) (h : RdOk w) : Calls Tryz.prog 14 #[.string s] w (PieceP s w) := by
  have HRD := Lib.hid (fun w' (g : Below w.heap.size w w') => h.below g)
  have HCUT := Lib.hid (fun w h => cut_exact s (by omega) w h)
  clear h
  go_enter Tryz.func14, Tryz.ntmps14
  go_wp2_with fail
  refine (HCUT.out _ (HRD.out _ ((Below.refl _ _).alloc (Nat.le_refl _) _))).mono ?_
  rintro e w1 ⟨D, E, bo, rfl, hD, hE, hb1⟩
  have HB1 : Hid (Below w.heap.size w w1) := ((Below.refl _ _).alloc (Nat.le_refl _) _).trans (hb1.mono (by simp))
  have HK1 : Hid (w1.heap[w.heap.size]? = some (.cells #[.int .i64 0, .string ⟨#[]⟩] 43 (0, 0))) := (hb1.block w.heap.size (by simp)).trans (row_new _ _ _)
  have z1 : w.heap.size + 1 ≤ w1.heap.size := by have := hb1.size; simpa using this
  have HAT := Lib.hid (atoi_any D (by omega) w1 (HRD.out _ HB1.out))
  have HEND := Lib.hid (fun w => end_any E w (by omega))
  have HL := Lib.hid (fun k => @endL_lt E.data.toList k)
  have HEL : Hid (E.data.toList.length = E.size) := ba_len E
  clear hb1 hD HCUT
  go_wp2_with fail
  refine HAT.out.mono ?_
  rintro e w2 ⟨n, ev, rfl, hn, hev, hb2⟩
  have HN := Lib.hid hn
  have HB2 : Hid (Below w.heap.size w w2) := HB1.out.trans (hb2.mono (by omega))
  have HK2 : Hid (w2.heap[w.heap.size]? = some (.cells #[.int .i64 0, .string ⟨#[]⟩] 43 (0, 0))) := (hb2.block w.heap.size (by omega)).trans HK1.out
  have z2 : w.heap.size + 1 ≤ w2.heap.size := Nat.le_trans z1 hb2.size
  clear hb2 HB1 HK1 z1 hn HAT
  go_wp2_with fail
  refine (HEND.out _).mono ?_
  rintro e _ ⟨rfl, rfl⟩
  have k2 := HK2.out
  have g0 := row_cells k2 0
  have g1 := row_cells k2 1
  have f0 := row_frozen k2 0
  have f1 := row_frozen k2 1
  have HRJ : Hid (∀ (W : World), W = (w2.setCell ⟨w.heap.size, 0, none⟩ (.int .i64 0)).setCell ⟨w.heap.size, 1, none⟩ (.string ⟨#[]⟩) → W.cell? ⟨w.heap.size, 0, none⟩ = some (.int .i64 0) ∧ W.cell? ⟨w.heap.size, 1, none⟩ = some (.string ⟨#[]⟩) ∧ Below w.heap.size w W) := by
    rintro W rfl
    obtain ⟨y0, y1⟩ := pc_set k2 (.int .i64 0) (.string ⟨#[]⟩)
    exact ⟨y0, y1, below_set2 HB2.out (Nat.le_refl _) _ _⟩
  clear k2
  by_cases hgood : bo = true ∧ ev = .nilIface ∧ ∃ k, endL E.data.toList = some k
  · obtain ⟨rfl, rfl, k, hk⟩ := hgood
    rw [endV_some hk]
    have hkl := HL.out k hk
    rw [HEL.out] at hkl
    have hcut : E.extract 0 k = bs (E.data.toList.take k) := by
      show (bs E.data.toList).extract 0 k = _
      rw [bs_extract]; rfl
    have hlk : (E.data.toList.take k).length ≤ k := by rw [List.length_take]; omega
    have HUN := Lib.hid (fun w => unescape_any (E.data.toList.take k) w (by omega))
    have hul := (unescV_len (E.data.toList.take k)).1
    have HUL : Hid ((bs (unescV (E.data.toList.take k)).1).size ≤ s.size) := by unfold Hid; rw [bs_size]; omega
    have HXS : Hid ((E.extract (k + 1) E.size).size < s.size) := by unfold Hid; rw [ByteArray.size_extract]; omega
    clear hlk hul hk hev HRJ g0 g1 f0 f1
    generalize unescV (E.data.toList.take k) = X at *
    generalize bs (E.data.toList.take k) = U at *
    obtain ⟨x1, x2, x3⟩ := X
    simp only at HUN HUL
    go_wp2_with fail
    refine (HUN.out _).mono ?_
    rintro e w3 ⟨rfl, hb3⟩
    have k3 : w3.heap[w.heap.size]? = some (.cells #[.int .i64 0, .string ⟨#[]⟩] 43 (0, 0)) := (hb3.block w.heap.size (by omega)).trans HK2.out
    have HB3 : Hid (Below w.heap.size w w3) := HB2.out.trans (hb3.mono (by omega))
    have g0 := row_cells k3 0
    have g1 := row_cells k3 1
    have f0 := row_frozen k3 0
    have f1 := row_frozen k3 1
    have HK3 := Lib.hid k3
    clear hb3 k3 HB2 HK2 z2
    go_wp2_with fail
    have d1 : IntKind.i64.wrap ((k : Int) + 1) = (k : Int) + 1 := by rw [IntKind.wrap_i64] <;> omega
    have d2 : ((k : Int) + 1).toNat = k + 1 := by omega
    have d3 : 0 ≤ (k : Int) + 1 := by omega
    have d4 : (k : Int) + 1 ≤ (E.size : Int) := by omega
    go_region_with (fail)
    all_goals
      go_wp2_with fail
      obtain ⟨y0, y1⟩ := pc_set HK3.out (.int .i64 n) (.string (bs x1))
      refine bodyPost_ret (v := .tuple #[.agg #[.int .i64 n, .string (bs x1)], .string (E.extract (k + 1) E.size), .bool ((x3 : Int) == 0)]) (by simp [results, Tryz.f14, go_sem, y0, y1]) rfl ⟨_, _, _, _, rfl, HN.out, HUL.out, fun _ => HXS.out, (below_set2 HB3.out (Nat.le_refl _) _ _).drew⟩
  · cases bo with
    | false =>
      clear hev hgood
      go_wp2_with fail
      obtain ⟨y0, y1, yb⟩ := HRJ.out _ rfl
      exact bodyPost_ret (v := .tuple #[.agg #[.int .i64 0, .string ⟨#[]⟩], .string ⟨#[]⟩, .bool false]) (by simp [results, Tryz.f14, go_sem, y0, y1]) rfl ⟨0, ⟨#[]⟩, ⟨#[]⟩, false, rfl, ⟨by decide, by decide⟩, Nat.zero_le _, fun e => (by cases e), yb⟩
    | true =>
      rcases hev with rfl | ⟨te, pe, rfl⟩
      · have he : endL E.data.toList = none := by
          cases h : endL E.data.toList with
          | none => rfl
          | some k => exact absurd ⟨rfl, rfl, k, h⟩ hgood
        rw [endV_none he]
        clear he hgood
        go_wp2_with fail
        obtain ⟨y0, y1, yb⟩ := HRJ.out _ rfl
        exact bodyPost_ret (v := .tuple #[.agg #[.int .i64 0, .string ⟨#[]⟩], .string ⟨#[]⟩, .bool false]) (by simp [results, Tryz.f14, go_sem, y0, y1]) rfl ⟨0, ⟨#[]⟩, ⟨#[]⟩, false, rfl, ⟨by decide, by decide⟩, Nat.zero_le _, fun e => (by cases e), yb⟩
      · clear hgood
        go_wp2_with fail
        obtain ⟨y0, y1, yb⟩ := HRJ.out _ rfl
        exact bodyPost_ret (v := .tuple #[.agg #[.int .i64 0, .string ⟨#[]⟩], .string ⟨#[]⟩, .bool false]) (by simp [results, Tryz.f14, go_sem, y0, y1]) rfl ⟨0, ⟨#[]⟩, ⟨#[]⟩, false, rfl, ⟨by decide, by decide⟩, Nat.zero_le _, fun e => (by cases e), yb⟩
end Go.Proofs.YtkkggpahanddnaaGreatDoor
/- Walks: Parse of any string, by the program. -/
namespace Go.Proofs.YtkkggpahanddnaaGreatDoor
open Go.RowKit
attribute [local go_sem] Ext.cell Ext.frozen
attribute [local go_sem ↓] Go.wp_at_zero Go.wp_at_succ
theorem escS_ge (l : List UInt8) : l.length ≤ (escS l).length := by
  induction l with
  | nil => exact Nat.le_refl _
  | cons c l ih =>
    have : escS (c :: l) = escC c ++ escS l := rfl
    rw [this, List.length_append, List.length_cons]
    have : 1 ≤ (escC c).length := by
      cases h : escC c with
      | nil => exact absurd h (escC_ne c)
      | cons _ _ => simp
    omega
theorem text_sizes : ∀ (ps : List (Int × ByteArray)), ps.length ≤ (textV ps).length ∧ ∀ p ∈ ps, p.2.size ≤ (textV ps).length
  | [] => ⟨Nat.le_refl _, fun p h => by cases h⟩
  | p :: ps => by
    obtain ⟨h1, h2⟩ := text_sizes ps
    have h3 : (textV ps).length ≤ (tailV ps).length := by
      cases ps with
      | nil => exact Nat.le_refl _
      | cons q qs => simp only [tailV, List.length_cons]; omega
    have h4 := txtP_pos p
    have h5 : p.2.size ≤ (txtP p).length := by
      have := escS_ge p.2.data.toList
      rw [ba_len] at this
      simp only [txtP, List.length_append, List.length_cons, List.length_nil]
      omega
    rw [textV_cons, List.length_append]
    refine ⟨by simp only [List.length_cons]; omega, fun q hq => ?_⟩
    rcases List.mem_cons.1 hq with rfl | hq
    · omega
    · have := h2 q hq; omega
theorem ba_toList (s : ByteArray) : s.toList = s.data.toList := ByteArray.toList_eq s
theorem isEmpty_iff (s : ByteArray) : s.toList.isEmpty = decide (s.size = 0) := by
  rw [ba_toList]
  have h := ba_len s
  cases hl : s.data.toList with
  | nil => rw [hl] at h; have h : s.size = 0 := h.symm; rw [h]; rfl
  | cons a l => rw [hl] at h; have h : s.size = l.length + 1 := h.symm; rw [h]; rfl
theorem trim_len (l p : List UInt8) : (Lib.trimPrefix l p).length ≤ l.length := by
  unfold Lib.trimPrefix
  split
  · rw [List.length_drop]; omega
  · exact Nat.le_refl _
def strSz : Value → Nat
  | .string S => S.size
  | _ => 0
set_option maxRecDepth 20000 in
set_option maxHeartbeats 4000000 in
theorem parse_none (s : ByteArray) (w : World) (hs : s.size ≤ 3000) (hno : ∀ ps, validV ps 1000 = true → textV ps ≠ s.data.toList) (hR : RdOk w) (ht : TabTen w) (hd : TabDeB w) :
    Calls Tryz.prog 6 #[.string s] w fun e w' => e = .returned (.tuple #[.slice none 0 0, .int .i64 3]) ∧ Below w.heap.size w w' := by
  obtain ⟨i0, hi, hz0, hz1, hz2⟩ := info_parts infoPc
  have HI := Lib.hid hi
  have HZ0 := Lib.hid hz0
  have HZ1 := Lib.hid hz1
  have HZ2 := Lib.hid hz2
  have HR := Lib.hid (fun w' (h : Below w.heap.size w w') => hR.below h)
  have HT := Lib.hid (fun w' (h : Below w.heap.size w w') => ht.below h)
  have HD := Lib.hid (fun w' (h : Below w.heap.size w w') => hd.below h)
  have HNO := Lib.hid hno
  clear hi hz0 hz1 hz2 hR ht hd hno
  go_enter Tryz.func6, Tryz.ntmps6
  go_wp2_with fail
  go_loopw [4, 5] (fun o v wr => ∃ (ps : List (Int × ByteArray)) (ad : Option Addr) (c : Nat) (S : ByteArray), o = .slice ad ps.length c ∧ v = .string S ∧ wr.ownsRow w.heap.size 43 2 (.slice ad ps.length c) ps.length (pcCells ps) ∧ (∀ p ∈ ps, Int64 p.1 ∧ p.2.size ≤ 3000) ∧ S.size + ps.length ≤ s.size ∧ Below w.heap.size w wr) (fun _ v _ => strSz v)
  case atStart => exact ⟨[], none, 0, s, rfl, rfl, World.ownsRow_nil _ _ _ _, fun p h => (by cases h), Nat.le_refl _, Below.refl _ _⟩
  case round =>
    obtain ⟨ps, ad, c, S, rfl, rfl, hown, hall, hsum, hbl⟩ := hrel
    have HOWN := Lib.hid hown
    have HBL := Lib.hid hbl
    have HALL := Lib.hid hall
    have HSUM := Lib.hid hsum
    have hzr := hbl.size
    have hpl : ps.length ≤ 3000 := by omega
    have hSl : S.size ≤ 3000 := by omega
    have hem := isEmpty_iff S
    clear hown hbl hall hsum
    by_cases h0 : S.size = 0
    · rw [decide_eq_true h0] at hem
      have HPS : Hid (Pc wr ad ps.length ps) := own_pc HOWN.out
      have HV := Lib.hid (pvalid_any ad ps.length c ps 1000 wr HPS.out (fun p hp => ((HALL.out p hp).1).2))
      have HX := Lib.hid (fun w h ht hd => text_all3 ad ps.length c ps w h (by omega) (fun p hp => (HALL.out p hp).2) (fun p hp => (HALL.out p hp).1) ht hd)
      clear h0
      cases hv : validV ps 1000
      · rw [hv] at HV
        clear hv
        go_wp2_with fail
        refine HV.out.mono ?_
        rintro e w1 ⟨rfl, hb1⟩
        have HB1 : Hid (Below w.heap.size w w1) := HBL.out.trans (hb1.mono hzr)
        clear hb1
        go_wp2_with fail
        go_ret2
        exact ⟨rfl, HB1.out⟩
      · have hne : ((bs (textV ps)).toList == s.toList) = false := by
          rw [bs_toList, ba_toList, beq_eq_false_iff_ne]
          exact HNO.out ps hv
        rw [hv] at HV
        clear hv
        generalize bs (textV ps) = T at *
        go_wp2_with fail
        refine HV.out.mono ?_
        rintro e w1 ⟨rfl, hb1⟩
        have HB1 : Hid (Below w.heap.size w w1) := HBL.out.trans (hb1.mono hzr)
        have HP1 : Hid (Pc w1 ad ps.length ps) := HPS.out.below hb1
        have hz1 := HB1.out.size
        clear hb1
        go_wp2_with fail
        refine (HX.out _ HP1.out (HT.out _ HB1.out) (HD.out _ HB1.out)).mono ?_
        rintro e w2 ⟨rfl, hb2⟩
        have HB2 : Hid (Below w.heap.size w w2) := HB1.out.trans (hb2.mono hz1)
        clear hb2
        go_wp2_with fail
        go_ret2
        exact ⟨rfl, HB2.out⟩
    · rw [decide_eq_false h0] at hem
      have HPI := Lib.hid (piece_exists S wr (by omega) (HR.out _ HBL.out))
      clear h0
      go_wp2_with fail
      refine HPI.out.mono ?_
      rintro e w1 ⟨n, t, R, b, rfl, hn, htS, hRS, hb1⟩
      have HN := Lib.hid hn
      have HTS := Lib.hid htS
      have HRS := Lib.hid hRS
      clear hn htS hRS HPI
      cases b with
      | false =>
        have HB1 : Hid (Below w.heap.size w w1) := HBL.out.trans (hb1.mono hzr)
        clear hb1
        go_wp2_with fail
        go_ret2
        exact ⟨rfl, by first | exact HB1.out | exact HB1.out.alloc HB1.out.size _⟩
      | true =>
        have HTR := Lib.hid (fun w => Tryz.strings_TrimPrefix R ⟨#[32]⟩ w)
        have HTL : Hid ((⟨(Lib.trimPrefix R.data.toList (⟨#[32]⟩ : ByteArray).data.toList).toArray⟩ : ByteArray).size ≤ R.size) := by
          unfold Hid
          have := trim_len R.data.toList (⟨#[32]⟩ : ByteArray).data.toList
          rw [ba_len] at this
          show (Lib.trimPrefix R.data.toList (⟨#[32]⟩ : ByteArray).data.toList).toArray.size ≤ R.size
          rw [List.size_toArray]
          exact this
        generalize (⟨(Lib.trimPrefix R.data.toList (⟨#[32]⟩ : ByteArray).data.toList).toArray⟩ : ByteArray) = T at *
        go_upto_region 7 with (fail)
        refine wp_at_worldH ?_
        intro W hW
        have hbW : Below w1.heap.size w1 W := by rw [hW]; exact (Below.refl _ _).alloc (Nat.le_refl _) _
        have kW : W.heap[w1.heap.size]? = some (.cells #[.int .i64 n, .string t] 43 (0, 0)) := by rw [hW]; exact row_new _ _ _
        have c0 := row_cells kW 0
        have c1 := row_cells kW 1
        have HOW := Lib.hid (own_below2 (own_below2 HOWN.out hb1) hbW)
        have HBW : Hid (Below w.heap.size w W) := (HBL.out.trans (hb1.mono hzr)).trans (hbW.mono (Nat.le_trans hzr hb1.size))
        have hzW := HBW.out.size
        clear hW hbW kW hb1
        go_wp2_with (at_builtin; refine wpList_app2 25 43 Tryz.underlying25 i0 _ HI.out HZ0.out HZ1.out HZ2.out rfl rfl _ _ rfl w.heap.size ad ps.length c _ rfl HOW.out _ _ _ rfl rfl rfl (by omega) hzW ?_; intro ad6 c6 w3 hown3 hb3 hg3 hz3; have HOWN3 := Lib.hid hown3; have HB3 := Lib.hid hb3; clear hown3 hb3 hg3 hz3)
        refine (HTR.out _).mono ?_
        rintro e _ ⟨rfl, rfl⟩
        go_wp2_with fail
        go_roundw
        case rel =>
          refine ⟨ps ++ [(n, t)], ad6, c6, T, by rw [List.length_append]; rfl, rfl, by rw [List.length_append, pcCells_snoc]; exact HOWN3.out, ?_, by have := HRS.out trivial; have := HTL.out; have := HSUM.out; rw [List.length_append]; simp only [List.length_cons, List.length_nil]; omega, HBW.out.trans HB3.out⟩
          intro p hp
          rcases List.mem_append.1 hp with hp | hp
          · exact HALL.out p hp
          · obtain rfl := List.mem_singleton.1 hp
            exact ⟨HN.out, Nat.le_trans HTS.out hSl⟩
        case measure => have := HRS.out trivial; have := HTL.out; simp [strSz]; omega
end Go.Proofs.YtkkggpahanddnaaGreatDoor
/- Walks: the reference's Text, of any pieces. -/
namespace Go.Proofs.YtkkggpahanddnaaGreatDoor
open Go.RowKit
attribute [local go_sem] Ext.cell Ext.frozen
attribute [local go_sem ↓] Go.wp_at_zero Go.wp_at_succ
theorem textV_snoc : ∀ (qs : List (Int × ByteArray)) (p : Int × ByteArray), qs ≠ [] → textV (qs ++ [p]) = textV qs ++ 32 :: txtP p
  | [], _, h => absurd rfl h
  | [q], p, _ => by simp [textV_cons, tailV]
  | q :: r :: qs, p, _ => by
    have ih := textV_snoc (r :: qs) p (by simp)
    rw [List.cons_append, textV_cons, textV_cons (qs := r :: qs)]
    show txtP q ++ 32 :: textV ((r :: qs) ++ [p]) = _
    rw [ih]
    simp [tailV]
theorem textV_one (p : Int × ByteArray) : textV [p] = txtP p := by simp [textV_cons, tailV]
theorem txtP_le {p : Int × ByteArray} (h0 : Int64 p.1) (h : p.2.size ≤ 3000) : (txtP p).length ≤ 12030 := by
  have := Lib.itoa_length_le p.1 h0.1 h0.2
  have h3 := escS_len p.2.data.toList
  rw [ba_len] at h3
  simp only [txtP, List.length_append, List.length_cons, List.length_nil]
  omega
theorem textV_le {ps : List (Int × ByteArray)} (h : ∀ p ∈ ps, Int64 p.1 ∧ p.2.size ≤ 3000) : (textV ps).length ≤ ps.length * 12031 := by
  have := join_len (ps.map txtP) 12030 (fun x hx => by obtain ⟨p, hp, rfl⟩ := List.mem_map.1 hx; exact txtP_le (h p hp).1 (h p hp).2)
  simpa [textV] using this
set_option maxRecDepth 20000 in
set_option maxHeartbeats 8000000 in
theorem rtext_all (ad : Option Addr) (n c : Nat) (ps : List (Int × ByteArray)) (w : World) (hp : Pc w ad n ps) (hn : n ≤ 100000) (hall : ∀ p ∈ ps, Int64 p.1 ∧ p.2.size ≤ 3000) :
    Calls Tryz.prog 10 #[.slice ad n c] w fun e w' => e = .returned (.string (bs (textV ps))) ∧ Below w.heap.size w w' := by
  obtain ⟨b, off, hp⟩ := hp
  have HP := Lib.hid hp
  have HLN := Lib.hid hp.len
  have HALL := Lib.hid hall
  clear hp hall
  go_enter Tryz.func10, Tryz.ntmps10
  go_wp2_with fail
  go_loopw [3, 4] (fun s i wr => ∃ k : Nat, i = .int .i64 (k : Int) ∧ k ≤ n ∧ s = .string (bs (textV (ps.take k))) ∧ Below w.heap.size w wr) (fun _ i _ => n - (intOf i).toNat)
  case atStart => exact ⟨0, rfl, Nat.zero_le _, rfl, Below.refl _ _⟩
  case round =>
    obtain ⟨k, rfl, hkn, rfl, hbl⟩ := hrel
    have HBL := Lib.hid hbl
    have hzr := hbl.size
    clear hbl
    by_cases hlt : k < n
    · have HPR := Lib.hid (HP.out.below HBL.out)
      have hix := fun W => HPR.out.ix 22 42 Tryz.underlying22 cellsRc hlt c W
      have h0 := HPR.out.c0 k hlt
      have h1 := HPR.out.c1 k hlt
      have hkl : k < ps.length := by rw [HLN.out]; exact hlt
      have hmem : ps.getD k (0, .empty) ∈ ps := getD_mem _ _ _ hkl
      have hti : ps.take (k + 1) = ps.take k ++ [ps.getD k (0, .empty)] := by
        rw [List.take_succ_eq_append_getElem hkl]
        simp [List.getD, List.getElem?_eq_getElem hkl]
      obtain ⟨hi6, hsz⟩ := HALL.out _ hmem
      have hsl : (textV (ps.take k)).length ≤ 1300000000 := by
        have := textV_le (ps := ps.take k) (fun p hp => HALL.out p (List.mem_of_mem_take hp))
        rw [List.length_take] at this
        omega
      have HTN : Hid (textV (ps.take (k + 1)) = (if k = 0 then [] else textV (ps.take k) ++ [32]) ++ txtP (ps.getD k (0, .empty))) := by
        unfold Hid
        rw [hti]
        by_cases h : k = 0
        · subst h; rw [if_pos rfl, List.take_zero]; exact textV_one _
        · rw [if_neg h, textV_snoc _ _ (fun e => by have := congrArg List.length e; rw [List.length_take, List.length_nil] at this; omega)]
          simp
      have hblk := World.block_lt_of_cell? wr _ h0
      clear hkl hmem hti
      generalize ps.getD k (0, .empty) = p at *
      obtain ⟨p0, p1⟩ := p
      simp only at h0 h1 hsz hi6
      have s1 : (bs (Lib.itoa p0)).size ≤ 100 := by rw [bs_size]; have := Lib.itoa_length_le p0 hi6.1 hi6.2; omega
      have s2 : (bs (escS p1.data.toList)).size ≤ 12000 := by rw [bs_size]; have := escS_len p1.data.toList; rw [ba_len] at this; omega
      have HDG := Lib.hid (fun w => rdigits_any p0 hi6.1 hi6.2 w)
      have HEC := Lib.hid (fun w => resc_any p1 w (by omega))
      have HTX : ∀ X : List UInt8, Hid (bs X ++ bs (Lib.itoa p0) ++ ⟨#[32, 34]⟩ ++ bs (escS p1.data.toList) ++ ⟨#[34]⟩ = bs (X ++ txtP (p0, p1))) := by
        intro X
        unfold Hid txtP
        rw [show (⟨#[32, 34]⟩ : ByteArray) = bs [32, 34] from rfl, show (⟨#[34]⟩ : ByteArray) = bs [34] from rfl, bs_append, bs_append, bs_append, bs_append]
        simp
      have HSZ : Hid ((bs (textV (ps.take k))).size ≤ 1300000000) := by unfold Hid; rw [bs_size]; exact hsl
      have z1 : (⟨#[32, 34]⟩ : ByteArray).size = 2 := rfl
      have z2 : (⟨#[34]⟩ : ByteArray).size = 1 := rfl
      have z3 : (⟨#[32]⟩ : ByteArray).size = 1 := rfl
      by_cases hk0 : k = 0
      · have hkp : ¬ 0 < (k : Int) := by omega
        have HFIN : Hid (bs (textV (ps.take k)) ++ bs (Lib.itoa p0) ++ ⟨#[32, 34]⟩ ++ bs (escS p1.data.toList) ++ ⟨#[34]⟩ = bs ((if k = 0 then [] else textV (ps.take k) ++ [32]) ++ txtP (p0, p1))) := by
          have := HTX []
          unfold Hid at this ⊢
          rw [if_pos hk0, ← this]
          subst hk0
          rfl
        obtain ⟨S, hS⟩ : ∃ S, bs (textV (ps.take k)) = S := ⟨_, rfl⟩
        have hSs : S.size ≤ 1300000001 := by rw [← hS]; have := HSZ.out; omega
        rw [hS] at HFIN
        rw [hS]
        clear HTX hS HSZ hk0
        generalize bs (Lib.itoa p0) = T0 at *
        generalize bs (escS p1.data.toList) = T1 at *
        have a0 := fun w => run_string_add_sum (P := Tryz.prog) (w := w) S T0 (by omega)
        have a1 := fun w => run_string_add_sum (P := Tryz.prog) (w := w) (S ++ T0) ⟨#[32, 34]⟩ (by rw [ByteArray.size_append]; omega)
        have a2 := fun w => run_string_add_sum (P := Tryz.prog) (w := w) (S ++ T0 ++ ⟨#[32, 34]⟩) T1 (by rw [ByteArray.size_append, ByteArray.size_append]; omega)
        have a3 := fun w => run_string_add_sum (P := Tryz.prog) (w := w) (S ++ T0 ++ ⟨#[32, 34]⟩ ++ T1) ⟨#[34]⟩ (by rw [ByteArray.size_append, ByteArray.size_append, ByteArray.size_append]; omega)
        clear z1 z2 z3 hSs hi6 hsl
        go_wp2_with fail
        go_region_held (fun w' => w'.cell? ⟨b, off + k * 2, none⟩ = some (.int .i64 p0) ∧ w'.cell? ⟨b, off + k * 2 + 1, none⟩ = some (.string p1)) (go_keep)
          (first
            | (go_at_call 22; (with_reducible refine (HDG.out _).mono ?_); rintro e _ ⟨rfl, rfl⟩)
            | (go_at_call 23; (with_reducible refine (HEC.out _).mono ?_); rintro e w2 ⟨rfl, hb2⟩; have q0 := (hb2.cell (p := ⟨b, off + k * 2, none⟩) hblk).trans h0; have q1 := (hb2.cell (p := ⟨b, off + k * 2 + 1, none⟩) hblk).trans h1; have HB2 := Lib.hid (show Below w.heap.size w w2 from HBL.out.trans (((below_drew1 wr).trans hb2).mono hzr)); clear hb2))
        all_goals
          go_wp2_with fail
          go_roundw
          case rel => exact ⟨k + 1, by go_num, hlt, by rw [HTN.out, HFIN.out], HB2.out⟩
          case measure => simp [intOf]; omega
      · have hkp : 0 < (k : Int) := by omega
        obtain ⟨S0, hS0⟩ : ∃ S0, bs (textV (ps.take k)) = S0 := ⟨_, rfl⟩
        have HFIN : Hid (bs (textV (ps.take k)) ++ ⟨#[32]⟩ ++ bs (Lib.itoa p0) ++ ⟨#[32, 34]⟩ ++ bs (escS p1.data.toList) ++ ⟨#[34]⟩ = bs ((if k = 0 then [] else textV (ps.take k) ++ [32]) ++ txtP (p0, p1))) := by
          have := HTX (textV (ps.take k) ++ [32])
          unfold Hid at this ⊢
          rw [if_neg hk0, ← this, show (⟨#[32]⟩ : ByteArray) = bs [32] from rfl, bs_append]
        have hS0s := HSZ.out
        rw [hS0] at HFIN hS0s
        rw [hS0]
        have aa := fun w => run_string_add_sum (P := Tryz.prog) (w := w) S0 ⟨#[32]⟩ (by omega)
        obtain ⟨S, hS⟩ : ∃ S, S0 ++ ⟨#[32]⟩ = S := ⟨_, rfl⟩
        have hSs : S.size ≤ 1300000001 := by rw [← hS, ByteArray.size_append]; omega
        rw [hS] at HFIN
        simp only [hS] at aa
        clear HTX hS hS0 HSZ hS0s
        generalize bs (Lib.itoa p0) = T0 at *
        generalize bs (escS p1.data.toList) = T1 at *
        have a0 := fun w => run_string_add_sum (P := Tryz.prog) (w := w) S T0 (by omega)
        have a1 := fun w => run_string_add_sum (P := Tryz.prog) (w := w) (S ++ T0) ⟨#[32, 34]⟩ (by rw [ByteArray.size_append]; omega)
        have a2 := fun w => run_string_add_sum (P := Tryz.prog) (w := w) (S ++ T0 ++ ⟨#[32, 34]⟩) T1 (by rw [ByteArray.size_append, ByteArray.size_append]; omega)
        have a3 := fun w => run_string_add_sum (P := Tryz.prog) (w := w) (S ++ T0 ++ ⟨#[32, 34]⟩ ++ T1) ⟨#[34]⟩ (by rw [ByteArray.size_append, ByteArray.size_append, ByteArray.size_append]; omega)
        clear z1 z2 z3 hSs hi6 hsl
        go_wp2_with fail
        go_region_held (fun w' => w'.cell? ⟨b, off + k * 2, none⟩ = some (.int .i64 p0) ∧ w'.cell? ⟨b, off + k * 2 + 1, none⟩ = some (.string p1)) (go_keep)
          (first
            | (go_at_call 22; (with_reducible refine (HDG.out _).mono ?_); rintro e _ ⟨rfl, rfl⟩)
            | (go_at_call 23; (with_reducible refine (HEC.out _).mono ?_); rintro e w2 ⟨rfl, hb2⟩; have q0 := (hb2.cell (p := ⟨b, off + k * 2, none⟩) hblk).trans h0; have q1 := (hb2.cell (p := ⟨b, off + k * 2 + 1, none⟩) hblk).trans h1; have HB2 := Lib.hid (show Below w.heap.size w w2 from HBL.out.trans (((below_drew1 wr).trans hb2).mono hzr)); clear hb2))
        all_goals
          go_wp2_with fail
          go_roundw
          case rel => exact ⟨k + 1, by go_num, hlt, by rw [HTN.out, HFIN.out], HB2.out⟩
          case measure => simp [intOf]; omega
    · obtain rfl : k = n := by omega
      have HE : Hid (textV (ps.take k) = textV ps) := by unfold Hid; rw [List.take_of_length_le (by rw [HLN.out]; exact Nat.le_refl _)]
      go_wp2_with fail
      go_ret
      exact ⟨by rw [← HE.out]; rfl, HBL.out⟩
end Go.Proofs.YtkkggpahanddnaaGreatDoor
/- Plain: an escaped string is read back. -/
namespace Go.Proofs.YtkkggpahanddnaaGreatDoor
open Go.RowKit
theorem num_hex : ∀ f : Fin 128, numV [hexD (f.1 / 16), hexD (f.1 % 16)] = some f.1 := by decide +kernel
theorem rbV_x (a : UInt8) (r : List UInt8) (h : 2 ≤ r.length) : rbV (a :: 120 :: r) = (match numV (r.take 2) with | some n => if n ≤ 127 then (([UInt8.ofNat n], 4) : List UInt8 × Nat) else ([], 0) | none => ([], 0)) := by
  show (if 2 ≤ r.length then _ else _) = _
  rw [if_pos h]
  cases numV (r.take 2) <;> rfl
theorem rbV_esc (c : UInt8) : (escC c = [c] ∧ c ≠ 92 ∧ c ≠ 10 ∧ c ≠ 34) ∨ ((∃ tl, escC c = 92 :: tl) ∧ ∀ R : List UInt8, rbV (escC c ++ R) = ([c], (escC c).length)) := by
  unfold escC
  split
  · rename_i h; subst h; exact .inr ⟨⟨_, rfl⟩, fun R => rfl⟩
  · split
    · rename_i h; subst h; exact .inr ⟨⟨_, rfl⟩, fun R => rfl⟩
    · split
      · rename_i h; subst h; exact .inr ⟨⟨_, rfl⟩, fun R => rfl⟩
      · split
        · rename_i h; subst h; exact .inr ⟨⟨_, rfl⟩, fun R => rfl⟩
        · split
          · rename_i h; subst h; exact .inr ⟨⟨_, rfl⟩, fun R => rfl⟩
          · split
            · rename_i h
              refine .inr ⟨⟨_, rfl⟩, fun R => ?_⟩
              have hc : c.toNat < 128 := by omega
              have hn := num_hex ⟨c.toNat, hc⟩
              have hl : 2 ≤ (hexD (c.toNat / 16) :: hexD (c.toNat % 16) :: R).length := by simp
              show rbV (92 :: 120 :: (hexD (c.toNat / 16) :: hexD (c.toNat % 16) :: R)) = _
              rw [rbV_x _ _ hl]
              show (match numV [hexD (c.toNat / 16), hexD (c.toNat % 16)] with | some n => if n ≤ 127 then (([UInt8.ofNat n], 4) : List UInt8 × Nat) else ([], 0) | none => ([], 0)) = ([c], 4)
              rw [hn]
              show (if c.toNat ≤ 127 then (([UInt8.ofNat c.toNat], 4) : List UInt8 × Nat) else ([], 0)) = ([c], 4)
              rw [if_pos (by omega)]
              simp
            · rename_i h1 h2 _ _ h3 _; exact .inl ⟨rfl, h1, h2, h3⟩
theorem getD_split (A T : List UInt8) (h : UInt8) : (A ++ h :: T).getD A.length 0 = h := by simp [List.getD]
theorem unescN_esc_of (x : List UInt8) : ∀ (m j f : Nat), x.length - j = m → j ≤ x.length → (escS x).length - (escS (x.take j)).length < f → unescN (escS x) f (escS (x.take j)).length (x.take j) = (x, 0, 0)
  | 0, j, f, hm, hj, hf => by
    obtain rfl : j = x.length := by omega
    rw [List.take_length, unescN_end (Nat.lt_irrefl _)]
  | m + 1, j, f, hm, hj, hf => by
    have hlt : j < x.length := by omega
    have hsp := escS_split x hlt
    have htk := escS_take x j hlt
    have htx : x.take (j + 1) = x.take j ++ [x.getD j 0] := by
      rw [List.take_succ_eq_append_getElem hlt]
      simp [List.getD, List.getElem?_eq_getElem hlt]
    have hR : ∃ R, escS (x.drop (j + 1)) = R := ⟨_, rfl⟩
    obtain ⟨R, hR⟩ := hR
    rw [hR] at hsp
    obtain ⟨c, hc⟩ : ∃ c, x.getD j 0 = c := ⟨_, rfl⟩
    rw [hc] at hsp htk htx
    have hlen : (escS x).length = (escS (x.take j)).length + ((escC c).length + R.length) := by rw [hsp, List.length_append, List.length_append]
    have hpos : 1 ≤ (escC c).length := by
      rcases rbV_esc c with ⟨e, _⟩ | ⟨⟨tl, e⟩, _⟩ <;> rw [e] <;> simp
    obtain ⟨g, rfl⟩ : ∃ g, f = g + 1 := ⟨f - 1, by omega⟩
    have hi : (escS (x.take j)).length < (escS x).length := by omega
    have htl : (escS (x.take (j + 1))).length = (escS (x.take j)).length + (escC c).length := by rw [htk, List.length_append]
    have ih := unescN_esc_of x m (j + 1) g (by omega) hlt (by omega)
    rw [htl, htx] at ih
    rcases rbV_esc c with ⟨e, n1, n2, n3⟩ | ⟨⟨tl, e⟩, hrb⟩
    · have hg : (escS x).getD (escS (x.take j)).length 0 = c := by rw [hsp, e]; exact getD_split _ R c
      rw [unescN_one hi (by rw [hg]; exact n1) (by rw [hg]; exact n2) (by rw [hg]; exact n3), hg]
      rw [e] at ih
      exact ih
    · have hg : (escS x).getD (escS (x.take j)).length 0 = 92 := by rw [hsp, e]; exact getD_split _ (tl ++ R) 92
      have hd : (escS x).drop (escS (x.take j)).length = escC c ++ R := by rw [hsp, List.drop_left]
      rw [unescN_esc hi hg (by rw [hd, hrb]; show (escC c).length ≠ 0; omega), hd, hrb]
      exact ih
theorem unescV_esc (x : List UInt8) : unescV (escS x) = (x, 0, 0) := unescN_esc_of x x.length 0 _ rfl (Nat.zero_le _) (by show (escS x).length - 0 < (escS x).length + 1; omega)
end Go.Proofs.YtkkggpahanddnaaGreatDoor
