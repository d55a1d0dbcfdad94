/- Walks: the text of a layout, given the texts of its numbers and its bytes. -/
import Derived.Test.YtkkggpahanddnaaDoorH20
namespace Go.Proofs.YtkkggpahanddnaaDoor
open Go.RowKit
attribute [local go_sem] Ext.cell Ext.frozen
attribute [local go_sem ↓] Go.wp_at_zero Go.wp_at_succ

def txtP (p : Int × ByteArray) : List UInt8 := Lib.itoa p.1 ++ [32, 34] ++ escS p.2.data.toList ++ [34]
def textV (ps : List (Int × ByteArray)) : List UInt8 := Lib.join (ps.map txtP) [32]
def ItoaOk (i : Int) (w : World) : Prop := (Lib.itoa i).length ≤ 100 ∧ ∀ w', Below w.heap.size w w' → Calls Tryd.prog 40 #[.int .i64 i] w' fun e w'' => e = .returned (.string (bs (Lib.itoa i))) ∧ Below w'.heap.size w' w''
theorem ItoaOk.below {i : Int} {w w' : World} (h : ItoaOk i w) (hb : Below w.heap.size w w') : ItoaOk i w' := ⟨h.1, fun w2 h2 => h.2 w2 (hb.trans (h2.mono hb.size))⟩
theorem BslOk.below {c : UInt8} {w w' : World} (h : BslOk c w) (hb : Below w.heap.size w w') : BslOk c w' := fun b w2 h2 => h b w2 (hb.trans (h2.mono hb.size))
theorem ItoaOk.small (n : Nat) (hn : n < 100) (w : World) : ItoaOk (n : Int) w := by
  have e : Lib.itoa (n : Int) = Lib.decDigits n := by unfold Lib.itoa; rw [if_neg (by omega), Int.toNat_natCast]
  refine ⟨?_, fun w' _ => ?_⟩
  · rw [e]
    by_cases h : n < 10
    · rw [Lib.decDigits, dif_pos h]; simp
    · rw [Lib.decDigits, dif_neg h, Lib.decDigits, dif_pos (by omega)]; simp
  · rw [e]
    exact (Tryd.strconv_Itoa_small n hn w').mono fun _ _ ⟨he, hw⟩ => ⟨he, by rw [hw]; exact Below.refl _ _⟩
theorem join_len (l : List (List UInt8)) (m : Nat) (h : ∀ x ∈ l, x.length ≤ m) : (Lib.join l [32]).length ≤ l.length * (m + 1) := by
  induction l with
  | nil => simp [Lib.join]
  | cons a l ih =>
    have h1 := ih (fun x hx => h x (List.mem_cons_of_mem _ hx))
    have h2 := h a (List.mem_cons_self ..)
    cases l with
    | nil => simp [Lib.join]; omega
    | cons b l =>
      have e : Lib.join (a :: b :: l) [32] = a ++ [32] ++ Lib.join (b :: l) [32] := by simp [Lib.join, List.intercalate]
      rw [e, List.length_append, List.length_append, List.length_cons (a := a), Nat.succ_mul]
      simp only [List.length_cons, List.length_nil] at h1 ⊢
      omega
set_option maxRecDepth 20000 in
set_option maxHeartbeats 8000000 in
theorem text_any (ad : Option Addr) (n c : Nat) (ps : List (Int × ByteArray)) (w : World) (hp : Pc w ad n ps) (hn : n ≤ 100000) (hs : ∀ p ∈ ps, p.2.size ≤ 2000) (hi : ∀ p ∈ ps, ItoaOk p.1 w) (he : ∀ p ∈ ps, ∀ c ∈ p.2.data.toList, BslOk c w) :
    Calls Tryd.prog 31 #[.slice ad n c] w fun e w' => e = .returned (.string (bs (textV ps))) ∧ Below w.heap.size w w' := by
  obtain ⟨b, off, hp⟩ := hp
  have HP := Lib.hid hp
  have HLN := Lib.hid hp.len
  have HSZ := Lib.hid hs
  have HIO := Lib.hid hi
  have HEO := Lib.hid he
  obtain ⟨i0, hi0, hz0, hz1, hz2⟩ := info_parts infoS
  have HI := Lib.hid hi0
  have HZ0 := Lib.hid hz0
  have HZ1 := Lib.hid hz1
  have HZ2 := Lib.hid hz2
  clear hp hs hi he hi0 hz0 hz1 hz2
  go_enter Tryd.func31, Tryd.ntmps31
  go_wp2_with fail
  go_loopw [3, 8] (fun v i wr => ∃ (k : Nat) (ad' : Option Addr) (c' : Nat), i = .int .i64 (k : Int) ∧ k ≤ n ∧ v = .slice ad' k c' ∧ wr.ownsRow w.heap.size 9 1 (.slice ad' k c') k (strs ((ps.take k).map (fun p => bs (txtP p)))) ∧ Below w.heap.size w wr) (fun _ i _ => n - (intOf i).toNat)
  case atStart => exact ⟨0, none, 0, rfl, Nat.zero_le _, rfl, World.ownsRow_nil _ _ _ _, Below.refl _ _⟩
  case round =>
    obtain ⟨k, ad', c', rfl, hkn, rfl, hown, hbl⟩ := hrel
    have HOWN := Lib.hid hown
    have HBL := Lib.hid hbl
    have hzr := hbl.size
    clear hown hbl
    by_cases hlt : k < n
    · have HPR := Lib.hid (HP.out.below HBL.out)
      have hix := fun W => HPR.out.ix 27 66 Tryd.underlying27 cellsPc hlt c W
      have h0 := HPR.out.c0 k hlt
      have h1 := HPR.out.c1 k hlt
      have hkl : k < ps.length := by rw [HLN.out]; exact hlt
      have hmem : ps.getD k (0, .empty) ∈ ps := getD_mem _ _ _ hkl
      have HTS : Hid ((ps.take (k + 1)).map (fun p => bs (txtP p)) = (ps.take k).map (fun p => bs (txtP p)) ++ [bs (txtP (ps.getD k (0, .empty)))]) := by
        unfold Hid
        rw [List.take_succ_eq_append_getElem hkl, List.map_append]
        simp [List.getD, List.getElem?_eq_getElem hkl]
      have hsz := HSZ.out _ hmem
      have HIT := Lib.hid (HIO.out _ hmem)
      have HES := Lib.hid (HEO.out _ hmem)
      clear hkl hmem
      generalize ps.getD k (0, .empty) = p at *
      obtain ⟨p0, p1⟩ := p
      simp only at h0 h1 hsz
      have HTX : Hid (bs (txtP (p0, p1)) = bs (Lib.itoa p0) ++ ⟨#[32, 34]⟩ ++ bs (escS p1.data.toList) ++ ⟨#[34]⟩) := by
        unfold Hid txtP
        rw [show (⟨#[32, 34]⟩ : ByteArray) = bs [32, 34] from rfl, show (⟨#[34]⟩ : ByteArray) = bs [34] from rfl, bs_append, bs_append, bs_append]
      have s1 : (bs (Lib.itoa p0)).size ≤ 100 := by rw [bs_size]; exact HIT.out.1
      have s2 : (bs (escS p1.data.toList)).size ≤ 8000 := by rw [bs_size]; have := escS_len p1.data.toList; rw [ba_len] at this; omega
      have HIC : Hid (∀ w', Below w.heap.size w w' → Calls Tryd.prog 40 #[.int .i64 p0] w' fun e w'' => e = .returned (.string (bs (Lib.itoa p0))) ∧ Below w'.heap.size w' w'') := HIT.out.2
      have HEC : Hid (∀ w', Below w.heap.size w w' → Calls Tryd.prog 41 #[.int .i64 2, .string p1] w' fun e w'' => e = .returned (.string (bs (escS p1.data.toList))) ∧ Below w'.heap.size w' w'') := fun w' g => esc_any p1 w' (by omega) (fun c hc => (HES.out c hc).below g)
      generalize bs (Lib.itoa p0) = T0 at *
      generalize bs (escS p1.data.toList) = T1 at *
      clear HIT HES
      have z1 : (⟨#[32, 34]⟩ : ByteArray).size = 2 := rfl
      have z2 : (⟨#[34]⟩ : ByteArray).size = 1 := rfl
      have a1 := fun w => run_string_add_sum (P := Tryd.prog) (w := w) T0 ⟨#[32, 34]⟩ (by omega)
      have a2 := fun w => run_string_add_sum (P := Tryd.prog) (w := w) (T0 ++ ⟨#[32, 34]⟩) T1 (by rw [ByteArray.size_append]; omega)
      have a3 := fun w => run_string_add_sum (P := Tryd.prog) (w := w) (T0 ++ ⟨#[32, 34]⟩ ++ T1) ⟨#[34]⟩ (by rw [ByteArray.size_append, ByteArray.size_append]; omega)
      clear z1 z2
      go_wp2_with fail
      refine wp_at_worldH ?_
      intro W hW
      have k0 : W.cell? ⟨wr.heap.size, 0, none⟩ = some (.int .i64 p0) := by rw [hW]; simp [go_sem]
      have k1 : W.cell? ⟨wr.heap.size, 1, none⟩ = some (.string p1) := by rw [hW]; simp [go_sem]
      have KB : Hid (W.heap[wr.heap.size]? = some (.cells #[.int .i64 p0, .string p1] 66 (0, 0))) := by rw [hW]; exact row_new _ _ _
      have hz : wr.heap.size < W.heap.size := by rw [hW]; simp
      have HBW : Hid (Below wr.heap.size wr W) := by rw [hW]; exact (Below.refl _ _).alloc (Nat.le_refl _) _
      have HBWW : Hid (Below w.heap.size w W) := HBL.out.trans (HBW.out.mono hzr)
      clear hW h0 h1 hix
      go_region_held3 (fun w' => w'.cell? ⟨wr.heap.size, 0, none⟩ = some (.int .i64 p0) ∧ w'.cell? ⟨wr.heap.size, 1, none⟩ = some (.string p1)) (go_keep)
        (first
          | (go_at_call 40; (with_reducible refine (HIC.out _ ?_).mono ?_); (exact (show Bel w _ from Bel.drew HBWW.out)); rintro e w1 ⟨rfl, hb1⟩; have hb1' : Below W.heap.size W w1 := (below_drew1 W).trans hb1; have q0 := (hb1'.cell (p := ⟨wr.heap.size, 0, none⟩) hz).trans k0; have q1 := (hb1'.cell (p := ⟨wr.heap.size, 1, none⟩) hz).trans k1; have hz1 : wr.heap.size < w1.heap.size := Nat.lt_of_lt_of_le hz hb1'.size; have KB1 := Lib.hid ((hb1'.block wr.heap.size hz).trans KB.out); have HB1 := Lib.hid (show Below wr.heap.size wr w1 from HBW.out.trans (hb1'.mono (by omega))); have HW1 := Lib.hid (show Below w.heap.size w w1 from HBWW.out.trans (hb1'.mono (by omega))); clear hb1 hb1')
          | (go_at_call 41; (with_reducible refine (HEC.out _ HW1.out).mono ?_); rintro e w2 ⟨rfl, hb2⟩; have q0 := (hb2.cell (p := ⟨wr.heap.size, 0, none⟩) hz1).trans q0; have q1 := (hb2.cell (p := ⟨wr.heap.size, 1, none⟩) hz1).trans q1; have hz2 : w.heap.size ≤ w2.heap.size := (by have := hb2.size; omega); have HOY := Lib.hid (own_below2 HOWN.out (HB1.out.trans (hb2.mono (by omega)))); have HBY := Lib.hid (show Below w.heap.size w w2 from HW1.out.trans (hb2.mono (by omega))); have hz3 : wr.heap.size < w2.heap.size := (by have := hb2.size; omega); have KB2 := Lib.hid ((hb2.block wr.heap.size hz1).trans KB1.out); clear hb2)
          | (refine step_app_strs (by rfl) (.tmp 12) (.tmp 22) (by rfl) w.heap.size ad' k c' _ (by rfl) (World.ownsRow.alloc HOY.out _) _ 1 1 [_] (by rfl) (sl_one (row_new _ _ _)) (fun h => by cases h) (by omega) (by simp; omega) ?_; intro ad6 c6 w3 hown3 hg3 hnn3; have hb3 := ((Below.refl w.heap.size w2).alloc hz2 _).grown hg3 (by simp; omega) (fun q hq => (World.ownsRow.lt HOY.out q hq).1); have q0 := (hg3.cell_far ⟨wr.heap.size, 0, none⟩ (by simp; omega) (fun e => (own_other HOY.out KB2.out (by decide)) e.symm)).trans ((World.cell?_of_block (Below.heap_alloc _ _ _ hz3)).trans q0); have q1 := (hg3.cell_far ⟨wr.heap.size, 1, none⟩ (by simp; omega) (fun e => (own_other HOY.out KB2.out (by decide)) e.symm)).trans ((World.cell?_of_block (Below.heap_alloc _ _ _ hz3)).trans q1); have HOWN3 := Lib.hid hown3; have HB3 := Lib.hid hb3; clear hown3 hb3 hg3))
      go_wp2_with fail
      go_roundw
      case rel => exact ⟨k + 1, ad6, c6, by go_num, by omega, rfl, by rw [HTS.out, strs_app, HTX.out]; exact HOWN3.out, HBY.out.trans HB3.out⟩
      case measure => simp [intOf]; omega
    · obtain rfl : k = n := by omega
      have HOE : Hid (wr.ownsRow w.heap.size 9 1 (.slice ad' k c') k (strs (ps.map (fun p => bs (txtP p))))) := by
        have := HOWN.out
        rwa [List.take_of_length_le (by rw [HLN.out]; exact Nat.le_refl _)] at this
      by_cases hk0 : k = 0
      · subst hk0
        have hps : ps = [] := List.eq_nil_of_length_eq_zero HLN.out
        go_wp2_with fail
        refine (Tryd.strings_Join_none ad' c' ⟨#[32]⟩ wr).mono ?_
        rintro e w3 ⟨rfl, rfl⟩
        go_wp2_with fail
        go_ret
        exact ⟨by rw [hps]; rfl, HBL.out⟩
      · obtain ⟨g, rfl, hg1, hg2, hg3, hg4, hsl, _⟩ := own_parts HOE.out (by omega)
        have hlen : (ps.map (fun p => bs (txtP p))).length = k := by rw [List.length_map]; exact HLN.out
        have hJ := Tryd.strings_Join g 0 c' (ps.map (fun p => bs (txtP p))) ⟨#[32]⟩ wr (fun j x hx => by
            have hj : j < k := by have := (List.getElem?_eq_some_iff.1 hx).1; omega
            rw [hsl.cell j hj, strs_getD _ _ (by omega), List.getD, hx]; rfl) hg2 (by omega) (by omega) (by
            have e1 : (ps.map (fun p => bs (txtP p))).map (·.data.toList) = ps.map txtP := by rw [List.map_map]; rfl
            rw [e1]
            have := join_len (ps.map txtP) 8200 (fun x hx => by
              obtain ⟨p, hp, rfl⟩ := List.mem_map.1 hx
              have h1 := (HIO.out p hp).1
              have h2 := escS_len p.2.data.toList
              rw [ba_len] at h2
              have h3 := HSZ.out p hp
              simp only [txtP, List.length_append, List.length_cons, List.length_nil]
              omega)
            rw [List.length_map, HLN.out] at this
            have h5 := Nat.mul_le_mul_right 8201 hn
            show (Lib.join (ps.map txtP) [32]).length ≤ _
            omega)
        rw [hlen] at hJ
        have e1 : (ps.map (fun p => bs (txtP p))).map (·.data.toList) = ps.map txtP := by rw [List.map_map]; rfl
        rw [e1] at hJ
        have HJ := Lib.hid hJ
        clear hJ e1 hsl hlen
        go_wp2_with fail
        (with_reducible refine HJ.out.mono ?_)
        rintro e w3 ⟨rfl, hb3⟩
        go_wp2_with fail
        go_ret
        exact ⟨rfl, HBL.out.trans (hb3.mono hzr)⟩
end Go.Proofs.YtkkggpahanddnaaDoor
