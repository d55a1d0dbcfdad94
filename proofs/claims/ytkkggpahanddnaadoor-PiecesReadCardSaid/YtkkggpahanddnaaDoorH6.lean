/- Walks: pieces from one package to the other. -/
import Derived.Test.YtkkggpahanddnaaDoorH5
namespace Go.Proofs.YtkkggpahanddnaaDoor
open Go.RowKit
attribute [local go_sem] Ext.cell Ext.frozen
attribute [local go_sem ↓] Go.wp_at_zero Go.wp_at_succ

set_option maxRecDepth 20000 in
set_option maxHeartbeats 4000000 in
theorem frompc_any (ad : Option Addr) (n c : Nat) (ps : List (Int × ByteArray)) (w : World) (hp : Pc w ad n ps) (hn : n ≤ 100000000) :
    Calls Tryd.prog 16 #[.slice ad n c] w (PcPost 58 w ps) := by
  obtain ⟨b, off, hp⟩ := hp
  have HP := Lib.hid hp
  have HLN := Lib.hid hp.len
  obtain ⟨i0, hi, hz0, hz1, hz2⟩ := info_parts infoRc
  have HI := Lib.hid hi
  have HZ0 := Lib.hid hz0
  have HZ1 := Lib.hid hz1
  have HZ2 := Lib.hid hz2
  clear hp hi hz0 hz1 hz2
  go_enter Tryd.func16, Tryd.ntmps16
  go_wp2_with fail
  go_loopw [3, 4] (fun v i wr => ∃ (k : Nat) (ad' : Option Addr) (c' : Nat), i = .int .i64 (k : Int) ∧ k ≤ n ∧ v = .slice ad' k c' ∧ wr.ownsRow w.heap.size 58 2 (.slice ad' k c') k (pcCells (ps.take k)) ∧ Below w.heap.size w wr) (fun _ i _ => n - (intOf i).toNat)
  case atStart => exact ⟨0, none, 0, rfl, Nat.zero_le _, rfl, by rw [List.take_zero]; exact World.ownsRow_nil _ _ _ _, Below.refl _ _⟩
  case round =>
    obtain ⟨k, ad', c', rfl, hkn, rfl, hown, hbl⟩ := hrel
    have HOWN := Lib.hid hown
    have HBL := Lib.hid hbl
    have hzr := hbl.size
    clear hown hbl
    by_cases hlt : k < n
    · have HPR := Lib.hid (HP.out.below HBL.out)
      have hix := fun W => HPR.out.ix 27 66 Tryd.underlying27 cellsPc hlt c W
      have h0 := HPR.out.c0 k hlt
      have h1 := HPR.out.c1 k hlt
      have hkl : k < ps.length := by rw [HLN.out]; exact hlt
      have HTS : Hid (ps.take (k + 1) = ps.take k ++ [ps.getD k (0, .empty)]) := by
        unfold Hid
        rw [List.take_succ_eq_append_getElem hkl]
        simp [List.getD, List.getElem?_eq_getElem hkl]
      clear hkl
      generalize ps.getD k (0, .empty) = p at *
      obtain ⟨p0, p1⟩ := p
      simp only at h0 h1
      go_wp2_with (at_builtin; refine wpList_app2 33 58 Tryd.underlying33 i0 _ HI.out HZ0.out HZ1.out HZ2.out rfl rfl _ _ rfl w.heap.size ad' k c' _ rfl HOWN.out _ _ _ rfl rfl rfl (by omega) hzr ?_; intro ad6 c6 w3 hown3 hb3 hg3 hz3; have HOWN3 := Lib.hid hown3; have HB3 := Lib.hid hb3; clear hown3 hb3 hg3 hz3)
      go_roundw
      case rel => exact ⟨k + 1, ad6, c6, by go_num, by omega, rfl, by rw [HTS.out, pcCells_snoc]; exact HOWN3.out, HBL.out.trans HB3.out⟩
      case measure => simp [intOf]; omega
    · obtain rfl : k = n := by omega
      go_wp2_with fail
      go_ret
      have h1 := HOWN.out
      rw [List.take_of_length_le (by rw [HLN.out]; exact Nat.le_refl _)] at h1
      have h2 := HLN.out
      exact ⟨ad', c', by rw [h2]; rfl, by rw [h2]; exact h1, HBL.out⟩

set_option maxRecDepth 20000 in
set_option maxHeartbeats 4000000 in
theorem ownpc_any (ad : Option Addr) (n c : Nat) (ps : List (Int × ByteArray)) (w : World) (hp : Pc w ad n ps) (hn : n ≤ 100000000) :
    Calls Tryd.prog 27 #[.slice ad n c] w (PcPost 66 w ps) := by
  obtain ⟨b, off, hp⟩ := hp
  have HP := Lib.hid hp
  have HLN := Lib.hid hp.len
  obtain ⟨i0, hi, hz0, hz1, hz2⟩ := info_parts infoPc
  have HI := Lib.hid hi
  have HZ0 := Lib.hid hz0
  have HZ1 := Lib.hid hz1
  have HZ2 := Lib.hid hz2
  clear hp hi hz0 hz1 hz2
  go_enter Tryd.func27, Tryd.ntmps27
  go_wp2_with fail
  go_loopw [3, 4] (fun v i wr => ∃ (k : Nat) (ad' : Option Addr) (c' : Nat), i = .int .i64 (k : Int) ∧ k ≤ n ∧ v = .slice ad' k c' ∧ wr.ownsRow w.heap.size 66 2 (.slice ad' k c') k (pcCells (ps.take k)) ∧ Below w.heap.size w wr) (fun _ i _ => n - (intOf i).toNat)
  case atStart => exact ⟨0, none, 0, rfl, Nat.zero_le _, rfl, by rw [List.take_zero]; exact World.ownsRow_nil _ _ _ _, Below.refl _ _⟩
  case round =>
    obtain ⟨k, ad', c', rfl, hkn, rfl, hown, hbl⟩ := hrel
    have HOWN := Lib.hid hown
    have HBL := Lib.hid hbl
    have hzr := hbl.size
    clear hown hbl
    by_cases hlt : k < n
    · have HPR := Lib.hid (HP.out.below HBL.out)
      have hix := fun W => HPR.out.ix 33 58 Tryd.underlying33 cellsRc hlt c W
      have h0 := HPR.out.c0 k hlt
      have h1 := HPR.out.c1 k hlt
      have hkl : k < ps.length := by rw [HLN.out]; exact hlt
      have HTS : Hid (ps.take (k + 1) = ps.take k ++ [ps.getD k (0, .empty)]) := by
        unfold Hid
        rw [List.take_succ_eq_append_getElem hkl]
        simp [List.getD, List.getElem?_eq_getElem hkl]
      clear hkl
      generalize ps.getD k (0, .empty) = p at *
      obtain ⟨p0, p1⟩ := p
      simp only at h0 h1
      go_wp2_with (at_builtin; refine wpList_app2 27 66 Tryd.underlying27 i0 _ HI.out HZ0.out HZ1.out HZ2.out rfl rfl _ _ rfl w.heap.size ad' k c' _ rfl HOWN.out _ _ _ rfl rfl rfl (by omega) hzr ?_; intro ad6 c6 w3 hown3 hb3 hg3 hz3; have HOWN3 := Lib.hid hown3; have HB3 := Lib.hid hb3; clear hown3 hb3 hg3 hz3)
      go_roundw
      case rel => exact ⟨k + 1, ad6, c6, by go_num, by omega, rfl, by rw [HTS.out, pcCells_snoc]; exact HOWN3.out, HBL.out.trans HB3.out⟩
      case measure => simp [intOf]; omega
    · obtain rfl : k = n := by omega
      go_wp2_with fail
      go_ret
      have h1 := HOWN.out
      rw [List.take_of_length_le (by rw [HLN.out]; exact Nat.le_refl _)] at h1
      have h2 := HLN.out
      exact ⟨ad', c', by rw [h2]; rfl, by rw [h2]; exact h1, HBL.out⟩
end Go.Proofs.YtkkggpahanddnaaDoor
