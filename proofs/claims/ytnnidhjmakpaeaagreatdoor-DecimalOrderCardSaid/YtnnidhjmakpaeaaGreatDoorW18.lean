/- Walks: digits with 1 added, by the program. -/
import Derived.Test.YtnnidhjmakpaeaaGreatDoorW5
import Derived.Test.YtnnidhjmakpaeaaGreatDoorP3
import Derived.Laws.IdiomStrings
namespace Go.Proofs.YtnnidhjmakpaeaaGreatDoor
open Go.RowKit
attribute [local go_sem] Ext.cell Ext.frozen
attribute [local go_sem ↓] Go.wp_at_zero Go.wp_at_succ

/-- block D holds the bytes l -/
def ByAt (w : World) (D : Nat) (l : List UInt8) : Prop := ∀ i (h : i < l.length), w.cell? ⟨D, i, none⟩ = some (.int .u8 (l[i].toNat : Int)) ∧ w.frozen? ⟨D, i, none⟩ = false
theorem ByAt.set {w : World} {D : Nat} {l : List UInt8} (h : ByAt w D l) {i : Nat} (hi : i < l.length) (c : UInt8) : ByAt (w.setCell ⟨D, i, none⟩ (.int .u8 (c.toNat : Int))) D (l.set i c) := by
  intro p hp0
  have hp : p < l.length := by rwa [List.length_set] at hp0
  refine ⟨?_, by simp [World.frozen?_setCell, (h p hp).2]⟩
  by_cases hpi : p = i
  · subst hpi
    rw [World.cell?_setCell_same' _ _ _ (by rw [(h p hp).1]; rfl), List.getElem_set_self]
  · rw [World.cell?_setCell_other _ _ _ _ (by simp), (h p hp).1, List.getElem_set_ne (fun e => hpi e.symm)]
theorem ByAt.drewN {w : World} {D : Nat} {l : List UInt8} (h : ByAt w D l) (n : Nat) : ByAt (w.drewN n) D l := h
theorem ByAt.back {w : World} {D : Nat} {l : List UInt8} (h : ByAt w D l) (n c : Nat) (hn : l.length = n) :
    (convert 65 9 (.slice (some ⟨D, 0, none⟩) n c)).run Tryz.prog w = .ok (.string (bs l)) w := by
  subst hn
  exact run_convert_bytes_back w 65 9 5 ⟨D, 0, none⟩ c l Tryz.underlying65 Tryz.underlying5 Tryz.underlying9 (fun j hj => by
    rw [show (Addr.add ⟨D, 0, none⟩ j) = ⟨D, j, none⟩ by simp [Addr.add]; intro e; subst e; rfl]
    exact (h j hj).1)
theorem cellsU8 : Tryz.prog.cellsOf 5 = 1 := by kernel_rfl
theorem ixU8 {m c D k : Nat} (hk : k < m) (W : World) : (Instr.indexAt 65 (.slice (some ⟨D, 0, none⟩) m c) (.int .i64 (k : Int))).run Tryz.prog W = .ok (.pointer (some ⟨D, k, none⟩)) W := by
  have hel : Tryz.prog.elem 65 = 5 := by simp [Program.elem, Tryz.underlying65]
  rw [run_indexAt_slice W 65 _ m c .i64 k (by rw [hel]; exact Tryz.underlying65), hel, if_pos (by omega)]
  have hs : (sizeOf 5).run Tryz.prog W = .ok 1 W := by
    have hE := cellsU8
    unfold Program.cellsOf at hE
    cases hi : Tryz.prog.info? 5 with
    | none => simp [hi] at hE
    | some i => simp [hi] at hE; simp [sizeOf, typeInfo, hi, hE]
  rw [hs]
  simp [Result.andThen, Addr.add]
  intro h0; subst h0; rfl

/-- '[]byte(s)' lays the bytes of s in a new block -/
theorem byAt_laid (s : ByteArray) (w : World) (c : Nat) (f : Nat × Nat) (hf : s.size ≤ f.1) : ByAt (w.alloc (.cells (bytesRow s c) 5 f)) w.heap.size s.data.toList := by
  intro i hi0
  have hi : i < s.size := by rwa [size_len] at hi0
  have hi2 : i < s.data.size := hi
  constructor
  · rw [World.cell?_alloc_mark]
    simp [bytesRow, Array.getElem?_append, hi]
  · rw [show f = (f.1, f.2) from rfl, World.frozen?_alloc_mark]
    simp; omega
theorem u8_next (c : UInt8) : (((c + 1).toNat : Nat) : Int) = ((c.toNat : Int) + 1) % 256 := by
  rw [UInt8.toNat_add, show (1 : UInt8).toNat = 1 from rfl]
  omega

set_option maxRecDepth 20000 in
set_option maxHeartbeats 8000000 in
theorem increased_any (s : ByteArray) (w : World) (hs : s.size ≤ 1000) :
    Calls Tryz.prog 26 #[.string s] w fun e w' => e = .returned (.string (bs (incD s.data.toList))) ∧ Below w.heap.size w w' := by
  obtain ⟨H, hH⟩ : ∃ H, w.heap.size = H := ⟨_, rfl⟩
  obtain ⟨c, W0, hconv, hby, hbel, hlt⟩ : ∃ c W0, (convert 9 65 (.string s)).run Tryz.prog w = .ok (.slice (some ⟨H, 0, none⟩) s.size c) W0 ∧ ByAt W0 H s.data.toList ∧ Bel w W0 ∧ H < W0.heap.size := by
    subst hH
    refine ⟨_, _, run_bytes_of_string w 9 65 5 s Tryz.underlying9 Tryz.underlying65 Tryz.underlying5, byAt_laid s w.drew _ _ ?_, ((Bel.refl w).drew).alloc _, by show w.heap.size < (w.heap.push _).size; rw [Array.size_push]; exact Nat.lt_succ_self _⟩
    simp [bytesRow]
  have hn : s.data.toList.length = s.size := size_len s
  generalize hl : s.data.toList = l at *
  generalize hN : s.size = n at *
  clear hl hN
  have HC := Lib.hid hconv
  have HBY := Lib.hid hby
  have HBE := Lib.hid hbel
  have HN := Lib.hid hn
  clear hby hbel hn
  go_enter Tryz.func26, Tryz.ntmps26
  go_wp2_with fail
  clear hconv
  go_loopw [4] (fun i wr => ∃ (k : Nat) (z : Int), k ≤ n ∧ i = .int .i64 z ∧ z + 1 = (k : Int) ∧ l = l.take k ++ List.replicate (n - k) 57 ∧ ByAt wr H (l.take k ++ List.replicate (n - k) 48) ∧ Bel w wr ∧ H < wr.heap.size) (fun i _ => (intOf i + 1).toNat)
  case atStart => exact ⟨n, (n : Int) - 1, Nat.le_refl _, rfl, by omega, by rw [Nat.sub_self]; simp [List.take_of_length_le (Nat.le_of_eq HN.out)], by rw [Nat.sub_self]; simpa [List.take_of_length_le (Nat.le_of_eq HN.out)] using HBY.out, HBE.out, hlt⟩
  case round =>
    obtain ⟨k, z, hk, rfl, hz, h57, hb, hbl, hW⟩ := hrel
    have H57 := Lib.hid h57
    have HB := Lib.hid hb
    have HBL := Lib.hid hbl
    clear h57 hb hbl
    cases k with
    | zero =>
      obtain rfl : z = -1 := by omega
      clear hz
      have hback := HB.out.back n c (by simp)
      have HO : Hid (bs (incD l) = ⟨#[49]⟩ ++ bs (List.replicate n 48)) := by
        unfold Hid
        have e := H57.out
        rw [List.take_zero, List.nil_append, Nat.sub_zero] at e
        have := incD_nines [] n
        rw [List.nil_append, ← e] at this
        rw [this, incD_nil, ← bs_append]; rfl
      rw [List.take_zero, List.nil_append, Nat.sub_zero] at hback
      have hzs : (bs (List.replicate n (48 : UInt8))).size ≤ 1000 := by rw [bs_size, List.length_replicate]; exact hs
      generalize bs (List.replicate n (48 : UInt8)) = r at *
      go_wp2_with fail
      go_ret
      exact ⟨ret_string HO.out.symm, HBL.out⟩
    | succ k =>
      obtain rfl : z = (k : Int) := by omega
      clear hz
      have hkl : k < l.length := by rw [HN.out]; omega
      obtain ⟨c0, hc0⟩ : ∃ c0, l[k] = c0 := ⟨_, rfl⟩
      have hlen : (l.take (k + 1) ++ List.replicate (n - (k + 1)) (48 : UInt8)).length = n := by
        rw [List.length_append, List.length_take, List.length_replicate, HN.out]; omega
      have htk : l.take (k + 1) = l.take k ++ [c0] := by rw [List.take_succ_eq_append_getElem hkl, hc0]
      obtain ⟨hcell, hfroz⟩ := HB.out k (by rw [hlen]; omega)
      have hel : (l.take (k + 1) ++ List.replicate (n - (k + 1)) (48 : UInt8))[k]'(by rw [hlen]; omega) = c0 := by
        rw [List.getElem_append_left (by rw [List.length_take]; omega), List.getElem_take, hc0]
      rw [hel] at hcell
      have hix := fun W => ixU8 (m := n) (c := c) (D := H) (k := k) (by omega) W
      have hset : ∀ x : UInt8, (l.take (k + 1) ++ List.replicate (n - (k + 1)) (48 : UInt8)).set k x = l.take k ++ x :: List.replicate (n - (k + 1)) 48 := fun x => by
        rw [htk, List.append_assoc, List.set_append_right _ _ (by rw [List.length_take]; omega)]
        rw [show k - (l.take k).length = 0 by rw [List.length_take]; omega]
        rfl
      have HSET := Lib.hid (fun x : UInt8 => by have := HB.out.set (i := k) (by rw [hlen]; omega) x; rw [hset x] at this; exact this)
      have HTK := Lib.hid htk
      have hg : (0 : Int) ≤ (k : Int) := by omega
      clear hset hel htk hlen hc0 hkl
      by_cases h9 : c0 = 57
      · have h2 : ((c0.toNat : Int) == 57) = true := by rw [h9]; rfl
        have H9 := Lib.hid h9
        clear h9
        go_wp2_with fail
        go_round
        case rel =>
          refine ⟨k, (k : Int) - 1, by omega, rfl, by omega, ?_, ?_, by (show Bel w _; (repeat (first | assumption | exact HBL.out | exact Bel.refl _ | refine Bel.ext ?_ _ | refine Bel.alloc ?_ _ | refine Bel.drewN ?_ _ | refine Bel.drew ?_ | refine Bel.setCell ?_ _ _ ?_ | exact Nat.le_refl _ | (simp; done) | omega | (simp <;> omega)))), by simp; exact hW⟩
          · have e := H57.out
            rw [HTK.out, H9.out, List.append_assoc] at e
            rw [show n - k = (n - (k + 1)) + 1 by omega, List.replicate_succ]
            exact e
          · rw [show n - k = (n - (k + 1)) + 1 by omega, List.replicate_succ]
            exact HSET.out 48
        case measure => show ((k : Int) - 1 + 1).toNat < ((k : Int) + 1).toNat; omega
      · have h2 : ((c0.toNat : Int) == 57) = false := by
          rw [beq_eq_false_iff_ne]; intro e; exact h9 (UInt8.toNat_inj.1 (by show c0.toNat = 57; omega))
        have hback := (HSET.out (c0 + 1)).back n c (by simp only [List.length_append, List.length_take, List.length_cons, List.length_replicate, HN.out]; omega)
        have HO : Hid (incD l = l.take k ++ (c0 + 1) :: List.replicate (n - (k + 1)) 48) := by
          unfold Hid
          have e := H57.out
          have := incD_nines (l.take (k + 1)) (n - (k + 1))
          rw [← e, HTK.out, incD_less _ h9, List.append_assoc] at this
          exact this
        rw [u8_next] at hback
        rw [← HO.out] at hback
        clear h9
        go_wp2_with fail
        go_ret
        exact ⟨rfl, by (show Bel w _; (repeat (first | assumption | exact HBL.out | exact Bel.refl _ | refine Bel.ext ?_ _ | refine Bel.alloc ?_ _ | refine Bel.drewN ?_ _ | refine Bel.drew ?_ | refine Bel.setCell ?_ _ _ ?_ | exact Nat.le_refl _ | (simp; done) | omega | (simp <;> omega))))⟩
end Go.Proofs.YtnnidhjmakpaeaaGreatDoor
