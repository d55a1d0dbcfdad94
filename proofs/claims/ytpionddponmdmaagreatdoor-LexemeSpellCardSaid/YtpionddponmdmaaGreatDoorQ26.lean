/- Walk: the program reads an escaped text back. -/
import Derived.Test.YtpionddponmdmaaGreatDoorQ21
import Derived.Test.YtpionddponmdmaaGreatDoorQ24
namespace Go.Proofs.YtpionddponmdmaaGreatDoor
open Go.RowKit
attribute [local go_sem] Ext.cell Ext.frozen
attribute [local go_sem ↓] Go.wp_at_zero Go.wp_at_succ
theorem escS_take_len (x : List UInt8) {j : Nat} (h : j < x.length) : (escS (x.take (j + 1))).length = (escS (x.take j)).length + (escC (x.getD j 0)).length := by
  rw [escS_take x j h, List.length_append]
set_option maxRecDepth 20000 in
set_option maxHeartbeats 4000000 in
theorem unesc_any (x : List UInt8) (w : World) (hx : x.length ≤ 3000) :
    Calls Tryz.prog 85 #[.int .i64 2, .string (bs (escS x))] w fun e w' => e = .returned (.tuple #[.string (bs x), .int .i64 0, .int .i64 0]) ∧ Below w.heap.size w w' := by
  have HST := Lib.hid style_any
  have hL := escS_len x
  have hsz : (bs (escS x)).size = (escS x).length := bs_size _
  have HSZ := Lib.hid hsz
  have HSP := Lib.hid (fun j (h : j < x.length) => escS_split x h)
  have hle : (bs (escS x)).size ≤ 12000 := by omega
  clear hL hsz
  go_enter Tryz.func85, Tryz.ntmps85
  go_wp2_with fail
  refine (HST.out _).mono ?_
  rintro e _ ⟨rfl, rfl⟩
  go_wp2_with fail
  refine wp_at_worldH ?_
  intro W hW
  have b1 : Lib.IsBuilder 61 5 w.heap.size w.heap.size (Lib.byteCells []) W := by
    refine .inl ⟨Nat.le_refl _, .slice none 0 0, ?_, World.ownsRow_nil _ _ _ _, by simp [Value.ownBlock]⟩
    rw [hW]
    exact row_new _ _ _
  have HB0 : Hid (Below w.heap.size w W) := by rw [hW]; exact (Below.refl _ _).alloc (Nat.le_refl _) _
  have HB1 := Lib.hid b1
  clear b1 hW
  go_loopw [10] (fun i wr => ∃ j : Nat, j ≤ x.length ∧ i = .int .i64 ((escS (x.take j)).length : Int) ∧ Lib.IsBuilder 61 5 w.heap.size w.heap.size (Lib.byteCells (x.take j)) wr ∧ Below w.heap.size w wr) (fun i _ => (escS x).length - (intOf i).toNat)
  case atStart => exact ⟨0, Nat.zero_le _, rfl, HB1.out, HB0.out⟩
  case round =>
    obtain ⟨j, hj, rfl, hbu, hbl⟩ := hrel
    have HBU := Lib.hid hbu
    have HBL := Lib.hid hbl
    have hzr := hbl.size
    clear hbu hbl
    by_cases hlt : j < x.length
    · have hsp := HSP.out j hlt
      have HTK := Lib.hid (escS_take_len x hlt)
      have HTX : Hid (x.take (j + 1) = x.take j ++ [x.getD j 0]) := by
        unfold Hid
        rw [List.take_succ_eq_append_getElem hlt]
        simp [List.getD, List.getElem?_eq_getElem hlt]
      have hR : (escS (x.drop (j + 1))).length ≤ 100000 := by have := escS_len (x.drop (j + 1)); rw [List.length_drop] at this; omega
      generalize x.getD j 0 = c at *
      generalize escS (x.drop (j + 1)) = R at *
      have hpos : (escS (x.take j)).length + (escC c).length ≤ (escS x).length := by rw [hsp]; simp
      rcases esc_cases c with ⟨e1, n92, n34, n10⟩ | ⟨tl, e1, HRB⟩
      · rw [e1] at hsp hpos HTK
        have hix : ∀ g : (escS (x.take j)).length < (bs (escS x)).size, (bs (escS x))[(escS (x.take j)).length]'g = c := by
          rw [hsp]; exact fun g => at_split _ R c g
        have hN : (escS (x.take j)).length < (bs (escS x)).size := by rw [HSZ.out]; simp at hpos; omega
        have g92 : ((c.toNat : Int) == 92) = false := neU n92
        have HFB := Lib.hid (fun w => forbid_no c n10 n34 w)
        have HWB := Lib.hid (wbyte_any w.heap.size w.heap.size (Lib.byteCells (x.take j)) (c.toNat : Int) wr HBU.out (by rw [Lib.byteCells_length, List.length_take]; omega) hzr)
        clear hsp hpos e1 HSP
        generalize bs (escS x) = D at *
        generalize (escS (x.take j)).length = N at *
        go_wp2_with fail
        refine (HFB.out _).mono ?_
        rintro e _ ⟨rfl, rfl⟩
        go_wp2_with fail
        refine HWB.out.mono ?_
        rintro e w3 ⟨rfl, hb6, hbl6⟩
        have HB6 : Hid (Below w.heap.size w w3) := HBL.out.trans hbl6
        have HU6 : Hid (Lib.IsBuilder 61 5 w.heap.size w.heap.size (Lib.byteCells (x.take (j + 1))) w3) := by
          unfold Hid
          rw [HTX.out, show Lib.byteCells (x.take j ++ [c]) = Lib.byteCells (x.take j) ++ [.int .u8 (c.toNat : Int)] by simp [Lib.byteCells]]
          exact .inr hb6
        clear hb6 hbl6
        go_wp2_with fail
        go_roundw
        case rel => exact ⟨j + 1, hlt, by rw [HTK.out]; go_num, HU6.out, HB6.out⟩
        case measure => have := HSZ.out; simp [intOf]; omega
      · have hlen : (escC c ++ R).length ≤ 100004 := by have := escC_len c; rw [List.length_append]; omega
        have hix : ∀ g : (escS (x.take j)).length < (bs (escS x)).size, (bs (escS x))[(escS (x.take j)).length]'g = 92 := by
          rw [hsp, e1]; exact fun g => at_split _ (tl ++ R) 92 g
        have hcut : (bs (escS x)).extract (escS (x.take j)).length (bs (escS x)).size = bs (escC c ++ R) := by rw [hsp]; exact cut_split _ _
        have hk : 1 ≤ (escC c).length := by rw [e1]; simp
        have hN : (escS (x.take j)).length < (bs (escS x)).size := by rw [HSZ.out]; omega
        have HRC := Lib.hid (HRB R hR)
        have hs1 : (bs [c]).size = 1 := by rw [bs_size]; rfl
        have hkd : ((escC c).length : Int) ≤ 4 := by have := escC_len c; omega
        have hk0 : (((escC c).length : Int) == 0) = false := by simp only [beq_eq_false_iff_ne]; omega
        have HDD : Hid ((escS (x.take j)).length + (escC c).length ≤ (bs (escS x)).size) := by unfold Hid; rw [HSZ.out]; exact hpos
        clear hsp hpos e1 HSP HRB hlen hR
        generalize bs (escS x) = D at *
        generalize bs (escC c ++ R) = E at *
        generalize (escS (x.take j)).length = N at *
        generalize (escC c).length = K at *
        go_wp2_with fail
        refine (HRC.out _).mono ?_
        rintro e w2 ⟨rfl, hb2⟩
        have hzx : w.heap.size ≤ w2.heap.size := Nat.le_trans hzr hb2.size
        have hb5 : Lib.IsBuilder 61 5 w.heap.size w.heap.size (Lib.byteCells (x.take j)) w2 := by
          have key : ∀ p, Lib.BuilderAt 61 5 w.heap.size w.heap.size p (Lib.byteCells (x.take j)) wr → Lib.BuilderAt 61 5 w.heap.size w.heap.size p (Lib.byteCells (x.take j)) w2 := by
            rintro p ⟨h1, v, h2, h3, h4⟩
            exact ⟨h1, v, (hb2.block _ (Array.getElem?_eq_some_iff.1 h2).1).trans h2, own_below2 h3 hb2, h4⟩
          exact HBU.out.elim (fun h => .inl (key _ h)) (fun h => .inr (key _ h))
        have HW := Lib.hid (wstring_any w.heap.size w.heap.size _ (bs [c]) w2 hb5 (by rw [Lib.byteCells_length, List.length_take, hs1]; omega) hzx)
        have HBX : Hid (Below w.heap.size w w2) := HBL.out.trans (hb2.mono hzr)
        clear hb5 hb2
        go_wp2_with fail
        refine HW.out.mono ?_
        rintro e w3 ⟨rfl, hb6, hbl6, _⟩
        have HB6 : Hid (Below w.heap.size w w3) := HBX.out.trans hbl6
        have HU6 : Hid (Lib.IsBuilder 61 5 w.heap.size w.heap.size (Lib.byteCells (x.take (j + 1))) w3) := by
          unfold Hid
          rw [HTX.out, show Lib.byteCells (x.take j ++ [c]) = Lib.byteCells (x.take j) ++ Lib.strCells (bs [c]) by rw [Lib.strCells_eq, bs_data]; simp [Lib.byteCells]]
          exact .inr hb6
        clear hb6 hbl6
        go_wp2_with fail
        go_roundw
        case rel => exact ⟨j + 1, hlt, by rw [HTK.out]; go_num, HU6.out, HB6.out⟩
        case measure => have := HSZ.out; have := HDD.out; simp [intOf]; omega
    · obtain rfl : j = x.length := by omega
      rw [List.take_length] at HBU
      have HE : Hid (escS (x.take x.length) = escS x) := by rw [List.take_length]; rfl
      have HS := Lib.hid (Tryz.Builder_String_any_k w.heap.size w.heap.size x wr (Lib.IsBuilderF.of HBU.out) hzr)
      rw [HE.out, ← HSZ.out]
      go_wp2_with fail
      refine HS.out.mono ?_
      rintro e w3 ⟨rfl, _, hbl6, _⟩
      have HB6 : Hid (Below w.heap.size w w3) := HBL.out.trans hbl6
      clear hbl6
      go_wp2_with fail
      exact bodyPost_ret (v := .tuple #[.string (bs x), .int .i64 0, .int .i64 0]) (by simp [results, Tryz.f85, go_sem]; rfl) rfl ⟨rfl, HB6.out⟩
end Go.Proofs.YtpionddponmdmaaGreatDoor
/- Plain: where a piece's text is cut, and its number; the cell that strings.Index reads. -/
namespace Go.Proofs.YtpionddponmdmaaGreatDoor
open Go.RowKit
theorem cut_at (ds r : List UInt8) (h : ∀ c ∈ ds, c ≠ 32) : Lib.cut (ds ++ 32 :: 34 :: r) [32, 34] = (ds, r, true) := by
  have e : Lib.index (ds ++ 32 :: 34 :: r) [32, 34] = (ds.length : Int) := by
    refine Lib.index_first (by simp) ?_ ?_
    · unfold Lib.occAt; rw [List.drop_left]; simp
    · intro j hj
      unfold Lib.occAt
      rw [List.drop_append_of_le_length (by omega), List.drop_eq_getElem_cons hj]
      have := h (ds[j]) (List.getElem_mem hj)
      simp only [List.cons_append, List.isPrefixOf, Bool.and_eq_false_imp]
      intro g
      exact absurd (beq_iff_eq.1 g).symm this
  unfold Lib.cut
  rw [e, if_pos (by omega), Int.toNat_natCast, List.take_left, ← List.drop_drop, List.drop_left]
  rfl
theorem itoa_le (n : Nat) (h : n ≤ 1001) : Lib.atoi (Lib.itoa (n : Int)) = some (n : Int) ∧ (Lib.itoa (n : Int)).all (· != 32) = true ∧ (Lib.itoa (n : Int)).length ≤ 4 := by
  have k : ∀ v : Fin 1002, Lib.atoi (Lib.itoa (v.1 : Int)) = some (v.1 : Int) ∧ (Lib.itoa (v.1 : Int)).all (· != 32) = true ∧ (Lib.itoa (v.1 : Int)).length ≤ 4 := by decide +kernel
  exact k ⟨n, by omega⟩
def MaxLen (w : World) : Prop := ∃ m, w.cell? ⟨4, 0, none⟩ = some (.int .i64 m)
theorem MaxLen.below {w w' : World} (h : MaxLen w) (hb : Below w.heap.size w w') : MaxLen w' := by
  obtain ⟨m, h⟩ := h
  exact ⟨m, (hb.cell (p := ⟨4, 0, none⟩) (World.block_lt_of_cell? w _ h)).trans h⟩
end Go.Proofs.YtpionddponmdmaaGreatDoor
