/- Walks: tokens from one package to the other. -/
import Derived.Test.YtpionddponmdmaaDoorQ32
import Derived.Deep.QuietTactic
import Derived.BigQuiet
namespace Go.Proofs.YtpionddponmdmaaDoor
open Go.RowKit
attribute [local go_sem] Ext.cell Ext.frozen
attribute [local go_sem ↓] Go.wp_at_zero Go.wp_at_succ
theorem infoRt : (Tryd.prog.info? 50).map (fun i => (i.zero, i.size, i.bytes)) = some (some (.agg #[.int .i64 0, .string .empty, .int .i64 0]), 3, 32) := by kernel_rfl
/-- append of one token to a row of the call's own -/
theorem wpList_app3 {P : Program} {ops : Array Oper} {rest : List Oper} {o : Oper} {a : Act} {Q : Exit → Act → World → Prop} {w : World} (t E : TypeId)
    (ht : P.underlying t = some (.slice E)) (i : TypeInfo) (z : Value) (hi : P.info? E = some i) (hz : i.zero = some z) (hsize : i.size = 3) (hby : i.bytes = 32) (hzs : z.cells.size = 3)
    (hgd : o.guard = none) (s x : Operand) (ho : o.op = .call { callee := .builtin .append, args := #[s, x], argTypes := #[t, t] })
    (base : Nat) (ad : Option Addr) (n c : Nat) (xs : List Value) (hs : a.eval s = .slice ad n c) (hown : w.ownsRow base E 3 (.slice ad n c) n xs)
    (y0 y1 y2 : Value) (E' : TypeId) (hx : a.eval x = .slice (some ⟨w.heap.size, 0, none⟩) 1 1) (h0 : y0.oneCell' = true) (h1 : y1.oneCell' = true) (h2 : y2.oneCell' = true)
    (hn : n ≤ 1000000000) (hbase : base ≤ w.heap.size)
    (h : ∀ ad' c' w', w'.ownsRow base E 3 (.slice ad' (n + 1) c') (n + 1) (xs ++ [y0, y1, y2]) → Below base w w' → w.grownBy w' (Value.ownBlock (.slice ad n c)) → w.heap.size < w'.heap.size →
      wpList P ops Q rest (a.put o.dst (.slice ad' (n + 1) c')) w') : wpList P ops Q (o :: rest) a (w.alloc (.cells #[y0, y1, y2] E')) := by
  refine wpList_append_own _ hgd s x t ho base E i z 3 32 ht hi hz hsize hby hzs (by omega) (.slice ad n c) n xs hs (World.ownsRow.alloc hown _) ⟨w.heap.size, 0, none⟩ 1 1 [y0, y1, y2] hx rfl (World.news_of_block (row_new w #[y0, y1, y2] E'))
    (by intro u hu; simp at hu; rcases hu with rfl | rfl | rfl <;> assumption) (by unfold maxLen; omega) (by omega) (by simp; omega) ?_
  intro v' w' g1 g2 _
  obtain ⟨ad', c', rfl⟩ := own_form_k g1
  have hlt := World.ownsRow.lt hown
  refine h ad' c' w' g1 ?_ ?_ (by have := g2.size; simp at this; omega)
  · exact ((Below.refl base w).alloc hbase _).grown g2 (by simp; omega) (fun k hk => (hlt k hk).1)
  · exact ⟨g2.os, g2.tape, g2.output, by have := g2.size; simp at this; omega, fun k hk hne => (g2.block k (by simp; omega) hne).trans (Below.heap_alloc _ _ _ hk)⟩
/-- tokens are answered, in a row of the call's own -/
def TkPost (E : TypeId) (w : World) (ps : List Nx) (e : Ending) (w' : World) : Prop :=
  ∃ ad c, e = .returned (.slice ad ps.length c) ∧ w'.ownsRow w.heap.size E 3 (.slice ad ps.length c) ps.length (tkCells ps) ∧ Below w.heap.size w w'
set_option maxRecDepth 20000 in
set_option maxHeartbeats 4000000 in
theorem fromtk_any (ad : Option Addr) (n c : Nat) (ps : List Nx) (w : World) (b off : Nat) (hp : TkAt w ad n ps b off) :
    Calls Tryd.prog 11 #[.slice ad n c] w (TkPost 50 w ps) := by
  have hn := hp.max
  have HP := Lib.hid hp
  have HLN := Lib.hid hp.len
  obtain ⟨i0, hi, hz0, hz1, hz2⟩ := info_parts infoRt
  have HI := Lib.hid hi
  have HZ0 := Lib.hid hz0
  have HZ1 := Lib.hid hz1
  have HZ2 := Lib.hid hz2
  clear hp hi hz0 hz1 hz2
  go_enter Tryd.func11, Tryd.ntmps11
  go_wp2_with fail
  go_loopw [3, 8] (fun v i wr => ∃ (k : Nat) (ad' : Option Addr) (c' : Nat), i = .int .i64 (k : Int) ∧ k ≤ n ∧ v = .slice ad' k c' ∧ wr.ownsRow w.heap.size 50 3 (.slice ad' k c') k (tkCells (ps.take k)) ∧ Below w.heap.size w wr) (fun _ i _ => n - (intOf i).toNat)
  case atStart => exact ⟨0, none, 0, rfl, Nat.zero_le _, rfl, by rw [List.take_zero]; exact World.ownsRow_nil _ _ _ _, Below.refl _ _⟩
  case round =>
    obtain ⟨k, ad', c', rfl, hkn, rfl, hown, hbl⟩ := hrel
    have HOWN := Lib.hid hown
    have HBL := Lib.hid hbl
    have hzr := hbl.size
    clear hown hbl
    by_cases hlt : k < n
    · have HPR := Lib.hid (HP.out.below HBL.out)
      have hix := fun W => HPR.out.ixT 23 34 Tryd.underlying23 cellsTk hlt c W
      have h0 := HPR.out.c0 k hlt
      have h1 := HPR.out.c1 k hlt
      have h2 := HPR.out.c2 k hlt
      have hkl : k < ps.length := by rw [HLN.out]; exact hlt
      have HTS : Hid (ps.take (k + 1) = ps.take k ++ [ps.getD k (badN 0 0)]) := by
        unfold Hid
        rw [List.take_succ_eq_append_getElem hkl]
        simp [List.getD, List.getElem?_eq_getElem hkl]
      clear hkl
      generalize ps.getD k (badN 0 0) = p at *
      obtain ⟨⟨p0, p1, p2⟩, p3⟩ := p
      simp only at h0 h1 h2
      go_wp2_with (at_builtin; refine wpList_app3 27 50 Tryd.underlying27 i0 _ HI.out HZ0.out HZ1.out HZ2.out rfl rfl _ _ rfl w.heap.size ad' k c' _ rfl (World.ownsRow.alloc HOWN.out _) _ _ _ _ (by rw [show (wr.alloc (.cells #[.int .i64 (p0 : Int), .string (bs p1), .int .i64 (p2 : Int)] 34)).heap.size = wr.heap.size + 1 from by simp]; rfl) rfl rfl rfl (by omega) (by simp; omega) ?_; intro ad6 c6 w3 hown3 hb3 hg3 hz3; have HOWN3 := Lib.hid hown3; have HB3 := Lib.hid hb3; clear hown3 hb3 hg3 hz3)
      go_roundw
      case rel => exact ⟨k + 1, ad6, c6, by go_num, by omega, rfl, by rw [HTS.out, tkCells_snoc]; exact HOWN3.out, HBL.out.trans (((Below.refl _ _).alloc hzr _).trans HB3.out)⟩
      case measure => simp [intOf]; omega
    · obtain rfl : k = n := by omega
      go_wp2_with fail
      go_ret
      have h1 := HOWN.out
      rw [List.take_of_length_le (by rw [HLN.out]; exact Nat.le_refl _)] at h1
      have h2 := HLN.out
      exact ⟨ad', c', by rw [h2]; rfl, by rw [h2]; exact h1, HBL.out⟩

end Go.Proofs.YtpionddponmdmaaDoor
/- Walk: the reference's Same of tokens. -/
namespace Go.Proofs.YtpionddponmdmaaDoor
open Go.RowKit
attribute [local go_sem] Ext.cell Ext.frozen
attribute [local go_sem ↓] Go.wp_at_zero Go.wp_at_succ
/-- what is compared of a token: kind, text, and with places the offset -/
def keyT (pl : Bool) (x : Nx) : Nat × List UInt8 × Nat := (x.1.1, x.1.2.1, if pl then x.1.2.2 else 0)
def sameT (pl : Bool) (xs ys : List Nx) : Bool := decide (xs.map (keyT pl) = ys.map (keyT pl))
theorem getD_extT {pl : Bool} {a b : List Nx} (hl : a.length = b.length) (h : ∀ i, i < a.length → keyT pl (a.getD i (badN 0 0)) = keyT pl (b.getD i (badN 0 0))) : a.map (keyT pl) = b.map (keyT pl) := by
  apply List.ext_getElem (by simpa using hl)
  intro i h1 h2
  rw [List.length_map] at h1 h2
  have := h i h1
  simpa [List.getD, List.getElem?_eq_getElem h1, List.getElem?_eq_getElem h2] using this
theorem getD_keyT {pl : Bool} {a b : List Nx} {k : Nat} (h1 : k < a.length) (h2 : k < b.length) (h : keyT pl (a.getD k (badN 0 0)) ≠ keyT pl (b.getD k (badN 0 0))) : sameT pl a b = false :=
  decide_eq_false fun e => h (by
    have : (a.map (keyT pl))[k]? = (b.map (keyT pl))[k]? := by rw [e]
    simpa [List.getD, List.getElem?_eq_getElem h1, List.getElem?_eq_getElem h2] using this)
theorem cellsRt : Tryd.prog.cellsOf 50 = 3 := by kernel_rfl
set_option maxRecDepth 20000 in
set_option maxHeartbeats 8000000 in
theorem sametk_any (ad : Option Addr) (n c : Nat) (ps : List Nx) (b off : Nat) (ad' : Option Addr) (n' c' : Nat) (qs : List Nx) (b' off' : Nat) (pl : Bool) (w : World) (hp : TkAt w ad n ps b off) (hq : TkAt w ad' n' qs b' off') :
    Calls Tryd.prog 10 #[.slice ad n c, .slice ad' n' c', .bool pl] w fun e w' => e = .returned (.bool (sameT pl ps qs)) ∧ Below w.heap.size w w' := by
  have hnm := hp.max
  have hnm' := hq.max
  have HL := Lib.hid hp.len
  have HL' := Lib.hid hq.len
  by_cases hn : n = n'
  · subst hn
    have HP := Lib.hid hp
    have HQ := Lib.hid hq
    clear hp hq
    go_enter Tryd.func10, Tryd.ntmps10
    go_wp2_with fail
    go_loopw [7] (fun i wr => ∃ (k : Nat), i = .int .i64 (k : Int) ∧ k ≤ n ∧ (∀ i, i < k → keyT pl (ps.getD i (badN 0 0)) = keyT pl (qs.getD i (badN 0 0))) ∧ Below w.heap.size w wr) (fun i _ => n - (intOf i).toNat)
    case atStart => exact ⟨0, rfl, Nat.zero_le _, fun i hi => absurd hi (Nat.not_lt_zero _), Below.refl _ _⟩
    case round =>
      obtain ⟨k, rfl, hkn, hal, hbl⟩ := hrel
      have HAL := Lib.hid hal
      have HBL := Lib.hid hbl
      have hzr := hbl.size
      clear hal hbl
      by_cases hlt : k < n
      · have g1 := HP.out.below HBL.out
        have g2 := HQ.out.below HBL.out
        have hix1 := fun W => g1.ixT 27 50 Tryd.underlying27 cellsRt hlt c W
        have hix2 := fun W => g2.ixT 27 50 Tryd.underlying27 cellsRt hlt c' W
        have h10 := g1.c0 k hlt
        have h11 := g1.c1 k hlt
        have h12 := g1.c2 k hlt
        have h20 := g2.c0 k hlt
        have h21 := g2.c1 k hlt
        have h22 := g2.c2 k hlt
        clear g1 g2
        have HNX : Hid (keyT pl (ps.getD k (badN 0 0)) = keyT pl (qs.getD k (badN 0 0)) → ∀ i, i < k + 1 → keyT pl (ps.getD i (badN 0 0)) = keyT pl (qs.getD i (badN 0 0))) := fun h i hi => by
          rcases Nat.lt_or_ge i k with h' | h'
          · exact HAL.out i h'
          · rw [show i = k by omega]; exact h
        have HNO : Hid (keyT pl (ps.getD k (badN 0 0)) ≠ keyT pl (qs.getD k (badN 0 0)) → sameT pl ps qs = false) := fun h => getD_keyT (by rw [HL.out]; exact hlt) (by rw [HL'.out]; exact hlt) h
        generalize ps.getD k (badN 0 0) = x at *
        generalize qs.getD k (badN 0 0) = y at *
        obtain ⟨⟨x0, x1, x2⟩, x3⟩ := x
        obtain ⟨⟨y0, y1, y2⟩, y3⟩ := y
        simp only at h10 h11 h12 h20 h21 h22
        by_cases e0 : x0 = y0
        · subst e0
          have m0 : ((x0 : Int) != (x0 : Int)) = false := by simp
          by_cases e1 : x1 = y1
          · subst e1
            generalize bs x1 = X at *
            have m1 : (X.toList != X.toList) = false := by simp
            cases pl with
            | false =>
              have HN := Lib.hid (HNX.out rfl)
              clear HNX HNO
              go_wp2_with fail
              go_quiet (fail)
              go_wp2_with fail
              go_roundw
              case rel => exact ⟨k + 1, by go_num, by omega, HN.out, HBL.out.trans ((below_drewN _ _).mono hzr)⟩
              case measure => simp [intOf]; omega
            | true =>
              by_cases e2 : x2 = y2
              · subst e2
                have HN := Lib.hid (HNX.out rfl)
                have m2 : ((x2 : Int) != (x2 : Int)) = false := by simp
                clear HNX HNO
                go_wp2_with fail
                go_quiet (fail)
                go_wp2_with fail
                go_roundw
                case rel => exact ⟨k + 1, by go_num, by omega, HN.out, HBL.out.trans ((below_drewN _ _).mono hzr)⟩
                case measure => simp [intOf]; omega
              · have HN := Lib.hid (HNO.out fun e => e2 (congrArg (fun t => t.2.2) e))
                have m2 : ((x2 : Int) == (y2 : Int)) = false := by simp only [beq_eq_false_iff_ne]; omega
                have m3 : ((x2 : Int) != (y2 : Int)) = true := by unfold bne; rw [m2]; rfl
                clear HNX HNO
                go_wp2_with fail
                go_quiet (fail)
                go_wp2_with fail
                go_ret
                exact ⟨by rw [HN.out]; rfl, HBL.out.trans ((below_drewN _ _).mono hzr)⟩
          · have HN := Lib.hid (HNO.out fun e => e1 (congrArg (fun t => t.2.1) e))
            have hne3 : ¬ bs x1 = bs y1 := fun e => e1 (bs_inj e)
            have hne : ((bs x1).toList == (bs y1).toList) = false := by
              rw [bs_toList, bs_toList, beq_eq_false_iff_ne]; exact e1
            have hne2 : ((bs x1).toList != (bs y1).toList) = true := by unfold bne; rw [hne]; rfl
            generalize bs x1 = X at *
            generalize bs y1 = Y at *
            clear HNX HNO e1
            go_wp2_with fail
            go_quiet (fail)
            go_wp2_with fail
            go_ret
            exact ⟨by rw [HN.out]; rfl, HBL.out.trans ((below_drewN _ _).mono hzr)⟩
        · have HN := Lib.hid (HNO.out fun e => e0 (congrArg (fun t => t.1) e))
          have m2 : ((x0 : Int) == (y0 : Int)) = false := by simp only [beq_eq_false_iff_ne]; omega
          have m3 : ((x0 : Int) != (y0 : Int)) = true := by unfold bne; rw [m2]; rfl
          generalize bs x1 = X at *
          generalize bs y1 = Y at *
          clear HNX HNO
          go_wp2_with fail
          go_quiet (fail)
          go_wp2_with fail
          go_ret
          exact ⟨by rw [HN.out]; rfl, HBL.out.trans ((below_drewN _ _).mono hzr)⟩
      · obtain rfl : k = n := by omega
        have HS : Hid (sameT pl ps qs = true) := decide_eq_true (getD_extT (by rw [HL.out, HL'.out]) (fun i hi => HAL.out i (by rw [HL.out] at hi; exact hi)))
        go_wp2_with fail
        go_ret
        exact ⟨by rw [HS.out]; rfl, HBL.out⟩
  · have h1 : ((n : Int) != (n' : Int)) = true := by simp; omega
    have h2 : ¬ ((n : Int) = (n' : Int)) := by omega
    have HS : Hid (sameT pl ps qs = false) := decide_eq_false fun e => hn (by have := congrArg List.length e; rw [List.length_map, List.length_map, HL.out, HL'.out] at this; exact this)
    clear hp hq
    go_enter Tryd.func10, Tryd.ntmps10
    go_wp2_with fail
    go_ret
    exact ⟨by rw [HS.out]; rfl, Below.refl _ _⟩
end Go.Proofs.YtpionddponmdmaaDoor
