/- Walks: a byte into a builder; which bytes may not stand in quotation marks. -/
import Derived.Test.YtpionddponmdmaaGreatDoorQ17
import Derived.Lib.RuneBytes
namespace Go.Proofs.YtpionddponmdmaaGreatDoor
open Go.RowKit
attribute [local go_sem] Ext.cell Ext.frozen
attribute [local go_sem ↓] Go.wp_at_zero Go.wp_at_succ
set_option maxHeartbeats 2000000 in
set_option maxRecDepth 100000 in
theorem wbyte_any (B b : Nat) (bs : List Value) (c : Int) (w : World) (h : Lib.IsBuilder 61 5 B b bs w) (hlen : bs.length + 1 ≤ 140737488355328) (hBw : B ≤ w.heap.size) :
    Calls Tryz.prog 98 #[.pointer (some ⟨b, 0, none⟩), .int .u8 c] w fun e w' => e = .returned .nilIface ∧ (Lib.BuilderAt 61 5 B b (.pointer (some ⟨b, 0, none⟩)) (bs ++ [.int .u8 c]) w' ∧ Below B w w') := by
  obtain ⟨i0, hi, hz0, hz1, hz2⟩ := info_parts Tryz.Builder_Extra_169.infoByte
  have HC := Lib.hid (check_any B b bs w h)
  clear h
  go_enter Tryz.func98, Tryz.ntmps98
  go_wp2_with fail
  refine HC.out.mono ?_
  rintro e w1 ⟨rfl, h1, hb1, _⟩
  obtain ⟨hB, v, hbk, hown, hne⟩ := h1
  have c0 : w1.cell? ⟨b, 0, none⟩ = some (.pointer (some ⟨b, 0, none⟩)) := by rw [Lib.cell_of_heap hbk]; rfl
  have c1 : w1.cell? ⟨b, 1, none⟩ = some v := by rw [Lib.cell_of_heap hbk]; rfl
  go_wp2_with (at_builtin; refine wpList_append_own _ rfl _ _ 59 rfl B 5 i0 (.int .u8 0) 1 1 Tryz.underlying59 hi hz0 hz1 hz2 rfl (by decide) _ _ _ rfl (hown.alloc _) ⟨w1.heap.size, 0, none⟩ 1 1 [.int .u8 c] rfl rfl ?c1 ?c2 ?c3 ?c4 ?c5 ?_)
  case c1 =>
    intro j u hj
    match j, hj with
    | 0, hj => simp at hj; subst hj; simp [Addr.add]
  case c2 => intro u hu; simp at hu; subst hu; rfl
  case c3 => unfold maxLen; omega
  case c4 => omega
  case c5 => have := hb1.size; simp; omega
  intro v' w2 hown' hgrow _
  have hlt : b < w1.heap.size := by
    rcases Nat.lt_or_ge b w1.heap.size with h' | h'
    · exact h'
    · simp [Array.getElem?_eq_none h'] at hbk
  have hb2 : w2.heap[b]? = some (.cells #[.pointer (some ⟨b, 0, none⟩), v] 61 (0, 0)) := by
    rw [hgrow.block b (by simp; omega) (fun e => hne e.symm), Lib.alloc_old w1 _ b hlt]
    exact hbk
  have d0 : w2.cell? ⟨b, 0, none⟩ = some (.pointer (some ⟨b, 0, none⟩)) := by rw [Lib.cell_of_heap hb2]; rfl
  have d1 : w2.cell? ⟨b, 1, none⟩ = some v := by rw [Lib.cell_of_heap hb2]; rfl
  have f1 : w2.frozen? ⟨b, 1, none⟩ = false := Lib.frozen_of_heap hb2 1
  obtain ⟨g, cap, rfl⟩ : ∃ g cap, v' = .slice (some ⟨g, 0, none⟩) (bs.length + 1) cap := by
    rcases hown'.2 with ⟨_, h0⟩ | ⟨g, cap, cur, hv, _⟩
    · omega
    · exact ⟨g, cap, hv⟩
  go_wp2_with fail
  go_ret
  refine ⟨rfl, ?_, ?_⟩
  · exact Lib.BuilderAt.put (T := 61) (e := 5) hB hb2 (bs' := bs ++ [.int .u8 c]) (by simpa using hown') (by decide)
  · exact ((hb1.alloc (by have := hb1.size; omega) _).grown hgrow (by have := hb1.size; simp; omega) (fun k hk => (hown.lt k hk).1)).setCell (p := ⟨b, 1, none⟩) hB _
theorem forbid_no (c : UInt8) (h10 : c ≠ 10) (h34 : c ≠ 34) (w : World) : Calls Tryz.prog 97 #[.int .i64 2, .int .u8 (c.toNat : Int)] w fun e w' => e = .returned (.bool false) ∧ w = w' := by
  have g10 : ((c.toNat : Int) == 10) = false := neU h10
  have g34 : ((c.toNat : Int) == 34) = false := neU h34
  generalize (c.toNat : Int) = z at *
  go_enter Tryz.func97, Tryz.ntmps97
  go_wp2_with fail
  go_ret
  exact ⟨rfl, rfl⟩
end Go.Proofs.YtpionddponmdmaaGreatDoor
/- Walks: a rune below 65536 is written into a builder: one, two or three bytes. -/
namespace Go.Proofs.YtpionddponmdmaaGreatDoor
open Go.RowKit
attribute [local go_sem ↓] Go.wp_at_zero Go.wp_at_succ
set_option maxHeartbeats 4000000 in
set_option maxRecDepth 100000 in
theorem rune_two (B : Nat) (v : Value) (n : Nat) (xs : List Value) (r : Int) (h0 : 128 ≤ r) (h1 : r ≤ 2047) (w : World) (hown : w.ownsRow B 5 1 v n xs) (hlen : n + 4 ≤ 140737488355328) (hBw : B ≤ w.heap.size) :
    Calls Tryz.prog 126 #[v, .int .i32 r] w fun e w' => ∃ v', e = .returned v' ∧ w'.ownsRow B 5 1 v' (n + 2) (xs ++ [.int .u8 (192 + r / 64), .int .u8 (128 + r % 64)]) ∧ ∃ o, (w.alloc o).grownBy w' v.ownBlock := by
  obtain ⟨i0, hi, hz0, hz1, hz2⟩ := info_parts Tryz.Builder_Extra_169.infoByte
  go_enter Tryz.func126, Tryz.ntmps126
  go_wp2_with (at_builtin; refine wpList_append_own _ rfl _ _ 59 rfl B 5 i0 (.int .u8 0) 1 1 Tryz.underlying59 hi hz0 hz1 hz2 rfl (by decide) _ _ _ rfl (hown.alloc _) ⟨w.heap.size, 0, none⟩ 2 2 [.int .u8 (192 + r / 64), .int .u8 (128 + r % 64)] rfl rfl ?c1 ?c2 ?c3 ?c4 ?c5 ?_)
  case c1 =>
    intro j u hj
    match j, hj with
    | 0, hj => simp at hj; subst hj; simp [Addr.add]
    | 1, hj => simp at hj; subst hj; simp [Addr.add]
    | (j + 2), hj => simp at hj
  case c2 => intro u hu; simp at hu; rcases hu with rfl | rfl <;> rfl
  case c3 => unfold maxLen; omega
  case c4 => omega
  case c5 => simp; omega
  intro v' w2 hown' hgrow _
  go_wp2_with fail
  go_ret
  exact ⟨_, rfl, hown', _, hgrow⟩
set_option maxHeartbeats 4000000 in
set_option maxRecDepth 100000 in
theorem rune_lo (B : Nat) (v : Value) (n : Nat) (xs : List Value) (r : Int) (h0 : 2048 ≤ r) (h1 : r < 55296) (w : World) (hown : w.ownsRow B 5 1 v n xs) (hlen : n + 4 ≤ 140737488355328) (hBw : B ≤ w.heap.size) :
    Calls Tryz.prog 126 #[v, .int .i32 r] w fun e w' => ∃ v', e = .returned v' ∧ w'.ownsRow B 5 1 v' (n + 3) (xs ++ [.int .u8 (224 + r / 4096), .int .u8 (128 + r / 64 % 64), .int .u8 (128 + r % 64)]) ∧ ∃ o, (w.alloc o).grownBy w' v.ownBlock := by
  obtain ⟨i0, hi, hz0, hz1, hz2⟩ := info_parts Tryz.Builder_Extra_169.infoByte
  go_enter Tryz.func126, Tryz.ntmps126
  go_wp2_with (at_builtin; refine wpList_append_own _ rfl _ _ 59 rfl B 5 i0 (.int .u8 0) 1 1 Tryz.underlying59 hi hz0 hz1 hz2 rfl (by decide) _ _ _ rfl (hown.alloc _) ⟨w.heap.size, 0, none⟩ 3 3 [.int .u8 (224 + r / 4096), .int .u8 (128 + r / 64 % 64), .int .u8 (128 + r % 64)] rfl rfl ?c1 ?c2 ?c3 ?c4 ?c5 ?_)
  case c1 =>
    intro j u hj
    match j, hj with
    | 0, hj => simp at hj; subst hj; simp [Addr.add]
    | 1, hj => simp at hj; subst hj; simp [Addr.add]
    | 2, hj => simp at hj; subst hj; simp [Addr.add]
    | (j + 3), hj => simp at hj
  case c2 => intro u hu; simp at hu; rcases hu with rfl | rfl | rfl <;> rfl
  case c3 => unfold maxLen; omega
  case c4 => omega
  case c5 => simp; omega
  intro v' w2 hown' hgrow _
  go_wp2_with fail
  go_ret
  exact ⟨_, rfl, hown', _, hgrow⟩
set_option maxHeartbeats 4000000 in
set_option maxRecDepth 100000 in
theorem rune_hi (B : Nat) (v : Value) (n : Nat) (xs : List Value) (r : Int) (h0 : 57343 < r) (h1 : r ≤ 65535) (w : World) (hown : w.ownsRow B 5 1 v n xs) (hlen : n + 4 ≤ 140737488355328) (hBw : B ≤ w.heap.size) :
    Calls Tryz.prog 126 #[v, .int .i32 r] w fun e w' => ∃ v', e = .returned v' ∧ w'.ownsRow B 5 1 v' (n + 3) (xs ++ [.int .u8 (224 + r / 4096), .int .u8 (128 + r / 64 % 64), .int .u8 (128 + r % 64)]) ∧ ∃ o, (w.alloc o).grownBy w' v.ownBlock := by
  obtain ⟨i0, hi, hz0, hz1, hz2⟩ := info_parts Tryz.Builder_Extra_169.infoByte
  go_enter Tryz.func126, Tryz.ntmps126
  go_wp2_with (at_builtin; refine wpList_append_own _ rfl _ _ 59 rfl B 5 i0 (.int .u8 0) 1 1 Tryz.underlying59 hi hz0 hz1 hz2 rfl (by decide) _ _ _ rfl (hown.alloc _) ⟨w.heap.size, 0, none⟩ 3 3 [.int .u8 (224 + r / 4096), .int .u8 (128 + r / 64 % 64), .int .u8 (128 + r % 64)] rfl rfl ?c1 ?c2 ?c3 ?c4 ?c5 ?_)
  case c1 =>
    intro j u hj
    match j, hj with
    | 0, hj => simp at hj; subst hj; simp [Addr.add]
    | 1, hj => simp at hj; subst hj; simp [Addr.add]
    | 2, hj => simp at hj; subst hj; simp [Addr.add]
    | (j + 3), hj => simp at hj
  case c2 => intro u hu; simp at hu; rcases hu with rfl | rfl | rfl <;> rfl
  case c3 => unfold maxLen; omega
  case c4 => omega
  case c5 => simp; omega
  intro v' w2 hown' hgrow _
  go_wp2_with fail
  go_ret
  exact ⟨_, rfl, hown', _, hgrow⟩
set_option maxHeartbeats 4000000 in
set_option maxRecDepth 100000 in
theorem rune_one (B : Nat) (v : Value) (n : Nat) (xs : List Value) (r : Int) (h0 : 0 ≤ r) (h1 : r ≤ 127) (w : World) (hown : w.ownsRow B 5 1 v n xs) (hlen : n + 4 ≤ 140737488355328) (hBw : B ≤ w.heap.size) :
    Calls Tryz.prog 125 #[v, .int .i32 r] w fun e w' => ∃ v', e = .returned v' ∧ w'.ownsRow B 5 1 v' (n + 1) (xs ++ [.int .u8 r]) ∧ ∃ o, (w.alloc o).grownBy w' v.ownBlock := by
  obtain ⟨i0, hi, hz0, hz1, hz2⟩ := info_parts Tryz.Builder_Extra_169.infoByte
  go_enter Tryz.func125, Tryz.ntmps125
  go_wp2_with (at_builtin; refine wpList_append_own _ rfl _ _ 59 rfl B 5 i0 (.int .u8 0) 1 1 Tryz.underlying59 hi hz0 hz1 hz2 rfl (by decide) _ _ _ rfl (hown.alloc _) ⟨w.heap.size, 0, none⟩ 1 1 [.int .u8 r] rfl rfl ?c1 ?c2 ?c3 ?c4 ?c5 ?_)
  case c1 =>
    intro j u hj
    match j, hj with
    | 0, hj => simp at hj; subst hj; simp [Addr.add]
    | (j + 1), hj => simp at hj
  case c2 => intro u hu; simp at hu; subst hu; rfl
  case c3 => unfold maxLen; omega
  case c4 => omega
  case c5 => simp; omega
  intro v' w2 hown' hgrow _
  go_wp2_with fail
  go_ret
  exact ⟨_, rfl, hown', _, hgrow⟩
def runeV (r : Int) : List Value := if r ≤ 127 then [.int .u8 r] else if r ≤ 2047 then [.int .u8 (192 + r / 64), .int .u8 (128 + r % 64)] else [.int .u8 (224 + r / 4096), .int .u8 (128 + r / 64 % 64), .int .u8 (128 + r % 64)]
theorem runeV_len (r : Int) : (runeV r).length ≤ 3 ∧ 1 ≤ (runeV r).length := by unfold runeV; (repeat' split) <;> simp
def PointI (r : Int) : Prop := 0 ≤ r ∧ r ≤ 65535 ∧ (r < 55296 ∨ 57343 < r)
def RunePost (B : Nat) (v : Value) (n : Nat) (xs : List Value) (r : Int) (w : World) (e : Ending) (w' : World) : Prop :=
  ∃ v', e = .returned v' ∧ w'.ownsRow B 5 1 v' (n + (runeV r).length) (xs ++ runeV r) ∧ ∃ o, (w.alloc o).grownBy w' v.ownBlock
set_option maxHeartbeats 4000000 in
set_option maxRecDepth 100000 in
theorem rune_any (B : Nat) (v : Value) (n : Nat) (xs : List Value) (r : Int) (hr : PointI r) (w : World) (hown : w.ownsRow B 5 1 v n xs) (hlen : n + 4 ≤ 140737488355328) (hBw : B ≤ w.heap.size) :
    Calls Tryz.prog 125 #[v, .int .i32 r] w (RunePost B v n xs r w) := by
  obtain ⟨h0, h1, h2⟩ := hr
  by_cases c1 : r ≤ 127
  · have e : runeV r = [.int .u8 r] := by unfold runeV; rw [if_pos c1]
    refine (rune_one B v n xs r h0 c1 w hown hlen hBw).mono ?_
    rintro _ w' ⟨v', rfl, g1, g2⟩
    exact ⟨v', rfl, by rw [e]; exact g1, g2⟩
  · have HN : Hid (Calls Tryz.prog 126 #[v, .int .i32 r] w (RunePost B v n xs r w)) := by
      by_cases c2 : r ≤ 2047
      · have e : runeV r = [.int .u8 (192 + r / 64), .int .u8 (128 + r % 64)] := by unfold runeV; rw [if_neg c1, if_pos c2]
        refine (rune_two B v n xs r (by omega) c2 w hown hlen hBw).mono ?_
        rintro _ w' ⟨v', rfl, g1, g2⟩
        exact ⟨v', rfl, by rw [e]; exact g1, g2⟩
      · have e : runeV r = [.int .u8 (224 + r / 4096), .int .u8 (128 + r / 64 % 64), .int .u8 (128 + r % 64)] := by unfold runeV; rw [if_neg c1, if_neg c2]
        rcases h2 with h2 | h2
        · refine (rune_lo B v n xs r (by omega) h2 w hown hlen hBw).mono ?_
          rintro _ w' ⟨v', rfl, g1, g2⟩
          exact ⟨v', rfl, by rw [e]; exact g1, g2⟩
        · refine (rune_hi B v n xs r h2 h1 w hown hlen hBw).mono ?_
          rintro _ w' ⟨v', rfl, g1, g2⟩
          exact ⟨v', rfl, by rw [e]; exact g1, g2⟩
    clear hown hlen hBw
    go_enter Tryz.func125, Tryz.ntmps125
    go_wp2_with fail
    refine HN.out.mono ?_
    rintro _ w1 ⟨v', rfl, g1, g2⟩
    have G1 := Lib.hid g1
    have G2 := Lib.hid g2
    clear g1 g2
    go_wp2_with fail
    go_ret
    exact ⟨_, rfl, G1.out, G2.out⟩
set_option maxHeartbeats 2000000 in
set_option maxRecDepth 100000 in
theorem wrune_any (B b : Nat) (bs : List Value) (r : Int) (hr : PointI r) (w : World) (h : Lib.IsBuilder 61 5 B b bs w) (hlen : bs.length + 4 ≤ 140737488355328) (hBw : B ≤ w.heap.size) :
    Calls Tryz.prog 124 #[.pointer (some ⟨b, 0, none⟩), .int .i32 r] w fun e w' => e = .returned (.tuple #[.int .i64 (runeV r).length, .nilIface]) ∧ (Lib.BuilderAt 61 5 B b (.pointer (some ⟨b, 0, none⟩)) (bs ++ runeV r) w' ∧ Below B w w') := by
  have HC := Lib.hid (check_any B b bs w h)
  have hk4 := (runeV_len r).1
  have hk1 := (runeV_len r).2
  clear h
  go_enter Tryz.func124, Tryz.ntmps124
  go_wp2_with fail
  refine HC.out.mono ?_
  rintro e w1 ⟨rfl, h1, hb1, _⟩
  obtain ⟨hB, v, hbk, hown, hne⟩ := h1
  obtain ⟨ao, cap, rfl⟩ : ∃ ao cap, v = .slice ao bs.length cap := by
    rcases hown.2 with ⟨hv, h0⟩ | ⟨g, cap, cur, hv, _⟩
    · exact ⟨none, 0, by rw [hv, h0]⟩
    · exact ⟨_, _, hv⟩
  have c0 : w1.cell? ⟨b, 0, none⟩ = some (.pointer (some ⟨b, 0, none⟩)) := by rw [Lib.cell_of_heap hbk]; rfl
  have c1 : w1.cell? ⟨b, 1, none⟩ = some (.slice ao bs.length cap) := by rw [Lib.cell_of_heap hbk]; rfl
  have HR := Lib.hid (rune_any B (.slice ao bs.length cap) bs.length bs r hr w1 hown hlen (by have := hb1.size; omega))
  go_wp2_with fail
  refine HR.out.mono ?_
  rintro e w2 ⟨v', rfl, hown', o, hgrow⟩
  have hlt : b < w1.heap.size := by
    rcases Nat.lt_or_ge b w1.heap.size with h' | h'
    · exact h'
    · simp [Array.getElem?_eq_none h'] at hbk
  have hb2 : w2.heap[b]? = some (.cells #[.pointer (some ⟨b, 0, none⟩), .slice ao bs.length cap] 61 (0, 0)) := by
    rw [hgrow.block b (by simp; omega) (fun e => hne e.symm), Lib.alloc_old w1 _ b hlt]
    exact hbk
  have d0 : w2.cell? ⟨b, 0, none⟩ = some (.pointer (some ⟨b, 0, none⟩)) := by rw [Lib.cell_of_heap hb2]; rfl
  have d1 : w2.cell? ⟨b, 1, none⟩ = some (.slice ao bs.length cap) := by rw [Lib.cell_of_heap hb2]; rfl
  have f1 : w2.frozen? ⟨b, 1, none⟩ = false := Lib.frozen_of_heap hb2 1
  obtain ⟨g, cap', rfl⟩ : ∃ g cap', v' = .slice (some ⟨g, 0, none⟩) (bs.length + (runeV r).length) cap' := by
    rcases hown'.2 with ⟨_, h0⟩ | ⟨g, cap', cur, hv, _⟩
    · omega
    · exact ⟨g, cap', hv⟩
  have e9 : IntKind.i64.wrap (((bs.length + (runeV r).length : Nat) : Int) - (bs.length : Int)) = ((runeV r).length : Int) := by rw [IntKind.wrap_i64] <;> omega
  go_wp2_with fail
  go_ret2
  refine ⟨?_, ?_, ?_⟩
  · simp; omega
  · exact Lib.BuilderAt.put (T := 61) (e := 5) hB hb2 (bs' := bs ++ runeV r) (by simpa using hown') (by decide)
  · exact ((hb1.alloc (by have := hb1.size; omega) _).grown hgrow (by have := hb1.size; simp; omega) (fun k hk => (hown.lt k hk).1)).setCell (p := ⟨b, 1, none⟩) hB _
end Go.Proofs.YtpionddponmdmaaGreatDoor
