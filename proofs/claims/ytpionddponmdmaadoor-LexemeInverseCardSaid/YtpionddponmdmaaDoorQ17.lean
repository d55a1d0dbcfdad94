/- Walks: a rune below 65536 is written into a builder: one, two or three bytes. -/
import Derived.Test.YtpionddponmdmaaDoorQ16
import Derived.Lib.RuneBytes
namespace Go.Proofs.YtpionddponmdmaaDoor
open Go.RowKit
attribute [local go_sem ↓] Go.wp_at_zero Go.wp_at_succ
set_option maxHeartbeats 4000000 in
set_option maxRecDepth 100000 in
theorem rune_two (B : Nat) (v : Value) (n : Nat) (xs : List Value) (r : Int) (h0 : 128 ≤ r) (h1 : r ≤ 2047) (w : World) (hown : w.ownsRow B 5 1 v n xs) (hlen : n + 4 ≤ 140737488355328) (hBw : B ≤ w.heap.size) :
    Calls Tryd.prog 117 #[v, .int .i32 r] w fun e w' => ∃ v', e = .returned v' ∧ w'.ownsRow B 5 1 v' (n + 2) (xs ++ [.int .u8 (192 + r / 64), .int .u8 (128 + r % 64)]) ∧ ∃ o, (w.alloc o).grownBy w' v.ownBlock := by
  obtain ⟨i0, hi, hz0, hz1, hz2⟩ := info_parts Tryd.Builder_Extra_169.infoByte
  go_enter Tryd.func117, Tryd.ntmps117
  go_wp2_with (at_builtin; refine wpList_append_own _ rfl _ _ 35 rfl B 5 i0 (.int .u8 0) 1 1 Tryd.underlying35 hi hz0 hz1 hz2 rfl (by decide) _ _ _ rfl (hown.alloc _) ⟨w.heap.size, 0, none⟩ 2 2 [.int .u8 (192 + r / 64), .int .u8 (128 + r % 64)] rfl rfl ?c1 ?c2 ?c3 ?c4 ?c5 ?_)
  case c1 =>
    intro j u hj
    match j, hj with
    | 0, hj => simp at hj; subst hj; simp [Addr.add]
    | 1, hj => simp at hj; subst hj; simp [Addr.add]
    | (j + 2), hj => simp at hj
  case c2 => intro u hu; simp at hu; rcases hu with rfl | rfl <;> rfl
  case c3 => unfold maxLen; omega
  case c4 => omega
  case c5 => simp; omega
  intro v' w2 hown' hgrow _
  go_wp2_with fail
  go_ret
  exact ⟨_, rfl, hown', _, hgrow⟩
set_option maxHeartbeats 4000000 in
set_option maxRecDepth 100000 in
theorem rune_lo (B : Nat) (v : Value) (n : Nat) (xs : List Value) (r : Int) (h0 : 2048 ≤ r) (h1 : r < 55296) (w : World) (hown : w.ownsRow B 5 1 v n xs) (hlen : n + 4 ≤ 140737488355328) (hBw : B ≤ w.heap.size) :
    Calls Tryd.prog 117 #[v, .int .i32 r] w fun e w' => ∃ v', e = .returned v' ∧ w'.ownsRow B 5 1 v' (n + 3) (xs ++ [.int .u8 (224 + r / 4096), .int .u8 (128 + r / 64 % 64), .int .u8 (128 + r % 64)]) ∧ ∃ o, (w.alloc o).grownBy w' v.ownBlock := by
  obtain ⟨i0, hi, hz0, hz1, hz2⟩ := info_parts Tryd.Builder_Extra_169.infoByte
  go_enter Tryd.func117, Tryd.ntmps117
  go_wp2_with (at_builtin; refine wpList_append_own _ rfl _ _ 35 rfl B 5 i0 (.int .u8 0) 1 1 Tryd.underlying35 hi hz0 hz1 hz2 rfl (by decide) _ _ _ rfl (hown.alloc _) ⟨w.heap.size, 0, none⟩ 3 3 [.int .u8 (224 + r / 4096), .int .u8 (128 + r / 64 % 64), .int .u8 (128 + r % 64)] rfl rfl ?c1 ?c2 ?c3 ?c4 ?c5 ?_)
  case c1 =>
    intro j u hj
    match j, hj with
    | 0, hj => simp at hj; subst hj; simp [Addr.add]
    | 1, hj => simp at hj; subst hj; simp [Addr.add]
    | 2, hj => simp at hj; subst hj; simp [Addr.add]
    | (j + 3), hj => simp at hj
  case c2 => intro u hu; simp at hu; rcases hu with rfl | rfl | rfl <;> rfl
  case c3 => unfold maxLen; omega
  case c4 => omega
  case c5 => simp; omega
  intro v' w2 hown' hgrow _
  go_wp2_with fail
  go_ret
  exact ⟨_, rfl, hown', _, hgrow⟩
set_option maxHeartbeats 4000000 in
set_option maxRecDepth 100000 in
theorem rune_hi (B : Nat) (v : Value) (n : Nat) (xs : List Value) (r : Int) (h0 : 57343 < r) (h1 : r ≤ 65535) (w : World) (hown : w.ownsRow B 5 1 v n xs) (hlen : n + 4 ≤ 140737488355328) (hBw : B ≤ w.heap.size) :
    Calls Tryd.prog 117 #[v, .int .i32 r] w fun e w' => ∃ v', e = .returned v' ∧ w'.ownsRow B 5 1 v' (n + 3) (xs ++ [.int .u8 (224 + r / 4096), .int .u8 (128 + r / 64 % 64), .int .u8 (128 + r % 64)]) ∧ ∃ o, (w.alloc o).grownBy w' v.ownBlock := by
  obtain ⟨i0, hi, hz0, hz1, hz2⟩ := info_parts Tryd.Builder_Extra_169.infoByte
  go_enter Tryd.func117, Tryd.ntmps117
  go_wp2_with (at_builtin; refine wpList_append_own _ rfl _ _ 35 rfl B 5 i0 (.int .u8 0) 1 1 Tryd.underlying35 hi hz0 hz1 hz2 rfl (by decide) _ _ _ rfl (hown.alloc _) ⟨w.heap.size, 0, none⟩ 3 3 [.int .u8 (224 + r / 4096), .int .u8 (128 + r / 64 % 64), .int .u8 (128 + r % 64)] rfl rfl ?c1 ?c2 ?c3 ?c4 ?c5 ?_)
  case c1 =>
    intro j u hj
    match j, hj with
    | 0, hj => simp at hj; subst hj; simp [Addr.add]
    | 1, hj => simp at hj; subst hj; simp [Addr.add]
    | 2, hj => simp at hj; subst hj; simp [Addr.add]
    | (j + 3), hj => simp at hj
  case c2 => intro u hu; simp at hu; rcases hu with rfl | rfl | rfl <;> rfl
  case c3 => unfold maxLen; omega
  case c4 => omega
  case c5 => simp; omega
  intro v' w2 hown' hgrow _
  go_wp2_with fail
  go_ret
  exact ⟨_, rfl, hown', _, hgrow⟩
set_option maxHeartbeats 4000000 in
set_option maxRecDepth 100000 in
theorem rune_one (B : Nat) (v : Value) (n : Nat) (xs : List Value) (r : Int) (h0 : 0 ≤ r) (h1 : r ≤ 127) (w : World) (hown : w.ownsRow B 5 1 v n xs) (hlen : n + 4 ≤ 140737488355328) (hBw : B ≤ w.heap.size) :
    Calls Tryd.prog 116 #[v, .int .i32 r] w fun e w' => ∃ v', e = .returned v' ∧ w'.ownsRow B 5 1 v' (n + 1) (xs ++ [.int .u8 r]) ∧ ∃ o, (w.alloc o).grownBy w' v.ownBlock := by
  obtain ⟨i0, hi, hz0, hz1, hz2⟩ := info_parts Tryd.Builder_Extra_169.infoByte
  go_enter Tryd.func116, Tryd.ntmps116
  go_wp2_with (at_builtin; refine wpList_append_own _ rfl _ _ 35 rfl B 5 i0 (.int .u8 0) 1 1 Tryd.underlying35 hi hz0 hz1 hz2 rfl (by decide) _ _ _ rfl (hown.alloc _) ⟨w.heap.size, 0, none⟩ 1 1 [.int .u8 r] rfl rfl ?c1 ?c2 ?c3 ?c4 ?c5 ?_)
  case c1 =>
    intro j u hj
    match j, hj with
    | 0, hj => simp at hj; subst hj; simp [Addr.add]
    | (j + 1), hj => simp at hj
  case c2 => intro u hu; simp at hu; subst hu; rfl
  case c3 => unfold maxLen; omega
  case c4 => omega
  case c5 => simp; omega
  intro v' w2 hown' hgrow _
  go_wp2_with fail
  go_ret
  exact ⟨_, rfl, hown', _, hgrow⟩
def runeV (r : Int) : List Value := if r ≤ 127 then [.int .u8 r] else if r ≤ 2047 then [.int .u8 (192 + r / 64), .int .u8 (128 + r % 64)] else [.int .u8 (224 + r / 4096), .int .u8 (128 + r / 64 % 64), .int .u8 (128 + r % 64)]
theorem runeV_len (r : Int) : (runeV r).length ≤ 3 ∧ 1 ≤ (runeV r).length := by unfold runeV; (repeat' split) <;> simp
def PointI (r : Int) : Prop := 0 ≤ r ∧ r ≤ 65535 ∧ (r < 55296 ∨ 57343 < r)
def RunePost (B : Nat) (v : Value) (n : Nat) (xs : List Value) (r : Int) (w : World) (e : Ending) (w' : World) : Prop :=
  ∃ v', e = .returned v' ∧ w'.ownsRow B 5 1 v' (n + (runeV r).length) (xs ++ runeV r) ∧ ∃ o, (w.alloc o).grownBy w' v.ownBlock
set_option maxHeartbeats 4000000 in
set_option maxRecDepth 100000 in
theorem rune_any (B : Nat) (v : Value) (n : Nat) (xs : List Value) (r : Int) (hr : PointI r) (w : World) (hown : w.ownsRow B 5 1 v n xs) (hlen : n + 4 ≤ 140737488355328) (hBw : B ≤ w.heap.size) :
    Calls Tryd.prog 116 #[v, .int .i32 r] w (RunePost B v n xs r w) := by
  obtain ⟨h0, h1, h2⟩ := hr
  by_cases c1 : r ≤ 127
  · have e : runeV r = [.int .u8 r] := by unfold runeV; rw [if_pos c1]
    refine (rune_one B v n xs r h0 c1 w hown hlen hBw).mono ?_
    rintro _ w' ⟨v', rfl, g1, g2⟩
    exact ⟨v', rfl, by rw [e]; exact g1, g2⟩
  · have HN : Hid (Calls Tryd.prog 117 #[v, .int .i32 r] w (RunePost B v n xs r w)) := by
      by_cases c2 : r ≤ 2047
      · have e : runeV r = [.int .u8 (192 + r / 64), .int .u8 (128 + r % 64)] := by unfold runeV; rw [if_neg c1, if_pos c2]
        refine (rune_two B v n xs r (by omega) c2 w hown hlen hBw).mono ?_
        rintro _ w' ⟨v', rfl, g1, g2⟩
        exact ⟨v', rfl, by rw [e]; exact g1, g2⟩
      · have e : runeV r = [.int .u8 (224 + r / 4096), .int .u8 (128 + r / 64 % 64), .int .u8 (128 + r % 64)] := by unfold runeV; rw [if_neg c1, if_neg c2]
        rcases h2 with h2 | h2
        · refine (rune_lo B v n xs r (by omega) h2 w hown hlen hBw).mono ?_
          rintro _ w' ⟨v', rfl, g1, g2⟩
          exact ⟨v', rfl, by rw [e]; exact g1, g2⟩
        · refine (rune_hi B v n xs r h2 h1 w hown hlen hBw).mono ?_
          rintro _ w' ⟨v', rfl, g1, g2⟩
          exact ⟨v', rfl, by rw [e]; exact g1, g2⟩
    clear hown hlen hBw
    go_enter Tryd.func116, Tryd.ntmps116
    go_wp2_with fail
    refine HN.out.mono ?_
    rintro _ w1 ⟨v', rfl, g1, g2⟩
    have G1 := Lib.hid g1
    have G2 := Lib.hid g2
    clear g1 g2
    go_wp2_with fail
    go_ret
    exact ⟨_, rfl, G1.out, G2.out⟩
set_option maxHeartbeats 2000000 in
set_option maxRecDepth 100000 in
theorem wrune_any (B b : Nat) (bs : List Value) (r : Int) (hr : PointI r) (w : World) (h : Lib.IsBuilder 68 5 B b bs w) (hlen : bs.length + 4 ≤ 140737488355328) (hBw : B ≤ w.heap.size) :
    Calls Tryd.prog 113 #[.pointer (some ⟨b, 0, none⟩), .int .i32 r] w fun e w' => e = .returned (.tuple #[.int .i64 (runeV r).length, .nilIface]) ∧ (Lib.BuilderAt 68 5 B b (.pointer (some ⟨b, 0, none⟩)) (bs ++ runeV r) w' ∧ Below B w w') := by
  have HC := Lib.hid (check_any B b bs w h)
  have hk4 := (runeV_len r).1
  have hk1 := (runeV_len r).2
  clear h
  go_enter Tryd.func113, Tryd.ntmps113
  go_wp2_with fail
  refine HC.out.mono ?_
  rintro e w1 ⟨rfl, h1, hb1, _⟩
  obtain ⟨hB, v, hbk, hown, hne⟩ := h1
  obtain ⟨ao, cap, rfl⟩ : ∃ ao cap, v = .slice ao bs.length cap := by
    rcases hown.2 with ⟨hv, h0⟩ | ⟨g, cap, cur, hv, _⟩
    · exact ⟨none, 0, by rw [hv, h0]⟩
    · exact ⟨_, _, hv⟩
  have c0 : w1.cell? ⟨b, 0, none⟩ = some (.pointer (some ⟨b, 0, none⟩)) := by rw [Lib.cell_of_heap hbk]; rfl
  have c1 : w1.cell? ⟨b, 1, none⟩ = some (.slice ao bs.length cap) := by rw [Lib.cell_of_heap hbk]; rfl
  have HR := Lib.hid (rune_any B (.slice ao bs.length cap) bs.length bs r hr w1 hown hlen (by have := hb1.size; omega))
  go_wp2_with fail
  refine HR.out.mono ?_
  rintro e w2 ⟨v', rfl, hown', o, hgrow⟩
  have hlt : b < w1.heap.size := by
    rcases Nat.lt_or_ge b w1.heap.size with h' | h'
    · exact h'
    · simp [Array.getElem?_eq_none h'] at hbk
  have hb2 : w2.heap[b]? = some (.cells #[.pointer (some ⟨b, 0, none⟩), .slice ao bs.length cap] 68 (0, 0)) := by
    rw [hgrow.block b (by simp; omega) (fun e => hne e.symm), Lib.alloc_old w1 _ b hlt]
    exact hbk
  have d0 : w2.cell? ⟨b, 0, none⟩ = some (.pointer (some ⟨b, 0, none⟩)) := by rw [Lib.cell_of_heap hb2]; rfl
  have d1 : w2.cell? ⟨b, 1, none⟩ = some (.slice ao bs.length cap) := by rw [Lib.cell_of_heap hb2]; rfl
  have f1 : w2.frozen? ⟨b, 1, none⟩ = false := Lib.frozen_of_heap hb2 1
  obtain ⟨g, cap', rfl⟩ : ∃ g cap', v' = .slice (some ⟨g, 0, none⟩) (bs.length + (runeV r).length) cap' := by
    rcases hown'.2 with ⟨_, h0⟩ | ⟨g, cap', cur, hv, _⟩
    · omega
    · exact ⟨g, cap', hv⟩
  have e9 : IntKind.i64.wrap (((bs.length + (runeV r).length : Nat) : Int) - (bs.length : Int)) = ((runeV r).length : Int) := by rw [IntKind.wrap_i64] <;> omega
  go_wp2_with fail
  go_ret2
  refine ⟨?_, ?_, ?_⟩
  · simp; omega
  · exact Lib.BuilderAt.put (T := 68) (e := 5) hB hb2 (bs' := bs ++ runeV r) (by simpa using hown') (by decide)
  · exact ((hb1.alloc (by have := hb1.size; omega) _).grown hgrow (by have := hb1.size; simp; omega) (fun k hk => (hown.lt k hk).1)).setCell (p := ⟨b, 1, none⟩) hB _
end Go.Proofs.YtpionddponmdmaaDoor
/- Walks: digits in base 16, of any bytes. -/
namespace Go.Proofs.YtpionddponmdmaaDoor
open Go.RowKit
attribute [local go_sem] Ext.cell Ext.frozen
attribute [local go_sem ↓] Go.wp_at_zero Go.wp_at_succ
def hexV (c : UInt8) : Option Nat :=
  if 48 ≤ c.toNat ∧ c.toNat ≤ 57 then some (c.toNat - 48) else if 97 ≤ c.toNat ∧ c.toNat ≤ 102 then some (c.toNat - 87) else if 65 ≤ c.toNat ∧ c.toNat ≤ 70 then some (c.toNat - 55) else none
def hexAll : List UInt8 := [48, 49, 50, 51, 52, 53, 54, 55, 56, 57, 97, 98, 99, 100, 101, 102]
theorem hex_cases (c : UInt8) :
    (hexV c = none ∧ Lib.indexByte hexAll ((c.toNat : Int).toNat.toUInt8) = -1 ∧ (c.toNat < 65 ∨ 70 < c.toNat)) ∨
    (∃ d : Nat, d < 16 ∧ hexV c = some d ∧ Lib.indexByte hexAll ((c.toNat : Int).toNat.toUInt8) = (d : Int) ∧ (c.toNat < 65 ∨ 70 < c.toNat)) ∨
    (∃ d : Nat, d < 16 ∧ hexV c = some d ∧ 65 ≤ c.toNat ∧ c.toNat ≤ 70 ∧ d = c.toNat - 55) := by
  have k : ∀ f : Fin 256, (hexV (UInt8.ofNat f.1) = none ∧ Lib.indexByte hexAll ((UInt8.ofNat f.1).toNat : Int).toNat.toUInt8 = -1 ∧ ((UInt8.ofNat f.1).toNat < 65 ∨ 70 < (UInt8.ofNat f.1).toNat)) ∨
      (∃ d : Fin 16, hexV (UInt8.ofNat f.1) = some d.1 ∧ Lib.indexByte hexAll ((UInt8.ofNat f.1).toNat : Int).toNat.toUInt8 = (d.1 : Int) ∧ ((UInt8.ofNat f.1).toNat < 65 ∨ 70 < (UInt8.ofNat f.1).toNat)) ∨
      (∃ d : Fin 16, hexV (UInt8.ofNat f.1) = some d.1 ∧ 65 ≤ (UInt8.ofNat f.1).toNat ∧ (UInt8.ofNat f.1).toNat ≤ 70 ∧ d.1 = (UInt8.ofNat f.1).toNat - 55) := by decide +kernel
  have e : UInt8.ofNat c.toNat = c := by simp
  have := k ⟨c.toNat, c.toNat_lt⟩
  simp only [e] at this
  rcases this with h | ⟨d, h⟩ | ⟨d, h⟩
  · exact .inl h
  · exact .inr (.inl ⟨d.1, d.2, h⟩)
  · exact .inr (.inr ⟨d.1, d.2, h⟩)
def stepV (a : Option Nat) (c : UInt8) : Option Nat := match a, hexV c with
  | some n, some d => some (n * 16 + d)
  | _, _ => none
def numV (l : List UInt8) : Option Nat := l.foldl stepV (some 0)
theorem stepV_none {a : Option Nat} {c : UInt8} (h : hexV c = none) : stepV a c = none := by unfold stepV; rw [h]; cases a <;> rfl
theorem stepV_some {n d : Nat} {c : UInt8} (h : hexV c = some d) : stepV (some n) c = some (n * 16 + d) := by unfold stepV; rw [h]
theorem foldl_stepV_none (l : List UInt8) : l.foldl stepV none = none := by
  induction l with
  | nil => rfl
  | cons c l ih => exact ih
theorem numV_take {l : List UInt8} {i : Nat} (hi : i < l.length) : numV (l.take (i + 1)) = stepV (numV (l.take i)) (l.getD i 0) := by
  unfold numV
  rw [List.take_succ_eq_append_getElem hi, List.foldl_append]
  simp [List.getD, List.getElem?_eq_getElem hi]
theorem numV_fail {l : List UInt8} {i : Nat} (hi : i < l.length) (h : hexV (l.getD i 0) = none) : numV l = none := by
  have e : l = l.take (i + 1) ++ l.drop (i + 1) := (List.take_append_drop _ _).symm
  have e2 : numV (l.take (i + 1)) = none := by
    rw [numV_take hi, stepV_none h]
  unfold numV at e2 ⊢
  rw [e, List.foldl_append, e2, foldl_stepV_none]
theorem ba_at (l : List UInt8) {i : Nat} (g : i < (bs l).size) : (bs l)[i]'g = l.getD i 0 := by
  have h : i < l.length := by rw [bs_size] at g; exact g
  show l.toArray[i]'(by simpa using h) = _
  simp [List.getD, List.getElem?_eq_getElem h]
theorem hexIx (c : UInt8) (w : World) : Calls Tryd.prog 33 #[.string ⟨#[48, 49, 50, 51, 52, 53, 54, 55, 56, 57, 97, 98, 99, 100, 101, 102]⟩, .int .u8 (c.toNat : Int)] w fun e w' => e = .returned (.int .i64 (Lib.indexByte hexAll ((c.toNat : Int).toNat.toUInt8))) ∧ w' = w :=
  Tryd.strings_IndexByte ⟨#[48, 49, 50, 51, 52, 53, 54, 55, 56, 57, 97, 98, 99, 100, 101, 102]⟩ (c.toNat : Int) w
set_option maxRecDepth 20000 in
set_option maxHeartbeats 4000000 in
theorem digits_any (l : List UInt8) (hl : l.length ≤ 4) (w : World) :
    Calls Tryd.prog 91 #[.string (bs l), .int .i64 16] w fun e w' => e = .returned (.tuple #[.int .i64 (((numV l).getD 0 : Nat) : Int), .bool ((numV l).isSome && !l.isEmpty)]) ∧ w = w' := by
  have hsz : (bs l).size = l.length := bs_size l
  have HSZ := Lib.hid hsz
  have hle : (bs l).size ≤ 4 := by omega
  have hat := @ba_at l
  have hem : (bs l).toList.isEmpty = l.isEmpty := by rw [bs_toList]
  have HEM := Lib.hid hem
  generalize hS : bs l = S at *
  clear hS hsz hem
  go_enter Tryd.func91, Tryd.ntmps91
  go_wp2_with fail
  go_loopw [6, 11] (fun n i wr => ∃ (k m : Nat), k ≤ l.length ∧ i = .int .i64 (k : Int) ∧ n = .int .i64 (m : Int) ∧ numV (l.take k) = some m ∧ m < 16 ^ k ∧ w = wr) (fun _ i _ => l.length - (intOf i).toNat)
  case atStart => exact ⟨0, 0, Nat.zero_le _, rfl, rfl, rfl, by decide, rfl⟩
  case round =>
    obtain ⟨k, m, hk, rfl, rfl, hnum, hm, rfl⟩ := hrel
    have hm4 : m ≤ 65536 := by
      have : 16 ^ k ≤ 16 ^ 4 := Nat.pow_le_pow_right (by decide) (by omega)
      have : (16 : Nat) ^ 4 = 65536 := by decide
      omega
    by_cases hlt : k < l.length
    · have hks : k < S.size := by rw [HSZ.out]; exact hlt
      have hix : ∀ g : k < S.size, S[k]'g = l.getD k 0 := fun g => hat g
      have HNT := Lib.hid (numV_take hlt)
      have HNF := Lib.hid (fun h => numV_fail hlt h)
      have HNM := Lib.hid hnum
      have HPW := Lib.hid hm
      have HL := Lib.hid hk
      clear hat hnum hm
      generalize l.getD k 0 = c at *
      have HIX := Lib.hid (hexIx c)
      rcases hex_cases c with ⟨hv, hi, hr⟩ | ⟨d, hd, hv, hi, hr⟩ | ⟨d, hd, hv, h65, h70, hde⟩
      · have HF := Lib.hid (HNF.out hv)
        rw [hi] at HIX
        clear hi hv
        rcases hr with hr | hr
        · have g1 : ¬ (65 : Int) ≤ (c.toNat : Int) := by omega
          clear hr
          go_wp2_with fail
          refine (HIX.out _).mono ?_
          rintro e _ ⟨rfl, rfl⟩
          go_wp2_with fail
          go_ret2
          exact ⟨by rw [HF.out]; rfl, rfl⟩
        · have g1 : (65 : Int) ≤ (c.toNat : Int) := by omega
          have g2 : ¬ (c.toNat : Int) ≤ 70 := by omega
          clear hr
          go_wp2_with fail
          refine (HIX.out _).mono ?_
          rintro e _ ⟨rfl, rfl⟩
          go_wp2_with fail
          go_ret2
          exact ⟨by rw [HF.out]; rfl, rfl⟩
      · have HNX : Hid (numV (l.take (k + 1)) = some (m * 16 + d)) := by unfold Hid; rw [HNT.out, HNM.out, stepV_some hv]
        have HPX : Hid (m * 16 + d < 16 ^ (k + 1)) := by unfold Hid; have := HPW.out; rw [Nat.pow_succ]; omega
        rw [hi] at HIX
        clear hi hv
        rcases hr with hr | hr
        · have g1 : ¬ (65 : Int) ≤ (c.toNat : Int) := by omega
          clear hr
          go_wp2_with fail
          refine (HIX.out _).mono ?_
          rintro e _ ⟨rfl, rfl⟩
          go_wp2_with fail
          go_roundw
          case rel => exact ⟨k + 1, m * 16 + d, hlt, by go_num, by go_num, HNX.out, HPX.out, trivial⟩
          case measure => simp [intOf]; omega
        · have g1 : (65 : Int) ≤ (c.toNat : Int) := by omega
          have g2 : ¬ (c.toNat : Int) ≤ 70 := by omega
          clear hr
          go_wp2_with fail
          refine (HIX.out _).mono ?_
          rintro e _ ⟨rfl, rfl⟩
          go_wp2_with fail
          go_roundw
          case rel => exact ⟨k + 1, m * 16 + d, hlt, by go_num, by go_num, HNX.out, HPX.out, trivial⟩
          case measure => simp [intOf]; omega
      · have HNX : Hid (numV (l.take (k + 1)) = some (m * 16 + d)) := by unfold Hid; rw [HNT.out, HNM.out, stepV_some hv]
        have HPX : Hid (m * 16 + d < 16 ^ (k + 1)) := by unfold Hid; have := HPW.out; rw [Nat.pow_succ]; omega
        have g1 : (65 : Int) ≤ (c.toNat : Int) := by omega
        have g2 : (c.toNat : Int) ≤ 70 := by omega
        have HDE : Hid ((d : Int) = (c.toNat : Int) - 65 + 10) := by unfold Hid; omega
        clear hv h65 h70 hde
        generalize Lib.indexByte hexAll ((c.toNat : Int).toNat.toUInt8) = ix at *
        go_wp2_with fail
        refine (HIX.out _).mono ?_
        rintro e _ ⟨rfl, rfl⟩
        go_wp2_with fail
        go_roundw
        case rel => exact ⟨k + 1, m * 16 + d, hlt, by go_num, by have := HDE.out; go_num, HNX.out, HPX.out, trivial⟩
        case measure => simp [intOf]; omega
    · obtain rfl : k = l.length := by omega
      rw [List.take_length] at hnum
      have HN := Lib.hid hnum
      have hks : ¬ l.length < S.size := by rw [HSZ.out]; omega
      clear hnum hm hat
      go_wp2_with fail
      go_ret2
      exact ⟨by rw [HN.out, ← HEM.out]; rfl, rfl⟩
end Go.Proofs.YtpionddponmdmaaDoor
