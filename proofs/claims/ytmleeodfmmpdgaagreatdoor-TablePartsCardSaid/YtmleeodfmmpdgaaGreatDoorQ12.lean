/- Walks: slices.IndexFunc and ContainsFunc at the rows of a table. -/
import Derived.Test.YtmleeodfmmpdgaaGreatDoorQ11
import Derived.OwnWalk
import Derived.Deep.AppendLies
import Derived.Deep.DrawnRows
import Derived.Deep.CutBlock
import Derived.Deep.DeepCutAuto
import Derived.Deep.RegionHeld3
namespace Go.Proofs.YtmleeodfmmpdgaaGreatDoor
open Go.RowKit
attribute [local go_sem] Ext.cell Ext.frozen
attribute [local go_sem ↓] Go.wp_at_zero Go.wp_at_succ
set_option maxRecDepth 20000 in
theorem idx_lp (p : Nat → Bool) (g : Nat) (lb : Array Value) (eg : ∀ args w, (callFunc g args).run Tryz.prog w = .ok (.enter g args) w) (ad : Option Addr) (n c : Nat) (f : Nat → Nat → Value) (b off : Nat) (w : World) (hr : Rw w ad n 5 f b off)
    (hp : ∀ W i, i < n → Below w.heap.size w W → Calls Tryz.prog g (#[.agg #[f i 0, f i 1, f i 2, f i 3, f i 4]] ++ lb) W fun e w' => e = .returned (.bool (p i)) ∧ Below W.heap.size W w') :
    Calls Tryz.prog 254 #[.slice ad n c, .func (.func g) #[] lb] w fun e w' => e = .returned (.int .i64 (idxP p n)) ∧ Below w.heap.size w w' := by
  have HR := Lib.hid hr
  have HP := Lib.hid hp
  have hm := hr.max
  clear hr hp
  go_enter Tryz.func254, Tryz.ntmps254
  go_wp2_with fail
  go_loopw [5, 8] (fun _ v wr => ∃ k : Nat, v = .int .i64 (k : Int) ∧ k ≤ n ∧ (∀ i, i < k → p i = false) ∧ Below w.heap.size w wr) (fun _ v _ => n - (intOf v).toNat)
  case atStart => exact ⟨0, rfl, Nat.zero_le _, fun i hi => absurd hi (Nat.not_lt_zero _), Below.refl _ _⟩
  case round =>
    obtain ⟨k, rfl, hkn, hm0, hbl⟩ := hrel
    have HM := Lib.hid hm0
    have HBL := Lib.hid hbl
    clear hm0 hbl
    by_cases hlt : k < n
    · have HRR := Lib.hid (HR.out.below HBL.out)
      have hix := fun W => HRR.out.ix 41 130 Tryz.underlying41 (by kernel_rfl) (by omega) hlt c W
      have c0 : wr.cell? ⟨b, off + k * 5, none⟩ = some (f k 0) := HRR.out.cell k 0 hlt (by omega)
      have c1 : wr.cell? ⟨b, off + k * 5 + 1, none⟩ = some (f k 1) := HRR.out.cell k 1 hlt (by omega)
      have c2 : wr.cell? ⟨b, off + k * 5 + 2, none⟩ = some (f k 2) := HRR.out.cell k 2 hlt (by omega)
      have c3 : wr.cell? ⟨b, off + k * 5 + 3, none⟩ = some (f k 3) := HRR.out.cell k 3 hlt (by omega)
      have c4 : wr.cell? ⟨b, off + k * 5 + 4, none⟩ = some (f k 4) := HRR.out.cell k 4 hlt (by omega)
      have HCALL := Lib.hid (HP.out wr k hlt HBL.out)
      clear HRR
      cases hq : p k with
      | true =>
        have HQ := Lib.hid hq
        rw [Hid, hq] at HCALL
        clear hq
        go_wp2_with (go_at_fn g; refine HCALL.mono ?_; rintro e w' ⟨rfl, hb'⟩)
        go_ret
        exact ⟨ret_int (idxP_hit hlt HQ.out HM.out).symm, HBL.out.trans (hb'.mono HBL.out.size)⟩
      | false =>
        have HQ := Lib.hid hq
        rw [Hid, hq] at HCALL
        clear hq
        go_wp2_with (go_at_fn g; refine HCALL.mono ?_; rintro e w' ⟨rfl, hb'⟩)
        go_roundw
        case rel =>
          refine ⟨k + 1, by go_num, by omega, fun i hi => ?_, HBL.out.trans (hb'.mono HBL.out.size)⟩
          by_cases e : i = k
          · subst e; exact HQ.out
          · exact HM.out i (by omega)
        case measure => simp [intOf]; omega
    · obtain rfl : k = n := by omega
      go_wp2_with fail
      go_ret
      exact ⟨ret_int (idxP_miss HM.out).symm, HBL.out⟩
theorem cont_lp (p : Nat → Bool) (g : Nat) (lb : Array Value) (eg : ∀ args w, (callFunc g args).run Tryz.prog w = .ok (.enter g args) w) (ad : Option Addr) (n c : Nat) (f : Nat → Nat → Value) (b off : Nat) (w : World) (hr : Rw w ad n 5 f b off)
    (hp : ∀ W i, i < n → Below w.heap.size w W → Calls Tryz.prog g (#[.agg #[f i 0, f i 1, f i 2, f i 3, f i 4]] ++ lb) W fun e w' => e = .returned (.bool (p i)) ∧ Below W.heap.size W w') :
    Calls Tryz.prog 203 #[.slice ad n c, .func (.func g) #[] lb] w fun e w' => e = .returned (.bool (anyP p n)) ∧ Below w.heap.size w w' := by
  have HC := Lib.hid (idx_lp p g lb eg ad n c f b off w hr hp)
  clear hr hp eg
  rw [← anyP_idx]
  generalize idxP p n = z at *
  go_enter Tryz.func203, Tryz.ntmps203
  go_wp2_with (go_at_call 254; refine HC.out.mono ?_; rintro e w' ⟨rfl, hb'⟩)
  go_ret
  exact ⟨rfl, hb'⟩
set_option maxRecDepth 20000 in
theorem idx_up (p : Nat → Bool) (g : Nat) (lb : Array Value) (eg : ∀ args w, (callFunc g args).run Tryz.prog w = .ok (.enter g args) w) (ad : Option Addr) (n c : Nat) (f : Nat → Nat → Value) (b off : Nat) (w : World) (hr : Rw w ad n 3 f b off)
    (hp : ∀ W i, i < n → Below w.heap.size w W → Calls Tryz.prog g (#[.agg #[f i 0, f i 1, f i 2]] ++ lb) W fun e w' => e = .returned (.bool (p i)) ∧ Below W.heap.size W w') :
    Calls Tryz.prog 255 #[.slice ad n c, .func (.func g) #[] lb] w fun e w' => e = .returned (.int .i64 (idxP p n)) ∧ Below w.heap.size w w' := by
  have HR := Lib.hid hr
  have HP := Lib.hid hp
  have hm := hr.max
  clear hr hp
  go_enter Tryz.func255, Tryz.ntmps255
  go_wp2_with fail
  go_loopw [5, 8] (fun _ v wr => ∃ k : Nat, v = .int .i64 (k : Int) ∧ k ≤ n ∧ (∀ i, i < k → p i = false) ∧ Below w.heap.size w wr) (fun _ v _ => n - (intOf v).toNat)
  case atStart => exact ⟨0, rfl, Nat.zero_le _, fun i hi => absurd hi (Nat.not_lt_zero _), Below.refl _ _⟩
  case round =>
    obtain ⟨k, rfl, hkn, hm0, hbl⟩ := hrel
    have HM := Lib.hid hm0
    have HBL := Lib.hid hbl
    clear hm0 hbl
    by_cases hlt : k < n
    · have HRR := Lib.hid (HR.out.below HBL.out)
      have hix := fun W => HRR.out.ix 42 132 Tryz.underlying42 (by kernel_rfl) (by omega) hlt c W
      have c0 : wr.cell? ⟨b, off + k * 3, none⟩ = some (f k 0) := HRR.out.cell k 0 hlt (by omega)
      have c1 : wr.cell? ⟨b, off + k * 3 + 1, none⟩ = some (f k 1) := HRR.out.cell k 1 hlt (by omega)
      have c2 : wr.cell? ⟨b, off + k * 3 + 2, none⟩ = some (f k 2) := HRR.out.cell k 2 hlt (by omega)
      have HCALL := Lib.hid (HP.out wr k hlt HBL.out)
      clear HRR
      cases hq : p k with
      | true =>
        have HQ := Lib.hid hq
        rw [Hid, hq] at HCALL
        clear hq
        go_wp2_with (go_at_fn g; refine HCALL.mono ?_; rintro e w' ⟨rfl, hb'⟩)
        go_ret
        exact ⟨ret_int (idxP_hit hlt HQ.out HM.out).symm, HBL.out.trans (hb'.mono HBL.out.size)⟩
      | false =>
        have HQ := Lib.hid hq
        rw [Hid, hq] at HCALL
        clear hq
        go_wp2_with (go_at_fn g; refine HCALL.mono ?_; rintro e w' ⟨rfl, hb'⟩)
        go_roundw
        case rel =>
          refine ⟨k + 1, by go_num, by omega, fun i hi => ?_, HBL.out.trans (hb'.mono HBL.out.size)⟩
          by_cases e : i = k
          · subst e; exact HQ.out
          · exact HM.out i (by omega)
        case measure => simp [intOf]; omega
    · obtain rfl : k = n := by omega
      go_wp2_with fail
      go_ret
      exact ⟨ret_int (idxP_miss HM.out).symm, HBL.out⟩
theorem cont_up (p : Nat → Bool) (g : Nat) (lb : Array Value) (eg : ∀ args w, (callFunc g args).run Tryz.prog w = .ok (.enter g args) w) (ad : Option Addr) (n c : Nat) (f : Nat → Nat → Value) (b off : Nat) (w : World) (hr : Rw w ad n 3 f b off)
    (hp : ∀ W i, i < n → Below w.heap.size w W → Calls Tryz.prog g (#[.agg #[f i 0, f i 1, f i 2]] ++ lb) W fun e w' => e = .returned (.bool (p i)) ∧ Below W.heap.size W w') :
    Calls Tryz.prog 205 #[.slice ad n c, .func (.func g) #[] lb] w fun e w' => e = .returned (.bool (anyP p n)) ∧ Below w.heap.size w w' := by
  have HC := Lib.hid (idx_up p g lb eg ad n c f b off w hr hp)
  clear hr hp eg
  rw [← anyP_idx]
  generalize idxP p n = z at *
  go_enter Tryz.func205, Tryz.ntmps205
  go_wp2_with (go_at_call 255; refine HC.out.mono ?_; rintro e w' ⟨rfl, hb'⟩)
  go_ret
  exact ⟨rfl, hb'⟩
set_option maxRecDepth 20000 in
theorem idx_dp (p : Nat → Bool) (g : Nat) (lb : Array Value) (eg : ∀ args w, (callFunc g args).run Tryz.prog w = .ok (.enter g args) w) (ad : Option Addr) (n c : Nat) (f : Nat → Nat → Value) (b off : Nat) (w : World) (hr : Rw w ad n 2 f b off)
    (hp : ∀ W i, i < n → Below w.heap.size w W → Calls Tryz.prog g (#[.agg #[f i 0, f i 1]] ++ lb) W fun e w' => e = .returned (.bool (p i)) ∧ Below W.heap.size W w') :
    Calls Tryz.prog 256 #[.slice ad n c, .func (.func g) #[] lb] w fun e w' => e = .returned (.int .i64 (idxP p n)) ∧ Below w.heap.size w w' := by
  have HR := Lib.hid hr
  have HP := Lib.hid hp
  have hm := hr.max
  clear hr hp
  go_enter Tryz.func256, Tryz.ntmps256
  go_wp2_with fail
  go_loopw [5, 8] (fun _ v wr => ∃ k : Nat, v = .int .i64 (k : Int) ∧ k ≤ n ∧ (∀ i, i < k → p i = false) ∧ Below w.heap.size w wr) (fun _ v _ => n - (intOf v).toNat)
  case atStart => exact ⟨0, rfl, Nat.zero_le _, fun i hi => absurd hi (Nat.not_lt_zero _), Below.refl _ _⟩
  case round =>
    obtain ⟨k, rfl, hkn, hm0, hbl⟩ := hrel
    have HM := Lib.hid hm0
    have HBL := Lib.hid hbl
    clear hm0 hbl
    by_cases hlt : k < n
    · have HRR := Lib.hid (HR.out.below HBL.out)
      have hix := fun W => HRR.out.ix 43 134 Tryz.underlying43 (by kernel_rfl) (by omega) hlt c W
      have c0 : wr.cell? ⟨b, off + k * 2, none⟩ = some (f k 0) := HRR.out.cell k 0 hlt (by omega)
      have c1 : wr.cell? ⟨b, off + k * 2 + 1, none⟩ = some (f k 1) := HRR.out.cell k 1 hlt (by omega)
      have HCALL := Lib.hid (HP.out wr k hlt HBL.out)
      clear HRR
      cases hq : p k with
      | true =>
        have HQ := Lib.hid hq
        rw [Hid, hq] at HCALL
        clear hq
        go_wp2_with (go_at_fn g; refine HCALL.mono ?_; rintro e w' ⟨rfl, hb'⟩)
        go_ret
        exact ⟨ret_int (idxP_hit hlt HQ.out HM.out).symm, HBL.out.trans (hb'.mono HBL.out.size)⟩
      | false =>
        have HQ := Lib.hid hq
        rw [Hid, hq] at HCALL
        clear hq
        go_wp2_with (go_at_fn g; refine HCALL.mono ?_; rintro e w' ⟨rfl, hb'⟩)
        go_roundw
        case rel =>
          refine ⟨k + 1, by go_num, by omega, fun i hi => ?_, HBL.out.trans (hb'.mono HBL.out.size)⟩
          by_cases e : i = k
          · subst e; exact HQ.out
          · exact HM.out i (by omega)
        case measure => simp [intOf]; omega
    · obtain rfl : k = n := by omega
      go_wp2_with fail
      go_ret
      exact ⟨ret_int (idxP_miss HM.out).symm, HBL.out⟩
theorem cont_dp (p : Nat → Bool) (g : Nat) (lb : Array Value) (eg : ∀ args w, (callFunc g args).run Tryz.prog w = .ok (.enter g args) w) (ad : Option Addr) (n c : Nat) (f : Nat → Nat → Value) (b off : Nat) (w : World) (hr : Rw w ad n 2 f b off)
    (hp : ∀ W i, i < n → Below w.heap.size w W → Calls Tryz.prog g (#[.agg #[f i 0, f i 1]] ++ lb) W fun e w' => e = .returned (.bool (p i)) ∧ Below W.heap.size W w') :
    Calls Tryz.prog 207 #[.slice ad n c, .func (.func g) #[] lb] w fun e w' => e = .returned (.bool (anyP p n)) ∧ Below w.heap.size w w' := by
  have HC := Lib.hid (idx_dp p g lb eg ad n c f b off w hr hp)
  clear hr hp eg
  rw [← anyP_idx]
  generalize idxP p n = z at *
  go_enter Tryz.func207, Tryz.ntmps207
  go_wp2_with (go_at_call 256; refine HC.out.mono ?_; rintro e w' ⟨rfl, hb'⟩)
  go_ret
  exact ⟨rfl, hb'⟩
end Go.Proofs.YtmleeodfmmpdgaaGreatDoor
/- Tables as data, and how they lie in memory. -/
namespace Go.Proofs.YtmleeodfmmpdgaaGreatDoor
open Go.RowKit
/-- a string of a size that memory can hold -/
def SzS (v : Value) (s : ByteArray) : Prop := v = .string s ∧ s.size ≤ 140737488351232
/-- a number of 64 bits -/
def SzI (v : Value) (z : Int) : Prop := v = .int .i64 z ∧ -9223372036854775808 ≤ z ∧ z ≤ 9223372036854775807
def OneS (_ : World) (x : Nat → Value) (s : ByteArray) : Prop := SzS (x 0) s
structure Lp where
  style : ByteArray
  two : ByteArray
  start : ByteArray
  mid : ByteArray
  fin : ByteArray
deriving Inhabited
structure LpC (_ : World) (x : Nat → Value) (y : Lp) : Prop where
  c0 : SzS (x 0) y.style
  c1 : SzS (x 1) y.two
  c2 : SzS (x 2) y.start
  c3 : SzS (x 3) y.mid
  c4 : SzS (x 4) y.fin
theorem LpC.at {w w' : World} {x : Nat → Value} {y : Lp} (h : LpC w x y) : LpC w' x y := ⟨h.c0, h.c1, h.c2, h.c3, h.c4⟩
structure Up where
  unit : ByteArray
  cls : ByteArray
  pat : ByteArray
deriving Inhabited
structure UpC (_ : World) (x : Nat → Value) (y : Up) : Prop where
  c0 : SzS (x 0) y.unit
  c1 : SzS (x 1) y.cls
  c2 : SzS (x 2) y.pat
theorem UpC.at {w w' : World} {x : Nat → Value} {y : Up} (h : UpC w x y) : UpC w' x y := ⟨h.c0, h.c1, h.c2⟩
structure Dp where
  skel : ByteArray
  pat : ByteArray
deriving Inhabited
structure DpC (_ : World) (x : Nat → Value) (y : Dp) : Prop where
  c0 : SzS (x 0) y.skel
  c1 : SzS (x 1) y.pat
theorem DpC.at {w w' : World} {x : Nat → Value} {y : Dp} (h : DpC w x y) : DpC w' x y := ⟨h.c0, h.c1⟩
structure Al where
  fro : ByteArray
  dst : ByteArray
deriving Inhabited
structure AlC (_ : World) (x : Nat → Value) (y : Al) : Prop where
  c0 : SzS (x 0) y.fro
  c1 : SzS (x 1) y.dst
theorem AlC.at {w w' : World} {x : Nat → Value} {y : Al} (h : AlC w x y) : AlC w' x y := ⟨h.c0, h.c1⟩
structure Ne where
  fro : ByteArray
  dst : ByteArray
  cost : Int
deriving Inhabited
structure NeC (_ : World) (x : Nat → Value) (y : Ne) : Prop where
  c0 : SzS (x 0) y.fro
  c1 : SzS (x 1) y.dst
  c2 : SzI (x 2) y.cost
theorem NeC.at {w w' : World} {x : Nat → Value} {y : Ne} (h : NeC w x y) : NeC w' x y := ⟨h.c0, h.c1, h.c2⟩
structure Lc where
  tag : ByteArray
  par : ByteArray
  dir : ByteArray
  card : List (ByteArray × List (List Rel))
  ord : List (ByteArray × List (List Rel))
  dec : ByteArray
  grp : ByteArray
  mi : ByteArray
  pct : ByteArray
  pri : Int
  sec : Int
  lists : List Lp
  units : List Up
  dates : List Dp
  months : List ByteArray
  days : List ByteArray
deriving Inhabited
structure LcC (w : World) (x : Nat → Value) (y : Lc) : Prop where
  c0 : SzS (x 0) y.tag
  c1 : SzS (x 1) y.par
  c2 : SzS (x 2) y.dir
  c3 : RulesAt w (x 3) y.card
  c4 : RulesAt w (x 4) y.ord
  c5 : SzS (x 5) y.dec
  c6 : SzS (x 6) y.grp
  c7 : SzS (x 7) y.mi
  c8 : SzS (x 8) y.pct
  c9 : SzI (x 9) y.pri
  c10 : SzI (x 10) y.sec
  c11 : RowsOf 5 LpC w (x 11) y.lists
  c12 : RowsOf 3 UpC w (x 12) y.units
  c13 : RowsOf 2 DpC w (x 13) y.dates
  c14 : RowsOf 1 OneS w (x 14) y.months
  c15 : RowsOf 1 OneS w (x 15) y.days
theorem LcC.below {w w' : World} {x : Nat → Value} {y : Lc} (h : LcC w x y) (hb : Below w.heap.size w w') : LcC w' x y :=
  ⟨h.c0, h.c1, h.c2, h.c3.below hb, h.c4.below hb, h.c5, h.c6, h.c7, h.c8, h.c9, h.c10, h.c11.map hb fun _ _ h => ⟨h.c0, h.c1, h.c2, h.c3, h.c4⟩, h.c12.map hb fun _ _ h => ⟨h.c0, h.c1, h.c2⟩, h.c13.map hb fun _ _ h => ⟨h.c0, h.c1⟩, h.c14.map hb fun _ _ h => h, h.c15.map hb fun _ _ h => h⟩
structure Tb where
  locs : List Lc
  als : List Al
  near : List Ne
deriving Inhabited
structure TbC (w : World) (x : Nat → Value) (y : Tb) : Prop where
  c0 : RowsOf 16 LcC w (x 0) y.locs
  c1 : RowsOf 2 AlC w (x 1) y.als
  c2 : RowsOf 3 NeC w (x 2) y.near
theorem TbC.below {w w' : World} {x : Nat → Value} {y : Tb} (h : TbC w x y) (hb : Below w.heap.size w w') : TbC w' x y :=
  ⟨h.c0.map hb fun _ _ h => h.below hb, h.c1.map hb fun _ _ h => ⟨h.c0, h.c1⟩, h.c2.map hb fun _ _ h => ⟨h.c0, h.c1, h.c2⟩⟩
/-- an element of a row, and where it lies -/
theorem RowsOf.opn {α : Type} {k : Nat} {C : World → (Nat → Value) → α → Prop} {w : World} {v : Value} {l : List α} (h : RowsOf k C w v l) :
    ∃ ad c f b off, v = .slice ad l.length c ∧ Rw w ad l.length k f b off ∧ (ad = none → c = 0) ∧ l.length ≤ c ∧ l.length ≤ 140737488351232 ∧ ∀ i (hi : i < l.length), C w (f i) l[i] := by
  obtain ⟨ad, c, f, b, off, h1, h2, h3, h4, h5, h6⟩ := h
  exact ⟨ad, c, f, b, off, h1, h2, h3, h4, h5, fun i hi => h6 i _ (List.getElem?_eq_getElem hi)⟩
theorem RowsOf.nil {α : Type} (k : Nat) (C : World → (Nat → Value) → α → Prop) (w : World) : RowsOf k C w (.slice none 0 0) ([] : List α) :=
  ⟨none, 0, fun _ _ => undef, 0, 0, rfl, ⟨Nat.zero_le _, fun h => absurd rfl h, fun i j hi => absurd hi (Nat.not_lt_zero _)⟩, fun _ => rfl, Nat.le_refl _, Nat.zero_le _, fun i x hx => by simp at hx⟩
end Go.Proofs.YtmleeodfmmpdgaaGreatDoor
/- Blocks that calls write, and data that lies elsewhere. -/
namespace Go.Proofs.YtmleeodfmmpdgaaGreatDoor
open Go.RowKit

/-- the text of a function from a region on -/
def fromReg (n : Nat) : Code → Code
  | .seq a b => match a with
    | .region k _ _ => if k = n then .seq a b else fromReg n b
    | .seq (.region k _ _) _ => if k = n then .seq a b else fromReg n b
    | _ => fromReg n b
  | c => c
/-- what reads, still reads -/
def Sub (w w' : World) : Prop := ∀ (p : Addr) (v : Value), w.cell? p = some v → w'.cell? p = some v
theorem Sub.refl (w : World) : Sub w w := fun _ _ h => h
theorem Sub.trans {a b c : World} (h : Sub a b) (k : Sub b c) : Sub a c := fun p v hv => k p v (h p v hv)
theorem Rw.sub {w w' : World} {ad : Option Addr} {n k : Nat} {f b off} (h : Rw w ad n k f b off) (hs : Sub w w') : Rw w' ad n k f b off :=
  ⟨h.max, h.adr, fun i j hi hj => hs _ _ (h.cell i j hi hj)⟩
theorem RowsOf.sub {α : Type} {k : Nat} {C : World → (Nat → Value) → α → Prop} {w w' : World} {v : Value} {l : List α} (h : RowsOf k C w v l) (hs : Sub w w') (hC : ∀ x a, C w x a → C w' x a) : RowsOf k C w' v l := by
  obtain ⟨ad, c, f, b, off, h1, h2, h3, h4, h5, h6⟩ := h
  exact ⟨ad, c, f, b, off, h1, h2.sub hs, h3, h4, h5, fun i x hx => hC _ _ (h6 i x hx)⟩
theorem RelC.sub {w w' : World} {x : Nat → Value} {r : Rel} (h : RelC w x r) (hs : Sub w w') : RelC w' x r := ⟨h.1, h.2.1, h.2.2.1, h.2.2.2.sub hs fun _ _ h => h⟩
theorem RelsC.sub {w w' : World} {x : Nat → Value} {l : List Rel} (h : RelsC w x l) (hs : Sub w w') : RelsC w' x l := RowsOf.sub h hs fun _ _ h => h.sub hs
theorem CondAt.sub {w w' : World} {v : Value} {c : List (List Rel)} (h : CondAt w v c) (hs : Sub w w') : CondAt w' v c := RowsOf.sub h hs fun _ _ h => h.sub hs
theorem RuleC.sub {w w' : World} {x : Nat → Value} {r : ByteArray × List (List Rel)} (h : RuleC w x r) (hs : Sub w w') : RuleC w' x r := ⟨h.1, h.2.sub hs⟩
theorem RulesAt.sub {w w' : World} {v : Value} {l : List (ByteArray × List (List Rel))} (h : RulesAt w v l) (hs : Sub w w') : RulesAt w' v l := RowsOf.sub h hs fun _ _ h => h.sub hs
theorem LcC.sub {w w' : World} {x : Nat → Value} {y : Lc} (h : LcC w x y) (hs : Sub w w') : LcC w' x y :=
  ⟨h.c0, h.c1, h.c2, h.c3.sub hs, h.c4.sub hs, h.c5, h.c6, h.c7, h.c8, h.c9, h.c10, h.c11.sub hs fun _ _ h => h.at, h.c12.sub hs fun _ _ h => h.at, h.c13.sub hs fun _ _ h => h.at, h.c14.sub hs fun _ _ h => h, h.c15.sub hs fun _ _ h => h⟩
theorem TbC.sub {w w' : World} {x : Nat → Value} {y : Tb} (h : TbC w x y) (hs : Sub w w') : TbC w' x y :=
  ⟨h.c0.sub hs fun _ _ h => h.sub hs, h.c1.sub hs fun _ _ h => h.at, h.c2.sub hs fun _ _ h => h.at⟩

/-- the world with some blocks hidden -/
def hide (P : Nat → Bool) (w : World) : World := { w with heap := w.heap.mapIdx fun i o => if P i then .cells #[] 0 else o }
theorem hide_get (P : Nat → Bool) (w : World) (k : Nat) : (hide P w).heap[k]? = (w.heap[k]?).map fun o => if P k then .cells #[] 0 else o := by simp [hide]
theorem hide_not {P : Nat → Bool} {w : World} {k : Nat} (h : P k = false) : (hide P w).heap[k]? = w.heap[k]? := by
  rw [hide_get, h]
  simp
theorem hide_cell {P : Nat → Bool} {w : World} {p : Addr} {v : Value} (h : (hide P w).cell? p = some v) : P p.block = false ∧ w.cell? p = some v := by
  cases hp : P p.block with
  | false => exact ⟨rfl, by rw [← World.cell?_of_block (hide_not hp)]; exact h⟩
  | true =>
    exfalso
    have hg := hide_get P w p.block
    rw [hp] at hg
    unfold World.cell? at h
    rw [hg] at h
    cases hq : w.heap[p.block]? <;> simp [hq] at h
theorem sub_hide (P : Nat → Bool) (w : World) : Sub (hide P w) w := fun _ _ h => (hide_cell h).2
/-- one block -/
def oneP (b : Nat) (k : Nat) : Bool := decide (k = b)
/-- nothing has changed but what is hidden -/
structure Kp (P : Nat → Bool) (w w' : World) : Prop where
  os : w'.os = w.os
  tape : w'.tape = w.tape
  output : w'.output = w.output
  size : w.heap.size ≤ w'.heap.size
  block : ∀ k, k < w.heap.size → P k = false → w'.heap[k]? = w.heap[k]?
theorem Kp.refl (P : Nat → Bool) (w : World) : Kp P w w := ⟨rfl, rfl, rfl, Nat.le_refl _, fun _ _ _ => rfl⟩
theorem Kp.trans {P : Nat → Bool} {a b c : World} (h : Kp P a b) (k : Kp P b c) : Kp P a c :=
  ⟨k.os.trans h.os, k.tape.trans h.tape, k.output.trans h.output, Nat.le_trans h.size k.size, fun i hi hp => (k.block i (Nat.lt_of_lt_of_le hi h.size) hp).trans (h.block i hi hp)⟩
theorem Kp.le {P Q : Nat → Bool} {w w' : World} (h : Kp P w w') (hq : ∀ k, k < w.heap.size → P k = true → Q k = true) : Kp Q w w' :=
  ⟨h.os, h.tape, h.output, h.size, fun k hk hp => h.block k hk (by
    cases hh : P k with
    | false => rfl
    | true => rw [hq k hk hh] at hp; cases hp)⟩
theorem kp_below {P : Nat → Bool} {w w' : World} (h : Below w.heap.size w w') : Kp P w w' := ⟨h.os, h.tape, h.output, h.size, fun k hk _ => h.block k hk⟩
theorem Kp.below {P : Nat → Bool} {w w' : World} (h : Kp P w w') (base : Nat) (hb : base ≤ w.heap.size) (hp : ∀ k, k < base → P k = false) : Below base w w' :=
  ⟨h.os, h.tape, h.output, h.size, fun k hk => h.block k (by omega) (hp k hk)⟩
theorem Kp.sub {P : Nat → Bool} {w w' : World} (h : Kp P w w') : Sub (hide P w) (hide P w') := fun p v hv => by
  obtain ⟨h1, h2⟩ := hide_cell hv
  rw [World.cell?_of_block (hide_not h1)]
  rw [World.cell?_of_block (h.block _ (World.block_lt_of_cell? w _ h2) h1)]
  exact h2
theorem Kp.cell {P : Nat → Bool} {w w' : World} (h : Kp P w w') {p : Addr} {v : Value} (hp : P p.block = false) (hv : w.cell? p = some v) : w'.cell? p = some v :=
  (World.cell?_of_block (h.block _ (World.block_lt_of_cell? w _ hv) hp)).trans hv
theorem Kp.alloc {P : Nat → Bool} {a w : World} (h : Kp P a w) (o : Obj) : Kp P a (w.alloc o) :=
  h.trans ⟨rfl, rfl, rfl, by simp, fun k hk _ => Below.heap_alloc _ _ _ hk⟩
theorem Kp.drew {P : Nat → Bool} {a w : World} (h : Kp P a w) : Kp P a w.drew := ⟨h.os, h.tape, h.output, h.size, h.block⟩
theorem Kp.set {P : Nat → Bool} {a w : World} (h : Kp P a w) {p : Addr} (hp : P p.block = true) (u : Value) : Kp P a (w.setCell p u) :=
  h.trans ⟨rfl, rfl, rfl, by simp [World.setCell], fun k _ hk => Below.heap_setCell _ _ _ _ (by rintro rfl; rw [hp] at hk; cases hk)⟩
theorem Kp.grown {P : Nat → Bool} {a w w' : World} (h : Kp P a w) {row : Option Nat} (hg : w.grownBy w' row) (hr : ∀ k, row = some k → a.heap.size ≤ k ∨ P k = true) : Kp P a w' :=
  ⟨hg.os.trans h.os, hg.tape.trans h.tape, hg.output.trans h.output, Nat.le_trans h.size hg.size, fun k hk hp => (hg.block k (Nat.lt_of_lt_of_le hk h.size) (fun e => by
    rcases hr k e.symm with h1 | h1
    · omega
    · rw [h1] at hp; cases hp)).trans (h.block k hk hp)⟩
theorem Kp.then {P : Nat → Bool} {a w w' : World} (h : Kp P a w) {Q : Nat → Bool} (k : Kp Q w w') (hq : ∀ i, i < a.heap.size → Q i = true → P i = true) : Kp P a w' :=
  ⟨k.os.trans h.os, k.tape.trans h.tape, k.output.trans h.output, Nat.le_trans h.size k.size, fun i hi hp => (k.block i (Nat.lt_of_lt_of_le hi h.size) (by
    cases hh : Q i with
    | false => rfl
    | true => rw [hq i hi hh] at hp; cases hp)).trans (h.block i hi hp)⟩
theorem oneP_self (b : Nat) : oneP b b = true := decide_eq_true rfl
theorem oneP_ne {b k : Nat} (h : k ≠ b) : oneP b k = false := decide_eq_false h

/-- the cells of a block -/
def Cel (w : World) (b : Nat) (T : TypeId) (cs : List Value) : Prop := w.heap[b]? = some (.cells cs.toArray T (0, 0))
theorem Cel.lt {w : World} {b : Nat} {T : TypeId} {cs : List Value} (h : Cel w b T cs) : b < w.heap.size := (Array.getElem?_eq_some_iff.1 h).1
theorem Cel.cell {w : World} {b : Nat} {T : TypeId} {cs : List Value} (h : Cel w b T cs) (j : Nat) : w.cell? ⟨b, j, none⟩ = cs[j]? := by
  unfold Cel at h
  simp [World.cell?, h]
theorem Cel.frz {w : World} {b : Nat} {T : TypeId} {cs : List Value} (h : Cel w b T cs) (j : Nat) : w.frozen? ⟨b, j, none⟩ = false := by
  unfold Cel at h
  simp [World.frozen?, h]
theorem Cel.set {w : World} {b : Nat} {T : TypeId} {cs : List Value} (h : Cel w b T cs) (j : Nat) (v : Value) : Cel (w.setCell ⟨b, j, none⟩ v) b T (cs.set j v) := by
  unfold Cel at h ⊢
  simp [World.setCell, Array.getElem?_modify, h]
theorem Cel.kp {w w' : World} {b : Nat} {T : TypeId} {cs : List Value} (h : Cel w b T cs) {P : Nat → Bool} (k : Kp P w w') (hp : P b = false) : Cel w' b T cs := (k.block b h.lt hp).trans h
theorem Cel.below {w w' : World} {b : Nat} {T : TypeId} {cs : List Value} (h : Cel w b T cs) (k : Below w.heap.size w w') : Cel w' b T cs := (k.block b h.lt).trans h
theorem Cel.new (w : World) (cs : List Value) (T : TypeId) : Cel (w.alloc (.cells cs.toArray T)) w.heap.size T cs := by
  show (w.heap.push _)[w.heap.size]? = _
  simp
end Go.Proofs.YtmleeodfmmpdgaaGreatDoor
/- Plain: how the program and the reference read conditions. -/
namespace Go.Proofs.YtmleeodfmmpdgaaGreatDoor
def blankB (c : UInt8) : Bool := c == 32 || c == 9 || c == 10
def lowB (c : UInt8) : Bool := decide (97 ≤ c.toNat) && decide (c.toNat ≤ 122)
def digB (c : UInt8) : Bool := decide (48 ≤ c.toNat) && decide (c.toNat ≤ 57)
/-- the token at the beginning -/
def tokC : List UInt8 → List UInt8
  | [] => []
  | c :: r =>
    if lowB c then (c :: r).takeWhile lowB
    else if digB c then (c :: r).takeWhile digB
    else if c = 46 ∧ r.head? = some 46 then [46, 46]
    else if c = 33 ∧ r.head? = some 61 then [33, 61]
    else if c = 37 ∨ c = 61 ∨ c = 44 then [c]
    else []
/-- behind what is blank -/
def skipI (s : List UInt8) (i : Nat) : Nat := i + ((s.drop i).takeWhile blankB).length
/-- the token behind what is blank -/
def tokI (s : List UInt8) (i : Nat) : List UInt8 := tokC (s.drop (skipI s i))
theorem takeWhile_le {α : Type} (p : α → Bool) (l : List α) : (l.takeWhile p).length ≤ l.length := (List.takeWhile_prefix _).length_le
theorem skipI_le {s : List UInt8} {i : Nat} (h : i ≤ s.length) : skipI s i ≤ s.length := by
  have := takeWhile_le blankB (s.drop i)
  rw [List.length_drop] at this
  unfold skipI
  omega
theorem tokC_le : ∀ l : List UInt8, (tokC l).length ≤ l.length
  | [] => Nat.le_refl _
  | c :: r => by
    rw [tokC]
    by_cases h1 : lowB c = true
    · rw [if_pos h1]; exact takeWhile_le _ _
    · rw [if_neg h1]
      by_cases h2 : digB c = true
      · rw [if_pos h2]; exact takeWhile_le _ _
      · rw [if_neg h2]
        by_cases h3 : c = 46 ∧ r.head? = some 46
        · rw [if_pos h3]
          cases r with
          | nil => simp at h3
          | cons d r => simp
        · rw [if_neg h3]
          by_cases h4 : c = 33 ∧ r.head? = some 61
          · rw [if_pos h4]
            cases r with
            | nil => simp at h4
            | cons d r => simp
          · rw [if_neg h4]
            split <;> simp
theorem tokI_le {s : List UInt8} {i : Nat} (h : i ≤ s.length) : skipI s i + (tokI s i).length ≤ s.length := by
  have h1 := tokC_le (s.drop (skipI s i))
  have h2 := skipI_le h
  rw [List.length_drop] at h1
  unfold tokI
  omega
/-- the value of digits -/
def decC (l : List UInt8) : Nat := l.foldl (fun n c => 10 * n + (c.toNat - 48)) 0
/-- may a token be a number -/
def numC : List UInt8 → Bool
  | [] => false
  | c :: r => digB c && decide (r.length ≤ 2) && (r.isEmpty || !(c == 48))
/-- the program's parser: the place, the number of relations, the error -/
structure CP where
  pos : Nat
  rel : Nat
  err : Int
deriving DecidableEq
def CP.skip (s : List UInt8) (p : CP) : CP := { p with pos := skipI s p.pos }
def CP.fail (e : Int) (p : CP) : CP := if p.err = 0 then { p with err := e } else p
def CP.adv (n : Nat) (p : CP) : CP := { p with pos := p.pos + n }
def CP.take (s : List UInt8) (l : List ByteArray) (p : CP) : List UInt8 × CP :=
  let t := tokI s p.pos
  let q := if l.contains (bs t) then p.skip s else (p.skip s).fail 3
  if q.err = 0 then (t, q.adv t.length) else ([], q)
def CP.next (s t : List UInt8) (p : CP) : Bool × CP :=
  if p.err = 0 then (if tokI s p.pos = t then (true, (p.skip s).adv t.length) else (false, p.skip s)) else (false, p)
def CP.number (s : List UInt8) (chk : Int → Int) (p : CP) : Int × CP :=
  let t := tokI s p.pos
  let q := if numC t then p.skip s else (p.skip s).fail 3
  if q.err = 0 then (if chk (decC t) = 0 then ((decC t : Int), q.adv t.length) else (0, q.fail (chk (decC t)))) else (0, q)
theorem CP.fail_e {e : Int} (he : e ≠ 0) (p : CP) : (p.fail e).err ≠ 0 := by
  unfold CP.fail
  by_cases h : p.err = 0
  · rw [if_pos h]; exact he
  · rw [if_neg h]; exact h
theorem CP.take_ok {s : List UInt8} {l : List ByteArray} {p : CP} (h : l.contains (bs (tokI s p.pos)) = true) (he : p.err = 0) : p.take s l = (tokI s p.pos, (p.skip s).adv (tokI s p.pos).length) := by
  have e : (p.skip s).err = 0 := he
  unfold CP.take
  simp only [h, if_true, e]
theorem CP.take_no {s : List UInt8} {l : List ByteArray} {p : CP} (h : l.contains (bs (tokI s p.pos)) = false) : p.take s l = ([], (p.skip s).fail 3) := by
  have e : ¬ ((p.skip s).fail 3).err = 0 := CP.fail_e (by decide) _
  unfold CP.take
  simp only [h, Bool.false_eq_true, if_false, e]
theorem CP.take_err {s : List UInt8} {l : List ByteArray} {p : CP} (he : p.err ≠ 0) : p.take s l = ([], p.skip s) := by
  have e : ¬ (p.skip s).err = 0 := he
  have hf : (p.skip s).fail 3 = p.skip s := by unfold CP.fail; rw [if_neg e]
  unfold CP.take
  simp only [hf, ite_self, e, if_false]
theorem CP.next_err {s t : List UInt8} {p : CP} (he : p.err ≠ 0) : p.next s t = (false, p) := by unfold CP.next; rw [if_neg he]
theorem CP.next_yes {s t : List UInt8} {p : CP} (he : p.err = 0) (h : tokI s p.pos = t) : p.next s t = (true, (p.skip s).adv t.length) := by unfold CP.next; rw [if_pos he, if_pos h]
theorem CP.next_no {s t : List UInt8} {p : CP} (he : p.err = 0) (h : tokI s p.pos ≠ t) : p.next s t = (false, p.skip s) := by unfold CP.next; rw [if_pos he, if_neg h]
def chk1 (op : Int) (count : Nat) (n : Int) : Int := if greatV op < n then 2 else if 4 ≤ count then 6 else 0
def chk2 (op x n : Int) : Int := if greatV op < n ∨ n < x then 2 else 0
def chk3 (op n : Int) : Int := if permV op n then 0 else 2
def CP.span (s : List UInt8) (op : Int) (count : Nat) (p : CP) : (Int × Int) × CP :=
  let a := CP.number s (chk1 op count) p
  let m := CP.next s [46, 46] a.2
  if m.1 then (let b := CP.number s (chk2 op a.1) m.2; ((a.1, b.1), b.2)) else ((a.1, a.1), m.2)
end Go.Proofs.YtmleeodfmmpdgaaGreatDoor
/- Plain: how the program reads a table, token by token. -/
namespace Go.Proofs.YtmleeodfmmpdgaaGreatDoor
/-- the program's reader: the tokens that are left, the place and the number of the first error -/
structure RS where
  l : List Tz
  pos : Int
  e : Int
def RS.peek (E : Int) (r : RS) : Tz := r.l.headD (0, [], E)
def RS.failAt (p e : Int) (r : RS) : RS := if r.e = 0 then { r with pos := p, e := e } else r
def RS.fail (E e : Int) (r : RS) : RS := r.failAt (r.peek E).2.2 e
def RS.drop (r : RS) : RS := { r with l := r.l.tail }
def RS.take (E k : Int) (r : RS) : List UInt8 × RS :=
  let q := if (r.peek E).1 = k then r else r.fail E 3
  if q.e = 0 then ((r.peek E).2.1, q.drop) else ([], q)
theorem RS.fail_e (E : Int) {e : Int} (he : e ≠ 0) (r : RS) : (r.fail E e).e ≠ 0 := by
  unfold RS.fail RS.failAt
  by_cases h : r.e = 0
  · rw [if_pos h]; exact he
  · rw [if_neg h]; exact h
theorem RS.take_ok {E k : Int} {r : RS} (h : (r.peek E).1 = k) (he : r.e = 0) : r.take E k = ((r.peek E).2.1, r.drop) := by
  unfold RS.take
  simp only [if_pos h, if_pos he]
theorem RS.take_err {E k : Int} {r : RS} (h : (r.peek E).1 = k) (he : r.e ≠ 0) : r.take E k = ([], r) := by
  unfold RS.take
  simp only [if_pos h, if_neg he]
theorem RS.take_no {E k : Int} {r : RS} (h : (r.peek E).1 ≠ k) : r.take E k = ([], r.fail E 3) := by
  unfold RS.take
  simp only [if_neg h, if_neg (RS.fail_e E (e := 3) (by decide) r)]
def RS.is (E k : Int) (s : List UInt8) (r : RS) : Bool := decide (r.e = 0) && (decide ((r.peek E).1 = k) && decide ((r.peek E).2.1 = s))
def RS.mark (E : Int) (s : List UInt8) (r : RS) : RS := ((if r.is E 3 s then r else r.fail E 3).take E 3).2
def RS.word (E : Int) (r : RS) : List UInt8 × RS := r.take E 1
def RS.text (E : Int) (r : RS) : List UInt8 × RS := r.take E 2
/-- the texts that are read, behind some others -/
def RS.texts (E : Int) : Nat → List ByteArray → RS → List ByteArray × RS
  | 0, out, r => (out, r)
  | n + 1, out, r => RS.texts E n (out ++ [bs (r.text E).1]) (r.text E).2
def RS.texts0 (E : Int) (n : Nat) (r : RS) : List ByteArray × RS := RS.texts E n [] r
def RS.one (E : Int) (l : List ByteArray) (r : RS) : List UInt8 × RS :=
  (if decide ((r.peek E).1 = 1) && !l.contains (bs (r.peek E).2.1) then r.fail E 10 else r).word E
def RS.once (at_ : Int) (b : Bool) (r : RS) : RS := if b then r.failAt at_ 9 else r
end Go.Proofs.YtmleeodfmmpdgaaGreatDoor
/- Walks: the program's reader of tables: the next token, the first error. -/
namespace Go.Proofs.YtmleeodfmmpdgaaGreatDoor
open Go.RowKit
attribute [local go_sem] Ext.cell Ext.frozen
attribute [local go_sem ↓] Go.wp_at_zero Go.wp_at_succ
def tokV (t : Tz) : Value := .agg #[.int .i64 t.1, .string (bs t.2.1), .int .i64 t.2.2]
/-- the reader in memory, at block b -/
def Rd (w : World) (b : Nat) (E : Int) (r : RS) : Prop :=
  ∃ ad c tb off, Cel w b 67 [.slice ad r.l.length c, .int .i64 E, .int .i64 r.pos, .int .i64 r.e] ∧ TzAt w ad r.l.length r.l tb off ∧ (r.l ≠ [] → tb < b) ∧ r.l.length ≤ c ∧ c ≤ 9223372036854775807 ∧ ∀ t ∈ r.l, t.2.1.length ≤ 200000
theorem TzAt.same {w w' : World} {ad : Option Addr} {n : Nat} {xs : List Tz} {b off : Nat} (h : TzAt w ad n xs b off) (hs : n ≠ 0 → w'.heap[b]? = w.heap[b]?) : TzAt w' ad n xs b off :=
  ⟨h.len, h.max, h.adr, fun i hi => (World.cell?_of_block (hs (by omega))).trans (h.c0 i hi), fun i hi => (World.cell?_of_block (hs (by omega))).trans (h.c1 i hi), fun i hi => (World.cell?_of_block (hs (by omega))).trans (h.c2 i hi)⟩
theorem Rd.lt {w : World} {b : Nat} {E : Int} {r : RS} (h : Rd w b E r) : b < w.heap.size := by
  obtain ⟨_, _, _, _, h1, _⟩ := h
  exact h1.lt
theorem Rd.kp {w w' : World} {b : Nat} {E : Int} {r : RS} (h : Rd w b E r) {P : Nat → Bool} (k : Kp P w w') (hp : ∀ i, i ≤ b → P i = false) : Rd w' b E r := by
  obtain ⟨ad, c, tb, off, h1, h2, h3, h4, h5, h6⟩ := h
  refine ⟨ad, c, tb, off, h1.kp k (hp b (Nat.le_refl _)), h2.same fun hn => k.block tb ?_ (hp tb ?_), h3, h4, h5, h6⟩
  · have := h3 (fun e => hn (by rw [e]; rfl))
    have := h1.lt
    omega
  · have := h3 (fun e => hn (by rw [e]; rfl))
    omega
theorem Rd.below {w w' : World} {b : Nat} {E : Int} {r : RS} (h : Rd w b E r) (k : Below w.heap.size w w') : Rd w' b E r := h.kp (P := fun _ => false) (kp_below k) (fun _ _ => rfl)
theorem cTok : Tryz.prog.cellsOf 109 = 3 := by kernel_rfl
/-- the first of some tokens -/
theorem TzAt.first {w : World} {ad : Option Addr} {t : Tz} {l : List Tz} {b off : Nat} (h : TzAt w ad (l.length + 1) (t :: l) b off) (c : Nat) :
    ad = some ⟨b, off, none⟩ ∧ (∀ W, (Instr.indexAt 62 (.slice (some ⟨b, off, none⟩) (l.length + 1) c) (.int .i64 0)).run Tryz.prog W = .ok (.pointer (some ⟨b, off, none⟩)) W) ∧ w.cell? ⟨b, off, none⟩ = some (.int .i64 t.1) ∧ w.cell? ⟨b, off + 1, none⟩ = some (.string (bs t.2.1)) ∧ w.cell? ⟨b, off + 2, none⟩ = some (.int .i64 t.2.2) := by
  have h2 := h.adr (by omega)
  subst h2
  have k0 := h.c0 0 (by omega)
  have k1 := h.c1 0 (by omega)
  have k2 := h.c2 0 (by omega)
  rw [Nat.zero_mul, Nat.add_zero] at k0 k1 k2
  exact ⟨rfl, fun W => by simpa using h.ixT 62 109 Tryz.underlying62 cTok (i := 0) (by omega) c W, k0, k1, k2⟩
set_option maxRecDepth 20000 in
set_option maxHeartbeats 1000000 in
theorem peek_any (b : Nat) (E : Int) (r : RS) (w : World) (h : Rd w b E r) : Calls Tryz.prog 55 #[.pointer (some ⟨b, 0, none⟩)] w fun e w' => e = .returned (tokV (r.peek E)) ∧ Below w.heap.size w w' := by
  obtain ⟨ad, c, tb, off, hc, ht, _, _, _, _⟩ := h
  have hb := hc.lt
  have c0 := hc.cell 0
  have c1 := hc.cell 1
  obtain ⟨l, p, e⟩ := r
  simp only [List.getElem?_cons_zero, List.getElem?_cons_succ] at c0 c1
  cases l with
  | nil =>
    clear hc ht
    go_enter Tryz.func55, Tryz.ntmps55
    go_wp2_with fail
    refine bodyPost_ret (results_cell_row rfl _ _ w.heap.size 109 _ (0, 0) _ rfl (heap_alloc_new w _) Tryz.underlying109 rfl (by kernel_rfl)) rfl ?_
    exact ⟨rfl, Bel.alloc (Bel.refl w) _⟩
  | cons t l =>
    obtain ⟨rfl, hix, k0, k1, k2⟩ := ht.first c
    have hlt : tb < w.heap.size := World.block_lt_of_cell? _ _ k0
    have hlz : ¬ ((l.length : Int) + 1) = 0 := by omega
    rw [List.length_cons] at c0
    clear hc ht
    show Calls _ _ _ _ fun e w' => e = .returned (tokV t) ∧ _
    unfold tokV
    obtain ⟨k, s, f⟩ := t
    simp only at k0 k1 k2 ⊢
    generalize bs s = S at *
    go_enter Tryz.func55, Tryz.ntmps55
    go_wp2_with fail
    refine bodyPost_ret (results_cell_row rfl _ _ w.heap.size 109 _ (0, 0) _ rfl (heap_alloc_new w _) Tryz.underlying109 rfl (by kernel_rfl)) rfl ?_
    exact ⟨rfl, Bel.alloc (Bel.refl w) _⟩
/-- the cells of the reader -/
theorem Rd.cells {w : World} {b : Nat} {E : Int} {r : RS} (h : Rd w b E r) : w.cell? ⟨b, 2, none⟩ = some (.int .i64 r.pos) ∧ w.cell? ⟨b, 3, none⟩ = some (.int .i64 r.e) ∧ w.frozen? ⟨b, 2, none⟩ = false ∧ w.frozen? ⟨b, 3, none⟩ = false ∧ w.frozen? ⟨b, 0, none⟩ = false := by
  obtain ⟨_, _, _, _, h1, _⟩ := h
  exact ⟨h1.cell 2, h1.cell 3, h1.frz 2, h1.frz 3, h1.frz 0⟩
theorem Rd.err {w : World} {b : Nat} {E : Int} {r : RS} (h : Rd w b E r) (p e : Int) : Rd ((w.setCell ⟨b, 2, none⟩ (.int .i64 p)).setCell ⟨b, 3, none⟩ (.int .i64 e)) b E { r with pos := p, e := e } := by
  obtain ⟨ad, c, tb, off, h1, h2, h3, h4, h5, h6⟩ := h
  refine ⟨ad, c, tb, off, (h1.set 2 _).set 3 _, h2.same fun hn => ?_, h3, h4, h5, h6⟩
  have := h3 (fun e => hn (by rw [e]; rfl))
  rw [Below.heap_setCell _ _ _ _ (by show tb ≠ b; omega), Below.heap_setCell _ _ _ _ (by show tb ≠ b; omega)]
/-- what a method of the reader leaves -/
def RdP (b : Nat) (E : Int) (v : Value) (r : RS) (w : World) (e : Ending) (w' : World) : Prop := e = .returned v ∧ Rd w' b E r ∧ Kp (oneP b) w w'
set_option maxRecDepth 20000 in
set_option maxHeartbeats 1000000 in
theorem failAt_any (b : Nat) (E : Int) (r : RS) (p e : Int) (w : World) (h : Rd w b E r) : Calls Tryz.prog 59 #[.pointer (some ⟨b, 0, none⟩), .int .i64 p, .int .i64 e] w (RdP b E (.tuple #[]) (r.failAt p e) w) := by
  obtain ⟨c2, c3, f2, f3, _⟩ := h.cells
  have hb := h.lt
  have HR := Lib.hid h
  unfold RdP RS.failAt
  by_cases he : r.e = 0
  · rw [if_pos he]
    have hz : (r.e == 0) = true := by simpa using he
    have HE := Lib.hid (h.err p e)
    have HK : Hid (Kp (oneP b) w ((w.setCell ⟨b, 2, none⟩ (.int .i64 p)).setCell ⟨b, 3, none⟩ (.int .i64 e))) := ((Kp.refl _ w).set (p := ⟨b, 2, none⟩) (oneP_self b) _).set (p := ⟨b, 3, none⟩) (oneP_self b) _
    rw [he] at c3
    clear h he hz
    go_enter Tryz.func59, Tryz.ntmps59
    go_wp2_with fail
    go_end0
    exact ⟨rfl, HE.out, HK.out⟩
  · rw [if_neg he]
    have hz : (r.e == 0) = false := by simpa using he
    clear h
    go_enter Tryz.func59, Tryz.ntmps59
    go_wp2_with fail
    go_end0
    exact ⟨rfl, HR.out, Kp.refl _ _⟩
set_option maxRecDepth 20000 in
set_option maxHeartbeats 1000000 in
theorem fail_any (b : Nat) (E : Int) (r : RS) (e : Int) (w : World) (h : Rd w b E r) : Calls Tryz.prog 62 #[.pointer (some ⟨b, 0, none⟩), .int .i64 e] w (RdP b E (.tuple #[]) (r.fail E e) w) := by
  have HP := Lib.hid (peek_any b E r w h)
  have HF := Lib.hid (fun W (g : Rd W b E r) => failAt_any b E r (r.peek E).2.2 e W g)
  have HR := Lib.hid h
  unfold RdP at HF ⊢
  unfold RS.fail
  clear h
  unfold tokV at HP
  generalize r.peek E = t at *
  obtain ⟨k, s, f⟩ := t
  simp only at HP HF ⊢
  generalize bs s = S at *
  have hfd : ∀ W : World, (Instr.field 109 (.agg #[.int .i64 k, .string S, .int .i64 f]) 2).run Tryz.prog W = .ok (.int .i64 f) W := fun _ => by kernel_rfl
  go_enter Tryz.func62, Tryz.ntmps62
  go_wp2_with fail
  refine HP.out.mono ?_
  rintro _ w1 ⟨rfl, hb⟩
  have HB := Lib.hid hb
  clear hb
  go_wp2_with fail
  refine (HF.out _ (HR.out.below HB.out)).mono ?_
  rintro _ w2 ⟨rfl, hr, hk⟩
  have HR2 := Lib.hid hr
  have HK2 := Lib.hid ((kp_below HB.out).trans hk)
  clear hr hk
  go_wp2_with fail
  go_end0
  exact ⟨rfl, HR2.out, HK2.out⟩
/-- one token taken -/
theorem Rd.dropped {w : World} {b : Nat} {E : Int} {r : RS} (h : Rd w b E r) (hne : r.l ≠ []) : ∃ tb off l c, w.cell? ⟨b, 0, none⟩ = some (.slice (some ⟨tb, off, none⟩) (l + 1) c) ∧ l + 1 ≤ c ∧ c ≤ 9223372036854775807 ∧
    ∀ o c', (l ≠ 0 → o = off + 3) → l ≤ c' → c' ≤ 9223372036854775807 → Rd (w.setCell ⟨b, 0, none⟩ (.slice (some ⟨tb, o, none⟩) l c')) b E r.drop := by
  obtain ⟨ad, c, tb, off, h1, h2, h3, h4, h5, h6⟩ := h
  obtain ⟨l, p, e⟩ := r
  cases l with
  | nil => exact absurd rfl hne
  | cons t l =>
    have c0 := h1.cell 0
    obtain rfl := h2.adr (by simp)
    refine ⟨tb, off, l.length, c, c0, h4, h5, fun o c' ho hc1 hc2 => ?_⟩
    have hset := h1.set 0 (.slice (some ⟨tb, o, none⟩) l.length c')
    have htb := h3 (by simp)
    have hl := h2.max
    rw [List.length_cons] at hl h4
    show Rd _ b E ⟨l, p, e⟩
    have hkeep := fun i => World.cell?_of_block (a := ⟨tb, i, none⟩) (Below.heap_setCell w ⟨b, 0, none⟩ (.slice (some ⟨tb, o, none⟩) l.length c') tb (by show tb ≠ b; omega))
    have key : ∀ i j, off + (i + 1) * 3 + j = off + 3 + i * 3 + j := fun i j => by omega
    refine ⟨_, c', tb, o, hset, ⟨rfl, by show l.length ≤ _; omega, fun _ => rfl, fun i hi => ?_, fun i hi => ?_, fun i hi => ?_⟩, fun _ => htb, hc1, hc2, fun x hx => h6 x (List.mem_cons_of_mem _ hx)⟩
    · have := h2.c0 (i + 1) (Nat.succ_lt_succ hi)
      rw [show off + (i + 1) * 3 = off + 3 + i * 3 by omega] at this
      have hi' : i < l.length := hi
      obtain rfl : o = off + 3 := ho (by omega)
      exact (hkeep _).trans this
    · have := h2.c1 (i + 1) (Nat.succ_lt_succ hi)
      rw [key] at this
      have hi' : i < l.length := hi
      obtain rfl : o = off + 3 := ho (by omega)
      exact (hkeep _).trans this
    · have := h2.c2 (i + 1) (Nat.succ_lt_succ hi)
      rw [key] at this
      have hi' : i < l.length := hi
      obtain rfl : o = off + 3 := ho (by omega)
      exact (hkeep _).trans this
set_option maxRecDepth 20000 in
set_option maxHeartbeats 2000000 in
theorem take_any (b : Nat) (E k : Int) (hk : k ≠ 0) (r : RS) (w : World) (h : Rd w b E r) : Calls Tryz.prog 118 #[.pointer (some ⟨b, 0, none⟩), .int .i64 k] w (RdP b E (.string (bs (r.take E k).1)) (r.take E k).2 w) := by
  have HP := Lib.hid (peek_any b E r w h)
  have HF := Lib.hid (fun W (g : Rd W b E r) => fail_any b E r 3 W g)
  have HR := Lib.hid h
  have HNE : Hid ((r.peek E).1 = k → r.l ≠ []) := fun e hn => by
    unfold RS.peek at e
    rw [hn] at e
    exact hk e.symm
  have HOK := Lib.hid (@RS.take_ok E k r)
  have HER := Lib.hid (@RS.take_err E k r)
  have HNO := Lib.hid (@RS.take_no E k r)
  unfold RdP at HF ⊢
  clear h
  unfold tokV at HP
  generalize r.take E k = res at *
  generalize r.peek E = t at *
  obtain ⟨k', s, f⟩ := t
  simp only at HP HNE HOK HER HNO
  obtain ⟨rv, rr⟩ := res
  simp only
  go_enter Tryz.func118, Tryz.ntmps118
  go_wp2_with fail
  refine HP.out.mono ?_
  rintro _ w1 ⟨rfl, hb⟩
  have HB := Lib.hid hb
  have HR1 := Lib.hid (HR.out.below hb)
  clear hb HR HP
  go_upto_region 2 with (fail)
  have HK2 : Hid (Kp (oneP b) w (w1.alloc (.cells #[.int .i64 k', .string (bs s), .int .i64 f] 109))) := kp_below (HB.out.alloc HB.out.size _)
  have HR2 := Lib.hid (HR1.out.below (Bel.alloc (Bel.refl w1) (.cells #[.int .i64 k', .string (bs s), .int .i64 f] 109)))
  have HX : Hid (Cel (w1.alloc (.cells #[.int .i64 k', .string (bs s), .int .i64 f] 109)) w1.heap.size 109 [.int .i64 k', .string (bs s), .int .i64 f]) := Cel.new w1 _ _
  have hbB : b < w1.heap.size := HR1.out.lt
  generalize w1.alloc (.cells #[.int .i64 k', .string (bs s), .int .i64 f] 109) = w2 at *
  obtain ⟨B, hB⟩ : ∃ B, w1.heap.size = B := ⟨_, rfl⟩
  rw [hB] at HX hbB ⊢
  clear hB HB HR1
  have x0 := HX.out.cell 0
  simp only [List.getElem?_cons_zero] at x0
  by_cases hkk : k' = k
  · subst hkk
    have hne := HNE.out rfl
    obtain ⟨c2, c3, f2, f3, f0⟩ := HR2.out.cells
    obtain ⟨tb, off, l, c, c0, hlc, hc9, hdr⟩ := HR2.out.dropped hne
    have x1 := HX.out.cell 1
    simp only [List.getElem?_cons_zero, List.getElem?_cons_succ] at x1
    by_cases he : r.e = 0
    · have h1 := HOK.out rfl he
      injection h1 with h1 h2
      have H1 : Hid (bs s = bs rv) := by rw [Hid, h1]
      have H2 := Lib.hid h2
      have hz : (r.e == 0) = true := by simpa using he
      rw [he] at c3
      have HDR := Lib.hid hdr
      clear hdr hne HNE HF h1 h2 HOK HER HNO he hz
      generalize bs s = S at *
      by_cases hc1 : c = 1
      · obtain rfl : l = 0 := by omega
        subst hc1
        go_wp2_with fail
        all_goals
          go_ret
          exact ⟨by rw [← H1.out]; rfl, by rw [H2.out]; exact HDR.out _ _ (by omega) (by omega) (by omega), HK2.out.set (p := ⟨b, 0, none⟩) (oneP_self b) _⟩
      · go_wp2_with fail
        all_goals
          go_ret
          exact ⟨by rw [← H1.out]; rfl, by rw [H2.out]; exact HDR.out _ _ (by omega) (by omega) (by omega), HK2.out.set (p := ⟨b, 0, none⟩) (oneP_self b) _⟩
    · have h1 := HER.out rfl he
      injection h1 with h1 h2
      have H1 : Hid (bs rv = .empty) := by rw [Hid, h1]; rfl
      have H2 := Lib.hid h2
      have hz : (r.e == 0) = false := by simpa using he
      clear hdr hne HNE HF h1 h2 HOK HER HNO
      generalize bs s = S at *
      go_wp2_with fail
      go_ret
      exact ⟨by rw [H1.out]; rfl, by rw [H2.out]; exact HR2.out, HK2.out⟩
  · have h1 := HNO.out hkk
    injection h1 with h1 h2
    have H1 : Hid (bs rv = .empty) := by rw [Hid, h1]; rfl
    have H2 := Lib.hid h2
    have hz : (k' == k) = false := by simpa using hkk
    have hne3 : Hid (rr.e ≠ 0) := by rw [Hid, h2]; exact RS.fail_e E (by decide) r
    rw [← h2] at HF
    clear HNE h1 h2 HOK HER HNO
    generalize bs s = S at *
    go_wp2_with fail
    refine (HF.out _ HR2.out).mono ?_
    rintro _ w3 ⟨rfl, hr3, hk3⟩
    have HR3 := Lib.hid hr3
    have HK3 := Lib.hid (HK2.out.trans hk3)
    obtain ⟨c2, c3, f2, f3, f0⟩ := HR3.out.cells
    have hne4 : (rr.e == 0) = false := by simpa using hne3.out
    clear hr3 hk3
    go_wp2_with fail
    go_ret
    exact ⟨by rw [H1.out]; rfl, HR3.out, HK3.out⟩
end Go.Proofs.YtmleeodfmmpdgaaGreatDoor
/- Plain: what the loops over rules, conditions and keys compute. -/
namespace Go.Proofs.YtmleeodfmmpdgaaGreatDoor
open Go.RowKit

end Go.Proofs.YtmleeodfmmpdgaaGreatDoor
/- Walks over a relation: which moduli are permitted, how great a span may be. -/
namespace Go.Proofs.YtmleeodfmmpdgaaGreatDoor
open Go.RowKit
attribute [local go_sem] Ext.cell Ext.frozen
attribute [local go_sem ↓] Go.wp_at_zero Go.wp_at_succ

theorem great_any (op : Int) (w : World) : Calls Tryz.prog 253 #[.int .i64 op] w fun e w' => e = .returned (.int .i64 (greatV op)) ∧ w = w' := by
  by_cases h3 : op = 3
  · subst h3
    go_enter Tryz.func253, Tryz.ntmps253
    go_wp2_with fail
    go_ret
    exact ⟨rfl, rfl⟩
  · by_cases h4 : op = 4
    · subst h4
      go_enter Tryz.func253, Tryz.ntmps253
      go_wp2_with fail
      go_ret
      exact ⟨rfl, rfl⟩
    · have HO : Hid (greatV op = 100) := by unfold Hid greatV; rw [if_neg (by omega)]
      have e3 : (op == 3) = false := by simpa using h3
      have e4 : (op == 4) = false := by simpa using h4
      clear h3 h4
      go_enter Tryz.func253, Tryz.ntmps253
      go_wp2_with fail
      go_ret
      exact ⟨ret_int HO.out.symm, rfl⟩
def modsL : List Int := [2, 3, 4, 5, 6, 10, 20, 25, 50, 100]
/-- a block of integers of the call's own, as a slice -/
theorem sl_made (w : World) (l : List Value) (e : TypeId) (hl : l.length ≤ 9223372036854775807) : Sl (w.alloc (.cells l.toArray e)) (some ⟨w.heap.size, 0, none⟩) l.length l :=
  ⟨w.heap.size, 0, rfl, hl, fun _ => rfl, fun i hi => by simp [go_sem, List.getD, List.getElem?_eq_getElem hi]⟩
theorem perm_any (op md : Int) (w : World) : Calls Tryz.prog 252 #[.int .i64 op, .int .i64 md] w fun e w' => e = .returned (.bool (permV op md)) ∧ Below w.heap.size w w' := by
  by_cases h12 : op = 1 ∨ op = 2
  · have HO : Hid (permV op md = modsL.contains md) := by unfold Hid permV; rw [if_pos h12]; rfl
    have HC : Hid (∀ e, Calls Tryz.prog 294 #[.slice (some ⟨w.heap.size, 0, none⟩) 10 10, .int .i64 md] (w.alloc (.cells #[.int .i64 2, .int .i64 3, .int .i64 4, .int .i64 5, .int .i64 6, .int .i64 10, .int .i64 20, .int .i64 25, .int .i64 50, .int .i64 100] e)) fun e' w' => e' = .returned (.bool (modsL.contains md)) ∧ w.alloc (.cells #[.int .i64 2, .int .i64 3, .int .i64 4, .int .i64 5, .int .i64 6, .int .i64 10, .int .i64 20, .int .i64 25, .int .i64 50, .int .i64 100] e) = w') := fun e => contains_int _ 10 10 modsL md _ (sl_made w (ints modsL) e (by decide))
    generalize modsL.contains md = q at *
    rcases h12 with h | h
    all_goals
      subst h
      go_enter Tryz.func252, Tryz.ntmps252
      go_wp2_with (go_at_call 294; refine (HC.out _).mono ?_; rintro e _ ⟨rfl, rfl⟩)
      go_ret
      exact ⟨by rw [HO.out]; rfl, (Below.refl _ _).alloc (Nat.le_refl _) _⟩
  · by_cases h56 : op = 5 ∨ op = 6
    · have HO : Hid (permV op md = (md == 10 || md == 100)) := by
        unfold Hid permV
        rw [if_neg h12, if_pos h56]
        rw [Bool.eq_iff_iff]
        simp
      cases h10 : (md == 10)
      all_goals
        cases h100 : (md == 100)
        all_goals
          rw [Hid, h10, h100] at HO
          have HO := Lib.hid HO
          rcases h56 with h | h
          all_goals
            subst h
            go_enter Tryz.func252, Tryz.ntmps252
            go_wp2_with fail
            go_ret
            exact ⟨by rw [HO.out]; rfl, Below.refl _ _⟩
    · have HO : Hid (permV op md = false) := by unfold Hid permV; rw [if_neg h12, if_neg h56]
      have e1 : (op == 1) = false := by simpa using fun h => h12 (.inl h)
      have e2 : (op == 2) = false := by simpa using fun h => h12 (.inr h)
      have e5 : (op == 5) = false := by simpa using fun h => h56 (.inl h)
      have e6 : (op == 6) = false := by simpa using fun h => h56 (.inr h)
      clear h12 h56
      go_enter Tryz.func252, Tryz.ntmps252
      go_wp2_with fail
      go_ret
      exact ⟨by rw [HO.out]; rfl, Below.refl _ _⟩
end Go.Proofs.YtmleeodfmmpdgaaGreatDoor
