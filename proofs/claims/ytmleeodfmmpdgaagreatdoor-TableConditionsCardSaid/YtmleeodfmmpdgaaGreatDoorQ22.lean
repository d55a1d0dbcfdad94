/- Walks: the size of a table, by the reference. -/
import Derived.Test.YtmleeodfmmpdgaaGreatDoorQ12
import Derived.Test.YtmleeodfmmpdgaaGreatDoorQ19
import Derived.Deep.RegionHeld
import Derived.Deep.DrawnRows
import Derived.Deep.CutBlock
import Derived.Deep.DeepCutAuto
import Derived.LoopN
import Derived.Test.YtmleeodfmmpdgaaGreatDoorQ13
import Derived.Test.YtmleeodfmmpdgaaGreatDoorQ11
import Derived.Test.YtmleeodfmmpdgaaGreatDoorQ01
import Derived.Lib.ItoaLen
import Derived.Lib.Join
import Derived.Test.YtmleeodfmmpdgaaGreatDoorQ17
namespace Go.Proofs.YtmleeodfmmpdgaaGreatDoor
open Go.RowKit
attribute [local go_sem] Ext.cell Ext.frozen
attribute [local go_sem ↓] Go.wp_at_zero Go.wp_at_succ
theorem lit_rows (W0 : World) (l : List ByteArray) (cs : Array Value) (T : TypeId) (hcs : cs = (l.map Value.string).toArray) (h0 : l.length ≤ 1000) (hz : ∀ s ∈ l, s.size ≤ 140737488351232) (b : Nat) (hb : W0.heap.size = b) :
    RowsOf 1 OneS (W0.alloc (.cells cs T)) (.slice (some ⟨b, 0, none⟩) l.length l.length) l := by
  subst hb hcs
  refine ⟨some ⟨W0.heap.size, 0, none⟩, l.length, fun i _ => .string (l.getD i .empty), W0.heap.size, 0, rfl, ⟨by omega, fun _ => rfl, fun i j hi hj => ?_⟩, fun h => (by cases h), Nat.le_refl _, by omega, fun i s hs => ?_⟩
  · obtain rfl : j = 0 := by omega
    have hh : (W0.alloc (.cells (l.map Value.string).toArray T)).heap[W0.heap.size]? = some (.cells (l.map Value.string).toArray T (0, 0)) := by show (W0.heap.push _)[W0.heap.size]? = some _; simp
    simp only [World.cell?, hh, Nat.zero_add, Nat.mul_one, Nat.add_zero]
    simp [List.getD, List.getElem?_eq_getElem hi]
  · obtain ⟨hi, rfl⟩ := List.getElem?_eq_some_iff.1 hs
    refine ⟨?_, hz _ (List.getElem_mem hi)⟩
    show Value.string (l.getD i .empty) = _
    rw [List.getD, List.getElem?_eq_getElem hi]
    rfl
end Go.Proofs.YtmleeodfmmpdgaaGreatDoor
namespace Go.Proofs.YtmleeodfmmpdgaaGreatDoor
def wokB (s : ByteArray) : Bool := isWordV s.data.toList
def xokB (s : ByteArray) : Bool := isTextV s.data.toList
def okWs (l : List ByteArray) : Bool := l.all wokB
def okXs (l : List ByteArray) : Bool := l.all xokB
def classU : List ByteArray := classL ++ [otherB]
def okRule (r : ByteArray × List (List Rel)) : Bool := classL.contains r.1 && validC r.2
def okLp (x : Lp) : Bool := okWs [x.style] && okXs [x.two, x.start, x.mid, x.fin]
def okUp (x : Up) : Bool := okWs [x.unit] && (classU.contains x.cls && okXs [x.pat])
def okDp (x : Dp) : Bool := okWs [x.skel] && okXs [x.pat]
def okAl (x : Al) : Bool := okWs [x.fro, x.dst]
def okNe (x : Ne) : Bool := okWs [x.fro, x.dst] && (decide (0 ≤ x.cost) && decide (x.cost ≤ 1000))
def uniqV {α β : Type} [DecidableEq β] (key : α → β) (l : List α) : Bool := decide ((l.map key).Nodup)
def okRules (l : List (ByteArray × List (List Rel))) : Bool := uniqV (fun r : ByteArray × List (List Rel) => r.1) l && l.all okRule
def symZ (y : Lc) : Bool := decide (y.dec = .empty ∧ y.grp = .empty ∧ y.mi = .empty ∧ y.pct = .empty ∧ y.pri = 0 ∧ y.sec = 0)
def okSym (y : Lc) : Bool := symZ y || (decide (y.dec ≠ .empty) && (okXs [y.dec, y.grp, y.mi, y.pct] && (decide (0 ≤ y.pri) && (decide (y.pri ≤ 9) && (decide (0 ≤ y.sec) && decide (y.sec ≤ 9))))))
def okPat (y : Lc) : Bool :=
  decide (y.lists.length ≤ 10) && (decide (y.units.length ≤ 100) && (decide (y.dates.length ≤ 30) && (uniqV Lp.style y.lists && (uniqV (fun u : Up => (u.unit, u.cls)) y.units && (uniqV Dp.skel y.dates &&
    (y.lists.all okLp && (y.units.all okUp && y.dates.all okDp)))))))
def dirU : List ByteArray := [.empty, bs [108, 116, 114], bs [114, 116, 108]]
def okHead (y : Lc) : Bool := okWs [y.tag] && ((decide (y.par = .empty) || okWs [y.par]) && dirU.contains y.dir)
def okNames (y : Lc) : Bool := (decide (y.months.length = 0) || decide (y.months.length = 12)) && ((decide (y.days.length = 0) || decide (y.days.length = 7)) && (okXs y.months && okXs y.days))
def okLoc (y : Lc) : Bool := okHead y && (okNames y && (okRules y.card && (okRules y.ord && (okSym y && okPat y))))
def okTab (t : Tb) : Bool := decide (t.locs.length ≤ 60) && (decide (t.als.length ≤ 200) && (decide (t.near.length ≤ 200) && (t.locs.all okLoc && (t.als.all okAl && t.near.all okNe))))
def letT (op : Int) : List UInt8 := [([32, 110, 105, 118, 119, 102, 116] : List UInt8).getD op.toNat 0]
def spanT (x : Int × Int) : List UInt8 := if x.1 = x.2 then Lib.itoa x.1 else Lib.itoa x.1 ++ [46, 46] ++ Lib.itoa x.2
def relT (r : Rel) : List UInt8 :=
  letT r.op ++ (if r.md ≠ 0 then [32, 37, 32] ++ Lib.itoa r.md else []) ++ (if r.neg then [32, 33, 61, 32] else [32, 61, 32]) ++ Lib.join (r.sp.map spanT) [44]
def andT (l : List Rel) : List UInt8 := Lib.join (l.map relT) [32, 97, 110, 100, 32]
def condT (c : List (List Rel)) : List UInt8 := Lib.join (c.map andT) [32, 111, 114, 32]
def qT (s : ByteArray) : List UInt8 := 34 :: (escS s.data.toList ++ [34])
def lineT (ind : List UInt8) (l : List (List UInt8)) : List UInt8 := ind ++ Lib.join l [32] ++ [59, 10]
def itemT (l : List (List UInt8)) (more : List ByteArray) : List UInt8 := lineT [9] (l ++ more.map qT)
def rulesT (kw : List UInt8) (l : List (ByteArray × List (List Rel))) : List UInt8 := l.flatMap fun r => lineT [9] [kw, r.1.data.toList, qT (bs (condT r.2))]
def lpT (x : Lp) : List UInt8 := itemT [[108, 105, 115, 116], x.style.data.toList] [x.two, x.start, x.mid, x.fin]
def upT (x : Up) : List UInt8 := itemT [[117, 110, 105, 116], x.unit.data.toList, x.cls.data.toList] [x.pat]
def dpT (x : Dp) : List UInt8 := itemT [[100, 97, 116, 101], x.skel.data.toList] [x.pat]
def symT (y : Lc) : List UInt8 := lineT [9] ([[115, 121, 109, 98, 111, 108, 115]] ++ [y.dec, y.grp, y.mi, y.pct].map qT ++ [Lib.itoa y.pri, Lib.itoa y.sec])
def headT (y : Lc) : List UInt8 := [108, 111, 99, 97, 108, 101, 32] ++ y.tag.data.toList ++ (if y.par = .empty then [] else [32, 112, 97, 114, 101, 110, 116, 32] ++ y.par.data.toList) ++ [32, 123, 10]
def dirT (y : Lc) : List UInt8 := if y.dir = .empty then [] else lineT [9] [[100, 105, 114, 101, 99, 116, 105, 111, 110], y.dir.data.toList]
def bodyT (y : Lc) : List UInt8 :=
  dirT y ++ rulesT [99, 97, 114, 100, 105, 110, 97, 108] y.card ++ rulesT [111, 114, 100, 105, 110, 97, 108] y.ord ++ (if symZ y then [] else symT y) ++
    y.lists.flatMap lpT ++ y.units.flatMap upT ++ y.dates.flatMap dpT ++ (if y.months = [] then [] else itemT [[109, 111, 110, 116, 104, 115]] y.months) ++ (if y.days = [] then [] else itemT [[100, 97, 121, 115]] y.days)
def locT (y : Lc) : List UInt8 := headT y ++ bodyT y ++ [125, 10]
def alT (x : Al) : List UInt8 := lineT [] [[97, 108, 105, 97, 115], x.fro.data.toList, x.dst.data.toList]
def neT (x : Ne) : List UInt8 := lineT [] [[110, 101, 97, 114], x.fro.data.toList, x.dst.data.toList, Lib.itoa x.cost]
def tabT (t : Tb) : List UInt8 := t.locs.flatMap locT ++ t.als.flatMap alT ++ t.near.flatMap neT
end Go.Proofs.YtmleeodfmmpdgaaGreatDoor
namespace Go.Proofs.YtmleeodfmmpdgaaGreatDoor
open Go.RowKit
attribute [local go_sem] Ext.cell Ext.frozen
attribute [local go_sem ↓] Go.wp_at_zero Go.wp_at_succ
theorem infoSBP : ∃ j, Tryz.prog.info? 82 = some j ∧ j.size ≠ 0 := by
  obtain ⟨j, hj, hjs⟩ := Option.map_eq_some_iff.1 (show (Tryz.prog.info? 82).map (·.size) = some 2 by kernel_rfl)
  exact ⟨j, hj, by rw [hjs]; decide⟩
theorem infoU8P : (Tryz.prog.info? 5).map (fun i => (i.zero, i.size, i.bytes)) = some (some (.int .u8 0), 1, 1) := by kernel_rfl
theorem cellsU8P : Tryz.prog.cellsOf 5 = 1 := by kernel_rfl
theorem liesPr : liesAt Tryz.prog Tryz.prog.depth 84 (2 / Tryz.prog.cellsOf 84) 0 82 1 = true := by kernel_rfl
def Oth (b : Nat) (w w' : World) : Prop := w.heap.size ≤ w'.heap.size ∧ ∀ g, g < w.heap.size → g ≠ b → (∀ cs fr, w.heap[g]? ≠ some (.cells cs 5 fr)) → (∀ cs fr, w.heap[g]? ≠ some (.cells cs 9 fr)) → w'.heap[g]? = w.heap[g]?
theorem Oth.refl (b : Nat) (w : World) : Oth b w w := ⟨Nat.le_refl _, fun _ _ _ _ _ => rfl⟩
theorem Oth.trans {b : Nat} {w w' w'' : World} (h : Oth b w w') (k : Oth b w' w'') : Oth b w w'' :=
  ⟨Nat.le_trans h.1 k.1, fun g hg hb h1 h2 => by
    have e := h.2 g hg hb h1 h2
    rw [k.2 g (Nat.lt_of_lt_of_le hg h.1) hb (by rw [e]; exact h1) (by rw [e]; exact h2), e]⟩
theorem Oth.below {b : Nat} {w w' : World} (h : Below w.heap.size w w') : Oth b w w' := ⟨h.size, fun g hg _ _ _ => h.block g hg⟩
theorem Oth.set (b j : Nat) (w : World) (v : Value) : Oth b w (w.setCell ⟨b, j, none⟩ v) := ⟨by simp [World.setCell], fun g _ hb _ _ => Below.heap_setCell _ _ _ _ (fun e => hb e)⟩
theorem Oth.grown {b : Nat} {w w' : World} {base : Nat} {E : TypeId} {v : Value} {n : Nat} {xs : List Value} (hr : w.ownsRow base E 1 v n xs) (hE : E = 5 ∨ E = 9) (hg : w.grownBy w' v.ownBlock) : Oth b w w' :=
  ⟨hg.size, fun g hlt _ h1 h2 => hg.block g hlt fun e => by
    rcases hr.2 with ⟨rfl, _⟩ | ⟨g', cap, cur, rfl, _, hb, _⟩
    · cases e
    · have e : g = g' := by injection e
      subst e
      rcases hE with rfl | rfl
      · exact h1 _ _ hb
      · exact h2 _ _ hb⟩
theorem Cel.oth {w w' : World} {A b : Nat} {T : TypeId} {cs : List Value} (h : Cel w A T cs) (k : Oth b w w') (hA : A ≠ b) (h1 : T ≠ 5) (h2 : T ≠ 9) : Cel w' A T cs :=
  (k.2 A h.lt hA (fun cs' fr e => by rw [h] at e; injection e with e; injection e with _ e; exact h1 e) (fun cs' fr e => by rw [h] at e; injection e with e; injection e with _ e; exact h2 e)).trans h
set_option maxHeartbeats 1000000 in
set_option maxRecDepth 100000 in
theorem pcheck_used (b : Nat) (w : World) (h0 : w.cell? ⟨b, 0, none⟩ = some (.pointer (some ⟨b, 0, none⟩))) :
    Calls Tryz.prog 134 #[.pointer (some ⟨b, 0, none⟩)] w fun e w' => e = .returned (.tuple #[]) ∧ w' = w := by
  obtain ⟨j, hj, _⟩ := infoSBP
  go_enter Tryz.func134, Tryz.ntmps134
  go_wp2_with fail
  rw [Lib.run_neq_ptr_same w _ Tryz.underlying79 hj]
  go_wp2_with fail
  go_end0
  exact ⟨rfl, rfl⟩
set_option maxHeartbeats 1000000 in
set_option maxRecDepth 100000 in
theorem pcheck_fresh (b : Nat) (w : World) (h0 : w.cell? ⟨b, 0, none⟩ = some (.pointer none)) (hsh : w.shape? b = some (84, 2)) (hfz : w.frozen? ⟨b, 0, none⟩ = false) :
    Calls Tryz.prog 134 #[.pointer (some ⟨b, 0, none⟩)] w fun e w' => e = .returned (.tuple #[]) ∧ w' = w.setCell ⟨b, 0, none⟩ (.pointer (some ⟨b, 0, none⟩)) := by
  obtain ⟨j, hj, hjs⟩ := infoSBP
  go_enter Tryz.func134, Tryz.ntmps134
  go_wp2_with fail
  rw [Lib.run_to_unsafe w ⟨b, 0, none⟩ Tryz.underlying79 Tryz.underlying224 hj hjs hsh (Nat.zero_lt_succ 1)]
  simp only [Result.andThen]
  rw [Oper.upon_value]
  go_wp2_with fail
  rw [run_callFunc_extern Tryz.func187 (by kernel_rfl) (by kernel_rfl) (by kernel_rfl) (e := Extern.AbiNoEscape.same) (by kernel_rfl)]
  rw [Lib.run_noEscape]
  simp only [Result.andThen]
  rw [Oper.upon_value]
  go_wp2_with fail
  rw [Lib.run_from_unsafe w ⟨b, 0, none⟩ Tryz.underlying224 Tryz.underlying79 hj hsh liesPr]
  simp only [Result.andThen]
  rw [Oper.upon_value]
  go_wp2_with fail
  go_end0
  exact ⟨rfl, rfl⟩
theorem pcheck_any (B b : Nat) (bs : List Value) (w : World) (h : Lib.IsBuilder 84 5 B b bs w) :
    Calls Tryz.prog 134 #[.pointer (some ⟨b, 0, none⟩)] w fun e w' => e = .returned (.tuple #[]) ∧ (Lib.BuilderAt 84 5 B b (.pointer (some ⟨b, 0, none⟩)) bs w' ∧ Below B w w' ∧ Oth b w w') := by
  rcases h with h | h
  · refine (pcheck_fresh b w h.cell0 h.shape h.frozen0).mono ?_
    rintro e w' ⟨rfl, rfl⟩
    exact ⟨rfl, h.used _, (Below.refl B w).setCell (p := ⟨b, 0, none⟩) h.1 _, Oth.set b 0 w _⟩
  · refine (pcheck_used b w h.cell0).mono ?_
    rintro e w' ⟨rfl, rfl⟩
    exact ⟨rfl, h, Below.refl B _, Oth.refl b _⟩
set_option maxHeartbeats 2000000 in
set_option maxRecDepth 100000 in
theorem pwstring_any (B b : Nat) (bs : List Value) (s : ByteArray) (w : World) (h : Lib.IsBuilder 84 5 B b bs w) (hlen : bs.length + s.size ≤ 140737488355328) (hBw : B ≤ w.heap.size) :
    Calls Tryz.prog 79 #[.pointer (some ⟨b, 0, none⟩), .string s] w fun e w' => e = .returned (.tuple #[.int .i64 s.size, .nilIface]) ∧ (Lib.BuilderAt 84 5 B b (.pointer (some ⟨b, 0, none⟩)) (bs ++ Lib.strCells s) w' ∧ Below B w w' ∧ Oth b w w') := by
  obtain ⟨i0, hi, hz0, hz1, hz2⟩ := info_parts infoU8P
  have HC := Lib.hid (pcheck_any B b bs w h)
  clear h
  go_enter Tryz.func79, Tryz.ntmps79
  go_wp2_with fail
  refine HC.out.mono ?_
  rintro e w1 ⟨rfl, h1, hb1, ho1⟩
  obtain ⟨hB, v, hbk, hown, hne⟩ := h1
  have c0 : w1.cell? ⟨b, 0, none⟩ = some (.pointer (some ⟨b, 0, none⟩)) := by rw [Lib.cell_of_heap hbk]; rfl
  have c1 : w1.cell? ⟨b, 1, none⟩ = some v := by rw [Lib.cell_of_heap hbk]; rfl
  go_wp2_with (at_builtin; refine Lib.wpList_append_own_string _ rfl _ _ 80 9 rfl B 5 i0 Tryz.underlying80 Tryz.underlying9 hi hz0 hz1 hz2 _ _ _ rfl hown s rfl ?c3 ?c4 ?c5 ?_)
  case c3 => unfold maxLen; omega
  case c4 => omega
  case c5 => have := hb1.size; omega
  intro v' w2 hown' hgrow _
  have hlt : b < w1.heap.size := by
    rcases Nat.lt_or_ge b w1.heap.size with h' | h'
    · exact h'
    · simp [Array.getElem?_eq_none h'] at hbk
  have hb2 : w2.heap[b]? = some (.cells #[.pointer (some ⟨b, 0, none⟩), v] 84 (0, 0)) := by
    rw [hgrow.block b hlt (fun e => hne e.symm)]
    exact hbk
  have d0 : w2.cell? ⟨b, 0, none⟩ = some (.pointer (some ⟨b, 0, none⟩)) := by rw [Lib.cell_of_heap hb2]; rfl
  have d1 : w2.cell? ⟨b, 1, none⟩ = some v := by rw [Lib.cell_of_heap hb2]; rfl
  have f1 : w2.frozen? ⟨b, 1, none⟩ = false := Lib.frozen_of_heap hb2 1
  obtain ⟨ao, n', cap, rfl⟩ : ∃ ao n' cap, v' = .slice ao n' cap := by
    rcases hown'.2 with ⟨hv, _⟩ | ⟨g, cap, cur, hv, _⟩
    · exact ⟨_, _, _, hv⟩
    · exact ⟨_, _, _, hv⟩
  go_wp2_with fail
  go_ret2
  refine ⟨rfl, ?_, ?_, ?_⟩
  · exact Lib.BuilderAt.put (T := 84) (e := 5) hB hb2 (bs' := bs ++ Lib.strCells s) (by simpa [Lib.strCells_length] using hown') (by decide)
  · exact (hb1.grown hgrow (by have := hb1.size; omega) (fun k hk => (hown.lt k hk).1)).setCell (p := ⟨b, 1, none⟩) hB _
  · exact (ho1.trans (Oth.grown hown (.inl rfl) hgrow)).trans (Oth.set b 1 _ _)
def PB (B b : Nat) (l : List UInt8) (w : World) : Prop :=
  Lib.IsBuilder 84 5 B b (Lib.byteCells l) w ∧ (l = [] → w.cell? ⟨b, 1, none⟩ = some (.slice none 0 0))
theorem PB.kept {B b : Nat} {l : List UInt8} {w w' : World} (h : PB B b l w) (hb : Below w.heap.size w w') : PB B b l w' := by
  obtain ⟨h1, h2⟩ := h
  have key : ∀ p, Lib.BuilderAt 84 5 B b p (Lib.byteCells l) w → Lib.BuilderAt 84 5 B b p (Lib.byteCells l) w' := by
    rintro p h
    have hlt := h.lt
    obtain ⟨hB, v, hbk, hown, hne⟩ := h
    exact ⟨hB, v, (hb.block b hlt).trans hbk, Own.below hown hb, hne⟩
  have hlt : b < w.heap.size := by
    rcases h1 with h | h
    · exact h.lt
    · exact h.lt
  refine ⟨h1.imp (key _) (key _), fun e => ?_⟩
  rw [show w'.cell? ⟨b, 1, none⟩ = w.cell? ⟨b, 1, none⟩ from hb.cell (p := ⟨b, 1, none⟩) hlt]
  exact h2 e
theorem PB.lt {B b : Nat} {l : List UInt8} {w : World} (h : PB B b l w) : b < w.heap.size := by
  rcases h.1 with h | h
  · exact h.lt
  · exact h.lt
theorem PB.new (w : World) : PB w.heap.size w.heap.size [] (w.alloc (.cells #[.pointer none, .slice none 0 0] 84)) := by
  have hn : (w.alloc (.cells #[.pointer none, .slice none 0 0] 84)).heap[w.heap.size]? = some (.cells #[.pointer none, .slice none 0 0] 84 (0, 0)) := by show (w.heap.push _)[w.heap.size]? = _; simp
  refine ⟨.inl ⟨Nat.le_refl _, .slice none 0 0, hn, World.ownsRow_nil _ _ _ _, by simp [Value.ownBlock]⟩, fun _ => ?_⟩
  rw [Lib.cell_of_heap hn]; rfl
theorem strCells_bytes (s : ByteArray) : Lib.strCells s = Lib.byteCells s.data.toList := by
  unfold Lib.strCells Lib.byteCells
  rfl
theorem pwrite_any (B b : Nat) (l : List UInt8) (s : ByteArray) (w : World) (h : PB B b l w) (hs : s.size ≠ 0) (hlen : l.length + s.size ≤ 140737488355328) (hBw : B ≤ w.heap.size) :
    Calls Tryz.prog 79 #[.pointer (some ⟨b, 0, none⟩), .string s] w fun e w' => e = .returned (.tuple #[.int .i64 s.size, .nilIface]) ∧ PB B b (l ++ s.data.toList) w' ∧ Below B w w' ∧ Oth b w w' := by
  refine (pwstring_any B b (Lib.byteCells l) s w h.1 (by rw [Lib.byteCells_length]; exact hlen) hBw).mono ?_
  rintro e w' ⟨rfl, h1, h2, h3⟩
  rw [strCells_bytes, show Lib.byteCells l ++ Lib.byteCells s.data.toList = Lib.byteCells (l ++ s.data.toList) by simp [Lib.byteCells]] at h1
  refine ⟨rfl, ⟨.inr h1, fun e => ?_⟩, h2, h3⟩
  rw [List.append_eq_nil_iff] at e
  exact absurd (by rw [← show s.data.toList.length = s.size from ba_len s, e.2]; rfl) hs
set_option maxHeartbeats 1000000 in
set_option maxRecDepth 100000 in
theorem plen_any (B b : Nat) (l : List UInt8) (w : World) (h : PB B b l w) :
    Calls Tryz.prog 35 #[.pointer (some ⟨b, 0, none⟩)] w fun e w' => e = .returned (.int .i64 l.length) ∧ w = w' := by
  obtain ⟨p, hB, v, hbk, hown, hne⟩ : ∃ p, Lib.BuilderAt 84 5 B b p (Lib.byteCells l) w := by
    rcases h.1 with h | h
    · exact ⟨_, h⟩
    · exact ⟨_, h⟩
  rw [Lib.byteCells_length] at hown
  obtain ⟨ao, cap, rfl⟩ : ∃ ao cap, v = .slice ao l.length cap := by
    rcases hown.2 with ⟨hv, h0⟩ | ⟨g, cap, cur, hv, _⟩
    · exact ⟨none, 0, by rw [hv, h0]⟩
    · exact ⟨_, _, hv⟩
  have c1 : w.cell? ⟨b, 1, none⟩ = some (.slice ao l.length cap) := by rw [Lib.cell_of_heap hbk]; rfl
  go_enter Tryz.func35, Tryz.ntmps35
  go_wp2_with fail
  go_ret
  exact ⟨rfl, rfl⟩
set_option maxHeartbeats 2000000 in
set_option maxRecDepth 100000 in
theorem pstring_any (B b : Nat) (l : List UInt8) (w : World) (h : PB B b l w) :
    Calls Tryz.prog 36 #[.pointer (some ⟨b, 0, none⟩)] w fun e w' => e = .returned (.string (bs l)) ∧ Below B w w' := by
  obtain ⟨p, hB, v, hbk, hown, hne⟩ : ∃ p, Lib.BuilderAt 84 5 B b p (Lib.byteCells l) w := by
    rcases h.1 with h | h
    · exact ⟨_, h⟩
    · exact ⟨_, h⟩
  rw [Lib.byteCells_length] at hown
  by_cases h0 : l = []
  · have hv := h.2 h0
    subst h0
    rw [Lib.cell_of_heap hbk] at hv
    obtain rfl : v = .slice none 0 0 := by simpa using hv
    have hUS : ∀ W q, (Builtin.unsafeString_ #[146, 3] 9 #[.pointer q, .int .i64 0]).run Tryz.prog W = .ok (.string .empty) W := fun W q => Lib.run_unsafeString_none W _ _ _ q
    have c1 : w.drew.cell? ⟨b, 1, none⟩ = some (.slice none 0 0) := by
      have : w.drew.heap[b]? = some (.cells #[p, .slice none 0 0] 84 (0, 0)) := hbk
      rw [Lib.cell_of_heap this]; rfl
    have hSD : (Builtin.unsafeSliceData_ #[80] 146 #[.slice none 0 0]).run Tryz.prog w.drew = .ok (.pointer none) w.drew := rfl
    clear h hbk hown hne
    go_enter Tryz.func36, Tryz.ntmps36
    go_wp2_with fail
    go_region
    all_goals (go_wp2_with fail; go_ret; exact ⟨rfl, Below.drew (Below.refl B w)⟩)
  · have hl0 : l.length ≠ 0 := by simpa using h0
    obtain ⟨g, cap, cur, rfl, hbg, hg, hnc, hcm, hcs, htake⟩ : ∃ g cap cur, v = .slice (some ⟨g, 0, none⟩) l.length cap ∧ B ≤ g ∧ w.heap[g]? = some (.cells cur 5 (0, 0)) ∧ l.length ≤ cap ∧ cap ≤ maxLen ∧ cur.size = cap * 1 ∧ cur.toList.take (l.length * 1) = Lib.byteCells l := by
      rcases hown.2 with ⟨_, hz⟩ | ⟨g, cap, cur, hv, r⟩
      · exact absurd hz hl0
      · exact ⟨g, cap, cur, hv, r⟩
    have c1 : w.drew.cell? ⟨b, 1, none⟩ = some (.slice (some ⟨g, 0, none⟩) l.length cap) := by
      have : w.drew.heap[b]? = some (.cells #[p, .slice (some ⟨g, 0, none⟩) l.length cap] 84 (0, 0)) := hbk
      rw [Lib.cell_of_heap this]; rfl
    have hSD : (Builtin.unsafeSliceData_ #[80] 146 #[.slice (some ⟨g, 0, none⟩) l.length cap]).run Tryz.prog w.drew = .ok (.pointer (some ⟨g, 0, none⟩)) w.drew :=
      Lib.run_unsafeSliceData_row _ _ _ _ _ _ (by omega)
    have hUS : (Builtin.unsafeString_ #[146, 3] 9 #[.pointer (some ⟨g, 0, none⟩), .int .i64 l.length]).run Tryz.prog w.drew = .ok (.string (bs l)) (w.drew.freeze ⟨g, 0, none⟩ l.length) := by
      refine Lib.run_unsafeString_row w.drew 146 3 9 5 Tryz.underlying146 cellsU8P g cur.size (by have hg' : w.drew.heap[g]? = some (.cells cur 5 (0, 0)) := hg; simp [World.shape?, hg']) l h0 (by omega) (by unfold maxLen at hcm; omega) ?_
      intro j x hx
      have := hown.cells (g := g) rfl j (.int .u8 x.toNat) (by simp [Lib.byteCells, hx])
      exact this
    clear h hbk hown hne htake
    go_enter Tryz.func36, Tryz.ntmps36
    go_wp2_with fail
    go_region
    all_goals (go_wp2_with fail; go_ret; exact ⟨rfl, Lib.below_freeze (Below.drew (Below.refl B w)) (p := ⟨g, 0, none⟩) hbg _⟩)
end Go.Proofs.YtmleeodfmmpdgaaGreatDoor
namespace Go.Proofs.YtmleeodfmmpdgaaGreatDoor
theorem lens_le (m : Nat) : ∀ l : List (List UInt8), (∀ x ∈ l, x.length ≤ m) → Lib.lens l ≤ l.length * m
  | [], _ => by simp [Lib.lens]
  | x :: l, h => by
    have h1 := lens_le m l fun y hy => h y (List.mem_cons_of_mem _ hy)
    have h2 := h x (List.mem_cons_self ..)
    have h3 : Lib.lens (x :: l) = x.length + Lib.lens l := by simp [Lib.lens]
    rw [h3, List.length_cons, Nat.succ_mul]
    omega
theorem join_le (l : List (List UInt8)) (sep : List UInt8) (m : Nat) (h : ∀ x ∈ l, x.length ≤ m) : (Lib.join l sep).length ≤ l.length * (m + sep.length) := by
  cases l with
  | nil => simp [Lib.join_nil]
  | cons x r =>
    rw [Lib.join_length]
    have h1 := lens_le m (x :: r) h
    have h2 : sep.length * r.length ≤ (x :: r).length * sep.length := by rw [Nat.mul_comm]; exact Nat.mul_le_mul_right _ (by simp)
    rw [Nat.mul_add]
    omega
theorem flatMap_le {α : Type} (f : α → List UInt8) (m : Nat) : ∀ l : List α, (∀ x ∈ l, (f x).length ≤ m) → (l.flatMap f).length ≤ l.length * m
  | [], _ => by simp
  | x :: l, h => by
    have h1 := flatMap_le f m l fun y hy => h y (List.mem_cons_of_mem _ hy)
    have h2 := h x (List.mem_cons_self ..)
    rw [List.flatMap_cons, List.length_append, List.length_cons, Nat.succ_mul]
    omega
theorem flatMap_take_le {α : Type} (f : α → List UInt8) (l : List α) (k : Nat) : ((l.take k).flatMap f).length ≤ (l.flatMap f).length := by
  have : l.flatMap f = (l.take k).flatMap f ++ (l.drop k).flatMap f := by rw [← List.flatMap_append, List.take_append_drop]
  rw [this, List.length_append]
  omega
theorem itoaZ_le {n : Int} (h0 : 0 ≤ n) (h1 : n ≤ 1000) : (Lib.itoa n).length ≤ 21 := Lib.itoa_length_le n (by omega) (by omega)
theorem permV_le {op md : Int} (h : permV op md = true) : 0 ≤ md ∧ md ≤ 100 := by
  unfold permV at h
  split at h
  · simp at h; omega
  · split at h
    · simp at h; omega
    · cases h
theorem greatV_le (op : Int) : greatV op ≤ 100 := by unfold greatV; split <;> omega
structure RelF (r : Rel) : Prop where
  op : 1 ≤ r.op ∧ r.op ≤ 6
  md : 0 ≤ r.md ∧ r.md ≤ 100
  len : 1 ≤ r.sp.length ∧ r.sp.length ≤ 4
  sp : ∀ s ∈ r.sp, 0 ≤ s.1 ∧ s.1 ≤ s.2 ∧ s.2 ≤ 100
theorem relF_of {r : Rel} (h : properV r = true) : RelF r := by
  unfold properV at h
  simp only [Bool.and_eq_true, Bool.or_eq_true, decide_eq_true_eq] at h
  obtain ⟨⟨⟨⟨⟨h1, h2⟩, h3⟩, h4⟩, h5⟩, h6⟩ := h
  refine ⟨⟨h1, h2⟩, ?_, ⟨h4, h5⟩, fun s hs => ?_⟩
  · rcases h3 with h3 | h3
    · omega
    · exact permV_le h3
  · have := List.all_eq_true.1 h6 s hs
    unfold spanOk at this
    simp only [Bool.and_eq_true, decide_eq_true_eq] at this
    have := greatV_le r.op
    omega
theorem relN_mem {c : List (List Rel)} {l : List Rel} (h : l ∈ c) : l.length ≤ relN c := by
  induction c with
  | nil => cases h
  | cons a c ih =>
    have e : relN (a :: c) = a.length + relN c := by simp [relN]
    rcases List.mem_cons.1 h with rfl | h
    · omega
    · have := ih h; omega
theorem len_relN : ∀ {c : List (List Rel)}, (∀ l ∈ c, l ≠ []) → c.length ≤ relN c
  | [], _ => Nat.zero_le _
  | a :: c, h => by
    have e : relN (a :: c) = a.length + relN c := by simp [relN]
    have h1 := len_relN (c := c) fun l hl => h l (List.mem_cons_of_mem _ hl)
    have h2 := List.length_pos_iff.2 (h a (List.mem_cons_self ..))
    rw [List.length_cons]
    omega
structure CondF (c : List (List Rel)) : Prop where
  pos : c ≠ []
  len : c.length ≤ 6
  each : ∀ l ∈ c, l ≠ [] ∧ l.length ≤ 6 ∧ ∀ r ∈ l, RelF r
theorem condF_of {c : List (List Rel)} (h : validC c = true) : CondF c := by
  unfold validC at h
  simp only [Bool.and_eq_true, decide_eq_true_eq] at h
  obtain ⟨⟨h1, h2⟩, h3⟩ := h
  have key : ∀ l ∈ c, l ≠ [] ∧ ∀ r ∈ l, RelF r := fun l hl => by
    have h4 := List.all_eq_true.1 h1 l hl
    unfold listOk at h4
    rw [Bool.and_eq_true] at h4
    refine ⟨fun e => by rw [e] at h4; simp at h4, fun r hr => relF_of (List.all_eq_true.1 h4.2 r hr)⟩
  refine ⟨fun e => by rw [e] at h2; simp at h2, ?_, fun l hl => ⟨(key l hl).1, ?_, (key l hl).2⟩⟩
  · have := len_relN fun l hl => (key l hl).1
    omega
  · have := relN_mem hl
    omega
theorem spanT_le {s : Int × Int} (h : 0 ≤ s.1 ∧ s.1 ≤ s.2 ∧ s.2 ≤ 100) : (spanT s).length ≤ 44 := by
  have h1 := itoaZ_le (n := s.1) (by omega) (by omega)
  have h2 := itoaZ_le (n := s.2) (by omega) (by omega)
  unfold spanT
  split
  · omega
  · simp only [List.length_append, List.length_cons, List.length_nil]; omega
theorem spansT_le {r : Rel} (h : RelF r) : (Lib.join (r.sp.map spanT) [44]).length ≤ 180 := by
  have h1 := join_le (r.sp.map spanT) [44] 44 (fun x hx => by
    obtain ⟨s, hs, rfl⟩ := List.mem_map.1 hx
    exact spanT_le (h.sp s hs))
  rw [List.length_map] at h1
  have := h.len.2
  have h2 := Nat.mul_le_mul_right (44 + 1) this
  simp only [List.length_cons, List.length_nil] at h1
  omega
theorem relT_le {r : Rel} (h : RelF r) : (relT r).length ≤ 300 := by
  have h1 := spansT_le h
  have h2 := itoaZ_le (n := r.md) (by have := h.md; omega) (by have := h.md; omega)
  unfold relT letT
  simp only [List.length_append, List.length_cons, List.length_nil]
  split <;> split <;> simp only [List.length_append, List.length_cons, List.length_nil] <;> omega
theorem andT_le {l : List Rel} (h1 : l.length ≤ 6) (h : ∀ r ∈ l, RelF r) : (andT l).length ≤ 2000 := by
  have h2 := join_le (l.map relT) [32, 97, 110, 100, 32] 300 (fun x hx => by
    obtain ⟨s, hs, rfl⟩ := List.mem_map.1 hx
    exact relT_le (h s hs))
  rw [List.length_map] at h2
  have h3 := Nat.mul_le_mul_right (300 + 5) h1
  unfold andT
  simp only [List.length_cons, List.length_nil] at h2
  omega
theorem condT_le {c : List (List Rel)} (h : CondF c) : (condT c).length ≤ 13000 := by
  have h2 := join_le (c.map andT) [32, 111, 114, 32] 2000 (fun x hx => by
    obtain ⟨s, hs, rfl⟩ := List.mem_map.1 hx
    exact andT_le (h.each s hs).2.1 (h.each s hs).2.2)
  rw [List.length_map] at h2
  have h3 := Nat.mul_le_mul_right (2000 + 4) h.len
  unfold condT
  simp only [List.length_cons, List.length_nil] at h2
  omega
theorem okW_le {s : ByteArray} (h : wokB s = true) : 1 ≤ s.size ∧ s.size ≤ 40 := by
  unfold wokB isWordV at h
  simp only [Bool.and_eq_true, decide_eq_true_eq, ba_len] at h
  refine ⟨?_, h.1.2⟩
  have := List.length_pos_iff.2 h.1.1
  rwa [ba_len] at this
theorem okX_le {s : ByteArray} (h : xokB s = true) : s.size ≤ 400 := by
  unfold xokB isTextV at h
  simp only [Bool.and_eq_true, decide_eq_true_eq, ba_len] at h
  exact h.1
theorem qT_le {s : ByteArray} {m : Nat} (h : s.size ≤ m) : (qT s).length ≤ 4 * m + 2 := by
  have := escS_len s.data.toList
  rw [ba_len] at this
  unfold qT
  simp only [List.length_append, List.length_cons, List.length_nil]
  omega
theorem lineT_le (ind : List UInt8) (l : List (List UInt8)) (m : Nat) (hi : ind.length ≤ 1) (h : ∀ x ∈ l, x.length ≤ m) : (lineT ind l).length ≤ l.length * (m + 1) + 3 := by
  have := join_le l [32] m h
  unfold lineT
  simp only [List.length_append, List.length_cons, List.length_nil, Nat.zero_add] at this ⊢
  omega
end Go.Proofs.YtmleeodfmmpdgaaGreatDoor
namespace Go.Proofs.YtmleeodfmmpdgaaGreatDoor
open Go.RowKit
attribute [local go_sem] Ext.cell Ext.frozen
attribute [local go_sem ↓] Go.wp_at_zero Go.wp_at_succ
theorem qT_bs (s : ByteArray) : bs (qT s) = ⟨#[34]⟩ ++ bs (escS s.data.toList) ++ ⟨#[34]⟩ := by
  unfold qT
  rw [show (⟨#[34]⟩ : ByteArray) = bs [34] from rfl, bs_append, bs_append]
  rfl
set_option maxRecDepth 20000 in
set_option maxHeartbeats 8000000 in
theorem tquoted_any (v : Value) (l : List ByteArray) (w : World) (h : RowsOf 1 OneS w v l) (hn : l.length ≤ 1000) (hz : ∀ s ∈ l, s.size ≤ 200000) (hD : TabDeB w) :
    Calls Tryz.prog 81 #[v] w fun e w' => ∃ ad c, e = .returned (.slice ad l.length c) ∧ w'.ownsRow w.heap.size 9 1 (.slice ad l.length c) l.length (strs (l.map (fun s => bs (qT s)))) ∧ Below w.heap.size w w' := by
  obtain ⟨ad, c, f, b, off, rfl, hr, _, _, _, hf⟩ := h.opn
  obtain ⟨n, hnn⟩ : ∃ n, l.length = n := ⟨_, rfl⟩
  rw [hnn] at hr hn ⊢
  have HLN := Lib.hid hnn
  have HR := Lib.hid hr
  have HF := Lib.hid hf
  have HSZ := Lib.hid hz
  obtain ⟨i0, hi0, hz0, hz1, hz2⟩ := info_parts infoS
  have HI := Lib.hid hi0
  have HZ0 := Lib.hid hz0
  have HZ1 := Lib.hid hz1
  have HZ2 := Lib.hid hz2
  have HES := Lib.hid (fun (s : ByteArray) (hl : s.size ≤ 1000000) w' (h : Below w.heap.size w w') => esc_any s w' hl (fun c _ => (bsl_ok c hD).below h))
  clear h hr hf hz hnn hi0 hz0 hz1 hz2 hD
  go_enter Tryz.func81, Tryz.ntmps81
  go_wp2_with fail
  go_loopw [3, 8] (fun u i wr => ∃ (k : Nat) (ad' : Option Addr) (c' : Nat), i = .int .i64 (k : Int) ∧ k ≤ n ∧ u = .slice ad' k c' ∧ wr.ownsRow w.heap.size 9 1 (.slice ad' k c') k (strs ((l.take k).map (fun s => bs (qT s)))) ∧ Below w.heap.size w wr) (fun _ i _ => n - (intOf i).toNat)
  case atStart => exact ⟨0, none, 0, rfl, Nat.zero_le _, rfl, World.ownsRow_nil _ _ _ _, Below.refl _ _⟩
  case round =>
    obtain ⟨k, ad', c', rfl, hkn, rfl, hown, hbl⟩ := hrel
    have HOWN := Lib.hid hown
    have HBL := Lib.hid hbl
    have hzr := hbl.size
    clear hown hbl
    by_cases hlt : k < n
    · have hrr := HR.out.below HBL.out
      have hix := fun W => hrr.ix 44 9 Tryz.underlying44 (by kernel_rfl) (by omega) hlt c W
      rw [Nat.mul_one] at hix
      have c0 : wr.cell? ⟨b, off + k, none⟩ = some (f k 0) := by have := hrr.cell k 0 hlt (by omega); rwa [Nat.mul_one, Nat.add_zero] at this
      have hkl : k < l.length := by rw [HLN.out]; exact hlt
      have hc2 := (HF.out k hkl).1
      rw [hc2] at c0
      have hsz := HSZ.out _ (List.getElem_mem hkl)
      have HTS : Hid ((l.take (k + 1)).map (fun s => bs (qT s)) = (l.take k).map (fun s => bs (qT s)) ++ [bs (qT l[k])]) := by
        unfold Hid
        rw [List.take_succ_eq_append_getElem hkl, List.map_append]
        rfl
      have HEC := Lib.hid (HES.out l[k] (Nat.le_trans hsz (by omega)) wr HBL.out)
      have HQ := Lib.hid (qT_bs l[k])
      have hez : (bs (escS l[k].data.toList)).size ≤ 800000 := by rw [bs_size]; have := escS_len l[k].data.toList; rw [ba_len] at this; omega
      clear hrr hc2
      generalize bs (qT l[k]) = q at *
      generalize bs (escS l[k].data.toList) = T1 at *
      generalize l[k] = s at *
      have z1 : (⟨#[34]⟩ : ByteArray).size = 1 := rfl
      have a1 := fun w => run_string_add_sum (P := Tryz.prog) (w := w) ⟨#[34]⟩ T1 (by omega)
      have a2 := fun w => run_string_add_sum (P := Tryz.prog) (w := w) (⟨#[34]⟩ ++ T1) ⟨#[34]⟩ (by rw [ByteArray.size_append]; omega)
      rw [Hid, HQ.out] at HTS
      replace HTS := Lib.hid HTS
      clear z1 HQ
      go_wp2_with fail
      refine HEC.out.mono ?_
      rintro e w2 ⟨rfl, hb2⟩
      have HOV := Lib.hid (own_below2 HOWN.out hb2)
      have HBV := Lib.hid (HBL.out.trans (hb2.mono hzr))
      have hzV := HBV.out.size
      clear hb2 HOWN HEC
      go_wp2_with (at_builtin; refine wpList_app 44 9 16 Tryz.underlying44 i0 _ HI.out HZ0.out HZ1.out HZ2.out rfl rfl _ _ rfl w.heap.size ad' k c' _ rfl HOV.out _ _ rfl rfl (by unfold maxLen; omega) (by omega) hzV ?_; intro ad6 c6 w3 hown3 hb3 hg3 hz3; have HOWN3 := Lib.hid hown3; have HB3 := Lib.hid hb3; clear hown3 hb3 hg3 hz3)
      go_roundw
      case rel => exact ⟨k + 1, ad6, c6, by go_num, by omega, rfl, by rw [HTS.out, strs_app]; exact HOWN3.out, HBV.out.trans HB3.out⟩
      case measure => simp [intOf]; omega
    · obtain rfl : k = n := by omega
      have HE : Hid (wr.ownsRow w.heap.size 9 1 (.slice ad' k c') k (strs (l.map (fun s => bs (qT s))))) := by
        have := HOWN.out
        rwa [List.take_of_length_le (by rw [HLN.out]; exact Nat.le_refl _)] at this
      go_wp2_with fail
      go_ret
      exact ⟨ad', c', rfl, HE.out, HBL.out⟩
theorem join_sl (ad : Option Addr) (n c : Nat) (xs : List ByteArray) (w : World) (hs : Sl w ad n (strs xs)) (h0 : xs ≠ []) (hn : n ≤ 1000000) (hc : n ≤ c) (sep : ByteArray) (hm : (Lib.join (xs.map (·.data.toList)) sep.data.toList).length ≤ 1000000000) :
    Calls Tryz.prog 83 #[.slice ad n c, .string sep] w fun e w' => e = .returned (.string (bs (Lib.join (xs.map (·.data.toList)) sep.data.toList))) ∧ Below w.heap.size w w' := by
  obtain ⟨b, off, hsa⟩ := hs
  have hlen : xs.length = n := by have := hsa.len; rwa [strs_length] at this
  subst hlen
  have hlp := List.length_pos_iff.2 h0
  have ha := hsa.adr (by omega)
  subst ha
  refine Tryz.strings_Join b off c xs sep w (fun j x hj => ?_) (hsa.block (by omega)) (by omega) hc (Nat.le_trans hm (by omega))
  have hjl := (List.getElem?_eq_some_iff.1 hj).1
  rw [hsa.cell j hjl, strs_getD _ _ hjl, List.getD, hj]; rfl
set_option maxRecDepth 20000 in
set_option maxHeartbeats 8000000 in
theorem line_any (B b : Nat) (t : List UInt8) (id : ByteArray) (ad : Option Addr) (n c : Nat) (xs : List ByteArray) (w : World) (h : PB B b t w) (hs : Sl w ad n (strs xs)) (h0 : xs ≠ []) (hn : n ≤ 1000000) (hc : n ≤ c) (hi : id.size ≤ 1) (hB : B ≤ w.heap.size)
    (hl : (lineT id.data.toList (xs.map (·.data.toList))).length ≤ 100000000) (ht : t.length ≤ 1000000000000) :
    Calls Tryz.prog 33 #[.pointer (some ⟨b, 0, none⟩), .string id, .slice ad n c] w fun e w' => e = .returned (.tuple #[]) ∧ PB B b (t ++ lineT id.data.toList (xs.map (·.data.toList))) w' ∧ Below B w w' ∧ Oth b w w' := by
  have HT : Hid ((id ++ bs (Lib.join (xs.map (·.data.toList)) [32]) ++ ⟨#[59, 10]⟩).data.toList = lineT id.data.toList (xs.map (·.data.toList))) := by
    unfold Hid lineT
    rw [ByteArray.data_append, ByteArray.data_append, Array.toList_append, Array.toList_append]
    rfl
  have hjz : (bs (Lib.join (xs.map (·.data.toList)) [32])).size ≤ 100000000 := by rw [bs_size]; unfold lineT at hl; simp only [List.length_append] at hl; omega
  have HJ := Lib.hid (fun W (g : Below w.heap.size w W) => join_sl ad n c xs W (hs.below g) h0 hn hc ⟨#[32]⟩ (by rw [bs_size] at hjz; exact Nat.le_trans hjz (by omega)))
  have HP := Lib.hid h
  rw [Hid, show (⟨#[32]⟩ : ByteArray).data.toList = [32] from rfl] at HJ
  replace HJ := Lib.hid HJ
  rw [← HT.out]
  clear h hs h0 hl HT
  generalize bs (Lib.join (xs.map (·.data.toList)) [32]) = J at *
  have zn : (⟨#[59, 10]⟩ : ByteArray).size = 2 := rfl
  have a1 := fun w => run_string_add_sum (P := Tryz.prog) (w := w) id J (by omega)
  have a2 := fun w => run_string_add_sum (P := Tryz.prog) (w := w) (id ++ J) ⟨#[59, 10]⟩ (by rw [ByteArray.size_append]; omega)
  have hsz : (id ++ J ++ ⟨#[59, 10]⟩ : ByteArray).size ≠ 0 ∧ (id ++ J ++ ⟨#[59, 10]⟩ : ByteArray).size ≤ 200000000 := by rw [ByteArray.size_append, ByteArray.size_append]; omega
  generalize id ++ J ++ ⟨#[59, 10]⟩ = X at *
  have HW := Lib.hid (fun W (g : PB B b t W) hB => pwrite_any B b t X W g hsz.1 (by omega) hB)
  clear zn hsz hjz
  go_enter Tryz.func33, Tryz.ntmps33
  go_wp2_with fail
  refine wp_region_held_drew (S := (fun _ => True)) (by kernel_rfl) ?_ (fun hHeld => ?_)
  · trivial
  refine wpAnyH_take (i := 0) (v := ?_) rfl (by kernel_rfl) (by kernel_rfl) (by kernel_rfl) (fun _ _ _ h => h) (Or.inl ⟨by kernel_rfl, ?_⟩) hHeld ?_
  rotate_left
  · (intro wx hSw; (try dsimp only at hSw); go_simp; try with_reducible rfl)
  refine wpAnyH_take (i := 1) (v := ?_) rfl (by kernel_rfl) (by kernel_rfl) (by kernel_rfl) (fun _ _ _ h => h) (Or.inl ⟨by kernel_rfl, ?_⟩) hHeld ?_
  rotate_left
  · (intro wx hSw; (try dsimp only at hSw); go_simp; try with_reducible rfl)
  refine wpAnyH_take (i := 2) (v := ?_) rfl (by kernel_rfl) (by kernel_rfl) (by kernel_rfl) (fun _ _ _ h => h) (Or.inl ⟨by kernel_rfl, ?_⟩) hHeld ?_
  rotate_left
  · (intro wx hSw; (try dsimp only at hSw); go_simp; try with_reducible rfl)
  refine wpAnyH_take (i := 3) (v := ?_) rfl (by kernel_rfl) (by kernel_rfl) (by kernel_rfl) (fun _ _ _ h => h) (Or.inl ⟨by kernel_rfl, ?_⟩) hHeld ?_
  rotate_left
  · (intro wx hSw; (try dsimp only at hSw); go_simp; try with_reducible rfl)
  refine wpAnyH_take (i := 4) (v := ?_) rfl (by kernel_rfl) (by kernel_rfl) (by kernel_rfl) (fun _ _ _ h => h) (Or.inl ⟨by kernel_rfl, ?_⟩) hHeld ?_
  rotate_left
  · (intro wx hSw; (try dsimp only at hSw); go_simp; try with_reducible rfl)
  simp only [Act.put, List.getElem_toArray, List.getElem_cons_succ, List.getElem_cons_zero, List.setIfInBounds_toArray, List.set_cons_zero, List.set_cons_succ]
  refine wpAnyH_ready (rs := [5]) (by kernel_rfl) (by simp) ?_
  refine AllReadyH.cons rfl (fun K hK => ?_) AllReadyH.nil
  go_simp
  refine (HJ.out _ (Below.refl _ _).drew).mono ?_
  rintro e w2 ⟨rfl, hb⟩
  have HB2 : Hid (Below w.heap.size w w2) := (Below.refl _ _).drew.trans hb
  clear hb
  go_simp
  clear hHeld
  refine hK.out _ _ ?_ (fun hHeld => ?_)
  · trivial
  clear hK K
  refine wpAnyH_take (i := 6) (v := ?_) rfl (by kernel_rfl) (by kernel_rfl) (by kernel_rfl) (fun _ _ _ h => h) (Or.inl ⟨by kernel_rfl, ?_⟩) hHeld ?_
  rotate_left
  · (intro wx hSw; (try dsimp only at hSw); go_simp; try with_reducible rfl)
  refine wpAnyH_take (i := 7) (v := ?_) rfl (by kernel_rfl) (by kernel_rfl) (by kernel_rfl) (fun _ _ _ h => h) (Or.inl ⟨by kernel_rfl, ?_⟩) hHeld ?_
  rotate_left
  · (intro wx hSw; (try dsimp only at hSw); go_simp; try with_reducible rfl)
  simp only [Act.put, List.getElem_toArray, List.getElem_cons_succ, List.getElem_cons_zero, List.setIfInBounds_toArray, List.set_cons_zero, List.set_cons_succ]
  refine wpAnyH_ready (rs := [8]) (by kernel_rfl) (by simp) ?_
  refine AllReadyH.cons rfl (fun K hK => ?_) AllReadyH.nil
  go_simp
  refine (HW.out _ (HP.out.kept HB2.out) (Nat.le_trans hB HB2.out.size)).mono ?_
  rintro e w3 ⟨rfl, hp, hb, ho⟩
  have HP3 := Lib.hid hp
  have HO3 : Hid (Oth b w w3) := (Oth.below HB2.out).trans ho
  have HB3 : Hid (Below B w w3) := (HB2.out.mono hB).trans hb
  clear hp hb ho
  go_simp
  clear hHeld
  refine hK.out _ _ ?_ (fun hHeld => ?_)
  · trivial
  clear hK K
  refine wpAnyH_done (by kernel_rfl) ?_ _
  clear hHeld
  go_wp2_with fail
  go_end0
  exact ⟨rfl, HP3.out, HB3.out, HO3.out⟩
theorem properV_len {r : Rel} (h : ¬ (1 ≤ r.sp.length ∧ r.sp.length ≤ 4)) : properV r = false := by
  rw [← Bool.not_eq_true]; unfold properV; simp only [Bool.and_eq_true, decide_eq_true_eq]; omega
theorem properV_op {r : Rel} (h : ¬ (1 ≤ r.op ∧ r.op ≤ 6)) : properV r = false := by
  rw [← Bool.not_eq_true]; unfold properV; simp only [Bool.and_eq_true, decide_eq_true_eq]; omega
theorem properV_md {r : Rel} (h : r.md ≠ 0) (h2 : permV r.op r.md = false) : properV r = false := by
  rw [← Bool.not_eq_true]; unfold properV; simp [h, h2]
theorem properV_no {r : Rel} {k : Nat} (hk : k < r.sp.length) (h : spanOk r.op (r.sp.getD k (0, 0)) = false) : properV r = false := by
  unfold properV; rw [all_not (0, 0) hk h, Bool.and_false]
theorem properV_yes {r : Rel} (h1 : 1 ≤ r.op ∧ r.op ≤ 6) (h2 : r.md = 0 ∨ permV r.op r.md = true) (h3 : 1 ≤ r.sp.length ∧ r.sp.length ≤ 4) (h : ∀ i, i < r.sp.length → spanOk r.op (r.sp.getD i (0, 0)) = true) : properV r = true := by
  unfold properV; rw [all_getD (0, 0) h]; simp [h1, h2, h3]
theorem spanOk_no1 {op a b : Int} (h : a < 0) : spanOk op (a, b) = false := by
  rw [← Bool.not_eq_true]; unfold spanOk; simp only [Bool.and_eq_true, decide_eq_true_eq]; omega
theorem spanOk_no2 {op a b : Int} (h : b < a) : spanOk op (a, b) = false := by
  rw [← Bool.not_eq_true]; unfold spanOk; simp only [Bool.and_eq_true, decide_eq_true_eq]; omega
theorem spanOk_no3 {op a b : Int} (h : greatV op < b) : spanOk op (a, b) = false := by
  rw [← Bool.not_eq_true]; unfold spanOk; simp only [Bool.and_eq_true, decide_eq_true_eq]; omega
theorem spanOk_yes {op a b : Int} (h1 : ¬ a < 0) (h2 : ¬ b < a) (h3 : ¬ greatV op < b) : spanOk op (a, b) = true := by
  unfold spanOk; simp only [Bool.and_eq_true, decide_eq_true_eq]; omega
set_option maxRecDepth 20000 in
set_option maxHeartbeats 8000000 in
theorem proper_any (x : Nat → Value) (r : Rel) (w : World) (h : RelC w x r) : Calls Tryz.prog 202 #[.agg #[x 0, x 1, x 2, x 3]] w fun e w' => e = .returned (.bool (properV r)) ∧ Below w.heap.size w w' := by
  obtain ⟨x0, x1, x2, ad, c, f, b, off, x3, hr, _, _, hlen, hf⟩ := h
  rw [x0, x1, x2, x3]
  clear x0 x1 x2 x3
  obtain ⟨op, md, neg, sp⟩ := r
  simp only at hr hf hlen ⊢
  obtain ⟨n, hn⟩ : ∃ n, sp.length = n := ⟨_, rfl⟩
  rw [hn] at hr hlen ⊢
  have HN := Lib.hid hn
  have HR := Lib.hid hr
  have HF := Lib.hid hf
  have HP := Lib.hid (fun w1 => perm_any op md w1)
  have HG : Hid (∀ (w1 : World) (m1 : Nat), Calls Tryz.prog 253 #[.int .i64 op] (w1.drewN m1) fun e w2 => e = .returned (.int .i64 (greatV op)) ∧ ∃ m, w2 = w1.drewN m) := fun w1 m1 => Calls.quiet_of_same ((great_any op _).mono fun _ _ h => ⟨h.1, h.2.symm⟩)
  clear hr hf hn
  by_cases h1 : op < 1
  · have HO : Hid (properV ⟨op, md, neg, sp⟩ = false) := properV_op (by simp only; omega)
    generalize properV ⟨op, md, neg, sp⟩ = q at *
    go_enter Tryz.func202, Tryz.ntmps202
    go_wp2_with fail
    all_goals
      go_wp2_with fail
      go_ret
      exact ⟨by rw [HO.out]; rfl, (Below.refl _ _).alloc (Nat.le_refl _) _⟩
  by_cases h2 : 6 < op
  · have HO : Hid (properV ⟨op, md, neg, sp⟩ = false) := properV_op (by simp only; omega)
    generalize properV ⟨op, md, neg, sp⟩ = q at *
    go_enter Tryz.func202, Tryz.ntmps202
    go_wp2_with fail
    all_goals
      go_wp2_with fail
      go_ret
      exact ⟨by rw [HO.out]; rfl, (Below.refl _ _).alloc (Nat.le_refl _) _⟩
  have HOP : Hid (1 ≤ op ∧ op ≤ 6) := ⟨by omega, by omega⟩
  by_cases h3 : md = 0
  · subst h3
    by_cases h4 : n < 1
    · have HO : Hid (properV ⟨op, 0, neg, sp⟩ = false) := properV_len (by simp only; rw [HN.out]; omega)
      generalize properV ⟨op, 0, neg, sp⟩ = q at *
      have h5 : (n : Int) < 1 := by omega
      go_enter Tryz.func202, Tryz.ntmps202
      go_wp2_with fail
      all_goals
        go_wp2_with fail
        go_ret
        exact ⟨by rw [HO.out]; rfl, (Below.refl _ _).alloc (Nat.le_refl _) _⟩
    by_cases h6 : 4 < n
    · have HO : Hid (properV ⟨op, 0, neg, sp⟩ = false) := properV_len (by simp only; rw [HN.out]; omega)
      generalize properV ⟨op, 0, neg, sp⟩ = q at *
      have h5 : ¬ (n : Int) < 1 := by omega
      have h7 : 4 < (n : Int) := by omega
      go_enter Tryz.func202, Tryz.ntmps202
      go_wp2_with fail
      all_goals
        go_wp2_with fail
        go_ret
        exact ⟨by rw [HO.out]; rfl, (Below.refl _ _).alloc (Nat.le_refl _) _⟩
    have h5 : ¬ (n : Int) < 1 := by omega
    have h7 : ¬ 4 < (n : Int) := by omega
    obtain ⟨q, hq⟩ : ∃ q, properV ⟨op, 0, neg, sp⟩ = q := ⟨_, rfl⟩
    rw [hq]
    have HQE := Lib.hid hq
    clear hq
    go_enter Tryz.func202, Tryz.ntmps202
    go_wp2_with fail
    all_goals
      refine wp_at_worldT ?_
      intro wb hwb
      have hb0 : wb.cell? ⟨w.heap.size, 0, none⟩ = some (.int .i64 op) := by rw [hwb]; simp [go_sem]
      have hb3 : wb.cell? ⟨w.heap.size, 3, none⟩ = some (.slice ad n c) := by rw [hwb]; simp [go_sem]
      have HBW : Hid (Below w.heap.size w wb) := by rw [hwb]; exact (Below.refl _ _).alloc (Nat.le_refl _) _
      have hwz : w.heap.size < wb.heap.size := World.block_lt_of_cell? _ _ hb0
      clear hwb
      have B0 := Lib.hid hb0
      have B3 := Lib.hid hb3
      have HRB := Lib.hid (HR.out.below HBW.out)
      go_wp2_with fail
      go_loopw [41] (fun v wr => ∃ k : Nat, v = .int .i64 (k : Int) ∧ k ≤ n ∧ (∀ i, i < k → spanOk op (sp.getD i (0, 0)) = true) ∧ Below wb.heap.size wb wr) (fun v _ => n - (intOf v).toNat)
      case atStart => exact ⟨0, rfl, Nat.zero_le _, fun i hi => absurd hi (Nat.not_lt_zero _), Below.refl _ _⟩
      case round =>
        obtain ⟨k, rfl, hkn, hal, hbl⟩ := hrel
        have HAL := Lib.hid hal
        have HBL := Lib.hid hbl
        have hzr := hbl.size
        have hwr : w.heap.size < wr.heap.size := by omega
        have HWR := Lib.hid (HBW.out.trans (hbl.mono HBW.out.size))
        have r0 : wr.cell? ⟨w.heap.size, 0, none⟩ = some (.int .i64 op) := (hbl.cell (p := ⟨w.heap.size, 0, none⟩) hwz).trans B0.out

        clear hal hbl
        by_cases hlt : k < n
        · have hrr := HRB.out.below HBL.out
          have hix := fun W => hrr.ix 92 152 Tryz.underlying92 (by kernel_rfl) (by omega) hlt c W
          have c0 : wr.cell? ⟨b, off + k * 2, none⟩ = some (f k 0) := hrr.cell k 0 hlt (by omega)
          have c1 : wr.cell? ⟨b, off + k * 2 + 1, none⟩ = some (f k 1) := hrr.cell k 1 hlt (by omega)
          obtain ⟨f0, f1⟩ := RowsOf.get HF.out (i := k) (by rw [HN.out]; exact hlt) (0, 0)
          rw [f0] at c0
          rw [f1] at c1
          have HNO : Hid (spanOk op (sp.getD k (0, 0)) = false → q = false) := fun h => HQE.out.symm.trans (properV_no (by simp only; rw [HN.out]; exact hlt) h)
          have HYES : Hid (spanOk op (sp.getD k (0, 0)) = true → ∀ i, i < k + 1 → spanOk op (sp.getD i (0, 0)) = true) := fun h i hi => by
            by_cases e : i = k
            · subst e; exact h
            · exact HAL.out i (by omega)
          clear hrr f0 f1
          generalize sp.getD k (0, 0) = s at *
          obtain ⟨a, z⟩ := s
          simp only at c0 c1
          by_cases q1 : a < 0
          · have HQ := Lib.hid (HNO.out (spanOk_no1 (by assumption)))
            clear HNO HYES
            generalize greatV op = g at *
            have d1 := decide_eq_true q1
            go_wp2_with fail
            go_quiet ((go_at_call 253; exact HG.out _ _))
            all_goals
              go_wp2_with fail
              go_ret
              exact ⟨by rw [HQ.out]; rfl, by show Bel w _; repeat (first | exact Bel.refl _ | exact HWR.out | refine Bel.drew ?_ | refine Bel.drewN ?_ _ | refine Bel.alloc ?_ _ | refine Bel.ext ?_ _)⟩
          by_cases q2 : z < a
          · have HQ := Lib.hid (HNO.out (spanOk_no2 (by assumption)))
            clear HNO HYES
            generalize greatV op = g at *
            have d1 := decide_eq_false q1
            have d2 := decide_eq_true q2
            go_wp2_with fail
            go_quiet ((go_at_call 253; exact HG.out _ _))
            all_goals
              go_wp2_with fail
              go_ret
              exact ⟨by rw [HQ.out]; rfl, by show Bel w _; repeat (first | exact Bel.refl _ | exact HWR.out | refine Bel.drew ?_ | refine Bel.drewN ?_ _ | refine Bel.alloc ?_ _ | refine Bel.ext ?_ _)⟩
          by_cases q3 : greatV op < z
          · have HQ := Lib.hid (HNO.out (spanOk_no3 (by assumption)))
            clear HNO HYES
            generalize greatV op = g at *
            have d1 := decide_eq_false q1
            have d2 := decide_eq_false q2
            have d3 := decide_eq_true q3
            go_wp2_with fail
            go_quiet ((go_at_call 253; exact HG.out _ _))
            all_goals
              go_wp2_with fail
              go_ret
              exact ⟨by rw [HQ.out]; rfl, by show Bel w _; repeat (first | exact Bel.refl _ | exact HWR.out | refine Bel.drew ?_ | refine Bel.drewN ?_ _ | refine Bel.alloc ?_ _ | refine Bel.ext ?_ _)⟩
          have HQ := Lib.hid (HYES.out (spanOk_yes q1 q2 q3))
          clear HNO HYES
          generalize greatV op = g at *
          have d1 := decide_eq_false q1
          have d2 := decide_eq_false q2
          have d3 := decide_eq_false q3
          go_wp2_with fail
          go_quiet ((go_at_call 253; exact HG.out _ _))
          all_goals
            go_wp2_with fail
            go_roundw
            case rel => exact ⟨k + 1, by go_num, by omega, HQ.out, HBL.out.trans (Below.mono (w := wr) (by show Bel wr _; repeat (first | exact Bel.refl _ | refine Bel.drew ?_ | refine Bel.drewN ?_ _ | refine Bel.alloc ?_ _ | refine Bel.ext ?_ _)) hzr)⟩
            case measure => simp [intOf]; omega
        · obtain rfl : k = n := by omega
          have HO : Hid (q = true) := HQE.out.symm.trans (properV_yes HOP.out (.inl rfl) (by simp only; rw [HN.out]; omega) (by simp only; rw [HN.out]; exact HAL.out))
          go_wp2_with fail
          go_ret
          exact ⟨by rw [HO.out]; rfl, HWR.out⟩
  · have h30 : (md != 0) = true := by simpa using h3
    have HMD := Lib.hid h3
    clear h3
    cases hp : permV op md with
    | false =>
      have HO : Hid (properV ⟨op, md, neg, sp⟩ = false) := properV_md HMD.out hp
      generalize properV ⟨op, md, neg, sp⟩ = q at *
      rw [hp] at HP
      clear hp
      go_enter Tryz.func202, Tryz.ntmps202
      go_wp2_with (go_at_call 252; refine (HP.out _).mono ?_; rintro e w2 ⟨rfl, hb2⟩; have k0 : w2.cell? ⟨w.heap.size, 0, none⟩ = some (.int .i64 op) := (by rw [hb2.cell (p := ⟨w.heap.size, 0, none⟩) (by simp)]; simp [go_sem]); have k3 : w2.cell? ⟨w.heap.size, 3, none⟩ = some (.slice ad n c) := (by rw [hb2.cell (p := ⟨w.heap.size, 3, none⟩) (by simp)]; simp [go_sem]); have HB2 : Hid (Below w.heap.size w w2) := ((Below.refl _ _).alloc (Nat.le_refl _) _).trans (hb2.mono (by simp)); clear hb2)
      all_goals
        go_wp2_with fail
        go_ret
        exact ⟨by rw [HO.out]; rfl, HB2.out⟩
    | true =>
      have HPT := Lib.hid hp
      rw [hp] at HP
      clear hp
      by_cases h4 : n < 1
      · have HO : Hid (properV ⟨op, md, neg, sp⟩ = false) := properV_len (by simp only; rw [HN.out]; omega)
        generalize properV ⟨op, md, neg, sp⟩ = q at *
        have h5 : (n : Int) < 1 := by omega
        go_enter Tryz.func202, Tryz.ntmps202
        go_wp2_with (go_at_call 252; refine (HP.out _).mono ?_; rintro e w2 ⟨rfl, hb2⟩; have k0 : w2.cell? ⟨w.heap.size, 0, none⟩ = some (.int .i64 op) := (by rw [hb2.cell (p := ⟨w.heap.size, 0, none⟩) (by simp)]; simp [go_sem]); have k3 : w2.cell? ⟨w.heap.size, 3, none⟩ = some (.slice ad n c) := (by rw [hb2.cell (p := ⟨w.heap.size, 3, none⟩) (by simp)]; simp [go_sem]); have HB2 : Hid (Below w.heap.size w w2) := ((Below.refl _ _).alloc (Nat.le_refl _) _).trans (hb2.mono (by simp)); clear hb2)
        all_goals
          go_wp2_with fail
          go_ret
          exact ⟨by rw [HO.out]; rfl, HB2.out⟩
      by_cases h6 : 4 < n
      · have HO : Hid (properV ⟨op, md, neg, sp⟩ = false) := properV_len (by simp only; rw [HN.out]; omega)
        generalize properV ⟨op, md, neg, sp⟩ = q at *
        have h5 : ¬ (n : Int) < 1 := by omega
        have h7 : 4 < (n : Int) := by omega
        go_enter Tryz.func202, Tryz.ntmps202
        go_wp2_with (go_at_call 252; refine (HP.out _).mono ?_; rintro e w2 ⟨rfl, hb2⟩; have k0 : w2.cell? ⟨w.heap.size, 0, none⟩ = some (.int .i64 op) := (by rw [hb2.cell (p := ⟨w.heap.size, 0, none⟩) (by simp)]; simp [go_sem]); have k3 : w2.cell? ⟨w.heap.size, 3, none⟩ = some (.slice ad n c) := (by rw [hb2.cell (p := ⟨w.heap.size, 3, none⟩) (by simp)]; simp [go_sem]); have HB2 : Hid (Below w.heap.size w w2) := ((Below.refl _ _).alloc (Nat.le_refl _) _).trans (hb2.mono (by simp)); clear hb2)
        all_goals
          go_wp2_with fail
          go_ret
          exact ⟨by rw [HO.out]; rfl, HB2.out⟩
      have h5 : ¬ (n : Int) < 1 := by omega
      have h7 : ¬ 4 < (n : Int) := by omega
      obtain ⟨q, hq⟩ : ∃ q, properV ⟨op, md, neg, sp⟩ = q := ⟨_, rfl⟩
      rw [hq]
      have HQE := Lib.hid hq
      clear hq
      go_enter Tryz.func202, Tryz.ntmps202
      go_wp2_with (go_at_call 252; refine (HP.out _).mono ?_; rintro e w2 ⟨rfl, hb2⟩; have k0 : w2.cell? ⟨w.heap.size, 0, none⟩ = some (.int .i64 op) := (by rw [hb2.cell (p := ⟨w.heap.size, 0, none⟩) (by simp)]; simp [go_sem]); have k3 : w2.cell? ⟨w.heap.size, 3, none⟩ = some (.slice ad n c) := (by rw [hb2.cell (p := ⟨w.heap.size, 3, none⟩) (by simp)]; simp [go_sem]); have HB2 : Hid (Below w.heap.size w w2) := ((Below.refl _ _).alloc (Nat.le_refl _) _).trans (hb2.mono (by simp)); clear hb2)
      all_goals
        refine wp_at_worldT ?_
        intro wb hwb
        have hb0 : wb.cell? ⟨w.heap.size, 0, none⟩ = some (.int .i64 op) := by rw [hwb]; exact k0
        have hb3 : wb.cell? ⟨w.heap.size, 3, none⟩ = some (.slice ad n c) := by rw [hwb]; exact k3
        have HBW : Hid (Below w.heap.size w wb) := by rw [hwb]; exact HB2.out
        have hwz : w.heap.size < wb.heap.size := World.block_lt_of_cell? _ _ hb0
        clear hwb
        have B0 := Lib.hid hb0
        have B3 := Lib.hid hb3
        have HRB := Lib.hid (HR.out.below HBW.out)
        go_wp2_with fail
        go_loopw [41] (fun v wr => ∃ k : Nat, v = .int .i64 (k : Int) ∧ k ≤ n ∧ (∀ i, i < k → spanOk op (sp.getD i (0, 0)) = true) ∧ Below wb.heap.size wb wr) (fun v _ => n - (intOf v).toNat)
        case atStart => exact ⟨0, rfl, Nat.zero_le _, fun i hi => absurd hi (Nat.not_lt_zero _), Below.refl _ _⟩
        case round =>
          obtain ⟨k, rfl, hkn, hal, hbl⟩ := hrel
          have HAL := Lib.hid hal
          have HBL := Lib.hid hbl
          have hzr := hbl.size
          have hwr : w.heap.size < wr.heap.size := by omega
          have HWR := Lib.hid (HBW.out.trans (hbl.mono HBW.out.size))
          have r0 : wr.cell? ⟨w.heap.size, 0, none⟩ = some (.int .i64 op) := (hbl.cell (p := ⟨w.heap.size, 0, none⟩) hwz).trans B0.out

          clear hal hbl
          by_cases hlt : k < n
          · have hrr := HRB.out.below HBL.out
            have hix := fun W => hrr.ix 92 152 Tryz.underlying92 (by kernel_rfl) (by omega) hlt c W
            have c0 : wr.cell? ⟨b, off + k * 2, none⟩ = some (f k 0) := hrr.cell k 0 hlt (by omega)
            have c1 : wr.cell? ⟨b, off + k * 2 + 1, none⟩ = some (f k 1) := hrr.cell k 1 hlt (by omega)
            obtain ⟨f0, f1⟩ := RowsOf.get HF.out (i := k) (by rw [HN.out]; exact hlt) (0, 0)
            rw [f0] at c0
            rw [f1] at c1
            have HNO : Hid (spanOk op (sp.getD k (0, 0)) = false → q = false) := fun h => HQE.out.symm.trans (properV_no (by simp only; rw [HN.out]; exact hlt) h)
            have HYES : Hid (spanOk op (sp.getD k (0, 0)) = true → ∀ i, i < k + 1 → spanOk op (sp.getD i (0, 0)) = true) := fun h i hi => by
              by_cases e : i = k
              · subst e; exact h
              · exact HAL.out i (by omega)
            clear hrr f0 f1
            generalize sp.getD k (0, 0) = s at *
            obtain ⟨a, z⟩ := s
            simp only at c0 c1
            by_cases q1 : a < 0
            · have HQ := Lib.hid (HNO.out (spanOk_no1 (by assumption)))
              clear HNO HYES
              generalize greatV op = g at *
              have d1 := decide_eq_true q1
              go_wp2_with fail
              go_quiet ((go_at_call 253; exact HG.out _ _))
              all_goals
                go_wp2_with fail
                go_ret
                exact ⟨by rw [HQ.out]; rfl, by show Bel w _; repeat (first | exact Bel.refl _ | exact HWR.out | refine Bel.drew ?_ | refine Bel.drewN ?_ _ | refine Bel.alloc ?_ _ | refine Bel.ext ?_ _)⟩
            by_cases q2 : z < a
            · have HQ := Lib.hid (HNO.out (spanOk_no2 (by assumption)))
              clear HNO HYES
              generalize greatV op = g at *
              have d1 := decide_eq_false q1
              have d2 := decide_eq_true q2
              go_wp2_with fail
              go_quiet ((go_at_call 253; exact HG.out _ _))
              all_goals
                go_wp2_with fail
                go_ret
                exact ⟨by rw [HQ.out]; rfl, by show Bel w _; repeat (first | exact Bel.refl _ | exact HWR.out | refine Bel.drew ?_ | refine Bel.drewN ?_ _ | refine Bel.alloc ?_ _ | refine Bel.ext ?_ _)⟩
            by_cases q3 : greatV op < z
            · have HQ := Lib.hid (HNO.out (spanOk_no3 (by assumption)))
              clear HNO HYES
              generalize greatV op = g at *
              have d1 := decide_eq_false q1
              have d2 := decide_eq_false q2
              have d3 := decide_eq_true q3
              go_wp2_with fail
              go_quiet ((go_at_call 253; exact HG.out _ _))
              all_goals
                go_wp2_with fail
                go_ret
                exact ⟨by rw [HQ.out]; rfl, by show Bel w _; repeat (first | exact Bel.refl _ | exact HWR.out | refine Bel.drew ?_ | refine Bel.drewN ?_ _ | refine Bel.alloc ?_ _ | refine Bel.ext ?_ _)⟩
            have HQ := Lib.hid (HYES.out (spanOk_yes q1 q2 q3))
            clear HNO HYES
            generalize greatV op = g at *
            have d1 := decide_eq_false q1
            have d2 := decide_eq_false q2
            have d3 := decide_eq_false q3
            go_wp2_with fail
            go_quiet ((go_at_call 253; exact HG.out _ _))
            all_goals
              go_wp2_with fail
              go_roundw
              case rel => exact ⟨k + 1, by go_num, by omega, HQ.out, HBL.out.trans (Below.mono (w := wr) (by show Bel wr _; repeat (first | exact Bel.refl _ | refine Bel.drew ?_ | refine Bel.drewN ?_ _ | refine Bel.alloc ?_ _ | refine Bel.ext ?_ _)) hzr)⟩
              case measure => simp [intOf]; omega
          · obtain rfl : k = n := by omega
            have HO : Hid (q = true) := HQE.out.symm.trans (properV_yes HOP.out (.inr HPT.out) (by simp only; rw [HN.out]; omega) (by simp only; rw [HN.out]; exact HAL.out))
            go_wp2_with fail
            go_ret
            exact ⟨by rw [HO.out]; rfl, HWR.out⟩
end Go.Proofs.YtmleeodfmmpdgaaGreatDoor
