/- Walk: the reference's Same of tokens. -/
import Derived.Test.YtmleeodfmmpdgaaGreatDoorQ10
import Derived.Deep.QuietTactic
import Derived.BigQuiet
import Derived.Test.YtmleeodfmmpdgaaGreatDoorRows
import Derived.Lib.LaidU8T
import Derived.Shelf.Vars
import Derived.Test.YtmleeodfmmpdgaaGreatDoorQ00
import Derived.Test.YtmleeodfmmpdgaaGreatDoorQ09
import Derived.Lib.LaidTab
namespace Go.Proofs.YtmleeodfmmpdgaaGreatDoor
open Go.RowKit
attribute [local go_sem] Ext.cell Ext.frozen
attribute [local go_sem ↓] Go.wp_at_zero Go.wp_at_succ
abbrev Tz := Int × List UInt8 × Int
def tz0 : Tz := (0, [], 0)
structure TzAt (w : World) (ad : Option Addr) (n : Nat) (xs : List Tz) (b off : Nat) : Prop where
  len : xs.length = n
  max : n ≤ 10000000000000
  adr : n ≠ 0 → ad = some ⟨b, off, none⟩
  c0 : ∀ i, i < n → w.cell? ⟨b, off + i * 3, none⟩ = some (.int .i64 (xs.getD i tz0).1)
  c1 : ∀ i, i < n → w.cell? ⟨b, off + i * 3 + 1, none⟩ = some (.string (bs (xs.getD i tz0).2.1))
  c2 : ∀ i, i < n → w.cell? ⟨b, off + i * 3 + 2, none⟩ = some (.int .i64 (xs.getD i tz0).2.2)
def zOf (x : Nx) : Tz := ((x.1.1 : Int), x.1.2.1, (x.1.2.2 : Int))
theorem zOf_getD (xs : List Nx) {i : Nat} (h : i < xs.length) : (xs.map zOf).getD i tz0 = zOf (xs.getD i (badN 0 0)) := by
  simp [List.getD, List.getElem?_eq_getElem h]
theorem TkAt.z {w : World} {ad : Option Addr} {n : Nat} {xs : List Nx} {b off : Nat} (h : TkAt w ad n xs b off) : TzAt w ad n (xs.map zOf) b off :=
  ⟨by rw [List.length_map]; exact h.len, by have := h.max; omega, h.adr, fun i hi => by rw [zOf_getD _ (by rw [h.len]; exact hi)]; exact h.c0 i hi, fun i hi => by rw [zOf_getD _ (by rw [h.len]; exact hi)]; exact h.c1 i hi, fun i hi => by rw [zOf_getD _ (by rw [h.len]; exact hi)]; exact h.c2 i hi⟩
theorem TzAt.ixT {P : Program} {w : World} {ad : Option Addr} {n : Nat} {xs} {b off : Nat} (h : TzAt w ad n xs b off) (T E : TypeId) (hT : P.underlying T = some (.slice E)) (hE : P.cellsOf E = 3) {i : Nat} (hi : i < n) (c : Nat) (W : World) :
    (Instr.indexAt T (.slice ad n c) (.int .i64 (i : Int))).run P W = .ok (.pointer (some ⟨b, off + i * 3, none⟩)) W := by
  rw [h.adr (by omega)]
  have hel : P.elem T = E := by simp [Program.elem, hT]
  rw [run_indexAt_slice W T _ n c .i64 i (by rw [hel]; exact hT), hel, if_pos (by omega)]
  have hs : (sizeOf E).run P W = .ok 3 W := by
    unfold Program.cellsOf at hE
    cases hi' : P.info? E with
    | none => simp [hi'] at hE
    | some q => simp [hi'] at hE; simp [sizeOf, typeInfo, hi', hE]
  rw [hs]
  simp [Result.andThen, Addr.add]
theorem TzAt.below {w w' : World} {ad : Option Addr} {n : Nat} {xs} {b off : Nat} (h : TzAt w ad n xs b off) (hb : Below w.heap.size w w') : TzAt w' ad n xs b off :=
  ⟨h.len, h.max, h.adr, fun i hi => (hb.cell (p := ⟨b, off + i * 3, none⟩) (World.block_lt_of_cell? w _ (h.c0 i hi))).trans (h.c0 i hi),
    fun i hi => (hb.cell (p := ⟨b, off + i * 3 + 1, none⟩) (World.block_lt_of_cell? w _ (h.c1 i hi))).trans (h.c1 i hi),
    fun i hi => (hb.cell (p := ⟨b, off + i * 3 + 2, none⟩) (World.block_lt_of_cell? w _ (h.c2 i hi))).trans (h.c2 i hi)⟩
def isWordV (l : List UInt8) : Bool := decide (l ≠ []) && decide (l.length ≤ 40) && decide (wordLen l = l.length)
def isTextV (l : List UInt8) : Bool := decide (l.length ≤ 400) && Lib.validD l
set_option maxRecDepth 20000 in
theorem istext_any (l : List UInt8) (hl : l.length ≤ 200000) (w : World) (hT : TabU w) : Calls Tryz.prog 146 #[.string (bs l)] w fun e w' => e = .returned (.bool (isTextV l)) ∧ Below w.heap.size w w' := by
  have HV := Lib.hid (valid_any l hl w hT)
  have hsz : (bs l).size = l.length := bs_size l
  by_cases h4 : l.length ≤ 400
  · have g4 : ((bs l).size : Int) ≤ 400 := by omega
    have HR : Hid (isTextV l = Lib.validD l) := by unfold Hid isTextV; rw [decide_eq_true h4]; rfl
    clear hsz
    generalize bs l = S at *
    generalize Lib.validD l = V at *
    go_enter Tryz.func146, Tryz.ntmps146
    go_wp2_with fail
    refine HV.out.mono ?_
    rintro e w2 ⟨rfl, hb⟩
    have HB := Lib.hid hb
    clear hb
    go_wp2_with fail
    go_ret
    exact ⟨by rw [HR.out]; rfl, HB.out⟩
  · have g4 : ¬ ((bs l).size : Int) ≤ 400 := by omega
    have HR : Hid (isTextV l = false) := by unfold Hid isTextV; rw [decide_eq_false h4]; rfl
    clear hsz
    generalize bs l = S at *
    go_enter Tryz.func146, Tryz.ntmps146
    go_wp2_with fail
    go_ret
    exact ⟨by rw [HR.out]; rfl, Below.refl _ _⟩
set_option maxRecDepth 20000 in
theorem isword_any (l : List UInt8) (hl : l.length ≤ 200000) (w : World) : Calls Tryz.prog 104 #[.string (bs l)] w fun e w' => e = .returned (.bool (isWordV l)) ∧ Below w.heap.size w w' := by
  have HRN := Lib.hid (fun w => run_any l hl w)
  have hsz : (bs l).size = l.length := bs_size l
  by_cases h0 : l = []
  · have HR : Hid (isWordV l = false) := by unfold Hid isWordV; rw [decide_eq_false (fun h => h h0)]; rfl
    have hz : bs l = ⟨#[]⟩ := by rw [h0]; rfl
    have m0 : ((⟨#[]⟩ : ByteArray).toList != (⟨#[]⟩ : ByteArray).toList) = false := by simp
    rw [hz]
    clear hsz HRN
    go_enter Tryz.func104, Tryz.ntmps104
    go_wp2_with fail
    go_ret
    exact ⟨by rw [HR.out]; rfl, Below.refl _ _⟩
  · have m1 : ¬ (bs l).toList = [] := by rw [bs_toList]; exact h0
    have m0 : (bs l).toList.isEmpty = false := by rw [bs_toList]; cases l with
      | nil => exact absurd rfl h0
      | cons a r => rfl
    by_cases h4 : l.length ≤ 40
    · have g4 : ((bs l).size : Int) ≤ 40 := by omega
      by_cases h5 : wordLen l = l.length
      · have HR : Hid (isWordV l = true) := by unfold Hid isWordV; rw [decide_eq_true h0, decide_eq_true h4, decide_eq_true h5]; rfl
        have m5 : (((wordLen l : Nat) : Int) == ((bs l).size : Int)) = true := by rw [hsz, h5]; simp
        generalize wordLen l = W at *
        generalize bs l = S at *
        clear hsz h0 h4 h5
        go_enter Tryz.func104, Tryz.ntmps104
        go_wp2_with fail
        refine (HRN.out _).mono ?_
        rintro e w2 ⟨rfl, hb⟩
        have HB := Lib.hid hb
        clear hb
        go_wp2_with fail
        go_ret
        exact ⟨by rw [HR.out]; rfl, HB.out⟩
      · have HR : Hid (isWordV l = false) := by unfold Hid isWordV; rw [decide_eq_false h5, Bool.and_false]
        have m5 : (((wordLen l : Nat) : Int) == ((bs l).size : Int)) = false := by rw [hsz, beq_eq_false_iff_ne]; omega
        generalize wordLen l = W at *
        generalize bs l = S at *
        clear hsz h0 h4 h5
        go_enter Tryz.func104, Tryz.ntmps104
        go_wp2_with fail
        refine (HRN.out _).mono ?_
        rintro e w2 ⟨rfl, hb⟩
        have HB := Lib.hid hb
        clear hb
        go_wp2_with fail
        go_ret
        exact ⟨by rw [HR.out]; rfl, HB.out⟩
    · have g4 : ¬ ((bs l).size : Int) ≤ 40 := by omega
      have HR : Hid (isWordV l = false) := by unfold Hid isWordV; rw [decide_eq_false h4, Bool.and_false]; rfl
      generalize bs l = S at *
      clear hsz h0 h4 HRN
      go_enter Tryz.func104, Tryz.ntmps104
      go_wp2_with fail
      go_ret
      exact ⟨by rw [HR.out]; rfl, Below.refl _ _⟩
end Go.Proofs.YtmleeodfmmpdgaaGreatDoor
namespace Go.Proofs.YtmleeodfmmpdgaaGreatDoor
open Go.RowKit Go.Lib
theorem first_data : (Rows.laid_unicode_utf8_first : DataW Unit) = firstData := by kernel_rfl
theorem accept_data : (Rows.laid_unicode_utf8_acceptRanges : DataW Unit) = acceptData := by kernel_rfl
theorem u8extra : U8Extra Tryz.prog Tryz.lays196_ren := ⟨by kernel_rfl, by kernel_rfl, by kernel_rfl, by kernel_rfl, by kernel_rfl, by kernel_rfl, by kernel_rfl⟩
theorem maxLen_of11 {W : World} (h : W.ShapedOpen Tryz.prog) : MaxLen W :=
  cell_of_shapedOpen_int (g := 1) (t := 3) (k := .i64) (zero := #[.int .i64 0]) h (by decide +kernel) (by kernel_rfl) rfl (by kernel_rfl) (by kernel_rfl) Tryz.underlying3
end Go.Proofs.YtmleeodfmmpdgaaGreatDoor
namespace Go.Proofs.YtmleeodfmmpdgaaGreatDoor
open Go.ChangeShapes Go.WideShapes Go.RowKit
section
variable {H : Type} {enc : TypeId × Value → H} {w : World} {base : Nat} {spare : Nat → Bool} {held : Bool}
end
theorem tabU_mem {W : World} {laid : List (String × DataW Unit)} (hall : (laid.all fun x => x.2.handleName?.isNone) = true) (hA : ("unicode/utf8.acceptRanges", Rows.laid_unicode_utf8_acceptRanges) ∈ laid) (hF : ("unicode/utf8.first", Rows.laid_unicode_utf8_first) ∈ laid)
    (h : laidMetH Tryz.prog laid W) : TabU W := by
  rw [MakeChecks.laidMetH_plain _ _ _ hall] at h
  have h2 := Lib.laidMet.reads h hA
  have h1 := Lib.laidMet.reads h hF
  rw [first_data] at h1
  rw [accept_data] at h2
  exact utf8Tabs_of_readsT (U8Types.of196 Tryz.lays196) u8extra h1 h2
end Go.Proofs.YtmleeodfmmpdgaaGreatDoor
namespace Go.Proofs.YtmleeodfmmpdgaaGreatDoor
open Go.RowKit
theorem laid_tail {P : Program} {W : World} {x : String × DataW Unit} {rest : List (String × DataW Unit)} {ps} (h : DataW.LaidVars P W (x :: rest) ps) : ∃ q, DataW.LaidVars P W rest q := by
  obtain ⟨_, _, _, _, p, q, _, _, _, _, h1, _⟩ := h
  exact ⟨q, h1⟩
theorem tab_at {P : Program} {W : World} {name : String} {k : IntKind} {zs : List Int} {rest : List (String × DataW Unit)} {g : Nat} {t e : TypeId} {n : Nat} {ps}
    (hg : P.globalNamed name = some g) (hty : (P.globals[g]?).map (·.type) = some t) (ht : P.underlying t = some (.array n e)) (he : P.underlying e = some (.int k)) (hce : P.cellsOf e = 1) (hct : P.cellsOf t = n)
    (h : DataW.LaidVars P W ((name, Lib.tabData k zs) :: rest) ps) : Lib.TabIs P W name k zs := by
  obtain ⟨g', t', cs, fuel, p, q, hg', ht', hvar, hd, _, _⟩ := h
  obtain rfl := Option.some.inj (hg.symm.trans hg')
  obtain rfl := Option.some.inj (hty.symm.trans ht')
  unfold Lib.TabIs
  rw [hvar, ← Lib.cells_of_tab ht he hce hct hd]
theorem pow_data : (Rows.laid_internal_strconv_uint64pow10 : DataW Unit) = Lib.tabData .u64 Lib.pow10Tab := by kernel_rfl
theorem de_data : (Rows.laid_math_bits_deBruijn64tab : DataW Unit) = Lib.tabData .u8 deTab := by kernel_rfl
theorem tabs_of {W : World} {rest : List (String × DataW Unit)} {x : String × DataW Unit} (hall : ((x :: ("math/bits.deBruijn64tab", Rows.laid_math_bits_deBruijn64tab) :: ("internal/strconv.uint64pow10", Rows.laid_internal_strconv_uint64pow10) :: rest).all fun x => x.2.handleName?.isNone) = true)
    (h : laidMetH Tryz.prog (x :: ("math/bits.deBruijn64tab", Rows.laid_math_bits_deBruijn64tab) :: ("internal/strconv.uint64pow10", Rows.laid_internal_strconv_uint64pow10) :: rest) W) : TabDeB W ∧ TabTen W := by
  rw [MakeChecks.laidMetH_plain _ _ _ hall] at h
  obtain ⟨ps, h1, _⟩ := h
  obtain ⟨q1, h2⟩ := laid_tail h1
  obtain ⟨q2, h3⟩ := laid_tail h2
  rw [de_data] at h2
  rw [pow_data] at h3
  exact ⟨Lib.tabBelow_of_tabIs (tab_at (g := (Tryz.prog.globalNamed "math/bits.deBruijn64tab").getD 0) (t := ((Tryz.prog.globals[(Tryz.prog.globalNamed "math/bits.deBruijn64tab").getD 0]?).map (·.type)).getD 0) (n := 64) (e := 5) (by kernel_rfl) (by kernel_rfl) (by kernel_rfl) Tryz.underlying5 (by kernel_rfl) (by kernel_rfl) h2),
    Lib.tabBelow_of_tabIs (tab_at (g := (Tryz.prog.globalNamed "internal/strconv.uint64pow10").getD 0) (t := ((Tryz.prog.globals[(Tryz.prog.globalNamed "internal/strconv.uint64pow10").getD 0]?).map (·.type)).getD 0) (n := 20) (e := 229) (by kernel_rfl) (by kernel_rfl) (by kernel_rfl) Tryz.underlying229 (by kernel_rfl) (by kernel_rfl) h3)⟩

instance : LawfulBEq ByteArray where
  eq_of_beq {a b} h := by
    have h : (a.data == b.data) = true := h
    have := eq_of_beq h
    cases a; cases b; simp_all
  rfl {a} := by
    show (a.data == a.data) = true
    exact beq_self_eq_true _
structure Rel where
  op : Int
  md : Int
  neg : Bool
  sp : List (Int × Int)
def RowsOf {α : Type} (k : Nat) (C : World → (Nat → Value) → α → Prop) (w : World) (v : Value) (l : List α) : Prop :=
  ∃ ad c f b off, v = .slice ad l.length c ∧ Rw w ad l.length k f b off ∧ (ad = none → c = 0) ∧ l.length ≤ c ∧ l.length ≤ 140737488351232 ∧ ∀ i x, l[i]? = some x → C w (f i) x
theorem RowsOf.map {α : Type} {k : Nat} {C : World → (Nat → Value) → α → Prop} {w w' : World} {v : Value} {l : List α} (h : RowsOf k C w v l) (hb : Below w.heap.size w w') (hC : ∀ x a, C w x a → C w' x a) : RowsOf k C w' v l := by
  obtain ⟨ad, c, f, b, off, h1, h2, h3, h4, h5, h6⟩ := h
  exact ⟨ad, c, f, b, off, h1, h2.below hb, h3, h4, h5, fun i x hx => hC _ _ (h6 i x hx)⟩
def SpanC (_ : World) (x : Nat → Value) (s : Int × Int) : Prop := x 0 = .int .i64 s.1 ∧ x 1 = .int .i64 s.2
def RelC (w : World) (x : Nat → Value) (r : Rel) : Prop := x 0 = .int .i64 r.op ∧ x 1 = .int .i64 r.md ∧ x 2 = .bool r.neg ∧ RowsOf 2 SpanC w (x 3) r.sp
def RelsC (w : World) (x : Nat → Value) (l : List Rel) : Prop := RowsOf 4 RelC w (x 0) l
def CondAt (w : World) (v : Value) (c : List (List Rel)) : Prop := RowsOf 1 RelsC w v c
def RuleC (w : World) (x : Nat → Value) (r : ByteArray × List (List Rel)) : Prop := x 0 = .string r.1 ∧ CondAt w (x 1) r.2
def RulesAt (w : World) (v : Value) (l : List (ByteArray × List (List Rel))) : Prop := RowsOf 2 RuleC w v l
theorem RelC.below {w w' : World} {x : Nat → Value} {r : Rel} (h : RelC w x r) (hb : Below w.heap.size w w') : RelC w' x r := ⟨h.1, h.2.1, h.2.2.1, h.2.2.2.map hb fun _ _ h => h⟩
theorem RelsC.below {w w' : World} {x : Nat → Value} {l : List Rel} (h : RelsC w x l) (hb : Below w.heap.size w w') : RelsC w' x l := RowsOf.map h hb fun _ _ h => h.below hb
theorem CondAt.below {w w' : World} {v : Value} {c : List (List Rel)} (h : CondAt w v c) (hb : Below w.heap.size w w') : CondAt w' v c := RowsOf.map h hb fun _ _ h => h.below hb
theorem RuleC.below {w w' : World} {x : Nat → Value} {r : ByteArray × List (List Rel)} (h : RuleC w x r) (hb : Below w.heap.size w w') : RuleC w' x r := ⟨h.1, h.2.below hb⟩
theorem RulesAt.below {w w' : World} {v : Value} {l : List (ByteArray × List (List Rel))} (h : RulesAt w v l) (hb : Below w.heap.size w w') : RulesAt w' v l := RowsOf.map h hb fun _ _ h => h.below hb
def permV (op md : Int) : Bool :=
  if op = 1 ∨ op = 2 then [2, 3, 4, 5, 6, 10, 20, 25, 50, 100].contains md else if op = 5 ∨ op = 6 then [10, 100].contains md else false
def greatV (op : Int) : Int := if op = 3 ∨ op = 4 then 6 else 100
def spanOk (op : Int) (s : Int × Int) : Bool := decide (0 ≤ s.1) && decide (s.1 ≤ s.2) && decide (s.2 ≤ greatV op)
def properV (r : Rel) : Bool := decide (1 ≤ r.op) && decide (r.op ≤ 6) && (decide (r.md = 0) || permV r.op r.md) && decide (1 ≤ r.sp.length) && decide (r.sp.length ≤ 4) && r.sp.all (spanOk r.op)
def listOk (l : List Rel) : Bool := !l.isEmpty && l.all properV
def relN (c : List (List Rel)) : Nat := (c.map List.length).sum
def validC (c : List (List Rel)) : Bool := c.all listOk && !c.isEmpty && decide (relN c ≤ 6)
def otherB : ByteArray := bs [111, 116, 104, 101, 114]
theorem relN_snoc (c : List (List Rel)) (l : List Rel) : relN (c ++ [l]) = relN c + l.length := by simp [relN]
theorem relN_take {c : List (List Rel)} {k : Nat} {l : List Rel} (h : c[k]? = some l) : relN (c.take (k + 1)) = relN (c.take k) + l.length := by
  obtain ⟨hk, he⟩ := List.getElem?_eq_some_iff.1 h
  rw [List.take_succ_eq_append_getElem hk, relN_snoc, he]
end Go.Proofs.YtmleeodfmmpdgaaGreatDoor
namespace Go.Proofs.YtmleeodfmmpdgaaGreatDoor
end Go.Proofs.YtmleeodfmmpdgaaGreatDoor
namespace Go.Proofs.YtmleeodfmmpdgaaGreatDoor
open Go.RowKit

end Go.Proofs.YtmleeodfmmpdgaaGreatDoor
