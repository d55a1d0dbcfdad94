/- Walks: the example of the document. -/
import Derived.Test.YtadhblppeaamlaaGreatDoorS7
import Derived.Test.YtadhblppeaamlaaGreatDoorSX
namespace Go.Proofs.YtadhblppeaamlaaGreatDoor
open Go.RowKit
attribute [local go_sem] Ext.cell Ext.frozen
attribute [local go_sem ↓] Go.wp_at_zero Go.wp_at_succ

def locZ (i : Nat) : Value := (#[.string ⟨#[]⟩, .string ⟨#[]⟩, .string ⟨#[]⟩, .slice none 0 0, .slice none 0 0, .string ⟨#[]⟩, .string ⟨#[]⟩, .string ⟨#[]⟩, .string ⟨#[]⟩, .int .i64 0, .int .i64 0, .slice none 0 0, .slice none 0 0, .slice none 0 0, .slice none 0 0, .slice none 0 0] : Array Value).getD i undef
def partZ (B0 : Nat) (i : Nat) : Value := (#[.int .i64 9, .string ⟨#[]⟩, .string ⟨#[103]⟩, .string ⟨#[]⟩, .slice (some ⟨B0, 0, none⟩) 2 2, .slice none 0 0] : Array Value).getD i undef
def valZ (i : Nat) : Value := (#[.string ⟨#[103]⟩, .int .i64 1, .string ⟨#[98]⟩, .int .i64 0, .slice none 0 0] : Array Value).getD i undef
def vlZ : Vl := ⟨⟨#[103]⟩, 1, ⟨#[98]⟩, 0, []⟩
def keysZ : List ByteArray := [⟨#[97]⟩, otherB]
theorem z_first : firstK keysZ (wantV 9 (rulesV 9 [] []) vlZ.tx) = ((1 : Nat) : Int) := by decide
theorem z_suit : suitV 9 vlZ = true := by decide
theorem z_few : FewC [] := fun _ hr => absurd hr List.not_mem_nil
theorem valZ_ok (W : World) : ValC W valZ vlZ := ⟨rfl, by decide, rfl, rfl, by decide, rfl, RowsOf.nil W⟩
theorem choose_awake (B0 B2 : Nat) (w : World) (c0 : w.cell? ⟨B0, 0, none⟩ = some (.string ⟨#[97]⟩)) (c1 : w.cell? ⟨B0, 1, none⟩ = some (.slice none 0 0)) (c2 : w.cell? ⟨B0, 2, none⟩ = some (.string ⟨#[111, 116, 104, 101, 114]⟩)) (c3 : w.cell? ⟨B0, 3, none⟩ = some (.slice none 0 0))
    (v0 : w.cell? ⟨B2, 0, none⟩ = some (.string ⟨#[103]⟩)) (v1 : w.cell? ⟨B2, 1, none⟩ = some (.int .i64 1)) (v2 : w.cell? ⟨B2, 2, none⟩ = some (.string ⟨#[98]⟩)) (v3 : w.cell? ⟨B2, 3, none⟩ = some (.int .i64 0)) (v4 : w.cell? ⟨B2, 4, none⟩ = some (.slice none 0 0)) :
    Calls Tryz.prog 11 #[.agg #[.string ⟨#[]⟩, .string ⟨#[]⟩, .string ⟨#[]⟩, .slice none 0 0, .slice none 0 0, .string ⟨#[]⟩, .string ⟨#[]⟩, .string ⟨#[]⟩, .string ⟨#[]⟩, .int .i64 0, .int .i64 0, .slice none 0 0, .slice none 0 0, .slice none 0 0, .slice none 0 0, .slice none 0 0], .agg #[.int .i64 9, .string ⟨#[]⟩, .string ⟨#[103]⟩, .string ⟨#[]⟩, .slice (some ⟨B0, 0, none⟩) 2 2, .slice none 0 0], .slice (some ⟨B2, 0, none⟩) 1 1] w fun e w' => e = .returned (.tuple #[.int .i64 1, .int .i64 0]) ∧ Below w.heap.size w w' := by
  have hb : B2 < w.heap.size := World.block_lt_of_cell? _ _ v0
  exact choose_yes locZ (partZ B0) valZ [] [] 9 ⟨#[103]⟩ keysZ vlZ (.slice (some ⟨B2, 0, none⟩) 1 1) 1 w ⟨RulesAt.nil w, RulesAt.nil w⟩ rfl rfl
    ⟨some ⟨B0, 0, none⟩, 2, fun i j => (#[#[.string ⟨#[97]⟩, .slice none 0 0], #[.string ⟨#[111, 116, 104, 101, 114]⟩, .slice none 0 0]] : Array (Array Value)).getD i #[] |>.getD j undef, B0, 0, rfl, ⟨by decide, fun _ => rfl, fun i j hi hj => by
      have hi : i < 2 := hi
      rcases (by omega : i = 0 ∨ i = 1) with h | h <;> subst h <;> rcases (by omega : j = 0 ∨ j = 1) with h | h <;> subst h
      · exact c0
      · exact c1
      · exact c2
      · exact c3⟩, (fun h => by cases h), by decide, by decide, fun i x hx => by
      match i, hx with
      | 0, hx => cases hx; exact ⟨rfl, none, 0, 0, rfl⟩
      | 1, hx => cases hx; exact ⟨rfl, none, 0, 0, rfl⟩⟩
    (by decide) (fun W hbW => (get_one B2 ⟨#[103]⟩ ⟨#[98]⟩ 1 0 W ((hbW.cell (p := ⟨B2, 0, none⟩) hb).trans v0) ((hbW.cell (p := ⟨B2, 1, none⟩) hb).trans v1) ((hbW.cell (p := ⟨B2, 2, none⟩) hb).trans v2) ((hbW.cell (p := ⟨B2, 3, none⟩) hb).trans v3) ((hbW.cell (p := ⟨B2, 4, none⟩) hb).trans v4)).mono fun _ w' h => ⟨h.1, h.2, valZ_ok w'⟩) z_few z_few (by decide)
    (by decide) (by decide) z_suit z_first
theorem awake31_any (w : World) : Calls Tryz.prog 9 #[] w fun e w' => e = .returned (.bool true) ∧ Below w.heap.size w w' := by
  have HC := Lib.hid choose_awake
  go_enter Tryz.func9, Tryz.ntmps9
  go_wp2_with fail
  refine (HC.out _ _ _ ?_ ?_ ?_ ?_ ?_ ?_ ?_ ?_ ?_).mono ?_
  iterate 9 (· simp [go_sem])
  rintro e w' ⟨rfl, hb⟩
  have HB : Hid (Below w.heap.size w w') := Below.trans (by show Bel w _; repeat (first | exact Bel.refl _ | refine Bel.alloc ?_ _)) (hb.mono (by simp; omega))
  clear hb
  go_wp2_with fail
  go_ret
  exact ⟨rfl, HB.out⟩
end Go.Proofs.YtadhblppeaamlaaGreatDoor
