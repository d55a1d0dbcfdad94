/-
  No cell of these rows narrows 'for every input' (looked for: loops, veiled, ifaces, maps, wideKeys, modest, calm, conditions, laid).
  DERIVED. THE GIVEN ROWS OF THIS SEAT. 5 by the template 'for every input the law returns true; each argument reads behind the call as it read before'; 0 by the template 'total and deterministic' (their statements: YtkodnagneblgaaaTotals.lean).
  GIVEN WITH THE SEED: the statements are not yours to turn. If you find one false, say at which input.
  Laid BY PROGRAM, IN A SANDBOX (cutbox-rows.mjs): the forced cells as the released guide's own fill.sh prints them over the translation 743ee01a59be8e78… (all of the seat's roots in one cut). By AI agents, Wed Nov 11 2026. No macro, syntax, notation, axiom, sorry.
-/
import Derived.Test.YtkodnagneblgaaaChecked
import GoSem.Claim
import GoSem.ClaimJoined
import GoSem.ClaimMapViews
import Derived.JoinedTies
import Derived.KernelRfl
namespace Go.Proofs.Ytkodnagneblgaaa
/- THE CELL 'sum', in the pinned program and in every row, IS THE sha256 OF THE DUMP (.gsa) THAT YtkodnagneblgaaaProg.lean LOADS. Nothing in Lean hashes anything: it is a label: what it is worth is what the hold of that sum in a sandbox is worth. -/
noncomputable def Try.pinned : Pinned := { name := "ytkodnagneblgaaa", sum := "743ee01a59be8e7871888248fff82e5020c49cd683408e92463f7336fbf0f40a", checked := Try.checked }
namespace Rows
def none {H : Type} : Left H := { results := [], args := [] }

/-- 'calquelaw50.GlossaryCheck': WHATEVER THE INPUT: true; the input reads as it did. -/
def glossaryCheckSpec : ChangeSpec := { name := "glossaryCheck", fn := fun _ => fun
  | [d1, d2, d3] => { results := [.lit (.bool true)], args := [d1, d2, d3] }
  | _ => none }
def glossaryCheckRow : OpenClaim := { program := "ytkodnagneblgaaa", sum := "743ee01a59be8e7871888248fff82e5020c49cd683408e92463f7336fbf0f40a", func := "calque/calquelaw50.GlossaryCheck", spec := "glossaryCheck", inPlace := ["internal/abi.NoEscape", "internal/bytealg.MakeNoZero"], unfollowed := true, recurses := true, plainKeys := false, apart := false }
def GlossaryCheckSaid : Prop := glossaryCheckRow.holds Try.pinned (OpenSpec.ofChange glossaryCheckSpec)

/-- ITS FALSE NEIGHBOUR: 'it returns false'. Refute it at one input. -/
def glossaryCheckWrong : ChangeSpec := { name := "glossaryCheck", fn := fun _ => fun
  | [d1, d2, d3] => { results := [.lit (.bool false)], args := [d1, d2, d3] }
  | _ => none }
def GlossaryCheckWrongFalsely : Prop := glossaryCheckRow.holds Try.pinned (OpenSpec.ofChange glossaryCheckWrong)

/-- 'calquelaw50.GlossaryCase': WHATEVER THE INPUT: true; the input reads as it did. -/
def glossaryCaseSpec : ChangeSpec := { name := "glossaryCase", fn := fun _ => fun
  | [d1, d2, d3] => { results := [.lit (.bool true)], args := [d1, d2, d3] }
  | _ => none }
def glossaryCaseRow : OpenClaim := { program := "ytkodnagneblgaaa", sum := "743ee01a59be8e7871888248fff82e5020c49cd683408e92463f7336fbf0f40a", func := "calque/calquelaw50.GlossaryCase", spec := "glossaryCase", inPlace := ["internal/abi.NoEscape", "internal/bytealg.MakeNoZero"], unfollowed := true, recurses := true, plainKeys := false, apart := false }
def GlossaryCaseSaid : Prop := glossaryCaseRow.holds Try.pinned (OpenSpec.ofChange glossaryCaseSpec)

/-- ITS FALSE NEIGHBOUR: 'it returns false'. Refute it at one input. -/
def glossaryCaseWrong : ChangeSpec := { name := "glossaryCase", fn := fun _ => fun
  | [d1, d2, d3] => { results := [.lit (.bool false)], args := [d1, d2, d3] }
  | _ => none }
def GlossaryCaseWrongFalsely : Prop := glossaryCaseRow.holds Try.pinned (OpenSpec.ofChange glossaryCaseWrong)

/-- 'calquelaw50.GlossaryFind': WHATEVER THE INPUT: true; the input reads as it did. -/
def glossaryFindSpec : ChangeSpec := { name := "glossaryFind", fn := fun _ => fun
  | [d1, d2] => { results := [.lit (.bool true)], args := [d1, d2] }
  | _ => none }
def glossaryFindRow : OpenClaim := { program := "ytkodnagneblgaaa", sum := "743ee01a59be8e7871888248fff82e5020c49cd683408e92463f7336fbf0f40a", func := "calque/calquelaw50.GlossaryFind", spec := "glossaryFind", inPlace := ["internal/abi.NoEscape", "internal/bytealg.MakeNoZero"], unfollowed := true, recurses := true, plainKeys := false, apart := false }
def GlossaryFindSaid : Prop := glossaryFindRow.holds Try.pinned (OpenSpec.ofChange glossaryFindSpec)

/-- ITS FALSE NEIGHBOUR: 'it returns false'. Refute it at one input. -/
def glossaryFindWrong : ChangeSpec := { name := "glossaryFind", fn := fun _ => fun
  | [d1, d2] => { results := [.lit (.bool false)], args := [d1, d2] }
  | _ => none }
def GlossaryFindWrongFalsely : Prop := glossaryFindRow.holds Try.pinned (OpenSpec.ofChange glossaryFindWrong)

/-- 'calquelaw50.GlossaryTranslated': WHATEVER THE INPUT: true; the input reads as it did. -/
def glossaryTranslatedSpec : ChangeSpec := { name := "glossaryTranslated", fn := fun _ => fun
  | [d1, d2, d3] => { results := [.lit (.bool true)], args := [d1, d2, d3] }
  | _ => none }
def glossaryTranslatedRow : OpenClaim := { program := "ytkodnagneblgaaa", sum := "743ee01a59be8e7871888248fff82e5020c49cd683408e92463f7336fbf0f40a", func := "calque/calquelaw50.GlossaryTranslated", spec := "glossaryTranslated", inPlace := ["internal/abi.NoEscape", "internal/bytealg.MakeNoZero"], unfollowed := true, recurses := true, plainKeys := false, apart := false }
def GlossaryTranslatedSaid : Prop := glossaryTranslatedRow.holds Try.pinned (OpenSpec.ofChange glossaryTranslatedSpec)

/-- ITS FALSE NEIGHBOUR: 'it returns false'. Refute it at one input. -/
def glossaryTranslatedWrong : ChangeSpec := { name := "glossaryTranslated", fn := fun _ => fun
  | [d1, d2, d3] => { results := [.lit (.bool false)], args := [d1, d2, d3] }
  | _ => none }
def GlossaryTranslatedWrongFalsely : Prop := glossaryTranslatedRow.holds Try.pinned (OpenSpec.ofChange glossaryTranslatedWrong)

/-- 'calquelaw50.GlossaryNone': WHATEVER THE INPUT: true; the input reads as it did. -/
def glossaryNoneSpec : ChangeSpec := { name := "glossaryNone", fn := fun _ => fun
  | [d1, d2, d3] => { results := [.lit (.bool true)], args := [d1, d2, d3] }
  | _ => none }
def glossaryNoneRow : OpenClaim := { program := "ytkodnagneblgaaa", sum := "743ee01a59be8e7871888248fff82e5020c49cd683408e92463f7336fbf0f40a", func := "calque/calquelaw50.GlossaryNone", spec := "glossaryNone", inPlace := ["internal/abi.NoEscape", "internal/bytealg.MakeNoZero"], unfollowed := true, recurses := true, plainKeys := false, apart := false }
def GlossaryNoneSaid : Prop := glossaryNoneRow.holds Try.pinned (OpenSpec.ofChange glossaryNoneSpec)

/-- ITS FALSE NEIGHBOUR: 'it returns false'. Refute it at one input. -/
def glossaryNoneWrong : ChangeSpec := { name := "glossaryNone", fn := fun _ => fun
  | [d1, d2, d3] => { results := [.lit (.bool false)], args := [d1, d2, d3] }
  | _ => none }
def GlossaryNoneWrongFalsely : Prop := glossaryNoneRow.holds Try.pinned (OpenSpec.ofChange glossaryNoneWrong)

/- THE SECOND FORM. 'bulk': how many values and letters a reading holds, each counted each time it is reached (what is shared counts as often as it is met; a slice's spare places count too). A statement '..UptoSaid' is the law's where the arguments, and the package variables that the reading takes, are together of bulk at most 1048576: NARROWER than '..Said'. Prove '..Said' where nothing that the law and all that it calls make is longer than what came in: it says more and counts as full. Else prove '..UptoSaid'. A law counts once. -/
mutual
def uptoBulk {H : Type} : DataW H → Nat
  | .lit (.string bytes) => bytes.length + 1
  | .lit _ => 1
  | .nil => 1
  | .ptr d => uptoBulk d + 1
  | .slice elems spare => uptoBulkAll elems + uptoBulkAll spare + 1
  | .agg parts => uptoBulkAll parts + 1
  | .iface _ d => uptoBulk d + 1
  | .map entries => uptoBulkEntries entries + 1
  | .held _ => 1
def uptoBulkAll {H : Type} : List (DataW H) → Nat
  | [] => 0
  | d :: r => uptoBulk d + uptoBulkAll r
def uptoBulkEntries {H : Type} : List (Lit × DataW H) → Nat
  | [] => 0
  | x :: r => uptoBulkEntry x + uptoBulkEntries r
def uptoBulkEntry {H : Type} : Lit × DataW H → Nat
  | (.string bytes, d) => bytes.length + uptoBulk d + 1
  | (_, d) => uptoBulk d + 1
 end
def uptoSmall : (H : Type) → List (DataW H) → Bool := fun _ ds => decide (uptoBulkAll ds ≤ 1048576)
def OpenSpec.upto (s : _root_.Go.ChangeSpec) : _root_.Go.OpenSpec := { _root_.Go.OpenSpec.ofChange s with cond := some uptoSmall }

/-- 'calquelaw50.GlossaryCheck', WHERE WHAT IT READS IS OF BULK AT MOST 1048576: true; the input reads as it did. -/
def glossaryCheckUptoRow : OpenClaim := { program := "ytkodnagneblgaaa", sum := "743ee01a59be8e7871888248fff82e5020c49cd683408e92463f7336fbf0f40a", func := "calque/calquelaw50.GlossaryCheck", spec := "glossaryCheck", inPlace := ["internal/abi.NoEscape", "internal/bytealg.MakeNoZero"], unfollowed := true, recurses := true, plainKeys := false, apart := false, narrowed := true }
def GlossaryCheckUptoSaid : Prop := glossaryCheckUptoRow.holds Try.pinned (OpenSpec.upto glossaryCheckSpec)

/-- 'calquelaw50.GlossaryCase', WHERE WHAT IT READS IS OF BULK AT MOST 1048576: true; the input reads as it did. -/
def glossaryCaseUptoRow : OpenClaim := { program := "ytkodnagneblgaaa", sum := "743ee01a59be8e7871888248fff82e5020c49cd683408e92463f7336fbf0f40a", func := "calque/calquelaw50.GlossaryCase", spec := "glossaryCase", inPlace := ["internal/abi.NoEscape", "internal/bytealg.MakeNoZero"], unfollowed := true, recurses := true, plainKeys := false, apart := false, narrowed := true }
def GlossaryCaseUptoSaid : Prop := glossaryCaseUptoRow.holds Try.pinned (OpenSpec.upto glossaryCaseSpec)

/-- 'calquelaw50.GlossaryFind', WHERE WHAT IT READS IS OF BULK AT MOST 1048576: true; the input reads as it did. -/
def glossaryFindUptoRow : OpenClaim := { program := "ytkodnagneblgaaa", sum := "743ee01a59be8e7871888248fff82e5020c49cd683408e92463f7336fbf0f40a", func := "calque/calquelaw50.GlossaryFind", spec := "glossaryFind", inPlace := ["internal/abi.NoEscape", "internal/bytealg.MakeNoZero"], unfollowed := true, recurses := true, plainKeys := false, apart := false, narrowed := true }
def GlossaryFindUptoSaid : Prop := glossaryFindUptoRow.holds Try.pinned (OpenSpec.upto glossaryFindSpec)

/-- 'calquelaw50.GlossaryTranslated', WHERE WHAT IT READS IS OF BULK AT MOST 1048576: true; the input reads as it did. -/
def glossaryTranslatedUptoRow : OpenClaim := { program := "ytkodnagneblgaaa", sum := "743ee01a59be8e7871888248fff82e5020c49cd683408e92463f7336fbf0f40a", func := "calque/calquelaw50.GlossaryTranslated", spec := "glossaryTranslated", inPlace := ["internal/abi.NoEscape", "internal/bytealg.MakeNoZero"], unfollowed := true, recurses := true, plainKeys := false, apart := false, narrowed := true }
def GlossaryTranslatedUptoSaid : Prop := glossaryTranslatedUptoRow.holds Try.pinned (OpenSpec.upto glossaryTranslatedSpec)

/-- 'calquelaw50.GlossaryNone', WHERE WHAT IT READS IS OF BULK AT MOST 1048576: true; the input reads as it did. -/
def glossaryNoneUptoRow : OpenClaim := { program := "ytkodnagneblgaaa", sum := "743ee01a59be8e7871888248fff82e5020c49cd683408e92463f7336fbf0f40a", func := "calque/calquelaw50.GlossaryNone", spec := "glossaryNone", inPlace := ["internal/abi.NoEscape", "internal/bytealg.MakeNoZero"], unfollowed := true, recurses := true, plainKeys := false, apart := false, narrowed := true }
def GlossaryNoneUptoSaid : Prop := glossaryNoneUptoRow.holds Try.pinned (OpenSpec.upto glossaryNoneSpec)

end Rows
end Go.Proofs.Ytkodnagneblgaaa
