/-
  No cell of these rows narrows 'for every input' (looked for: loops, veiled, ifaces, maps, wideKeys, modest, calm, conditions, laid).
  DERIVED. THE GIVEN ROWS OF THIS SEAT. 6 by the template 'for every input the law returns true; each argument reads behind the call as it read before'; 0 by the template 'total and deterministic' (their statements: YtboojpmahfjaoaaTotals.lean).
  GIVEN WITH THE SEED: the statements are not yours to turn. If you find one false, say at which input.
  Laid BY PROGRAM, IN A SANDBOX (cutbox-rows.mjs): the forced cells as the released guide's own fill.sh prints them over the translation adf8f557b46f0ffb… (all of the seat's roots in one cut). By AI agents, Wed Nov 11 2026. No macro, syntax, notation, axiom, sorry.
-/
import Derived.Test.YtboojpmahfjaoaaChecked
import GoSem.Claim
import GoSem.ClaimJoined
import GoSem.ClaimMapViews
import Derived.JoinedTies
import Derived.KernelRfl
namespace Go.Proofs.Ytboojpmahfjaoaa
/- THE CELL 'sum', in the pinned program and in every row, IS THE sha256 OF THE DUMP (.gsa) THAT YtboojpmahfjaoaaProg.lean LOADS. Nothing in Lean hashes anything: it is a label: what it is worth is what the hold of that sum in a sandbox is worth. -/
noncomputable def Try.pinned : Pinned := { name := "ytboojpmahfjaoaa", sum := "adf8f557b46f0ffbb943d32b018d8e88f081afb96f01acb115b5f40200edc6e9", checked := Try.checked }
namespace Rows
def none {H : Type} : Left H := { results := [], args := [] }

/-- 'calquelaw53.HashBuild': WHATEVER THE INPUT: true; the input reads as it did. -/
def hashBuildSpec : ChangeSpec := { name := "hashBuild", fn := fun _ => fun
  | [d] => { results := [.lit (.bool true)], args := [d] }
  | _ => none }
def hashBuildRow : OpenClaim := { program := "ytboojpmahfjaoaa", sum := "adf8f557b46f0ffbb943d32b018d8e88f081afb96f01acb115b5f40200edc6e9", func := "calque/calquelaw53.HashBuild", spec := "hashBuild", unfollowed := true, recurses := true, apart := false }
def HashBuildSaid : Prop := hashBuildRow.holds Try.pinned (OpenSpec.ofChange hashBuildSpec)

/-- ITS FALSE NEIGHBOUR: 'it returns false'. Refute it at one input. -/
def hashBuildWrong : ChangeSpec := { name := "hashBuild", fn := fun _ => fun
  | [d] => { results := [.lit (.bool false)], args := [d] }
  | _ => none }
def HashBuildWrongFalsely : Prop := hashBuildRow.holds Try.pinned (OpenSpec.ofChange hashBuildWrong)

/-- 'calquelaw53.HashSlot': WHATEVER THE INPUT: true; the input reads as it did. -/
def hashSlotSpec : ChangeSpec := { name := "hashSlot", fn := fun _ => fun
  | [d1, d2] => { results := [.lit (.bool true)], args := [d1, d2] }
  | _ => none }
def hashSlotRow : OpenClaim := { program := "ytboojpmahfjaoaa", sum := "adf8f557b46f0ffbb943d32b018d8e88f081afb96f01acb115b5f40200edc6e9", func := "calque/calquelaw53.HashSlot", spec := "hashSlot", unfollowed := true, recurses := true, apart := false }
def HashSlotSaid : Prop := hashSlotRow.holds Try.pinned (OpenSpec.ofChange hashSlotSpec)

/-- ITS FALSE NEIGHBOUR: 'it returns false'. Refute it at one input. -/
def hashSlotWrong : ChangeSpec := { name := "hashSlot", fn := fun _ => fun
  | [d1, d2] => { results := [.lit (.bool false)], args := [d1, d2] }
  | _ => none }
def HashSlotWrongFalsely : Prop := hashSlotRow.holds Try.pinned (OpenSpec.ofChange hashSlotWrong)

/-- 'calquelaw53.HashCheck': WHATEVER THE INPUT: true; the input reads as it did. -/
def hashCheckSpec : ChangeSpec := { name := "hashCheck", fn := fun _ => fun
  | [d1, d2] => { results := [.lit (.bool true)], args := [d1, d2] }
  | _ => none }
def hashCheckRow : OpenClaim := { program := "ytboojpmahfjaoaa", sum := "adf8f557b46f0ffbb943d32b018d8e88f081afb96f01acb115b5f40200edc6e9", func := "calque/calquelaw53.HashCheck", spec := "hashCheck", unfollowed := true, recurses := true, apart := false }
def HashCheckSaid : Prop := hashCheckRow.holds Try.pinned (OpenSpec.ofChange hashCheckSpec)

/-- ITS FALSE NEIGHBOUR: 'it returns false'. Refute it at one input. -/
def hashCheckWrong : ChangeSpec := { name := "hashCheck", fn := fun _ => fun
  | [d1, d2] => { results := [.lit (.bool false)], args := [d1, d2] }
  | _ => none }
def HashCheckWrongFalsely : Prop := hashCheckRow.holds Try.pinned (OpenSpec.ofChange hashCheckWrong)

/-- 'calquelaw53.HashPerfect': WHATEVER THE INPUT: true; the input reads as it did. -/
def hashPerfectSpec : ChangeSpec := { name := "hashPerfect", fn := fun _ => fun
  | [d] => { results := [.lit (.bool true)], args := [d] }
  | _ => none }
def hashPerfectRow : OpenClaim := { program := "ytboojpmahfjaoaa", sum := "adf8f557b46f0ffbb943d32b018d8e88f081afb96f01acb115b5f40200edc6e9", func := "calque/calquelaw53.HashPerfect", spec := "hashPerfect", unfollowed := true, recurses := true, apart := false }
def HashPerfectSaid : Prop := hashPerfectRow.holds Try.pinned (OpenSpec.ofChange hashPerfectSpec)

/-- ITS FALSE NEIGHBOUR: 'it returns false'. Refute it at one input. -/
def hashPerfectWrong : ChangeSpec := { name := "hashPerfect", fn := fun _ => fun
  | [d] => { results := [.lit (.bool false)], args := [d] }
  | _ => none }
def HashPerfectWrongFalsely : Prop := hashPerfectRow.holds Try.pinned (OpenSpec.ofChange hashPerfectWrong)

/-- 'calquelaw53.HashOrder': WHATEVER THE INPUT: true; the input reads as it did. -/
def hashOrderSpec : ChangeSpec := { name := "hashOrder", fn := fun _ => fun
  | [d1, d2] => { results := [.lit (.bool true)], args := [d1, d2] }
  | _ => none }
def hashOrderRow : OpenClaim := { program := "ytboojpmahfjaoaa", sum := "adf8f557b46f0ffbb943d32b018d8e88f081afb96f01acb115b5f40200edc6e9", func := "calque/calquelaw53.HashOrder", spec := "hashOrder", unfollowed := true, recurses := true, apart := false }
def HashOrderSaid : Prop := hashOrderRow.holds Try.pinned (OpenSpec.ofChange hashOrderSpec)

/-- ITS FALSE NEIGHBOUR: 'it returns false'. Refute it at one input. -/
def hashOrderWrong : ChangeSpec := { name := "hashOrder", fn := fun _ => fun
  | [d1, d2] => { results := [.lit (.bool false)], args := [d1, d2] }
  | _ => none }
def HashOrderWrongFalsely : Prop := hashOrderRow.holds Try.pinned (OpenSpec.ofChange hashOrderWrong)

/-- 'calquelaw53.HashFewer': WHATEVER THE INPUT: true; the input reads as it did. -/
def hashFewerSpec : ChangeSpec := { name := "hashFewer", fn := fun _ => fun
  | [d1, d2] => { results := [.lit (.bool true)], args := [d1, d2] }
  | _ => none }
def hashFewerRow : OpenClaim := { program := "ytboojpmahfjaoaa", sum := "adf8f557b46f0ffbb943d32b018d8e88f081afb96f01acb115b5f40200edc6e9", func := "calque/calquelaw53.HashFewer", spec := "hashFewer", unfollowed := true, recurses := true, apart := false }
def HashFewerSaid : Prop := hashFewerRow.holds Try.pinned (OpenSpec.ofChange hashFewerSpec)

/-- ITS FALSE NEIGHBOUR: 'it returns false'. Refute it at one input. -/
def hashFewerWrong : ChangeSpec := { name := "hashFewer", fn := fun _ => fun
  | [d1, d2] => { results := [.lit (.bool false)], args := [d1, d2] }
  | _ => none }
def HashFewerWrongFalsely : Prop := hashFewerRow.holds Try.pinned (OpenSpec.ofChange hashFewerWrong)

/- THE SECOND FORM. 'bulk': how many values and letters a reading holds, each counted each time it is reached (what is shared counts as often as it is met; a slice's spare places count too). A statement '..UptoSaid' is the law's where the arguments, and the package variables that the reading takes, are together of bulk at most 1048576: NARROWER than '..Said'. Prove '..Said' where nothing that the law and all that it calls make is longer than what came in: it says more and counts as full. Else prove '..UptoSaid'. A law counts once. -/
mutual
def uptoBulk {H : Type} : DataW H → Nat
  | .lit (.string bytes) => bytes.length + 1
  | .lit _ => 1
  | .nil => 1
  | .ptr d => uptoBulk d + 1
  | .slice elems spare => uptoBulkAll elems + uptoBulkAll spare + 1
  | .agg parts => uptoBulkAll parts + 1
  | .iface _ d => uptoBulk d + 1
  | .map entries => uptoBulkEntries entries + 1
  | .held _ => 1
def uptoBulkAll {H : Type} : List (DataW H) → Nat
  | [] => 0
  | d :: r => uptoBulk d + uptoBulkAll r
def uptoBulkEntries {H : Type} : List (Lit × DataW H) → Nat
  | [] => 0
  | x :: r => uptoBulkEntry x + uptoBulkEntries r
def uptoBulkEntry {H : Type} : Lit × DataW H → Nat
  | (.string bytes, d) => bytes.length + uptoBulk d + 1
  | (_, d) => uptoBulk d + 1
 end
def uptoSmall : (H : Type) → List (DataW H) → Bool := fun _ ds => decide (uptoBulkAll ds ≤ 1048576)
def OpenSpec.upto (s : _root_.Go.ChangeSpec) : _root_.Go.OpenSpec := { _root_.Go.OpenSpec.ofChange s with cond := some uptoSmall }

/-- 'calquelaw53.HashBuild', WHERE WHAT IT READS IS OF BULK AT MOST 1048576: true; the input reads as it did. -/
def hashBuildUptoRow : OpenClaim := { program := "ytboojpmahfjaoaa", sum := "adf8f557b46f0ffbb943d32b018d8e88f081afb96f01acb115b5f40200edc6e9", func := "calque/calquelaw53.HashBuild", spec := "hashBuild", unfollowed := true, recurses := true, apart := false, narrowed := true }
def HashBuildUptoSaid : Prop := hashBuildUptoRow.holds Try.pinned (OpenSpec.upto hashBuildSpec)

/-- 'calquelaw53.HashSlot', WHERE WHAT IT READS IS OF BULK AT MOST 1048576: true; the input reads as it did. -/
def hashSlotUptoRow : OpenClaim := { program := "ytboojpmahfjaoaa", sum := "adf8f557b46f0ffbb943d32b018d8e88f081afb96f01acb115b5f40200edc6e9", func := "calque/calquelaw53.HashSlot", spec := "hashSlot", unfollowed := true, recurses := true, apart := false, narrowed := true }
def HashSlotUptoSaid : Prop := hashSlotUptoRow.holds Try.pinned (OpenSpec.upto hashSlotSpec)

/-- 'calquelaw53.HashCheck', WHERE WHAT IT READS IS OF BULK AT MOST 1048576: true; the input reads as it did. -/
def hashCheckUptoRow : OpenClaim := { program := "ytboojpmahfjaoaa", sum := "adf8f557b46f0ffbb943d32b018d8e88f081afb96f01acb115b5f40200edc6e9", func := "calque/calquelaw53.HashCheck", spec := "hashCheck", unfollowed := true, recurses := true, apart := false, narrowed := true }
def HashCheckUptoSaid : Prop := hashCheckUptoRow.holds Try.pinned (OpenSpec.upto hashCheckSpec)

/-- 'calquelaw53.HashPerfect', WHERE WHAT IT READS IS OF BULK AT MOST 1048576: true; the input reads as it did. -/
def hashPerfectUptoRow : OpenClaim := { program := "ytboojpmahfjaoaa", sum := "adf8f557b46f0ffbb943d32b018d8e88f081afb96f01acb115b5f40200edc6e9", func := "calque/calquelaw53.HashPerfect", spec := "hashPerfect", unfollowed := true, recurses := true, apart := false, narrowed := true }
def HashPerfectUptoSaid : Prop := hashPerfectUptoRow.holds Try.pinned (OpenSpec.upto hashPerfectSpec)

/-- 'calquelaw53.HashOrder', WHERE WHAT IT READS IS OF BULK AT MOST 1048576: true; the input reads as it did. -/
def hashOrderUptoRow : OpenClaim := { program := "ytboojpmahfjaoaa", sum := "adf8f557b46f0ffbb943d32b018d8e88f081afb96f01acb115b5f40200edc6e9", func := "calque/calquelaw53.HashOrder", spec := "hashOrder", unfollowed := true, recurses := true, apart := false, narrowed := true }
def HashOrderUptoSaid : Prop := hashOrderUptoRow.holds Try.pinned (OpenSpec.upto hashOrderSpec)

/-- 'calquelaw53.HashFewer', WHERE WHAT IT READS IS OF BULK AT MOST 1048576: true; the input reads as it did. -/
def hashFewerUptoRow : OpenClaim := { program := "ytboojpmahfjaoaa", sum := "adf8f557b46f0ffbb943d32b018d8e88f081afb96f01acb115b5f40200edc6e9", func := "calque/calquelaw53.HashFewer", spec := "hashFewer", unfollowed := true, recurses := true, apart := false, narrowed := true }
def HashFewerUptoSaid : Prop := hashFewerUptoRow.holds Try.pinned (OpenSpec.upto hashFewerSpec)

end Rows
end Go.Proofs.Ytboojpmahfjaoaa
