/-
  No cell of these rows narrows 'for every input' (looked for: loops, veiled, ifaces, maps, wideKeys, modest, calm, conditions, laid).
  DERIVED. THE GIVEN ROWS OF THIS SEAT. 11 by the template 'for every input the law returns true; each argument reads behind the call as it read before'; 0 by the template 'total and deterministic' (their statements: YtfiiihpdekppiaaTotals.lean).
  GIVEN WITH THE SEED: the statements are not yours to turn. If you find one false, say at which input.
  Laid BY PROGRAM, IN A SANDBOX (cutbox-rows.mjs): the forced cells as the released guide's own fill.sh prints them over the translation 4040ecfebcb7cf58… (all of the seat's roots in one cut). By AI agents, Wed Nov 11 2026. No macro, syntax, notation, axiom, sorry.
-/
import Derived.Test.YtfiiihpdekppiaaChecked
import GoSem.Claim
import GoSem.ClaimJoined
import GoSem.ClaimMapViews
import Derived.JoinedTies
import Derived.KernelRfl
namespace Go.Proofs.Ytfiiihpdekppiaa
/- THE CELL 'sum', in the pinned program and in every row, IS THE sha256 OF THE DUMP (.gsa) THAT YtfiiihpdekppiaaProg.lean LOADS. Nothing in Lean hashes anything: it is a label: what it is worth is what the hold of that sum in a sandbox is worth. -/
noncomputable def Try.pinned : Pinned := { name := "ytfiiihpdekppiaa", sum := "4040ecfebcb7cf58fd911dfcad35a513983dd13e5f49e3a0f66fcce2f7678eb6", checked := Try.checked }
namespace Rows
def none {H : Type} : Left H := { results := [], args := [] }

/-- 'vellumlaw12.ShapeWalks': WHATEVER THE INPUT: true; the input reads as it did. -/
def shapeWalksSpec : ChangeSpec := { name := "shapeWalks", fn := fun _ => fun
  | [d1, d2, d3] => { results := [.lit (.bool true)], args := [d1, d2, d3] }
  | _ => none }
def shapeWalksRow : OpenClaim := { program := "ytfiiihpdekppiaa", sum := "4040ecfebcb7cf58fd911dfcad35a513983dd13e5f49e3a0f66fcce2f7678eb6", func := "vellum/vellumlaw12.ShapeWalks", spec := "shapeWalks", unfollowed := true, recurses := true, apart := false }
def ShapeWalksSaid : Prop := shapeWalksRow.holds Try.pinned (OpenSpec.ofChange shapeWalksSpec)

/-- ITS FALSE NEIGHBOUR: 'it returns false'. Refute it at one input. -/
def shapeWalksWrong : ChangeSpec := { name := "shapeWalks", fn := fun _ => fun
  | [d1, d2, d3] => { results := [.lit (.bool false)], args := [d1, d2, d3] }
  | _ => none }
def ShapeWalksWrongFalsely : Prop := shapeWalksRow.holds Try.pinned (OpenSpec.ofChange shapeWalksWrong)

/-- 'vellumlaw12.ShapeForms': WHATEVER THE INPUT: true; the input reads as it did. -/
def shapeFormsSpec : ChangeSpec := { name := "shapeForms", fn := fun _ => fun
  | [d1, d2] => { results := [.lit (.bool true)], args := [d1, d2] }
  | _ => none }
def shapeFormsRow : OpenClaim := { program := "ytfiiihpdekppiaa", sum := "4040ecfebcb7cf58fd911dfcad35a513983dd13e5f49e3a0f66fcce2f7678eb6", func := "vellum/vellumlaw12.ShapeForms", spec := "shapeForms", unfollowed := true, recurses := true, apart := false }
def ShapeFormsSaid : Prop := shapeFormsRow.holds Try.pinned (OpenSpec.ofChange shapeFormsSpec)

/-- ITS FALSE NEIGHBOUR: 'it returns false'. Refute it at one input. -/
def shapeFormsWrong : ChangeSpec := { name := "shapeForms", fn := fun _ => fun
  | [d1, d2] => { results := [.lit (.bool false)], args := [d1, d2] }
  | _ => none }
def ShapeFormsWrongFalsely : Prop := shapeFormsRow.holds Try.pinned (OpenSpec.ofChange shapeFormsWrong)

/-- 'vellumlaw12.ShapeReducible': WHATEVER THE INPUT: true; the input reads as it did. -/
def shapeReducibleSpec : ChangeSpec := { name := "shapeReducible", fn := fun _ => fun
  | [d1, d2] => { results := [.lit (.bool true)], args := [d1, d2] }
  | _ => none }
def shapeReducibleRow : OpenClaim := { program := "ytfiiihpdekppiaa", sum := "4040ecfebcb7cf58fd911dfcad35a513983dd13e5f49e3a0f66fcce2f7678eb6", func := "vellum/vellumlaw12.ShapeReducible", spec := "shapeReducible", unfollowed := true, recurses := true, apart := false }
def ShapeReducibleSaid : Prop := shapeReducibleRow.holds Try.pinned (OpenSpec.ofChange shapeReducibleSpec)

/-- ITS FALSE NEIGHBOUR: 'it returns false'. Refute it at one input. -/
def shapeReducibleWrong : ChangeSpec := { name := "shapeReducible", fn := fun _ => fun
  | [d1, d2] => { results := [.lit (.bool false)], args := [d1, d2] }
  | _ => none }
def ShapeReducibleWrongFalsely : Prop := shapeReducibleRow.holds Try.pinned (OpenSpec.ofChange shapeReducibleWrong)

/-- 'vellumlaw12.ShapeHeads': WHATEVER THE INPUT: true; the input reads as it did. -/
def shapeHeadsSpec : ChangeSpec := { name := "shapeHeads", fn := fun _ => fun
  | [d] => { results := [.lit (.bool true)], args := [d] }
  | _ => none }
def shapeHeadsRow : OpenClaim := { program := "ytfiiihpdekppiaa", sum := "4040ecfebcb7cf58fd911dfcad35a513983dd13e5f49e3a0f66fcce2f7678eb6", func := "vellum/vellumlaw12.ShapeHeads", spec := "shapeHeads", unfollowed := true, recurses := true, apart := false }
def ShapeHeadsSaid : Prop := shapeHeadsRow.holds Try.pinned (OpenSpec.ofChange shapeHeadsSpec)

/-- ITS FALSE NEIGHBOUR: 'it returns false'. Refute it at one input. -/
def shapeHeadsWrong : ChangeSpec := { name := "shapeHeads", fn := fun _ => fun
  | [d] => { results := [.lit (.bool false)], args := [d] }
  | _ => none }
def ShapeHeadsWrongFalsely : Prop := shapeHeadsRow.holds Try.pinned (OpenSpec.ofChange shapeHeadsWrong)

/-- 'vellumlaw12.ShapeBudget': WHATEVER THE INPUT: true; the input reads as it did. -/
def shapeBudgetSpec : ChangeSpec := { name := "shapeBudget", fn := fun _ => fun
  | [d1, d2] => { results := [.lit (.bool true)], args := [d1, d2] }
  | _ => none }
def shapeBudgetRow : OpenClaim := { program := "ytfiiihpdekppiaa", sum := "4040ecfebcb7cf58fd911dfcad35a513983dd13e5f49e3a0f66fcce2f7678eb6", func := "vellum/vellumlaw12.ShapeBudget", spec := "shapeBudget", unfollowed := true, recurses := true, apart := false }
def ShapeBudgetSaid : Prop := shapeBudgetRow.holds Try.pinned (OpenSpec.ofChange shapeBudgetSpec)

/-- ITS FALSE NEIGHBOUR: 'it returns false'. Refute it at one input. -/
def shapeBudgetWrong : ChangeSpec := { name := "shapeBudget", fn := fun _ => fun
  | [d1, d2] => { results := [.lit (.bool false)], args := [d1, d2] }
  | _ => none }
def ShapeBudgetWrongFalsely : Prop := shapeBudgetRow.holds Try.pinned (OpenSpec.ofChange shapeBudgetWrong)

/-- 'vellumlaw12.ShapeNodes': WHATEVER THE INPUT: true; the input reads as it did. -/
def shapeNodesSpec : ChangeSpec := { name := "shapeNodes", fn := fun _ => fun
  | [d] => { results := [.lit (.bool true)], args := [d] }
  | _ => none }
def shapeNodesRow : OpenClaim := { program := "ytfiiihpdekppiaa", sum := "4040ecfebcb7cf58fd911dfcad35a513983dd13e5f49e3a0f66fcce2f7678eb6", func := "vellum/vellumlaw12.ShapeNodes", spec := "shapeNodes", unfollowed := true, recurses := true, apart := false }
def ShapeNodesSaid : Prop := shapeNodesRow.holds Try.pinned (OpenSpec.ofChange shapeNodesSpec)

/-- ITS FALSE NEIGHBOUR: 'it returns false'. Refute it at one input. -/
def shapeNodesWrong : ChangeSpec := { name := "shapeNodes", fn := fun _ => fun
  | [d] => { results := [.lit (.bool false)], args := [d] }
  | _ => none }
def ShapeNodesWrongFalsely : Prop := shapeNodesRow.holds Try.pinned (OpenSpec.ofChange shapeNodesWrong)

/-- 'vellumlaw12.ShapeChecks': WHATEVER THE INPUT: true; the input reads as it did. -/
def shapeChecksSpec : ChangeSpec := { name := "shapeChecks", fn := fun _ => fun
  | [d1, d2, d3] => { results := [.lit (.bool true)], args := [d1, d2, d3] }
  | _ => none }
def shapeChecksRow : OpenClaim := { program := "ytfiiihpdekppiaa", sum := "4040ecfebcb7cf58fd911dfcad35a513983dd13e5f49e3a0f66fcce2f7678eb6", func := "vellum/vellumlaw12.ShapeChecks", spec := "shapeChecks", unfollowed := true, recurses := true, apart := false }
def ShapeChecksSaid : Prop := shapeChecksRow.holds Try.pinned (OpenSpec.ofChange shapeChecksSpec)

/-- ITS FALSE NEIGHBOUR: 'it returns false'. Refute it at one input. -/
def shapeChecksWrong : ChangeSpec := { name := "shapeChecks", fn := fun _ => fun
  | [d1, d2, d3] => { results := [.lit (.bool false)], args := [d1, d2, d3] }
  | _ => none }
def ShapeChecksWrongFalsely : Prop := shapeChecksRow.holds Try.pinned (OpenSpec.ofChange shapeChecksWrong)

/-- 'vellumlaw12.ShapeAcyclic': WHATEVER THE INPUT: true; the input reads as it did. -/
def shapeAcyclicSpec : ChangeSpec := { name := "shapeAcyclic", fn := fun _ => fun
  | [d] => { results := [.lit (.bool true)], args := [d] }
  | _ => none }
def shapeAcyclicRow : OpenClaim := { program := "ytfiiihpdekppiaa", sum := "4040ecfebcb7cf58fd911dfcad35a513983dd13e5f49e3a0f66fcce2f7678eb6", func := "vellum/vellumlaw12.ShapeAcyclic", spec := "shapeAcyclic", unfollowed := true, recurses := true, apart := false }
def ShapeAcyclicSaid : Prop := shapeAcyclicRow.holds Try.pinned (OpenSpec.ofChange shapeAcyclicSpec)

/-- ITS FALSE NEIGHBOUR: 'it returns false'. Refute it at one input. -/
def shapeAcyclicWrong : ChangeSpec := { name := "shapeAcyclic", fn := fun _ => fun
  | [d] => { results := [.lit (.bool false)], args := [d] }
  | _ => none }
def ShapeAcyclicWrongFalsely : Prop := shapeAcyclicRow.holds Try.pinned (OpenSpec.ofChange shapeAcyclicWrong)

/-- 'vellumlaw12.ShapeNested': WHATEVER THE INPUT: true; the input reads as it did. -/
def shapeNestedSpec : ChangeSpec := { name := "shapeNested", fn := fun _ => fun
  | [d1, d2] => { results := [.lit (.bool true)], args := [d1, d2] }
  | _ => none }
def shapeNestedRow : OpenClaim := { program := "ytfiiihpdekppiaa", sum := "4040ecfebcb7cf58fd911dfcad35a513983dd13e5f49e3a0f66fcce2f7678eb6", func := "vellum/vellumlaw12.ShapeNested", spec := "shapeNested", unfollowed := true, recurses := true, apart := false }
def ShapeNestedSaid : Prop := shapeNestedRow.holds Try.pinned (OpenSpec.ofChange shapeNestedSpec)

/-- ITS FALSE NEIGHBOUR: 'it returns false'. Refute it at one input. -/
def shapeNestedWrong : ChangeSpec := { name := "shapeNested", fn := fun _ => fun
  | [d1, d2] => { results := [.lit (.bool false)], args := [d1, d2] }
  | _ => none }
def ShapeNestedWrongFalsely : Prop := shapeNestedRow.holds Try.pinned (OpenSpec.ofChange shapeNestedWrong)

/-- 'vellumlaw12.ShapeErrors': WHATEVER THE INPUT: true; the input reads as it did. -/
def shapeErrorsSpec : ChangeSpec := { name := "shapeErrors", fn := fun _ => fun
  | [d1, d2, d3] => { results := [.lit (.bool true)], args := [d1, d2, d3] }
  | _ => none }
def shapeErrorsRow : OpenClaim := { program := "ytfiiihpdekppiaa", sum := "4040ecfebcb7cf58fd911dfcad35a513983dd13e5f49e3a0f66fcce2f7678eb6", func := "vellum/vellumlaw12.ShapeErrors", spec := "shapeErrors", unfollowed := true, recurses := true, apart := false }
def ShapeErrorsSaid : Prop := shapeErrorsRow.holds Try.pinned (OpenSpec.ofChange shapeErrorsSpec)

/-- ITS FALSE NEIGHBOUR: 'it returns false'. Refute it at one input. -/
def shapeErrorsWrong : ChangeSpec := { name := "shapeErrors", fn := fun _ => fun
  | [d1, d2, d3] => { results := [.lit (.bool false)], args := [d1, d2, d3] }
  | _ => none }
def ShapeErrorsWrongFalsely : Prop := shapeErrorsRow.holds Try.pinned (OpenSpec.ofChange shapeErrorsWrong)

/-- 'vellumlaw12.ShapeCopies': WHATEVER THE INPUT: true; the input reads as it did. -/
def shapeCopiesSpec : ChangeSpec := { name := "shapeCopies", fn := fun _ => fun
  | [d1, d2] => { results := [.lit (.bool true)], args := [d1, d2] }
  | _ => none }
def shapeCopiesRow : OpenClaim := { program := "ytfiiihpdekppiaa", sum := "4040ecfebcb7cf58fd911dfcad35a513983dd13e5f49e3a0f66fcce2f7678eb6", func := "vellum/vellumlaw12.ShapeCopies", spec := "shapeCopies", unfollowed := true, recurses := true, apart := false }
def ShapeCopiesSaid : Prop := shapeCopiesRow.holds Try.pinned (OpenSpec.ofChange shapeCopiesSpec)

/-- ITS FALSE NEIGHBOUR: 'it returns false'. Refute it at one input. -/
def shapeCopiesWrong : ChangeSpec := { name := "shapeCopies", fn := fun _ => fun
  | [d1, d2] => { results := [.lit (.bool false)], args := [d1, d2] }
  | _ => none }
def ShapeCopiesWrongFalsely : Prop := shapeCopiesRow.holds Try.pinned (OpenSpec.ofChange shapeCopiesWrong)

/- THE SECOND FORM. 'bulk': how many values and letters a reading holds, each counted each time it is reached (what is shared counts as often as it is met; a slice's spare places count too). A statement '..UptoSaid' is the law's where the arguments, and the package variables that the reading takes, are together of bulk at most 1048576: NARROWER than '..Said'. Prove '..Said' where nothing that the law and all that it calls make is longer than what came in: it says more and counts as full. Else prove '..UptoSaid'. A law counts once. -/
mutual
def uptoBulk {H : Type} : DataW H → Nat
  | .lit (.string bytes) => bytes.length + 1
  | .lit _ => 1
  | .nil => 1
  | .ptr d => uptoBulk d + 1
  | .slice elems spare => uptoBulkAll elems + uptoBulkAll spare + 1
  | .agg parts => uptoBulkAll parts + 1
  | .iface _ d => uptoBulk d + 1
  | .map entries => uptoBulkEntries entries + 1
  | .held _ => 1
def uptoBulkAll {H : Type} : List (DataW H) → Nat
  | [] => 0
  | d :: r => uptoBulk d + uptoBulkAll r
def uptoBulkEntries {H : Type} : List (Lit × DataW H) → Nat
  | [] => 0
  | x :: r => uptoBulkEntry x + uptoBulkEntries r
def uptoBulkEntry {H : Type} : Lit × DataW H → Nat
  | (.string bytes, d) => bytes.length + uptoBulk d + 1
  | (_, d) => uptoBulk d + 1
 end
def uptoSmall : (H : Type) → List (DataW H) → Bool := fun _ ds => decide (uptoBulkAll ds ≤ 1048576)
def OpenSpec.upto (s : _root_.Go.ChangeSpec) : _root_.Go.OpenSpec := { _root_.Go.OpenSpec.ofChange s with cond := some uptoSmall }

/-- 'vellumlaw12.ShapeWalks', WHERE WHAT IT READS IS OF BULK AT MOST 1048576: true; the input reads as it did. -/
def shapeWalksUptoRow : OpenClaim := { program := "ytfiiihpdekppiaa", sum := "4040ecfebcb7cf58fd911dfcad35a513983dd13e5f49e3a0f66fcce2f7678eb6", func := "vellum/vellumlaw12.ShapeWalks", spec := "shapeWalks", unfollowed := true, recurses := true, apart := false, narrowed := true }
def ShapeWalksUptoSaid : Prop := shapeWalksUptoRow.holds Try.pinned (OpenSpec.upto shapeWalksSpec)

/-- 'vellumlaw12.ShapeForms', WHERE WHAT IT READS IS OF BULK AT MOST 1048576: true; the input reads as it did. -/
def shapeFormsUptoRow : OpenClaim := { program := "ytfiiihpdekppiaa", sum := "4040ecfebcb7cf58fd911dfcad35a513983dd13e5f49e3a0f66fcce2f7678eb6", func := "vellum/vellumlaw12.ShapeForms", spec := "shapeForms", unfollowed := true, recurses := true, apart := false, narrowed := true }
def ShapeFormsUptoSaid : Prop := shapeFormsUptoRow.holds Try.pinned (OpenSpec.upto shapeFormsSpec)

/-- 'vellumlaw12.ShapeReducible', WHERE WHAT IT READS IS OF BULK AT MOST 1048576: true; the input reads as it did. -/
def shapeReducibleUptoRow : OpenClaim := { program := "ytfiiihpdekppiaa", sum := "4040ecfebcb7cf58fd911dfcad35a513983dd13e5f49e3a0f66fcce2f7678eb6", func := "vellum/vellumlaw12.ShapeReducible", spec := "shapeReducible", unfollowed := true, recurses := true, apart := false, narrowed := true }
def ShapeReducibleUptoSaid : Prop := shapeReducibleUptoRow.holds Try.pinned (OpenSpec.upto shapeReducibleSpec)

/-- 'vellumlaw12.ShapeHeads', WHERE WHAT IT READS IS OF BULK AT MOST 1048576: true; the input reads as it did. -/
def shapeHeadsUptoRow : OpenClaim := { program := "ytfiiihpdekppiaa", sum := "4040ecfebcb7cf58fd911dfcad35a513983dd13e5f49e3a0f66fcce2f7678eb6", func := "vellum/vellumlaw12.ShapeHeads", spec := "shapeHeads", unfollowed := true, recurses := true, apart := false, narrowed := true }
def ShapeHeadsUptoSaid : Prop := shapeHeadsUptoRow.holds Try.pinned (OpenSpec.upto shapeHeadsSpec)

/-- 'vellumlaw12.ShapeBudget', WHERE WHAT IT READS IS OF BULK AT MOST 1048576: true; the input reads as it did. -/
def shapeBudgetUptoRow : OpenClaim := { program := "ytfiiihpdekppiaa", sum := "4040ecfebcb7cf58fd911dfcad35a513983dd13e5f49e3a0f66fcce2f7678eb6", func := "vellum/vellumlaw12.ShapeBudget", spec := "shapeBudget", unfollowed := true, recurses := true, apart := false, narrowed := true }
def ShapeBudgetUptoSaid : Prop := shapeBudgetUptoRow.holds Try.pinned (OpenSpec.upto shapeBudgetSpec)

/-- 'vellumlaw12.ShapeNodes', WHERE WHAT IT READS IS OF BULK AT MOST 1048576: true; the input reads as it did. -/
def shapeNodesUptoRow : OpenClaim := { program := "ytfiiihpdekppiaa", sum := "4040ecfebcb7cf58fd911dfcad35a513983dd13e5f49e3a0f66fcce2f7678eb6", func := "vellum/vellumlaw12.ShapeNodes", spec := "shapeNodes", unfollowed := true, recurses := true, apart := false, narrowed := true }
def ShapeNodesUptoSaid : Prop := shapeNodesUptoRow.holds Try.pinned (OpenSpec.upto shapeNodesSpec)

/-- 'vellumlaw12.ShapeChecks', WHERE WHAT IT READS IS OF BULK AT MOST 1048576: true; the input reads as it did. -/
def shapeChecksUptoRow : OpenClaim := { program := "ytfiiihpdekppiaa", sum := "4040ecfebcb7cf58fd911dfcad35a513983dd13e5f49e3a0f66fcce2f7678eb6", func := "vellum/vellumlaw12.ShapeChecks", spec := "shapeChecks", unfollowed := true, recurses := true, apart := false, narrowed := true }
def ShapeChecksUptoSaid : Prop := shapeChecksUptoRow.holds Try.pinned (OpenSpec.upto shapeChecksSpec)

/-- 'vellumlaw12.ShapeAcyclic', WHERE WHAT IT READS IS OF BULK AT MOST 1048576: true; the input reads as it did. -/
def shapeAcyclicUptoRow : OpenClaim := { program := "ytfiiihpdekppiaa", sum := "4040ecfebcb7cf58fd911dfcad35a513983dd13e5f49e3a0f66fcce2f7678eb6", func := "vellum/vellumlaw12.ShapeAcyclic", spec := "shapeAcyclic", unfollowed := true, recurses := true, apart := false, narrowed := true }
def ShapeAcyclicUptoSaid : Prop := shapeAcyclicUptoRow.holds Try.pinned (OpenSpec.upto shapeAcyclicSpec)

/-- 'vellumlaw12.ShapeNested', WHERE WHAT IT READS IS OF BULK AT MOST 1048576: true; the input reads as it did. -/
def shapeNestedUptoRow : OpenClaim := { program := "ytfiiihpdekppiaa", sum := "4040ecfebcb7cf58fd911dfcad35a513983dd13e5f49e3a0f66fcce2f7678eb6", func := "vellum/vellumlaw12.ShapeNested", spec := "shapeNested", unfollowed := true, recurses := true, apart := false, narrowed := true }
def ShapeNestedUptoSaid : Prop := shapeNestedUptoRow.holds Try.pinned (OpenSpec.upto shapeNestedSpec)

/-- 'vellumlaw12.ShapeErrors', WHERE WHAT IT READS IS OF BULK AT MOST 1048576: true; the input reads as it did. -/
def shapeErrorsUptoRow : OpenClaim := { program := "ytfiiihpdekppiaa", sum := "4040ecfebcb7cf58fd911dfcad35a513983dd13e5f49e3a0f66fcce2f7678eb6", func := "vellum/vellumlaw12.ShapeErrors", spec := "shapeErrors", unfollowed := true, recurses := true, apart := false, narrowed := true }
def ShapeErrorsUptoSaid : Prop := shapeErrorsUptoRow.holds Try.pinned (OpenSpec.upto shapeErrorsSpec)

/-- 'vellumlaw12.ShapeCopies', WHERE WHAT IT READS IS OF BULK AT MOST 1048576: true; the input reads as it did. -/
def shapeCopiesUptoRow : OpenClaim := { program := "ytfiiihpdekppiaa", sum := "4040ecfebcb7cf58fd911dfcad35a513983dd13e5f49e3a0f66fcce2f7678eb6", func := "vellum/vellumlaw12.ShapeCopies", spec := "shapeCopies", unfollowed := true, recurses := true, apart := false, narrowed := true }
def ShapeCopiesUptoSaid : Prop := shapeCopiesUptoRow.holds Try.pinned (OpenSpec.upto shapeCopiesSpec)

end Rows
end Go.Proofs.Ytfiiihpdekppiaa
