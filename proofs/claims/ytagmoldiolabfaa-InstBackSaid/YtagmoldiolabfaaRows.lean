/-
  No cell of these rows narrows 'for every input' (looked for: loops, veiled, ifaces, maps, wideKeys, modest, calm, conditions, laid).
  DERIVED. THE GIVEN ROWS OF THIS SEAT. 5 by the template 'for every input the law returns true; each argument reads behind the call as it read before'; 0 by the template 'total and deterministic' (their statements: YtagmoldiolabfaaTotals.lean).
  GIVEN WITH THE SEED: the statements are not yours to turn. If you find one false, say at which input.
  Laid BY PROGRAM, IN A SANDBOX (cutbox-rows.mjs): the forced cells as the released guide's own fill.sh prints them over the translation b171ed0d9746b37d… (all of the seat's roots in one cut). By AI agents, Wed Nov 11 2026. No macro, syntax, notation, axiom, sorry.
-/
import Derived.Test.YtagmoldiolabfaaChecked
import GoSem.Claim
import GoSem.ClaimJoined
import GoSem.ClaimMapViews
import Derived.JoinedTies
import Derived.KernelRfl
namespace Go.Proofs.Ytagmoldiolabfaa
/- THE CELL 'sum', in the pinned program and in every row, IS THE sha256 OF THE DUMP (.gsa) THAT YtagmoldiolabfaaProg.lean LOADS. Nothing in Lean hashes anything: it is a label: what it is worth is what the hold of that sum in a sandbox is worth. -/
noncomputable def Try.pinned : Pinned := { name := "ytagmoldiolabfaa", sum := "b171ed0d9746b37dacdff0ed9788ea004f3b8f842f9c0e5649821c9452a3a800", checked := Try.checked }
namespace Rows
def none {H : Type} : Left H := { results := [], args := [] }

/-- 'chrysalislaw13.InstBuilds': WHATEVER THE INPUT: true; the input reads as it did. -/
def instBuildsSpec : ChangeSpec := { name := "instBuilds", fn := fun _ => fun
  | [d] => { results := [.lit (.bool true)], args := [d] }
  | _ => none }
def instBuildsRow : OpenClaim := { program := "ytagmoldiolabfaa", sum := "b171ed0d9746b37dacdff0ed9788ea004f3b8f842f9c0e5649821c9452a3a800", func := "chrysalis/chrysalislaw13.InstBuilds", spec := "instBuilds", apart := false }
def InstBuildsSaid : Prop := instBuildsRow.holds Try.pinned (OpenSpec.ofChange instBuildsSpec)

/-- ITS FALSE NEIGHBOUR: 'it returns false'. Refute it at one input. -/
def instBuildsWrong : ChangeSpec := { name := "instBuilds", fn := fun _ => fun
  | [d] => { results := [.lit (.bool false)], args := [d] }
  | _ => none }
def InstBuildsWrongFalsely : Prop := instBuildsRow.holds Try.pinned (OpenSpec.ofChange instBuildsWrong)

/-- 'chrysalislaw13.InstParses': WHATEVER THE INPUT: true; the input reads as it did. -/
def instParsesSpec : ChangeSpec := { name := "instParses", fn := fun _ => fun
  | [d1, d2] => { results := [.lit (.bool true)], args := [d1, d2] }
  | _ => none }
def instParsesRow : OpenClaim := { program := "ytagmoldiolabfaa", sum := "b171ed0d9746b37dacdff0ed9788ea004f3b8f842f9c0e5649821c9452a3a800", func := "chrysalis/chrysalislaw13.InstParses", spec := "instParses", apart := false }
def InstParsesSaid : Prop := instParsesRow.holds Try.pinned (OpenSpec.ofChange instParsesSpec)

/-- ITS FALSE NEIGHBOUR: 'it returns false'. Refute it at one input. -/
def instParsesWrong : ChangeSpec := { name := "instParses", fn := fun _ => fun
  | [d1, d2] => { results := [.lit (.bool false)], args := [d1, d2] }
  | _ => none }
def InstParsesWrongFalsely : Prop := instParsesRow.holds Try.pinned (OpenSpec.ofChange instParsesWrong)

/-- 'chrysalislaw13.InstBack': WHATEVER THE INPUT: true; the input reads as it did. -/
def instBackSpec : ChangeSpec := { name := "instBack", fn := fun _ => fun
  | [d1, d2, d3] => { results := [.lit (.bool true)], args := [d1, d2, d3] }
  | _ => none }
def instBackRow : OpenClaim := { program := "ytagmoldiolabfaa", sum := "b171ed0d9746b37dacdff0ed9788ea004f3b8f842f9c0e5649821c9452a3a800", func := "chrysalis/chrysalislaw13.InstBack", spec := "instBack", apart := false }
def InstBackSaid : Prop := instBackRow.holds Try.pinned (OpenSpec.ofChange instBackSpec)

/-- ITS FALSE NEIGHBOUR: 'it returns false'. Refute it at one input. -/
def instBackWrong : ChangeSpec := { name := "instBack", fn := fun _ => fun
  | [d1, d2, d3] => { results := [.lit (.bool false)], args := [d1, d2, d3] }
  | _ => none }
def InstBackWrongFalsely : Prop := instBackRow.holds Try.pinned (OpenSpec.ofChange instBackWrong)

/-- 'chrysalislaw13.InstShapes': WHATEVER THE INPUT: true; the input reads as it did. -/
def instShapesSpec : ChangeSpec := { name := "instShapes", fn := fun _ => fun
  | [d1, d2] => { results := [.lit (.bool true)], args := [d1, d2] }
  | _ => none }
def instShapesRow : OpenClaim := { program := "ytagmoldiolabfaa", sum := "b171ed0d9746b37dacdff0ed9788ea004f3b8f842f9c0e5649821c9452a3a800", func := "chrysalis/chrysalislaw13.InstShapes", spec := "instShapes", apart := false }
def InstShapesSaid : Prop := instShapesRow.holds Try.pinned (OpenSpec.ofChange instShapesSpec)

/-- ITS FALSE NEIGHBOUR: 'it returns false'. Refute it at one input. -/
def instShapesWrong : ChangeSpec := { name := "instShapes", fn := fun _ => fun
  | [d1, d2] => { results := [.lit (.bool false)], args := [d1, d2] }
  | _ => none }
def InstShapesWrongFalsely : Prop := instShapesRow.holds Try.pinned (OpenSpec.ofChange instShapesWrong)

/-- 'chrysalislaw13.InstOps': WHATEVER THE INPUT: true; the input reads as it did. -/
def instOpsSpec : ChangeSpec := { name := "instOps", fn := fun _ => fun
  | [d] => { results := [.lit (.bool true)], args := [d] }
  | _ => none }
def instOpsRow : OpenClaim := { program := "ytagmoldiolabfaa", sum := "b171ed0d9746b37dacdff0ed9788ea004f3b8f842f9c0e5649821c9452a3a800", func := "chrysalis/chrysalislaw13.InstOps", spec := "instOps", apart := false }
def InstOpsSaid : Prop := instOpsRow.holds Try.pinned (OpenSpec.ofChange instOpsSpec)

/-- ITS FALSE NEIGHBOUR: 'it returns false'. Refute it at one input. -/
def instOpsWrong : ChangeSpec := { name := "instOps", fn := fun _ => fun
  | [d] => { results := [.lit (.bool false)], args := [d] }
  | _ => none }
def InstOpsWrongFalsely : Prop := instOpsRow.holds Try.pinned (OpenSpec.ofChange instOpsWrong)

/- THE SECOND FORM. 'bulk': how many values and letters a reading holds, each counted each time it is reached (what is shared counts as often as it is met; a slice's spare places count too). A statement '..UptoSaid' is the law's where the arguments, and the package variables that the reading takes, are together of bulk at most 1048576: NARROWER than '..Said'. Prove '..Said' where nothing that the law and all that it calls make is longer than what came in: it says more and counts as full. Else prove '..UptoSaid'. A law counts once. -/
mutual
def uptoBulk {H : Type} : DataW H → Nat
  | .lit (.string bytes) => bytes.length + 1
  | .lit _ => 1
  | .nil => 1
  | .ptr d => uptoBulk d + 1
  | .slice elems spare => uptoBulkAll elems + uptoBulkAll spare + 1
  | .agg parts => uptoBulkAll parts + 1
  | .iface _ d => uptoBulk d + 1
  | .map entries => uptoBulkEntries entries + 1
  | .held _ => 1
def uptoBulkAll {H : Type} : List (DataW H) → Nat
  | [] => 0
  | d :: r => uptoBulk d + uptoBulkAll r
def uptoBulkEntries {H : Type} : List (Lit × DataW H) → Nat
  | [] => 0
  | x :: r => uptoBulkEntry x + uptoBulkEntries r
def uptoBulkEntry {H : Type} : Lit × DataW H → Nat
  | (.string bytes, d) => bytes.length + uptoBulk d + 1
  | (_, d) => uptoBulk d + 1
 end
def uptoSmall : (H : Type) → List (DataW H) → Bool := fun _ ds => decide (uptoBulkAll ds ≤ 1048576)
def OpenSpec.upto (s : _root_.Go.ChangeSpec) : _root_.Go.OpenSpec := { _root_.Go.OpenSpec.ofChange s with cond := some uptoSmall }

/-- 'chrysalislaw13.InstBuilds', WHERE WHAT IT READS IS OF BULK AT MOST 1048576: true; the input reads as it did. -/
def instBuildsUptoRow : OpenClaim := { program := "ytagmoldiolabfaa", sum := "b171ed0d9746b37dacdff0ed9788ea004f3b8f842f9c0e5649821c9452a3a800", func := "chrysalis/chrysalislaw13.InstBuilds", spec := "instBuilds", apart := false, narrowed := true }
def InstBuildsUptoSaid : Prop := instBuildsUptoRow.holds Try.pinned (OpenSpec.upto instBuildsSpec)

/-- 'chrysalislaw13.InstParses', WHERE WHAT IT READS IS OF BULK AT MOST 1048576: true; the input reads as it did. -/
def instParsesUptoRow : OpenClaim := { program := "ytagmoldiolabfaa", sum := "b171ed0d9746b37dacdff0ed9788ea004f3b8f842f9c0e5649821c9452a3a800", func := "chrysalis/chrysalislaw13.InstParses", spec := "instParses", apart := false, narrowed := true }
def InstParsesUptoSaid : Prop := instParsesUptoRow.holds Try.pinned (OpenSpec.upto instParsesSpec)

/-- 'chrysalislaw13.InstBack', WHERE WHAT IT READS IS OF BULK AT MOST 1048576: true; the input reads as it did. -/
def instBackUptoRow : OpenClaim := { program := "ytagmoldiolabfaa", sum := "b171ed0d9746b37dacdff0ed9788ea004f3b8f842f9c0e5649821c9452a3a800", func := "chrysalis/chrysalislaw13.InstBack", spec := "instBack", apart := false, narrowed := true }
def InstBackUptoSaid : Prop := instBackUptoRow.holds Try.pinned (OpenSpec.upto instBackSpec)

/-- 'chrysalislaw13.InstShapes', WHERE WHAT IT READS IS OF BULK AT MOST 1048576: true; the input reads as it did. -/
def instShapesUptoRow : OpenClaim := { program := "ytagmoldiolabfaa", sum := "b171ed0d9746b37dacdff0ed9788ea004f3b8f842f9c0e5649821c9452a3a800", func := "chrysalis/chrysalislaw13.InstShapes", spec := "instShapes", apart := false, narrowed := true }
def InstShapesUptoSaid : Prop := instShapesUptoRow.holds Try.pinned (OpenSpec.upto instShapesSpec)

/-- 'chrysalislaw13.InstOps', WHERE WHAT IT READS IS OF BULK AT MOST 1048576: true; the input reads as it did. -/
def instOpsUptoRow : OpenClaim := { program := "ytagmoldiolabfaa", sum := "b171ed0d9746b37dacdff0ed9788ea004f3b8f842f9c0e5649821c9452a3a800", func := "chrysalis/chrysalislaw13.InstOps", spec := "instOps", apart := false, narrowed := true }
def InstOpsUptoSaid : Prop := instOpsUptoRow.holds Try.pinned (OpenSpec.upto instOpsSpec)

end Rows
end Go.Proofs.Ytagmoldiolabfaa
