/-
  No cell of these rows narrows 'for every input' (looked for: loops, veiled, ifaces, maps, wideKeys, modest, calm, conditions, laid).
  DERIVED. THE GIVEN ROWS OF THIS SEAT. 5 by the template 'for every input the law returns true; each argument reads behind the call as it read before'; 0 by the template 'total and deterministic' (their statements: YthgjmbcojbmlhaaTotals.lean).
  GIVEN WITH THE SEED: the statements are not yours to turn. If you find one false, say at which input.
  Laid BY PROGRAM, IN A SANDBOX (cutbox-rows.mjs): the forced cells as the released guide's own fill.sh prints them over the translation 4efe0271317130c6… (all of the seat's roots in one cut). By AI agents, Wed Nov 11 2026. No macro, syntax, notation, axiom, sorry.
-/
import Derived.Test.YthgjmbcojbmlhaaChecked
import GoSem.Claim
import GoSem.ClaimJoined
import GoSem.ClaimMapViews
import Derived.JoinedTies
import Derived.KernelRfl
namespace Go.Proofs.Ythgjmbcojbmlhaa
/- THE CELL 'sum', in the pinned program and in every row, IS THE sha256 OF THE DUMP (.gsa) THAT YthgjmbcojbmlhaaProg.lean LOADS. Nothing in Lean hashes anything: it is a label: what it is worth is what the hold of that sum in a sandbox is worth. -/
noncomputable def Try.pinned : Pinned := { name := "ythgjmbcojbmlhaa", sum := "4efe0271317130c6edf34443071885ab5fd86f31c8a933c0d69aaef9b0286666", checked := Try.checked }
namespace Rows
def none {H : Type} : Left H := { results := [], args := [] }

/-- 'chrysalislaw14.ImageBuilds': WHATEVER THE INPUT: true; the input reads as it did. -/
def imageBuildsSpec : ChangeSpec := { name := "imageBuilds", fn := fun _ => fun
  | [d] => { results := [.lit (.bool true)], args := [d] }
  | _ => none }
def imageBuildsRow : OpenClaim := { program := "ythgjmbcojbmlhaa", sum := "4efe0271317130c6edf34443071885ab5fd86f31c8a933c0d69aaef9b0286666", func := "chrysalis/chrysalislaw14.ImageBuilds", spec := "imageBuilds", unfollowed := true, recurses := true, apart := false }
def ImageBuildsSaid : Prop := imageBuildsRow.holds Try.pinned (OpenSpec.ofChange imageBuildsSpec)

/-- ITS FALSE NEIGHBOUR: 'it returns false'. Refute it at one input. -/
def imageBuildsWrong : ChangeSpec := { name := "imageBuilds", fn := fun _ => fun
  | [d] => { results := [.lit (.bool false)], args := [d] }
  | _ => none }
def ImageBuildsWrongFalsely : Prop := imageBuildsRow.holds Try.pinned (OpenSpec.ofChange imageBuildsWrong)

/-- 'chrysalislaw14.ImageParses': WHATEVER THE INPUT: true; the input reads as it did. -/
def imageParsesSpec : ChangeSpec := { name := "imageParses", fn := fun _ => fun
  | [d] => { results := [.lit (.bool true)], args := [d] }
  | _ => none }
def imageParsesRow : OpenClaim := { program := "ythgjmbcojbmlhaa", sum := "4efe0271317130c6edf34443071885ab5fd86f31c8a933c0d69aaef9b0286666", func := "chrysalis/chrysalislaw14.ImageParses", spec := "imageParses", unfollowed := true, recurses := true, apart := false }
def ImageParsesSaid : Prop := imageParsesRow.holds Try.pinned (OpenSpec.ofChange imageParsesSpec)

/-- ITS FALSE NEIGHBOUR: 'it returns false'. Refute it at one input. -/
def imageParsesWrong : ChangeSpec := { name := "imageParses", fn := fun _ => fun
  | [d] => { results := [.lit (.bool false)], args := [d] }
  | _ => none }
def ImageParsesWrongFalsely : Prop := imageParsesRow.holds Try.pinned (OpenSpec.ofChange imageParsesWrong)

/-- 'chrysalislaw14.ImageBack': WHATEVER THE INPUT: true; the input reads as it did. -/
def imageBackSpec : ChangeSpec := { name := "imageBack", fn := fun _ => fun
  | [d1, d2, d3] => { results := [.lit (.bool true)], args := [d1, d2, d3] }
  | _ => none }
def imageBackRow : OpenClaim := { program := "ythgjmbcojbmlhaa", sum := "4efe0271317130c6edf34443071885ab5fd86f31c8a933c0d69aaef9b0286666", func := "chrysalis/chrysalislaw14.ImageBack", spec := "imageBack", unfollowed := true, recurses := true, apart := false }
def ImageBackSaid : Prop := imageBackRow.holds Try.pinned (OpenSpec.ofChange imageBackSpec)

/-- ITS FALSE NEIGHBOUR: 'it returns false'. Refute it at one input. -/
def imageBackWrong : ChangeSpec := { name := "imageBack", fn := fun _ => fun
  | [d1, d2, d3] => { results := [.lit (.bool false)], args := [d1, d2, d3] }
  | _ => none }
def ImageBackWrongFalsely : Prop := imageBackRow.holds Try.pinned (OpenSpec.ofChange imageBackWrong)

/-- 'chrysalislaw14.ImageOnly': WHATEVER THE INPUT: true; the input reads as it did. -/
def imageOnlySpec : ChangeSpec := { name := "imageOnly", fn := fun _ => fun
  | [d] => { results := [.lit (.bool true)], args := [d] }
  | _ => none }
def imageOnlyRow : OpenClaim := { program := "ythgjmbcojbmlhaa", sum := "4efe0271317130c6edf34443071885ab5fd86f31c8a933c0d69aaef9b0286666", func := "chrysalis/chrysalislaw14.ImageOnly", spec := "imageOnly", unfollowed := true, recurses := true, apart := false }
def ImageOnlySaid : Prop := imageOnlyRow.holds Try.pinned (OpenSpec.ofChange imageOnlySpec)

/-- ITS FALSE NEIGHBOUR: 'it returns false'. Refute it at one input. -/
def imageOnlyWrong : ChangeSpec := { name := "imageOnly", fn := fun _ => fun
  | [d] => { results := [.lit (.bool false)], args := [d] }
  | _ => none }
def ImageOnlyWrongFalsely : Prop := imageOnlyRow.holds Try.pinned (OpenSpec.ofChange imageOnlyWrong)

/-- 'chrysalislaw14.ImageOne': WHATEVER THE INPUT: true; the input reads as it did. -/
def imageOneSpec : ChangeSpec := { name := "imageOne", fn := fun _ => fun
  | [d1, d2] => { results := [.lit (.bool true)], args := [d1, d2] }
  | _ => none }
def imageOneRow : OpenClaim := { program := "ythgjmbcojbmlhaa", sum := "4efe0271317130c6edf34443071885ab5fd86f31c8a933c0d69aaef9b0286666", func := "chrysalis/chrysalislaw14.ImageOne", spec := "imageOne", unfollowed := true, recurses := true, apart := false }
def ImageOneSaid : Prop := imageOneRow.holds Try.pinned (OpenSpec.ofChange imageOneSpec)

/-- ITS FALSE NEIGHBOUR: 'it returns false'. Refute it at one input. -/
def imageOneWrong : ChangeSpec := { name := "imageOne", fn := fun _ => fun
  | [d1, d2] => { results := [.lit (.bool false)], args := [d1, d2] }
  | _ => none }
def ImageOneWrongFalsely : Prop := imageOneRow.holds Try.pinned (OpenSpec.ofChange imageOneWrong)

/- THE SECOND FORM. 'bulk': how many values and letters a reading holds, each counted each time it is reached (what is shared counts as often as it is met; a slice's spare places count too). A statement '..UptoSaid' is the law's where the arguments, and the package variables that the reading takes, are together of bulk at most 1048576: NARROWER than '..Said'. Prove '..Said' where nothing that the law and all that it calls make is longer than what came in: it says more and counts as full. Else prove '..UptoSaid'. A law counts once. -/
mutual
def uptoBulk {H : Type} : DataW H → Nat
  | .lit (.string bytes) => bytes.length + 1
  | .lit _ => 1
  | .nil => 1
  | .ptr d => uptoBulk d + 1
  | .slice elems spare => uptoBulkAll elems + uptoBulkAll spare + 1
  | .agg parts => uptoBulkAll parts + 1
  | .iface _ d => uptoBulk d + 1
  | .map entries => uptoBulkEntries entries + 1
  | .held _ => 1
def uptoBulkAll {H : Type} : List (DataW H) → Nat
  | [] => 0
  | d :: r => uptoBulk d + uptoBulkAll r
def uptoBulkEntries {H : Type} : List (Lit × DataW H) → Nat
  | [] => 0
  | x :: r => uptoBulkEntry x + uptoBulkEntries r
def uptoBulkEntry {H : Type} : Lit × DataW H → Nat
  | (.string bytes, d) => bytes.length + uptoBulk d + 1
  | (_, d) => uptoBulk d + 1
 end
def uptoSmall : (H : Type) → List (DataW H) → Bool := fun _ ds => decide (uptoBulkAll ds ≤ 1048576)
def OpenSpec.upto (s : _root_.Go.ChangeSpec) : _root_.Go.OpenSpec := { _root_.Go.OpenSpec.ofChange s with cond := some uptoSmall }

/-- 'chrysalislaw14.ImageBuilds', WHERE WHAT IT READS IS OF BULK AT MOST 1048576: true; the input reads as it did. -/
def imageBuildsUptoRow : OpenClaim := { program := "ythgjmbcojbmlhaa", sum := "4efe0271317130c6edf34443071885ab5fd86f31c8a933c0d69aaef9b0286666", func := "chrysalis/chrysalislaw14.ImageBuilds", spec := "imageBuilds", unfollowed := true, recurses := true, apart := false, narrowed := true }
def ImageBuildsUptoSaid : Prop := imageBuildsUptoRow.holds Try.pinned (OpenSpec.upto imageBuildsSpec)

/-- 'chrysalislaw14.ImageParses', WHERE WHAT IT READS IS OF BULK AT MOST 1048576: true; the input reads as it did. -/
def imageParsesUptoRow : OpenClaim := { program := "ythgjmbcojbmlhaa", sum := "4efe0271317130c6edf34443071885ab5fd86f31c8a933c0d69aaef9b0286666", func := "chrysalis/chrysalislaw14.ImageParses", spec := "imageParses", unfollowed := true, recurses := true, apart := false, narrowed := true }
def ImageParsesUptoSaid : Prop := imageParsesUptoRow.holds Try.pinned (OpenSpec.upto imageParsesSpec)

/-- 'chrysalislaw14.ImageBack', WHERE WHAT IT READS IS OF BULK AT MOST 1048576: true; the input reads as it did. -/
def imageBackUptoRow : OpenClaim := { program := "ythgjmbcojbmlhaa", sum := "4efe0271317130c6edf34443071885ab5fd86f31c8a933c0d69aaef9b0286666", func := "chrysalis/chrysalislaw14.ImageBack", spec := "imageBack", unfollowed := true, recurses := true, apart := false, narrowed := true }
def ImageBackUptoSaid : Prop := imageBackUptoRow.holds Try.pinned (OpenSpec.upto imageBackSpec)

/-- 'chrysalislaw14.ImageOnly', WHERE WHAT IT READS IS OF BULK AT MOST 1048576: true; the input reads as it did. -/
def imageOnlyUptoRow : OpenClaim := { program := "ythgjmbcojbmlhaa", sum := "4efe0271317130c6edf34443071885ab5fd86f31c8a933c0d69aaef9b0286666", func := "chrysalis/chrysalislaw14.ImageOnly", spec := "imageOnly", unfollowed := true, recurses := true, apart := false, narrowed := true }
def ImageOnlyUptoSaid : Prop := imageOnlyUptoRow.holds Try.pinned (OpenSpec.upto imageOnlySpec)

/-- 'chrysalislaw14.ImageOne', WHERE WHAT IT READS IS OF BULK AT MOST 1048576: true; the input reads as it did. -/
def imageOneUptoRow : OpenClaim := { program := "ythgjmbcojbmlhaa", sum := "4efe0271317130c6edf34443071885ab5fd86f31c8a933c0d69aaef9b0286666", func := "chrysalis/chrysalislaw14.ImageOne", spec := "imageOne", unfollowed := true, recurses := true, apart := false, narrowed := true }
def ImageOneUptoSaid : Prop := imageOneUptoRow.holds Try.pinned (OpenSpec.upto imageOneSpec)

end Rows
end Go.Proofs.Ythgjmbcojbmlhaa
