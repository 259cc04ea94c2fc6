/-
  No cell of these rows narrows 'for every input' (looked for: loops, veiled, ifaces, maps, wideKeys, modest, calm, conditions, laid).
  DERIVED. THE GIVEN ROWS OF THIS SEAT. 6 by the template 'for every input the law returns true; each argument reads behind the call as it read before'; 0 by the template 'total and deterministic' (their statements: YtmbkncckcpgdgaaTotals.lean).
  GIVEN WITH THE SEED: the statements are not yours to turn. If you find one false, say at which input.
  Laid BY PROGRAM, IN A SANDBOX (cutbox-rows.mjs): the forced cells as the released guide's own fill.sh prints them over the translation 860fdaad08e4231e… (all of the seat's roots in one cut). By AI agents, Wed Nov 11 2026. No macro, syntax, notation, axiom, sorry.
-/
import Derived.Test.YtmbkncckcpgdgaaChecked
import GoSem.Claim
import GoSem.ClaimJoined
import GoSem.ClaimMapViews
import Derived.JoinedTies
import Derived.KernelRfl
namespace Go.Proofs.Ytmbkncckcpgdgaa
/- THE CELL 'sum', in the pinned program and in every row, IS THE sha256 OF THE DUMP (.gsa) THAT YtmbkncckcpgdgaaProg.lean LOADS. Nothing in Lean hashes anything: it is a label: what it is worth is what the hold of that sum in a sandbox is worth. -/
noncomputable def Try.pinned : Pinned := { name := "ytmbkncckcpgdgaa", sum := "860fdaad08e4231e7231d7b694ddf3f7678532c623c633a690f406fb873a4e55", checked := Try.checked }
namespace Rows
def none {H : Type} : Left H := { results := [], args := [] }

/-- 'chrysalislaw05.RingBlocks': WHATEVER THE INPUT: true; the input reads as it did. -/
def ringBlocksSpec : ChangeSpec := { name := "ringBlocks", fn := fun _ => fun
  | [d1, d2] => { results := [.lit (.bool true)], args := [d1, d2] }
  | _ => none }
def ringBlocksRow : OpenClaim := { program := "ytmbkncckcpgdgaa", sum := "860fdaad08e4231e7231d7b694ddf3f7678532c623c633a690f406fb873a4e55", func := "chrysalis/chrysalislaw05.RingBlocks", spec := "ringBlocks", unfollowed := true, recurses := true, apart := false }
def RingBlocksSaid : Prop := ringBlocksRow.holds Try.pinned (OpenSpec.ofChange ringBlocksSpec)

/-- ITS FALSE NEIGHBOUR: 'it returns false'. Refute it at one input. -/
def ringBlocksWrong : ChangeSpec := { name := "ringBlocks", fn := fun _ => fun
  | [d1, d2] => { results := [.lit (.bool false)], args := [d1, d2] }
  | _ => none }
def RingBlocksWrongFalsely : Prop := ringBlocksRow.holds Try.pinned (OpenSpec.ofChange ringBlocksWrong)

/-- 'chrysalislaw05.RingBack': WHATEVER THE INPUT: true; the input reads as it did. -/
def ringBackSpec : ChangeSpec := { name := "ringBack", fn := fun _ => fun
  | [d1, d2, d3] => { results := [.lit (.bool true)], args := [d1, d2, d3] }
  | _ => none }
def ringBackRow : OpenClaim := { program := "ytmbkncckcpgdgaa", sum := "860fdaad08e4231e7231d7b694ddf3f7678532c623c633a690f406fb873a4e55", func := "chrysalis/chrysalislaw05.RingBack", spec := "ringBack", unfollowed := true, recurses := true, apart := false }
def RingBackSaid : Prop := ringBackRow.holds Try.pinned (OpenSpec.ofChange ringBackSpec)

/-- ITS FALSE NEIGHBOUR: 'it returns false'. Refute it at one input. -/
def ringBackWrong : ChangeSpec := { name := "ringBack", fn := fun _ => fun
  | [d1, d2, d3] => { results := [.lit (.bool false)], args := [d1, d2, d3] }
  | _ => none }
def RingBackWrongFalsely : Prop := ringBackRow.holds Try.pinned (OpenSpec.ofChange ringBackWrong)

/-- 'chrysalislaw05.RingNil': WHATEVER THE INPUT: true; the input reads as it did. -/
def ringNilSpec : ChangeSpec := { name := "ringNil", fn := fun _ => fun
  | [d] => { results := [.lit (.bool true)], args := [d] }
  | _ => none }
def ringNilRow : OpenClaim := { program := "ytmbkncckcpgdgaa", sum := "860fdaad08e4231e7231d7b694ddf3f7678532c623c633a690f406fb873a4e55", func := "chrysalis/chrysalislaw05.RingNil", spec := "ringNil", unfollowed := true, recurses := true, apart := false }
def RingNilSaid : Prop := ringNilRow.holds Try.pinned (OpenSpec.ofChange ringNilSpec)

/-- ITS FALSE NEIGHBOUR: 'it returns false'. Refute it at one input. -/
def ringNilWrong : ChangeSpec := { name := "ringNil", fn := fun _ => fun
  | [d] => { results := [.lit (.bool false)], args := [d] }
  | _ => none }
def RingNilWrongFalsely : Prop := ringNilRow.holds Try.pinned (OpenSpec.ofChange ringNilWrong)

/-- 'chrysalislaw05.RingRow': WHATEVER THE INPUT: true; the input reads as it did. -/
def ringRowSpec : ChangeSpec := { name := "ringRow", fn := fun _ => fun
  | [d1, d2] => { results := [.lit (.bool true)], args := [d1, d2] }
  | _ => none }
def ringRowRow : OpenClaim := { program := "ytmbkncckcpgdgaa", sum := "860fdaad08e4231e7231d7b694ddf3f7678532c623c633a690f406fb873a4e55", func := "chrysalis/chrysalislaw05.RingRow", spec := "ringRow", unfollowed := true, recurses := true, apart := false }
def RingRowSaid : Prop := ringRowRow.holds Try.pinned (OpenSpec.ofChange ringRowSpec)

/-- ITS FALSE NEIGHBOUR: 'it returns false'. Refute it at one input. -/
def ringRowWrong : ChangeSpec := { name := "ringRow", fn := fun _ => fun
  | [d1, d2] => { results := [.lit (.bool false)], args := [d1, d2] }
  | _ => none }
def RingRowWrongFalsely : Prop := ringRowRow.holds Try.pinned (OpenSpec.ofChange ringRowWrong)

/-- 'chrysalislaw05.RingPlays': WHATEVER THE INPUT: true; the input reads as it did. -/
def ringPlaysSpec : ChangeSpec := { name := "ringPlays", fn := fun _ => fun
  | [d] => { results := [.lit (.bool true)], args := [d] }
  | _ => none }
def ringPlaysRow : OpenClaim := { program := "ytmbkncckcpgdgaa", sum := "860fdaad08e4231e7231d7b694ddf3f7678532c623c633a690f406fb873a4e55", func := "chrysalis/chrysalislaw05.RingPlays", spec := "ringPlays", unfollowed := true, recurses := true, apart := false }
def RingPlaysSaid : Prop := ringPlaysRow.holds Try.pinned (OpenSpec.ofChange ringPlaysSpec)

/-- ITS FALSE NEIGHBOUR: 'it returns false'. Refute it at one input. -/
def ringPlaysWrong : ChangeSpec := { name := "ringPlays", fn := fun _ => fun
  | [d] => { results := [.lit (.bool false)], args := [d] }
  | _ => none }
def RingPlaysWrongFalsely : Prop := ringPlaysRow.holds Try.pinned (OpenSpec.ofChange ringPlaysWrong)

/-- 'chrysalislaw05.RingCrashes': WHATEVER THE INPUT: true; the input reads as it did. -/
def ringCrashesSpec : ChangeSpec := { name := "ringCrashes", fn := fun _ => fun
  | [d] => { results := [.lit (.bool true)], args := [d] }
  | _ => none }
def ringCrashesRow : OpenClaim := { program := "ytmbkncckcpgdgaa", sum := "860fdaad08e4231e7231d7b694ddf3f7678532c623c633a690f406fb873a4e55", func := "chrysalis/chrysalislaw05.RingCrashes", spec := "ringCrashes", unfollowed := true, recurses := true, apart := false }
def RingCrashesSaid : Prop := ringCrashesRow.holds Try.pinned (OpenSpec.ofChange ringCrashesSpec)

/-- ITS FALSE NEIGHBOUR: 'it returns false'. Refute it at one input. -/
def ringCrashesWrong : ChangeSpec := { name := "ringCrashes", fn := fun _ => fun
  | [d] => { results := [.lit (.bool false)], args := [d] }
  | _ => none }
def RingCrashesWrongFalsely : Prop := ringCrashesRow.holds Try.pinned (OpenSpec.ofChange ringCrashesWrong)

/- THE SECOND FORM. 'bulk': how many values and letters a reading holds, each counted each time it is reached (what is shared counts as often as it is met; a slice's spare places count too). A statement '..UptoSaid' is the law's where the arguments, and the package variables that the reading takes, are together of bulk at most 1048576: NARROWER than '..Said'. Prove '..Said' where nothing that the law and all that it calls make is longer than what came in: it says more and counts as full. Else prove '..UptoSaid'. A law counts once. -/
mutual
def uptoBulk {H : Type} : DataW H → Nat
  | .lit (.string bytes) => bytes.length + 1
  | .lit _ => 1
  | .nil => 1
  | .ptr d => uptoBulk d + 1
  | .slice elems spare => uptoBulkAll elems + uptoBulkAll spare + 1
  | .agg parts => uptoBulkAll parts + 1
  | .iface _ d => uptoBulk d + 1
  | .map entries => uptoBulkEntries entries + 1
  | .held _ => 1
def uptoBulkAll {H : Type} : List (DataW H) → Nat
  | [] => 0
  | d :: r => uptoBulk d + uptoBulkAll r
def uptoBulkEntries {H : Type} : List (Lit × DataW H) → Nat
  | [] => 0
  | x :: r => uptoBulkEntry x + uptoBulkEntries r
def uptoBulkEntry {H : Type} : Lit × DataW H → Nat
  | (.string bytes, d) => bytes.length + uptoBulk d + 1
  | (_, d) => uptoBulk d + 1
 end
def uptoSmall : (H : Type) → List (DataW H) → Bool := fun _ ds => decide (uptoBulkAll ds ≤ 1048576)
def OpenSpec.upto (s : _root_.Go.ChangeSpec) : _root_.Go.OpenSpec := { _root_.Go.OpenSpec.ofChange s with cond := some uptoSmall }

/-- 'chrysalislaw05.RingBlocks', WHERE WHAT IT READS IS OF BULK AT MOST 1048576: true; the input reads as it did. -/
def ringBlocksUptoRow : OpenClaim := { program := "ytmbkncckcpgdgaa", sum := "860fdaad08e4231e7231d7b694ddf3f7678532c623c633a690f406fb873a4e55", func := "chrysalis/chrysalislaw05.RingBlocks", spec := "ringBlocks", unfollowed := true, recurses := true, apart := false, narrowed := true }
def RingBlocksUptoSaid : Prop := ringBlocksUptoRow.holds Try.pinned (OpenSpec.upto ringBlocksSpec)

/-- 'chrysalislaw05.RingBack', WHERE WHAT IT READS IS OF BULK AT MOST 1048576: true; the input reads as it did. -/
def ringBackUptoRow : OpenClaim := { program := "ytmbkncckcpgdgaa", sum := "860fdaad08e4231e7231d7b694ddf3f7678532c623c633a690f406fb873a4e55", func := "chrysalis/chrysalislaw05.RingBack", spec := "ringBack", unfollowed := true, recurses := true, apart := false, narrowed := true }
def RingBackUptoSaid : Prop := ringBackUptoRow.holds Try.pinned (OpenSpec.upto ringBackSpec)

/-- 'chrysalislaw05.RingNil', WHERE WHAT IT READS IS OF BULK AT MOST 1048576: true; the input reads as it did. -/
def ringNilUptoRow : OpenClaim := { program := "ytmbkncckcpgdgaa", sum := "860fdaad08e4231e7231d7b694ddf3f7678532c623c633a690f406fb873a4e55", func := "chrysalis/chrysalislaw05.RingNil", spec := "ringNil", unfollowed := true, recurses := true, apart := false, narrowed := true }
def RingNilUptoSaid : Prop := ringNilUptoRow.holds Try.pinned (OpenSpec.upto ringNilSpec)

/-- 'chrysalislaw05.RingRow', WHERE WHAT IT READS IS OF BULK AT MOST 1048576: true; the input reads as it did. -/
def ringRowUptoRow : OpenClaim := { program := "ytmbkncckcpgdgaa", sum := "860fdaad08e4231e7231d7b694ddf3f7678532c623c633a690f406fb873a4e55", func := "chrysalis/chrysalislaw05.RingRow", spec := "ringRow", unfollowed := true, recurses := true, apart := false, narrowed := true }
def RingRowUptoSaid : Prop := ringRowUptoRow.holds Try.pinned (OpenSpec.upto ringRowSpec)

/-- 'chrysalislaw05.RingPlays', WHERE WHAT IT READS IS OF BULK AT MOST 1048576: true; the input reads as it did. -/
def ringPlaysUptoRow : OpenClaim := { program := "ytmbkncckcpgdgaa", sum := "860fdaad08e4231e7231d7b694ddf3f7678532c623c633a690f406fb873a4e55", func := "chrysalis/chrysalislaw05.RingPlays", spec := "ringPlays", unfollowed := true, recurses := true, apart := false, narrowed := true }
def RingPlaysUptoSaid : Prop := ringPlaysUptoRow.holds Try.pinned (OpenSpec.upto ringPlaysSpec)

/-- 'chrysalislaw05.RingCrashes', WHERE WHAT IT READS IS OF BULK AT MOST 1048576: true; the input reads as it did. -/
def ringCrashesUptoRow : OpenClaim := { program := "ytmbkncckcpgdgaa", sum := "860fdaad08e4231e7231d7b694ddf3f7678532c623c633a690f406fb873a4e55", func := "chrysalis/chrysalislaw05.RingCrashes", spec := "ringCrashes", unfollowed := true, recurses := true, apart := false, narrowed := true }
def RingCrashesUptoSaid : Prop := ringCrashesUptoRow.holds Try.pinned (OpenSpec.upto ringCrashesSpec)

end Rows
end Go.Proofs.Ytmbkncckcpgdgaa
