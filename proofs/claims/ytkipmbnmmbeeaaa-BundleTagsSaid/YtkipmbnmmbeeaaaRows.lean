/-
  No cell of these rows narrows 'for every input' (looked for: loops, veiled, ifaces, maps, wideKeys, modest, calm, conditions, laid).
  DERIVED. THE GIVEN ROWS OF THIS SEAT. 5 by the template 'for every input the law returns true; each argument reads behind the call as it read before'; 0 by the template 'total and deterministic' (their statements: YtkipmbnmmbeeaaaTotals.lean).
  GIVEN WITH THE SEED: the statements are not yours to turn. If you find one false, say at which input.
  Laid BY PROGRAM, IN A SANDBOX (cutbox-rows.mjs): the forced cells as the released guide's own fill.sh prints them over the translation 50f1853c90570811… (all of the seat's roots in one cut). By AI agents, Wed Nov 11 2026. No macro, syntax, notation, axiom, sorry.
-/
import Derived.Test.YtkipmbnmmbeeaaaChecked
import GoSem.Claim
import GoSem.ClaimJoined
import GoSem.ClaimMapViews
import Derived.JoinedTies
import Derived.KernelRfl
namespace Go.Proofs.Ytkipmbnmmbeeaaa
/- THE CELL 'sum', in the pinned program and in every row, IS THE sha256 OF THE DUMP (.gsa) THAT YtkipmbnmmbeeaaaProg.lean LOADS. Nothing in Lean hashes anything: it is a label: what it is worth is what the hold of that sum in a sandbox is worth. -/
noncomputable def Try.pinned : Pinned := { name := "ytkipmbnmmbeeaaa", sum := "50f1853c905708113d0b13feac70add66194654baed37b003ba4fbe90222f2f2", checked := Try.checked }
namespace Rows
def none {H : Type} : Left H := { results := [], args := [] }

/-- 'chrysalislaw25.BundleBuilds': WHATEVER THE INPUT: true; the input reads as it did. -/
def bundleBuildsSpec : ChangeSpec := { name := "bundleBuilds", fn := fun _ => fun
  | [d1, d2] => { results := [.lit (.bool true)], args := [d1, d2] }
  | _ => none }
def bundleBuildsRow : OpenClaim := { program := "ytkipmbnmmbeeaaa", sum := "50f1853c905708113d0b13feac70add66194654baed37b003ba4fbe90222f2f2", func := "chrysalis/chrysalislaw25.BundleBuilds", spec := "bundleBuilds", unfollowed := true, recurses := true, apart := false }
def BundleBuildsSaid : Prop := bundleBuildsRow.holds Try.pinned (OpenSpec.ofChange bundleBuildsSpec)

/-- ITS FALSE NEIGHBOUR: 'it returns false'. Refute it at one input. -/
def bundleBuildsWrong : ChangeSpec := { name := "bundleBuilds", fn := fun _ => fun
  | [d1, d2] => { results := [.lit (.bool false)], args := [d1, d2] }
  | _ => none }
def BundleBuildsWrongFalsely : Prop := bundleBuildsRow.holds Try.pinned (OpenSpec.ofChange bundleBuildsWrong)

/-- 'chrysalislaw25.BundleParses': WHATEVER THE INPUT: true; the input reads as it did. -/
def bundleParsesSpec : ChangeSpec := { name := "bundleParses", fn := fun _ => fun
  | [d1, d2] => { results := [.lit (.bool true)], args := [d1, d2] }
  | _ => none }
def bundleParsesRow : OpenClaim := { program := "ytkipmbnmmbeeaaa", sum := "50f1853c905708113d0b13feac70add66194654baed37b003ba4fbe90222f2f2", func := "chrysalis/chrysalislaw25.BundleParses", spec := "bundleParses", unfollowed := true, recurses := true, apart := false }
def BundleParsesSaid : Prop := bundleParsesRow.holds Try.pinned (OpenSpec.ofChange bundleParsesSpec)

/-- ITS FALSE NEIGHBOUR: 'it returns false'. Refute it at one input. -/
def bundleParsesWrong : ChangeSpec := { name := "bundleParses", fn := fun _ => fun
  | [d1, d2] => { results := [.lit (.bool false)], args := [d1, d2] }
  | _ => none }
def BundleParsesWrongFalsely : Prop := bundleParsesRow.holds Try.pinned (OpenSpec.ofChange bundleParsesWrong)

/-- 'chrysalislaw25.BundleBack': WHATEVER THE INPUT: true; the input reads as it did. -/
def bundleBackSpec : ChangeSpec := { name := "bundleBack", fn := fun _ => fun
  | [d1, d2, d3] => { results := [.lit (.bool true)], args := [d1, d2, d3] }
  | _ => none }
def bundleBackRow : OpenClaim := { program := "ytkipmbnmmbeeaaa", sum := "50f1853c905708113d0b13feac70add66194654baed37b003ba4fbe90222f2f2", func := "chrysalis/chrysalislaw25.BundleBack", spec := "bundleBack", unfollowed := true, recurses := true, apart := false }
def BundleBackSaid : Prop := bundleBackRow.holds Try.pinned (OpenSpec.ofChange bundleBackSpec)

/-- ITS FALSE NEIGHBOUR: 'it returns false'. Refute it at one input. -/
def bundleBackWrong : ChangeSpec := { name := "bundleBack", fn := fun _ => fun
  | [d1, d2, d3] => { results := [.lit (.bool false)], args := [d1, d2, d3] }
  | _ => none }
def BundleBackWrongFalsely : Prop := bundleBackRow.holds Try.pinned (OpenSpec.ofChange bundleBackWrong)

/-- 'chrysalislaw25.BundleTags': WHATEVER THE INPUT: true; the input reads as it did. -/
def bundleTagsSpec : ChangeSpec := { name := "bundleTags", fn := fun _ => fun
  | [d] => { results := [.lit (.bool true)], args := [d] }
  | _ => none }
def bundleTagsRow : OpenClaim := { program := "ytkipmbnmmbeeaaa", sum := "50f1853c905708113d0b13feac70add66194654baed37b003ba4fbe90222f2f2", func := "chrysalis/chrysalislaw25.BundleTags", spec := "bundleTags", unfollowed := true, recurses := true, apart := false }
def BundleTagsSaid : Prop := bundleTagsRow.holds Try.pinned (OpenSpec.ofChange bundleTagsSpec)

/-- ITS FALSE NEIGHBOUR: 'it returns false'. Refute it at one input. -/
def bundleTagsWrong : ChangeSpec := { name := "bundleTags", fn := fun _ => fun
  | [d] => { results := [.lit (.bool false)], args := [d] }
  | _ => none }
def BundleTagsWrongFalsely : Prop := bundleTagsRow.holds Try.pinned (OpenSpec.ofChange bundleTagsWrong)

/-- 'chrysalislaw25.BundleKeys': WHATEVER THE INPUT: true; the input reads as it did. -/
def bundleKeysSpec : ChangeSpec := { name := "bundleKeys", fn := fun _ => fun
  | [d1, d2] => { results := [.lit (.bool true)], args := [d1, d2] }
  | _ => none }
def bundleKeysRow : OpenClaim := { program := "ytkipmbnmmbeeaaa", sum := "50f1853c905708113d0b13feac70add66194654baed37b003ba4fbe90222f2f2", func := "chrysalis/chrysalislaw25.BundleKeys", spec := "bundleKeys", unfollowed := true, recurses := true, apart := false }
def BundleKeysSaid : Prop := bundleKeysRow.holds Try.pinned (OpenSpec.ofChange bundleKeysSpec)

/-- ITS FALSE NEIGHBOUR: 'it returns false'. Refute it at one input. -/
def bundleKeysWrong : ChangeSpec := { name := "bundleKeys", fn := fun _ => fun
  | [d1, d2] => { results := [.lit (.bool false)], args := [d1, d2] }
  | _ => none }
def BundleKeysWrongFalsely : Prop := bundleKeysRow.holds Try.pinned (OpenSpec.ofChange bundleKeysWrong)

/- THE SECOND FORM. 'bulk': how many values and letters a reading holds, each counted each time it is reached (what is shared counts as often as it is met; a slice's spare places count too). A statement '..UptoSaid' is the law's where the arguments, and the package variables that the reading takes, are together of bulk at most 1048576: NARROWER than '..Said'. Prove '..Said' where nothing that the law and all that it calls make is longer than what came in: it says more and counts as full. Else prove '..UptoSaid'. A law counts once. -/
mutual
def uptoBulk {H : Type} : DataW H → Nat
  | .lit (.string bytes) => bytes.length + 1
  | .lit _ => 1
  | .nil => 1
  | .ptr d => uptoBulk d + 1
  | .slice elems spare => uptoBulkAll elems + uptoBulkAll spare + 1
  | .agg parts => uptoBulkAll parts + 1
  | .iface _ d => uptoBulk d + 1
  | .map entries => uptoBulkEntries entries + 1
  | .held _ => 1
def uptoBulkAll {H : Type} : List (DataW H) → Nat
  | [] => 0
  | d :: r => uptoBulk d + uptoBulkAll r
def uptoBulkEntries {H : Type} : List (Lit × DataW H) → Nat
  | [] => 0
  | x :: r => uptoBulkEntry x + uptoBulkEntries r
def uptoBulkEntry {H : Type} : Lit × DataW H → Nat
  | (.string bytes, d) => bytes.length + uptoBulk d + 1
  | (_, d) => uptoBulk d + 1
 end
def uptoSmall : (H : Type) → List (DataW H) → Bool := fun _ ds => decide (uptoBulkAll ds ≤ 1048576)
def OpenSpec.upto (s : _root_.Go.ChangeSpec) : _root_.Go.OpenSpec := { _root_.Go.OpenSpec.ofChange s with cond := some uptoSmall }

/-- 'chrysalislaw25.BundleBuilds', WHERE WHAT IT READS IS OF BULK AT MOST 1048576: true; the input reads as it did. -/
def bundleBuildsUptoRow : OpenClaim := { program := "ytkipmbnmmbeeaaa", sum := "50f1853c905708113d0b13feac70add66194654baed37b003ba4fbe90222f2f2", func := "chrysalis/chrysalislaw25.BundleBuilds", spec := "bundleBuilds", unfollowed := true, recurses := true, apart := false, narrowed := true }
def BundleBuildsUptoSaid : Prop := bundleBuildsUptoRow.holds Try.pinned (OpenSpec.upto bundleBuildsSpec)

/-- 'chrysalislaw25.BundleParses', WHERE WHAT IT READS IS OF BULK AT MOST 1048576: true; the input reads as it did. -/
def bundleParsesUptoRow : OpenClaim := { program := "ytkipmbnmmbeeaaa", sum := "50f1853c905708113d0b13feac70add66194654baed37b003ba4fbe90222f2f2", func := "chrysalis/chrysalislaw25.BundleParses", spec := "bundleParses", unfollowed := true, recurses := true, apart := false, narrowed := true }
def BundleParsesUptoSaid : Prop := bundleParsesUptoRow.holds Try.pinned (OpenSpec.upto bundleParsesSpec)

/-- 'chrysalislaw25.BundleBack', WHERE WHAT IT READS IS OF BULK AT MOST 1048576: true; the input reads as it did. -/
def bundleBackUptoRow : OpenClaim := { program := "ytkipmbnmmbeeaaa", sum := "50f1853c905708113d0b13feac70add66194654baed37b003ba4fbe90222f2f2", func := "chrysalis/chrysalislaw25.BundleBack", spec := "bundleBack", unfollowed := true, recurses := true, apart := false, narrowed := true }
def BundleBackUptoSaid : Prop := bundleBackUptoRow.holds Try.pinned (OpenSpec.upto bundleBackSpec)

/-- 'chrysalislaw25.BundleTags', WHERE WHAT IT READS IS OF BULK AT MOST 1048576: true; the input reads as it did. -/
def bundleTagsUptoRow : OpenClaim := { program := "ytkipmbnmmbeeaaa", sum := "50f1853c905708113d0b13feac70add66194654baed37b003ba4fbe90222f2f2", func := "chrysalis/chrysalislaw25.BundleTags", spec := "bundleTags", unfollowed := true, recurses := true, apart := false, narrowed := true }
def BundleTagsUptoSaid : Prop := bundleTagsUptoRow.holds Try.pinned (OpenSpec.upto bundleTagsSpec)

/-- 'chrysalislaw25.BundleKeys', WHERE WHAT IT READS IS OF BULK AT MOST 1048576: true; the input reads as it did. -/
def bundleKeysUptoRow : OpenClaim := { program := "ytkipmbnmmbeeaaa", sum := "50f1853c905708113d0b13feac70add66194654baed37b003ba4fbe90222f2f2", func := "chrysalis/chrysalislaw25.BundleKeys", spec := "bundleKeys", unfollowed := true, recurses := true, apart := false, narrowed := true }
def BundleKeysUptoSaid : Prop := bundleKeysUptoRow.holds Try.pinned (OpenSpec.upto bundleKeysSpec)

end Rows
end Go.Proofs.Ytkipmbnmmbeeaaa
