/-
  No cell of these rows narrows 'for every input' (looked for: loops, veiled, ifaces, maps, wideKeys, modest, calm, conditions, laid).
  DERIVED. THE GIVEN ROWS OF THIS SEAT. 6 by the template 'for every input the law returns true; each argument reads behind the call as it read before'; 0 by the template 'total and deterministic' (their statements: YtaiedfimdjdoaaaTotals.lean).
  GIVEN WITH THE SEED: the statements are not yours to turn. If you find one false, say at which input.
  Laid BY PROGRAM, IN A SANDBOX (cutbox-rows.mjs): the forced cells as the released guide's own fill.sh prints them over the translation 532a6838f8060002… (all of the seat's roots in one cut). By AI agents, Wed Nov 11 2026. No macro, syntax, notation, axiom, sorry.
-/
import Derived.Test.YtaiedfimdjdoaaaChecked
import GoSem.Claim
import GoSem.ClaimJoined
import GoSem.ClaimMapViews
import Derived.JoinedTies
import Derived.KernelRfl
namespace Go.Proofs.Ytaiedfimdjdoaaa
/- THE CELL 'sum', in the pinned program and in every row, IS THE sha256 OF THE DUMP (.gsa) THAT YtaiedfimdjdoaaaProg.lean LOADS. Nothing in Lean hashes anything: it is a label: what it is worth is what the hold of that sum in a sandbox is worth. -/
noncomputable def Try.pinned : Pinned := { name := "ytaiedfimdjdoaaa", sum := "532a6838f80600026e4d7e342b47c6bbd5b4104988e2bc5615ca8bded8c58db9", checked := Try.checked }
namespace Rows
def none {H : Type} : Left H := { results := [], args := [] }

/-- 'chrysalislaw01.OctetPuts': WHATEVER THE INPUT: true; the input reads as it did. -/
def octetPutsSpec : ChangeSpec := { name := "octetPuts", fn := fun _ => fun
  | [d1, d2] => { results := [.lit (.bool true)], args := [d1, d2] }
  | _ => none }
def octetPutsRow : OpenClaim := { program := "ytaiedfimdjdoaaa", sum := "532a6838f80600026e4d7e342b47c6bbd5b4104988e2bc5615ca8bded8c58db9", func := "chrysalis/chrysalislaw01.OctetPuts", spec := "octetPuts", apart := false }
def OctetPutsSaid : Prop := octetPutsRow.holds Try.pinned (OpenSpec.ofChange octetPutsSpec)

/-- ITS FALSE NEIGHBOUR: 'it returns false'. Refute it at one input. -/
def octetPutsWrong : ChangeSpec := { name := "octetPuts", fn := fun _ => fun
  | [d1, d2] => { results := [.lit (.bool false)], args := [d1, d2] }
  | _ => none }
def OctetPutsWrongFalsely : Prop := octetPutsRow.holds Try.pinned (OpenSpec.ofChange octetPutsWrong)

/-- 'chrysalislaw01.OctetGets': WHATEVER THE INPUT: true; the input reads as it did. -/
def octetGetsSpec : ChangeSpec := { name := "octetGets", fn := fun _ => fun
  | [d1, d2, d3] => { results := [.lit (.bool true)], args := [d1, d2, d3] }
  | _ => none }
def octetGetsRow : OpenClaim := { program := "ytaiedfimdjdoaaa", sum := "532a6838f80600026e4d7e342b47c6bbd5b4104988e2bc5615ca8bded8c58db9", func := "chrysalis/chrysalislaw01.OctetGets", spec := "octetGets", apart := false }
def OctetGetsSaid : Prop := octetGetsRow.holds Try.pinned (OpenSpec.ofChange octetGetsSpec)

/-- ITS FALSE NEIGHBOUR: 'it returns false'. Refute it at one input. -/
def octetGetsWrong : ChangeSpec := { name := "octetGets", fn := fun _ => fun
  | [d1, d2, d3] => { results := [.lit (.bool false)], args := [d1, d2, d3] }
  | _ => none }
def OctetGetsWrongFalsely : Prop := octetGetsRow.holds Try.pinned (OpenSpec.ofChange octetGetsWrong)

/-- 'chrysalislaw01.OctetTexts': WHATEVER THE INPUT: true; the input reads as it did. -/
def octetTextsSpec : ChangeSpec := { name := "octetTexts", fn := fun _ => fun
  | [d] => { results := [.lit (.bool true)], args := [d] }
  | _ => none }
def octetTextsRow : OpenClaim := { program := "ytaiedfimdjdoaaa", sum := "532a6838f80600026e4d7e342b47c6bbd5b4104988e2bc5615ca8bded8c58db9", func := "chrysalis/chrysalislaw01.OctetTexts", spec := "octetTexts", apart := false }
def OctetTextsSaid : Prop := octetTextsRow.holds Try.pinned (OpenSpec.ofChange octetTextsSpec)

/-- ITS FALSE NEIGHBOUR: 'it returns false'. Refute it at one input. -/
def octetTextsWrong : ChangeSpec := { name := "octetTexts", fn := fun _ => fun
  | [d] => { results := [.lit (.bool false)], args := [d] }
  | _ => none }
def OctetTextsWrongFalsely : Prop := octetTextsRow.holds Try.pinned (OpenSpec.ofChange octetTextsWrong)

/-- 'chrysalislaw01.OctetBack': WHATEVER THE INPUT: true; the input reads as it did. -/
def octetBackSpec : ChangeSpec := { name := "octetBack", fn := fun _ => fun
  | [d] => { results := [.lit (.bool true)], args := [d] }
  | _ => none }
def octetBackRow : OpenClaim := { program := "ytaiedfimdjdoaaa", sum := "532a6838f80600026e4d7e342b47c6bbd5b4104988e2bc5615ca8bded8c58db9", func := "chrysalis/chrysalislaw01.OctetBack", spec := "octetBack", apart := false }
def OctetBackSaid : Prop := octetBackRow.holds Try.pinned (OpenSpec.ofChange octetBackSpec)

/-- ITS FALSE NEIGHBOUR: 'it returns false'. Refute it at one input. -/
def octetBackWrong : ChangeSpec := { name := "octetBack", fn := fun _ => fun
  | [d] => { results := [.lit (.bool false)], args := [d] }
  | _ => none }
def OctetBackWrongFalsely : Prop := octetBackRow.holds Try.pinned (OpenSpec.ofChange octetBackWrong)

/-- 'chrysalislaw01.OctetRow': WHATEVER THE INPUT: true; the input reads as it did. -/
def octetRowSpec : ChangeSpec := { name := "octetRow", fn := fun _ => fun
  | [d] => { results := [.lit (.bool true)], args := [d] }
  | _ => none }
def octetRowRow : OpenClaim := { program := "ytaiedfimdjdoaaa", sum := "532a6838f80600026e4d7e342b47c6bbd5b4104988e2bc5615ca8bded8c58db9", func := "chrysalis/chrysalislaw01.OctetRow", spec := "octetRow", apart := false }
def OctetRowSaid : Prop := octetRowRow.holds Try.pinned (OpenSpec.ofChange octetRowSpec)

/-- ITS FALSE NEIGHBOUR: 'it returns false'. Refute it at one input. -/
def octetRowWrong : ChangeSpec := { name := "octetRow", fn := fun _ => fun
  | [d] => { results := [.lit (.bool false)], args := [d] }
  | _ => none }
def OctetRowWrongFalsely : Prop := octetRowRow.holds Try.pinned (OpenSpec.ofChange octetRowWrong)

/-- 'chrysalislaw01.OctetLow': WHATEVER THE INPUT: true; the input reads as it did. -/
def octetLowSpec : ChangeSpec := { name := "octetLow", fn := fun _ => fun
  | [d1, d2] => { results := [.lit (.bool true)], args := [d1, d2] }
  | _ => none }
def octetLowRow : OpenClaim := { program := "ytaiedfimdjdoaaa", sum := "532a6838f80600026e4d7e342b47c6bbd5b4104988e2bc5615ca8bded8c58db9", func := "chrysalis/chrysalislaw01.OctetLow", spec := "octetLow", apart := false }
def OctetLowSaid : Prop := octetLowRow.holds Try.pinned (OpenSpec.ofChange octetLowSpec)

/-- ITS FALSE NEIGHBOUR: 'it returns false'. Refute it at one input. -/
def octetLowWrong : ChangeSpec := { name := "octetLow", fn := fun _ => fun
  | [d1, d2] => { results := [.lit (.bool false)], args := [d1, d2] }
  | _ => none }
def OctetLowWrongFalsely : Prop := octetLowRow.holds Try.pinned (OpenSpec.ofChange octetLowWrong)

/- THE SECOND FORM. 'bulk': how many values and letters a reading holds, each counted each time it is reached (what is shared counts as often as it is met; a slice's spare places count too). A statement '..UptoSaid' is the law's where the arguments, and the package variables that the reading takes, are together of bulk at most 1048576: NARROWER than '..Said'. Prove '..Said' where nothing that the law and all that it calls make is longer than what came in: it says more and counts as full. Else prove '..UptoSaid'. A law counts once. -/
mutual
def uptoBulk {H : Type} : DataW H → Nat
  | .lit (.string bytes) => bytes.length + 1
  | .lit _ => 1
  | .nil => 1
  | .ptr d => uptoBulk d + 1
  | .slice elems spare => uptoBulkAll elems + uptoBulkAll spare + 1
  | .agg parts => uptoBulkAll parts + 1
  | .iface _ d => uptoBulk d + 1
  | .map entries => uptoBulkEntries entries + 1
  | .held _ => 1
def uptoBulkAll {H : Type} : List (DataW H) → Nat
  | [] => 0
  | d :: r => uptoBulk d + uptoBulkAll r
def uptoBulkEntries {H : Type} : List (Lit × DataW H) → Nat
  | [] => 0
  | x :: r => uptoBulkEntry x + uptoBulkEntries r
def uptoBulkEntry {H : Type} : Lit × DataW H → Nat
  | (.string bytes, d) => bytes.length + uptoBulk d + 1
  | (_, d) => uptoBulk d + 1
 end
def uptoSmall : (H : Type) → List (DataW H) → Bool := fun _ ds => decide (uptoBulkAll ds ≤ 1048576)
def OpenSpec.upto (s : _root_.Go.ChangeSpec) : _root_.Go.OpenSpec := { _root_.Go.OpenSpec.ofChange s with cond := some uptoSmall }

/-- 'chrysalislaw01.OctetPuts', WHERE WHAT IT READS IS OF BULK AT MOST 1048576: true; the input reads as it did. -/
def octetPutsUptoRow : OpenClaim := { program := "ytaiedfimdjdoaaa", sum := "532a6838f80600026e4d7e342b47c6bbd5b4104988e2bc5615ca8bded8c58db9", func := "chrysalis/chrysalislaw01.OctetPuts", spec := "octetPuts", apart := false, narrowed := true }
def OctetPutsUptoSaid : Prop := octetPutsUptoRow.holds Try.pinned (OpenSpec.upto octetPutsSpec)

/-- 'chrysalislaw01.OctetGets', WHERE WHAT IT READS IS OF BULK AT MOST 1048576: true; the input reads as it did. -/
def octetGetsUptoRow : OpenClaim := { program := "ytaiedfimdjdoaaa", sum := "532a6838f80600026e4d7e342b47c6bbd5b4104988e2bc5615ca8bded8c58db9", func := "chrysalis/chrysalislaw01.OctetGets", spec := "octetGets", apart := false, narrowed := true }
def OctetGetsUptoSaid : Prop := octetGetsUptoRow.holds Try.pinned (OpenSpec.upto octetGetsSpec)

/-- 'chrysalislaw01.OctetTexts', WHERE WHAT IT READS IS OF BULK AT MOST 1048576: true; the input reads as it did. -/
def octetTextsUptoRow : OpenClaim := { program := "ytaiedfimdjdoaaa", sum := "532a6838f80600026e4d7e342b47c6bbd5b4104988e2bc5615ca8bded8c58db9", func := "chrysalis/chrysalislaw01.OctetTexts", spec := "octetTexts", apart := false, narrowed := true }
def OctetTextsUptoSaid : Prop := octetTextsUptoRow.holds Try.pinned (OpenSpec.upto octetTextsSpec)

/-- 'chrysalislaw01.OctetBack', WHERE WHAT IT READS IS OF BULK AT MOST 1048576: true; the input reads as it did. -/
def octetBackUptoRow : OpenClaim := { program := "ytaiedfimdjdoaaa", sum := "532a6838f80600026e4d7e342b47c6bbd5b4104988e2bc5615ca8bded8c58db9", func := "chrysalis/chrysalislaw01.OctetBack", spec := "octetBack", apart := false, narrowed := true }
def OctetBackUptoSaid : Prop := octetBackUptoRow.holds Try.pinned (OpenSpec.upto octetBackSpec)

/-- 'chrysalislaw01.OctetRow', WHERE WHAT IT READS IS OF BULK AT MOST 1048576: true; the input reads as it did. -/
def octetRowUptoRow : OpenClaim := { program := "ytaiedfimdjdoaaa", sum := "532a6838f80600026e4d7e342b47c6bbd5b4104988e2bc5615ca8bded8c58db9", func := "chrysalis/chrysalislaw01.OctetRow", spec := "octetRow", apart := false, narrowed := true }
def OctetRowUptoSaid : Prop := octetRowUptoRow.holds Try.pinned (OpenSpec.upto octetRowSpec)

/-- 'chrysalislaw01.OctetLow', WHERE WHAT IT READS IS OF BULK AT MOST 1048576: true; the input reads as it did. -/
def octetLowUptoRow : OpenClaim := { program := "ytaiedfimdjdoaaa", sum := "532a6838f80600026e4d7e342b47c6bbd5b4104988e2bc5615ca8bded8c58db9", func := "chrysalis/chrysalislaw01.OctetLow", spec := "octetLow", apart := false, narrowed := true }
def OctetLowUptoSaid : Prop := octetLowUptoRow.holds Try.pinned (OpenSpec.upto octetLowSpec)

end Rows
end Go.Proofs.Ytaiedfimdjdoaaa
