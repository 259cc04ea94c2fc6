/- Chapter 5: the journal as a model in plain Lean. No program's text. -/
import Derived.Test.YtmbkncckcpgdgaaDg1
import Derived.Test.YtmbkncckcpgdgaaOc1
import Derived.Test.YtmbkncckcpgdgaaDk1
namespace Go.Proofs.Ytmbkncckcpgdgaa
open Go.RowKit Zb

structure EntM where
  kind : Int
  number : Int
  slot : Int
  size : Int
  sum : ByteArray
deriving DecidableEq
def EntM.zero : EntM := ⟨0, 0, 0, 0, ⟨#[]⟩⟩
def EntM.right (e : EntM) : Bool := decide (1 ≤ e.kind) && decide (e.kind ≤ 3) && decide (1 ≤ e.number) && decide (e.number ≤ 4294967295) && decide (0 ≤ e.slot) && decide (e.slot ≤ 2) && decide (0 ≤ e.size) && decide (e.size ≤ 4294967295) && decide (e.sum.size = 32)
def dig8 (s : ByteArray) : ByteArray := (⟨(digW s.data.toList).toArray⟩ : ByteArray).extract 0 8
/-- what stands in a block ahead of its mark -/
def EntM.body (e : EntM) : ByteArray := ⟨#[67, 74]⟩ ++ (putB e.kind 1 ++ putB e.slot 1 ++ putB e.number 4 ++ putB e.size 4) ++ e.sum
def EntM.block (e : EntM) : ByteArray := e.body ++ dig8 e.body ++ zeros 12
def buildB (e : EntM) : ByteArray := if e.right then e.block else ⟨#[]⟩
def buildE (e : EntM) : Int := if e.right then 0 else 1
/-- the entry that a block would say -/
def saidE (s : ByteArray) : EntM := ⟨getN s 2 1, getN s 4 4, getN s 3 1, getN s 8 4, s.extract 12 44⟩
def parseOk (s : ByteArray) : Bool := decide (s.size = 64) && (saidE s).right && decide ((saidE s).block = s)
def parseM (s : ByteArray) : EntM := if parseOk s then saidE s else EntM.zero
/-- an entry put ahead of the first that has a higher number -/
def insE : List EntM → EntM → List EntM
  | [], e => [e]
  | x :: l, e => if e.number < x.number then e :: x :: l else x :: insE l e
/-- one block gone through -/
def scanStep (D : DiskM) (out : List EntM) (i : Nat) : List EntM := if parseOk (D.read i).1 && decide ((parseM (D.read i).1).number % 8 = i) then insE out (parseM (D.read i).1) else out
def scanTo (D : DiskM) : Nat → List EntM
  | 0 => []
  | n + 1 => scanStep D (scanTo D n) n
def scanE (D : DiskM) : Int := (D.read 0).2
def scanL (D : DiskM) : List EntM := if scanE D = 0 then scanTo D 8 else []
def lastIs (D : DiskM) : Bool := !(scanL D).isEmpty
def lastM (D : DiskM) : EntM := (scanL D).getLastD EntM.zero
/-- Append: the disk, the entry, what is wrong -/
def appendM (D : DiskM) (e : EntM) : DiskM × EntM × Int :=
  if scanE D ≠ 0 then (D, EntM.zero, scanE D)
  else if (lastM D).number = 4294967295 then (D, EntM.zero, 6)
  else
    let e' := { e with number := (lastM D).number + 1 }
    if e'.right = false then (D, EntM.zero, 1)
    else
      let W := D.write (e'.number % 8) e'.block
      if W.2 ≠ 0 then (W.1, EntM.zero, W.2)
      else
        let S := W.1.sync
        if S.2 ≠ 0 then (S.1, EntM.zero, S.2) else (S.1, e', 0)
end Go.Proofs.Ytmbkncckcpgdgaa
