/- Chapter 1: octet's Text and Next, and the document's. -/
import Derived.Test.YtjjpekgkaahpbaaOctC
import Derived.OwnWalk
namespace Go.Proofs.Ytjjpekgkaahpbaa
open Go.RowKit Zb

def NextPost (s : ByteArray) (at_ : Int) (w : World) (e : Ending) (w' : World) : Prop := e = .returned (.tuple #[.string (nextM s at_).1, .int .i64 (nextM s at_).2.1, .int .i64 (nextM s at_).2.2]) ∧ w = w'
theorem getN_lim (s : ByteArray) (a : Nat) : 0 ≤ getN s a 4 ∧ getN s a 4 ≤ 4294967295 := by
  unfold getN
  split
  · have h : leN (cutL s (a : Int).toNat (4 : Int).toNat) < 4294967296 := by
      have h1 := leN_lt (cutL s (a : Int).toNat (4 : Int).toNat)
      have h2 : (cutL s (a : Int).toNat (4 : Int).toNat).length ≤ 4 := List.length_take_le _ _
      exact Nat.lt_of_lt_of_le h1 (Nat.pow_le_pow_right (by omega) h2)
    generalize leN (cutL s (a : Int).toNat (4 : Int).toNat) = x at *
    unfold wrap64
    omega
  · omega
theorem extract_extract (s : ByteArray) (a n : Nat) (h : a + n ≤ s.size) : (s.extract a s.size).extract 0 n = s.extract a (a + n) := by
  apply ByteArray.ext
  simp only [ByteArray.data_extract, Array.extract_extract]
  congr 1
  omega
def nextYes (s : ByteArray) (a : Nat) (n : Nat) : ByteArray × Int × Int := (s.extract (a + 4) (a + 4 + n), (a : Int) + 4 + n, 0)

end Go.Proofs.Ytjjpekgkaahpbaa
