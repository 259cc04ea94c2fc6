/- Chapter 2: plain facts of words. No program's text. -/
import Derived.Test.YtjjpekgkaahpbaaDigM
namespace Go.Proofs.Ytjjpekgkaahpbaa
open Go.RowKit Zb

abbrev BV (x : Int) : BitVec 32 := BitVec.ofInt 32 x
theorem wrap_bv (x : BitVec 32) : IntKind.u32.wrap (x.toNat : Int) = (x.toNat : Int) := by
  have := x.isLt
  show (x.toNat : Int) % 4294967296 = _
  omega
theorem xor_bv (x y : Int) : xorW x y = ((BV x ^^^ BV y).toNat : Int) := wrap_bv _
theorem and_bv (x y : Int) : andW x y = ((BV x &&& BV y).toNat : Int) := wrap_bv _
theorem or_bv (x y : Int) : orW x y = ((BV x ||| BV y).toNat : Int) := wrap_bv _
theorem bv_nat (x : BitVec 32) : BV (x.toNat : Int) = x := by
  apply BitVec.eq_of_toNat_eq
  have := x.isLt
  simp [BV]
theorem bv_not (x : Int) : BV (notW x) = ~~~ (BV x) := by
  apply BitVec.eq_of_toNat_eq
  rw [BitVec.toNat_not, BitVec.toNat_ofInt, BitVec.toNat_ofInt]
  unfold notW
  show ((-x - 1) % 4294967296 % 4294967296).toNat = 4294967296 - 1 - (x % 4294967296).toNat
  omega
theorem or_comm_w (x y : Int) : orW x y = orW y x := by rw [or_bv, or_bv, BitVec.or_comm]
theorem ch_eq (e f g : Int) : xorW g (andW e (xorW f g)) = chW e f g := by
  unfold chW
  simp only [xor_bv, and_bv, bv_nat, bv_not]
  congr 2
  ext i
  simp only [BitVec.getElem_xor, BitVec.getElem_and, BitVec.getElem_not]
  cases (BV e)[i] <;> cases (BV f)[i] <;> cases (BV g)[i] <;> rfl
theorem maj_eq (a b c : Int) : orW (andW a b) (andW c (orW a b)) = majW a b c := by
  unfold majW
  simp only [xor_bv, and_bv, or_bv, bv_nat]
  congr 2
  ext i
  simp only [BitVec.getElem_xor, BitVec.getElem_and, BitVec.getElem_or]
  cases (BV a)[i] <;> cases (BV b)[i] <;> cases (BV c)[i] <;> rfl
end Go.Proofs.Ytjjpekgkaahpbaa
