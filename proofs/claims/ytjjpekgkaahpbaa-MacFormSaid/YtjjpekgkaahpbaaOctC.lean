/- Chapter 1: octet's Get and the document's. -/
import Derived.Test.YtjjpekgkaahpbaaOctB
namespace Go.Proofs.Ytjjpekgkaahpbaa
open Go.RowKit Zb

def GetPost (s : ByteArray) (at_ width : Int) (w : World) (e : Ending) (w' : World) : Prop := e = .returned (.tuple #[.int .i64 (getN s at_ width), .int .i64 (getE s at_ width)]) ∧ w = w'
theorem or_step (x : Nat) (b : UInt8) (m : Nat) (hm : m < 8) (hx : x < 256 ^ m) : bits .or .u64 (x : Int) (IntKind.u64.wrap (IntKind.u64.wrap (b.toNat : Int) * 2 ^ (8 * m))) = ((x + 256 ^ m * b.toNat : Nat) : Int) := by
  have hb := b.toNat_lt
  have hp : (256 : Int) ^ m * 256 ≤ 18446744073709551616 := by
    have : m = 0 ∨ m = 1 ∨ m = 2 ∨ m = 3 ∨ m = 4 ∨ m = 5 ∨ m = 6 ∨ m = 7 := by omega
    rcases this with rfl | rfl | rfl | rfl | rfl | rfl | rfl | rfl <;> decide
  have hp0 : (0 : Int) < 256 ^ m := Int.pow_pos (by omega)
  have hxI : (x : Int) < 256 ^ m := by have := Int.ofNat_lt.2 hx; simpa using this
  have e1 : IntKind.u64.wrap (b.toNat : Int) = b.toNat := by rw [IntKind.wrap_u64]; omega
  have hlt : (b.toNat : Int) * 256 ^ m < 18446744073709551616 := by
    have : (b.toNat : Int) * 256 ^ m ≤ 255 * 256 ^ m := Int.mul_le_mul_of_nonneg_right (by omega) (by omega)
    omega
  have hge : 0 ≤ (b.toNat : Int) * 256 ^ m := Int.mul_nonneg (by omega) (by omega)
  have e2 : IntKind.u64.wrap ((b.toNat : Int) * 256 ^ m) = (b.toNat : Int) * 256 ^ m := by rw [IntKind.wrap_u64]; omega
  rw [e1, pow_256, e2]
  have hc : bits .or .u64 (x : Int) ((b.toNat : Int) * 256 ^ m) = bits .or .u64 ((b.toNat : Int) * 256 ^ m) x := by simp only [bits, BitVec.or_comm]
  rw [hc, bits_join .u64 64 (by decide) (fun n h0 h1 => by rw [IntKind.wrap_u64]; omega) (8 * m) _ _ hge (by rw [pow_256]; simp) (by omega) (by omega) (by rw [pow_256]; exact hxI) (by omega)]
  rw [Int.natCast_add, Int.natCast_mul, Int.natCast_pow, Int.mul_comm, Int.add_comm]
  rfl
theorem getN_of {s : ByteArray} {a k : Nat} (h : getE s a k = 0) : getN s a k = wrap64 (leN (cutL s a k)) := by
  rw [getN, if_pos h]
  simp only [Int.toNat_natCast]
theorem leN_cut (s : ByteArray) (a m : Nat) : leN (cutL s a m) < 256 ^ (cutL s a m).length := leN_lt _

theorem get_step (x : Nat) (m : Nat) (hm : m < 8) (hx : x < 256 ^ m) : 0 ≤ (x : Int) ∧ (x : Int) ≤ 72057594037927935 := by
  have hp : (256 : Nat) ^ m ≤ 72057594037927936 := by
    have : m = 0 ∨ m = 1 ∨ m = 2 ∨ m = 3 ∨ m = 4 ∨ m = 5 ∨ m = 6 ∨ m = 7 := by omega
    rcases this with rfl | rfl | rfl | rfl | rfl | rfl | rfl | rfl <;> decide
  omega
end Go.Proofs.Ytjjpekgkaahpbaa
