/- Chapter 1: the document's Put. -/
import Derived.Test.YtjjpekgkaahpbaaOctA
namespace Go.Proofs.Ytjjpekgkaahpbaa
open Go.RowKit Zb

theorem low_byte (n : Int) (m : Nat) (h : m < 8) : n % 18446744073709551616 / 256 ^ m % 256 = n / 256 ^ m % 256 := by
  have : m = 0 ∨ m = 1 ∨ m = 2 ∨ m = 3 ∨ m = 4 ∨ m = 5 ∨ m = 6 ∨ m = 7 := by omega
  rcases this with rfl | rfl | rfl | rfl | rfl | rfl | rfl | rfl
  all_goals omega
theorem pow_next (n : Int) (m : Nat) : n % 18446744073709551616 / 256 ^ m / 256 = n % 18446744073709551616 / 256 ^ (m + 1) := by
  rw [Int.pow_succ, Int.ediv_ediv_of_nonneg (Int.pow_nonneg (by omega))]

end Go.Proofs.Ytjjpekgkaahpbaa
