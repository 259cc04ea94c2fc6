/- Chapter 1: octet's wide and Put, and the document's: both lay the same bytes down. -/
import Derived.Test.YtjjpekgkaahpbaaBuf
import Derived.Test.YtjjpekgkaahpbaaOctM
namespace Go.Proofs.Ytjjpekgkaahpbaa
open Go.RowKit Zb

theorem put_test (n : Int) (h0 : -9223372036854775808 ≤ n) (h1 : n < 9223372036854775808) (k : Nat) (hk : k = 1 ∨ k = 2 ∨ k = 4) : (IntKind.u64.wrap n / 2 ^ (8 * k) != 0) = !(decide (0 ≤ n) && decide (n < 256 ^ k)) := by
  rw [IntKind.wrap_u64, Bool.eq_iff_iff]
  rcases hk with rfl | rfl | rfl
  all_goals simp
  all_goals omega
theorem pow_256 (m : Nat) : (2 : Int) ^ (8 * m) = 256 ^ m := by rw [Int.pow_mul]; rfl
theorem leL_set (n : Int) (m k : Nat) (h : m < k) : (leL n m ++ List.replicate (k - m) 0).set m (octAt n m) = leL n (m + 1) ++ List.replicate (k - (m + 1)) 0 := by
  rw [show k - m = (k - (m + 1)) + 1 by omega, List.replicate_succ, List.set_append_right _ _ (by rw [leL_length]; omega), leL_length, Nat.sub_self, leL_succ]
  simp
theorem leL_len (n : Int) (m k : Nat) (h : m ≤ k) : (leL n m ++ List.replicate (k - m) 0).length = k := by simp [leL_length]; omega
def PutPost (n width : Int) (w : World) (e : Ending) (w' : World) : Prop := e = .returned (.tuple #[.string (putB n width), .int .i64 (putE n width)]) ∧ Below w.heap.size w w'

end Go.Proofs.Ytjjpekgkaahpbaa
