/- Chapter 2: the digest's small functions, walked: words turned to the right. -/
import Derived.Test.YtjjpekgkaahpbaaProg
import Derived.Test.YtjjpekgkaahpbaaDigP
import Derived.WalkLawsBesides
import Derived.Outline
import Derived.LoopTactic
import Derived.Deep.LoopGhost
namespace Go.Proofs.Ytjjpekgkaahpbaa
open Go.RowKit Zb

theorem and31 : ∀ n : Nat, n < 32 → 1 ≤ n → bits .and .u64 (18446744073709551616 - (n : Int)) 31 = 32 - (n : Int) := by decide +kernel
theorem ret_u32 {a b : Int} (h : a = b) : Ending.returned (.int .u32 a) = Ending.returned (.int .u32 b) := by rw [h]
theorem rotl_calls (x : Int) (n : Nat) (h0 : 1 ≤ n) (h1 : n < 32) (w : World) : Calls Try.prog 39 #[.int .u32 x, .int .i64 (-(n : Int))] w fun e w' => e = .returned (.int .u32 (rotW x n)) ∧ w = w' := by
  have ha := and31 n h1 h0
  have hm : IntKind.u64.wrap (-(n : Int)) = 18446744073709551616 - (n : Int) := by
    show (-(n : Int)) % 18446744073709551616 = _
    omega
  rw [← hm] at ha
  clear hm
  have hs : ((32 : Int) - n).toNat = 32 - n := by omega
  have hs2 : ((32 : Int) - (32 - (n : Int))).toNat = n := by omega
  have hs3 : (32 : Int) - (32 - (n : Int)) = n := by omega
  go_enter Try.func39, Try.ntmps39
  go_wp2
  go_ret
  refine ⟨ret_u32 ?_, rfl⟩
  exact or_comm_w _ _
theorem rrotr_calls (x : Int) (n : Nat) (h0 : 1 ≤ n) (h1 : n < 32) (w : World) : Calls Try.prog 37 #[.int .u32 x, .int .i64 (n : Int)] w fun e w' => e = .returned (.int .u32 (rotW x n)) ∧ w = w' := by
  go_enter Try.func37, Try.ntmps37
  go_wp2
  go_ret
  exact ⟨rfl, rfl⟩
theorem gright_calls (x : Int) (n : Nat) (h0 : 1 ≤ n) (h1 : n < 32) (w : World) : Calls Try.prog 36 #[.int .u32 x, .int .i64 (n : Int)] w fun e w' => e = .returned (.int .u32 (rotW x n)) ∧ w = w' := by
  go_enter Try.func36, Try.ntmps36
  go_wp2_with fail
  refine (rotl_calls x n h0 h1 _).mono ?_
  rintro e w' ⟨rfl, rfl⟩
  go_wp2_with fail
  go_ret
  exact ⟨rfl, rfl⟩
end Go.Proofs.Ytjjpekgkaahpbaa
