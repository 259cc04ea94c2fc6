/- Chapter 2: whether a Hash is there. -/
import Derived.Test.YtjjpekgkaahpbaaDigD
namespace Go.Proofs.Ytjjpekgkaahpbaa
open Go.RowKit Zb

theorem gthere_nil (w : World) : Calls Try.prog 26 #[.pointer none] w fun e w' => e = .returned (.bool false) ∧ w = w' := by
  go_enter Try.func26, Try.ntmps26
  go_wp2_with fail
  go_ret
  exact ⟨rfl, rfl⟩
theorem gthere_calls (b : Nat) (made : Bool) (w : World) (h : w.cell? ⟨b, 0, none⟩ = some (.bool made)) : Calls Try.prog 26 #[.pointer (some ⟨b, 0, none⟩)] w fun e w' => e = .returned (.bool made) ∧ w = w' := by
  go_enter Try.func26, Try.ntmps26
  go_wp2_with fail
  go_ret
  exact ⟨rfl, rfl⟩
end Go.Proofs.Ytjjpekgkaahpbaa
