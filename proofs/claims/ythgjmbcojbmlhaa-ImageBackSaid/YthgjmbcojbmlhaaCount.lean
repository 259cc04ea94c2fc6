/- The least whole number that a number stands for: words.Count, walked. -/
import Derived.Test.YthgjmbcojbmlhaaProg
import Derived.Test.YthgjmbcojbmlhaaBase
import Derived.WalkLawsBesides
import Derived.Outline
import Derived.LoopTactic
import Derived.Deep.LoopGhost
namespace Go.Proofs.Ythgjmbcojbmlhaa
open Go.RowKit Zb

set_option maxRecDepth 20000 in
theorem ret_int {k : IntKind} {a b : Int} (h : a = b) : Ending.returned (.int k a) = Ending.returned (.int k b) := by rw [h]
def countM (n most : Int) : Int := (if n < 0 then -(n + 1) else n) % most
set_option maxRecDepth 20000 in
theorem wCount_calls (n most : Int) (h0 : -9223372036854775808 ≤ n) (h1 : n ≤ 9223372036854775807) (h2 : 0 < most) (h3 : most ≤ 100000000) (w : World) : Calls Try.prog 17 #[.int .i64 n, .int .i64 most] w fun e w' => e = .returned (.int .i64 (countM n most)) ∧ w = w' := by
  by_cases hn : n < 0
  · have e : countM n most = (-(n + 1)) % most := by unfold countM; rw [if_pos hn]
    have E := hide e; clear e
    go_enter Try.func17, Try.ntmps17
    go_wp2
    go_ret
    rw [E.out]
    refine ⟨ret_int ?_, rfl⟩
    first | exact Int.tmod_eq_emod_of_nonneg (by omega) | (rw [← Int.neg_tmod]; exact Int.tmod_eq_emod_of_nonneg (by omega))
  · have e : countM n most = n % most := by unfold countM; rw [if_neg hn]
    have E := hide e; clear e
    go_enter Try.func17, Try.ntmps17
    go_wp2
    go_ret
    rw [E.out]
    exact ⟨rfl, rfl⟩
end Go.Proofs.Ythgjmbcojbmlhaa
