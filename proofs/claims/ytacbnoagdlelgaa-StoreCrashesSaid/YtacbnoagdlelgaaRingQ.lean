/- Chapter 5: Sum, a sum of one byte. -/
import Derived.Test.YtacbnoagdlelgaaRg1
import Derived.Test.YtacbnoagdlelgaaBuf
namespace Go.Proofs.Ytacbnoagdlelgaa
open Go.RowKit Zb

def sumB (c : UInt8) : ByteArray := ⟨(List.replicate 32 c).toArray⟩
def sumAt (c : UInt8) (k : Nat) : List UInt8 := List.replicate k c ++ List.replicate (32 - k) 0
set_option maxRecDepth 20000 in
theorem sumAt_len (c : UInt8) {k : Nat} (h : k ≤ 32) : (sumAt c k).length = 32 := by simp [sumAt]; omega
set_option maxRecDepth 20000 in
theorem sumAt_set (c : UInt8) {k : Nat} (h : k < 32) : (sumAt c k).set k c = sumAt c (k + 1) := by
  unfold sumAt
  have e : 32 - k = (32 - (k + 1)) + 1 := by omega
  rw [e, List.replicate_succ, List.set_append_right _ _ (by simp), List.length_replicate, Nat.sub_self, List.set_cons_zero, List.replicate_succ' (n := k)]
  simp
end Go.Proofs.Ytacbnoagdlelgaa
