/- Full, of the statements of layer 4: a block of one byte; and known, which comes to true. -/
import Derived.Test.YtacbnoagdlelgaaDk1
namespace Go.Proofs.Ytacbnoagdlelgaa
open Go.RowKit Zb

def fullB (c : UInt8) : ByteArray := ⟨Array.replicate 64 c⟩
set_option maxRecDepth 20000 in
theorem fullB_size (c : UInt8) : (fullB c).size = 64 := by simp [fullB, ByteArray.size]

set_option maxRecDepth 20000 in
theorem fill_step (n k : Nat) (hk : k < n) (c : UInt8) : (bytesVals (List.replicate k c ++ List.replicate (n - k) 0)).set k (.int .u8 (c.toNat : Int)) = bytesVals (List.replicate (k + 1) c ++ List.replicate (n - (k + 1)) 0) := by
  rw [show n - k = (n - (k + 1)) + 1 by omega, List.replicate_succ, bytesVals_append, List.set_append_right _ _ (by simp [bytesVals])]
  simp [bytesVals, List.replicate_succ']

/-- a block of a number's byte -/
def fullI (c : Int) : ByteArray := fullB (UInt8.ofNat c.toNat)
set_option maxRecDepth 20000 in
theorem fullI_size (c : Int) : (fullI c).size = 64 := fullB_size _
end Go.Proofs.Ytacbnoagdlelgaa
