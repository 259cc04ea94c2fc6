/- Chapter 2: the table of 64 constants, walked. -/
import Derived.Test.YtjjpekgkaahpbaaDigC
import Derived.Laws.Tables
import Derived.Laws.CopyOwn
namespace Go.Proofs.Ytjjpekgkaahpbaa
open Go.RowKit Zb

set_option maxRecDepth 20000 in
set_option maxHeartbeats 4000000 in
theorem gconst_calls (w : World) : Calls Try.prog 34 #[] w fun e w' => e = .returned (.agg (wcs kW).toArray) ∧ Below w.heap.size w w' := by
  go_enter Try.func34, Try.ntmps34
  iterate 14
    first
    | (with_reducible show wpList _ _ _ (⟨some 1, _, _, _, _, _⟩ :: _) _ _)
    | go_step
  with_reducible show wpList _ _ _ (⟨some 1, _, _, _, _, _⟩ :: _) _ _
  refine wpList_build rfl _ _ rfl (by kernel_rfl) ?_
  refine wpList_store_row rfl _ _ _ rfl w.heap.size (wcs kW).toArray rfl (by kernel_rfl) 54 _ (Blk.new w 54 _) (by kernel_rfl) (by kernel_rfl) (by kernel_rfl) ?_
  have HK : ∀ o, Below w.heap.size w (w.alloc o) := fun o => (Below.refl _ _).alloc (Nat.le_refl _) _
  generalize hw1 : w.alloc _ = w1
  have hB : Below w.heap.size w w1 := by rw [← hw1]; exact HK _
  obtain ⟨old, hg⟩ : ∃ old, Blk w1 w.heap.size 54 old := ⟨_, by rw [← hw1]; exact Blk.new w 54 _⟩
  clear hw1 HK
  have hR : Blk (w1.setRow w.heap.size (wcs kW).toArray) w.heap.size 54 (wcs kW).toArray := setRow_heap w1 _ old _ _ _ hg
  have hB2 : Below w.heap.size w (w1.setRow w.heap.size (wcs kW).toArray) := below_setRow hB (Nat.le_refl _) _
  generalize w1.setRow w.heap.size (wcs kW).toArray = w2 at *
  repeat go_step
  exact ret_cell1 rfl rfl rfl hR Try.underlying54 rfl (by kernel_rfl) ⟨rfl, hB2⟩
end Go.Proofs.Ytjjpekgkaahpbaa
