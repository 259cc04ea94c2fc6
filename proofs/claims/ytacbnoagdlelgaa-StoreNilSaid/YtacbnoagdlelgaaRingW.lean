/- Chapter 5: the journal without a disk; RingNil, walked. -/
import Derived.Test.YtacbnoagdlelgaaShim
import Derived.Test.YtacbnoagdlelgaaRingS
import Derived.Test.YtacbnoagdlelgaaRg1
import Derived.Test.YtacbnoagdlelgaaHeld
namespace Go.Proofs.Ytacbnoagdlelgaa
open Go.RowKit Zb

set_option maxRecDepth 20000 in
theorem dwrong_nil5 (w : World) (i : Int) : Calls Try.prog 55 #[.pointer none, .int .i64 i] w fun e w' => e = .returned (.int .i64 16) ∧ w = w' := by
  go_enter Try.func55, Try.ntmps55
  go_wp2_with fail
  refine (dthere_nil _).mono ?_
  rintro e w' ⟨rfl, rfl⟩
  go_wp2_with fail
  go_ret
  exact ⟨rfl, rfl⟩
set_option maxRecDepth 20000 in
theorem dread_nil5 (w : World) (i : Int) : Calls Try.prog 47 #[.pointer none, .int .i64 i] w fun e w' => e = .returned (.tuple #[.string ⟨#[]⟩, .int .i64 16]) ∧ w = w' := by
  go_enter Try.func47, Try.ntmps47
  go_wp2_with fail
  refine (dwrong_nil5 _ _).mono ?_
  rintro e w' ⟨rfl, rfl⟩
  go_wp2_with fail
  go_ret2
  exact ⟨rfl, rfl⟩
set_option maxRecDepth 20000 in
theorem eScan_nil (w : World) : Calls Try.prog 35 #[.pointer none] w fun r w' => r = .returned (.tuple #[.slice none 0 0, .int .i64 16]) ∧ w = w' := by
  go_enter Try.func35, Try.ntmps35
  go_wp2_with fail
  go_step3
  go_wp2_with fail
  go_step3
  go_wp2_with fail
  go_loopw [4, 12] (fun v i wr => v = .slice none 0 0 ∧ i = .int .i64 0 ∧ wr = w) (fun _ _ _ => 0)
  case atStart => exact ⟨rfl, rfl, rfl⟩
  case round =>
  obtain ⟨rfl, rfl, rfl⟩ := hrel
  go_wp2_with fail
  refine (dread_nil5 _ _).mono ?_
  rintro r w1 ⟨rfl, rfl⟩
  go_wp2_with fail
  rw [Exit.noGoto_ret]
  go_ret2
  exact ⟨rfl, rfl⟩
set_option maxRecDepth 20000 in
theorem eLast_nil (w : World) : Calls Try.prog 21 #[.pointer none] w fun r w' => r = .returned (.tuple #[.agg EntM.zero.cells.toArray, .bool false, .int .i64 16]) ∧ Below w.heap.size w w' := by
  have HB0 : Hid (Blk (w.alloc (.cells #[.int .i64 0, .int .i64 0, .int .i64 0, .int .i64 0, .string ⟨#[]⟩] 59)) w.heap.size 59 EntM.zero.cells.toArray) := hide (Blk.new w 59 EntM.zero.cells.toArray)
  have HZR : Hid (Blk (varW w EntM.zero) w.heap.size 59 EntM.zero.cells.toArray) := hide (varW_blk w EntM.zero)
  go_enter Try.func21, Try.ntmps21
  go_wp2_with fail
  refine (eScan_nil _).mono ?_
  rintro r w1 ⟨rfl, rfl⟩
  go_wp2_with (first | ((with_reducible show wpList _ _ _ (⟨some 19, _, _, _, _, _⟩ :: _) _ _); refine wpList_build rfl _ _ rfl (by kernel_rfl) ?_) | ((with_reducible show wpList _ _ _ (⟨none, _, _, _, _, _⟩ :: _) _ _); refine wpList_store_row rfl _ _ _ rfl w.heap.size EntM.zero.cells.toArray rfl (by kernel_rfl) 59 _ HB0.out (by kernel_rfl) rfl (by kernel_rfl) ?_))
  exact ret_cell2 rfl rfl rfl HZR.out Try.underlying59 rfl (by kernel_rfl) ⟨rfl, varW_below w EntM.zero⟩
set_option maxRecDepth 20000 in
theorem eAppend_nil (e : EntM) (w : World) : Calls Try.prog 28 #[.pointer none, .agg #[.int .i64 e.kind, .int .i64 e.number, .int .i64 e.slot, .int .i64 e.size, .string e.sum]] w fun r w' => r = .returned (.tuple #[.agg EntM.zero.cells.toArray, .int .i64 16]) ∧ Below w.heap.size w w' := by
  have HB4 : Hid (Blk ((w.alloc (.cells #[.int .i64 e.kind, .int .i64 e.number, .int .i64 e.slot, .int .i64 e.size, .string e.sum] 59)).alloc (.cells #[.int .i64 0, .int .i64 0, .int .i64 0, .int .i64 0, .string ⟨#[]⟩] 59)) (w.heap.size + 1) 59 EntM.zero.cells.toArray) := hide (heap_alloc2_new w _ _)
  have HX0 : Hid (Below w.heap.size w ((w.alloc (.cells #[.int .i64 e.kind, .int .i64 e.number, .int .i64 e.slot, .int .i64 e.size, .string e.sum] 59)).alloc (.cells #[.int .i64 0, .int .i64 0, .int .i64 0, .int .i64 0, .string ⟨#[]⟩] 59))) := hide (((Below.refl _ _).alloc (Nat.le_refl _) _).alloc (Nat.le_of_lt (Nat.lt_of_lt_of_eq (Nat.lt_succ_self _) (Array.size_push _).symm)) _)
  go_enter Try.func28, Try.ntmps28
  go_wp2_with fail
  refine (eLast_nil _).mono ?_
  rintro r w1 ⟨rfl, hb1⟩
  have HB1 := hide (HB4.out.below hb1 HB4.out.lt)
  have HX1 := hide (HX0.out.trans (hb1.mono HX0.out.size))
  clear hb1 HB4 HX0
  have HZ := hide (varW_new w1)
  have HB2 := hide (HB1.out.below (varW_below w1 EntM.zero) HB1.out.lt)
  have HX2 := hide (HX1.out.trans ((varW_below w1 EntM.zero).mono HX1.out.size))
  go_wp2_with (first | ((with_reducible show wpList _ _ _ (⟨some 19, _, _, _, _, _⟩ :: _) _ _); refine wpList_build rfl _ _ rfl (by kernel_rfl) ?_) | ((with_reducible show wpList _ _ _ (⟨none, _, _, _, _, _⟩ :: _) _ _); refine wpList_store_row rfl _ _ _ rfl w1.heap.size EntM.zero.cells.toArray rfl rfl 59 _ HZ.out (by kernel_rfl) rfl (by kernel_rfl) ?_; change wpList _ _ _ _ _ (varW w1 EntM.zero); generalize varW w1 EntM.zero = w2 at *) | ((with_reducible show wpList _ _ _ (⟨none, _, _, _, _, _⟩ :: _) _ _); refine wpList_store_row rfl _ _ _ rfl (w.heap.size + 1) EntM.zero.cells.toArray rfl (by kernel_rfl) 59 _ HB2.out (by kernel_rfl) rfl (by kernel_rfl) ?_))
  exact ret_cell rfl rfl rfl (setRow_heap _ _ _ _ _ _ HB2.out) Try.underlying59 rfl (by kernel_rfl) ⟨rfl, below_setRow HX2.out (Nat.le_succ _) _⟩
end Go.Proofs.Ytacbnoagdlelgaa
