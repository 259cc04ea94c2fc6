/- Chapter 5: the journal without a disk; RingNil, walked. -/
import Derived.Test.YtmbkncckcpgdgaaRingU
namespace Go.Proofs.Ytmbkncckcpgdgaa
open Go.RowKit Zb

set_option maxRecDepth 20000 in
theorem dwrong_nil5 (w : World) (i : Int) : Calls Try.prog 46 #[.pointer none, .int .i64 i] w fun e w' => e = .returned (.int .i64 16) ∧ w = w' := by
  go_enter Try.func46, Try.ntmps46
  go_wp2_with fail
  refine (dthere_nil _).mono ?_
  rintro e w' ⟨rfl, rfl⟩
  go_wp2_with fail
  go_ret
  exact ⟨rfl, rfl⟩
set_option maxRecDepth 20000 in
theorem dread_nil5 (w : World) (i : Int) : Calls Try.prog 37 #[.pointer none, .int .i64 i] w fun e w' => e = .returned (.tuple #[.string ⟨#[]⟩, .int .i64 16]) ∧ w = w' := by
  go_enter Try.func37, Try.ntmps37
  go_wp2_with fail
  refine (dwrong_nil5 _ _).mono ?_
  rintro e w' ⟨rfl, rfl⟩
  go_wp2_with fail
  go_ret2
  exact ⟨rfl, rfl⟩
set_option maxRecDepth 20000 in
theorem eScan_nil (w : World) : Calls Try.prog 17 #[.pointer none] w fun r w' => r = .returned (.tuple #[.slice none 0 0, .int .i64 16]) ∧ w = w' := by
  go_enter Try.func17, Try.ntmps17
  go_wp2_with fail
  go_step3
  go_wp2_with fail
  go_step3
  go_wp2_with fail
  go_loopw [4, 12] (fun v i wr => v = .slice none 0 0 ∧ i = .int .i64 0 ∧ wr = w) (fun _ _ _ => 0)
  case atStart => exact ⟨rfl, rfl, rfl⟩
  case round =>
  obtain ⟨rfl, rfl, rfl⟩ := hrel
  go_wp2_with fail
  refine (dread_nil5 _ _).mono ?_
  rintro r w1 ⟨rfl, rfl⟩
  go_wp2_with fail
  rw [Exit.noGoto_ret]
  go_ret2
  exact ⟨rfl, rfl⟩
set_option maxRecDepth 20000 in
theorem eLast_nil (w : World) : Calls Try.prog 18 #[.pointer none] w fun r w' => r = .returned (.tuple #[.agg EntM.zero.cells.toArray, .bool false, .int .i64 16]) ∧ Below w.heap.size w w' := by
  have HB0 : Hid (Blk (w.alloc (.cells #[.int .i64 0, .int .i64 0, .int .i64 0, .int .i64 0, .string ⟨#[]⟩] 28)) w.heap.size 28 EntM.zero.cells.toArray) := hide (Blk.new w 28 EntM.zero.cells.toArray)
  have HZR : Hid (Blk (varW w EntM.zero) w.heap.size 28 EntM.zero.cells.toArray) := hide (varW_blk w EntM.zero)
  go_enter Try.func18, Try.ntmps18
  go_wp2_with fail
  refine (eScan_nil _).mono ?_
  rintro r w1 ⟨rfl, rfl⟩
  go_wp2_with (first | ((with_reducible show wpList _ _ _ (⟨some 19, _, _, _, _, _⟩ :: _) _ _); refine wpList_build rfl _ _ rfl (by kernel_rfl) ?_) | ((with_reducible show wpList _ _ _ (⟨none, _, _, _, _, _⟩ :: _) _ _); refine wpList_store_row rfl _ _ _ rfl w.heap.size EntM.zero.cells.toArray rfl (by kernel_rfl) 28 _ HB0.out (by kernel_rfl) rfl (by kernel_rfl) ?_))
  exact ret_cell2 rfl rfl rfl HZR.out Try.underlying28 rfl (by kernel_rfl) ⟨rfl, varW_below w EntM.zero⟩
set_option maxRecDepth 20000 in
theorem eAppend_nil (e : EntM) (w : World) : Calls Try.prog 19 #[.pointer none, .agg #[.int .i64 e.kind, .int .i64 e.number, .int .i64 e.slot, .int .i64 e.size, .string e.sum]] w fun r w' => r = .returned (.tuple #[.agg EntM.zero.cells.toArray, .int .i64 16]) ∧ Below w.heap.size w w' := by
  have HB4 : Hid (Blk ((w.alloc (.cells #[.int .i64 e.kind, .int .i64 e.number, .int .i64 e.slot, .int .i64 e.size, .string e.sum] 28)).alloc (.cells #[.int .i64 0, .int .i64 0, .int .i64 0, .int .i64 0, .string ⟨#[]⟩] 28)) (w.heap.size + 1) 28 EntM.zero.cells.toArray) := hide (heap_alloc2_new w _ _)
  have HX0 : Hid (Below w.heap.size w ((w.alloc (.cells #[.int .i64 e.kind, .int .i64 e.number, .int .i64 e.slot, .int .i64 e.size, .string e.sum] 28)).alloc (.cells #[.int .i64 0, .int .i64 0, .int .i64 0, .int .i64 0, .string ⟨#[]⟩] 28))) := hide (((Below.refl _ _).alloc (Nat.le_refl _) _).alloc (Nat.le_of_lt (Nat.lt_of_lt_of_eq (Nat.lt_succ_self _) (Array.size_push _).symm)) _)
  go_enter Try.func19, Try.ntmps19
  go_wp2_with fail
  refine (eLast_nil _).mono ?_
  rintro r w1 ⟨rfl, hb1⟩
  have HB1 := hide (HB4.out.below hb1 HB4.out.lt)
  have HX1 := hide (HX0.out.trans (hb1.mono HX0.out.size))
  clear hb1 HB4 HX0
  have HZ := hide (varW_new w1)
  have HB2 := hide (HB1.out.below (varW_below w1 EntM.zero) HB1.out.lt)
  have HX2 := hide (HX1.out.trans ((varW_below w1 EntM.zero).mono HX1.out.size))
  go_wp2_with (first | ((with_reducible show wpList _ _ _ (⟨some 19, _, _, _, _, _⟩ :: _) _ _); refine wpList_build rfl _ _ rfl (by kernel_rfl) ?_) | ((with_reducible show wpList _ _ _ (⟨none, _, _, _, _, _⟩ :: _) _ _); refine wpList_store_row rfl _ _ _ rfl w1.heap.size EntM.zero.cells.toArray rfl rfl 28 _ HZ.out (by kernel_rfl) rfl (by kernel_rfl) ?_; change wpList _ _ _ _ _ (varW w1 EntM.zero); generalize varW w1 EntM.zero = w2 at *) | ((with_reducible show wpList _ _ _ (⟨none, _, _, _, _, _⟩ :: _) _ _); refine wpList_store_row rfl _ _ _ rfl (w.heap.size + 1) EntM.zero.cells.toArray rfl (by kernel_rfl) 28 _ HB2.out (by kernel_rfl) rfl (by kernel_rfl) ?_))
  exact ret_cell rfl rfl rfl (setRow_heap _ _ _ _ _ _ HB2.out) Try.underlying28 rfl (by kernel_rfl) ⟨rfl, below_setRow HX2.out (Nat.le_succ _) _⟩
set_option maxRecDepth 20000 in
set_option maxHeartbeats 2000000 in
theorem RingNil_walk (e : EntM) (w : World) (_ : e.sum.size ≤ maxLen) : Calls Try.prog 5 #[.agg #[.int .i64 e.kind, .int .i64 e.number, .int .i64 e.slot, .int .i64 e.size, .string e.sum]] w fun r w' => r = .returned (.bool true) ∧ Below w.heap.size w w' := by
  by_cases h1 : 1000 < e.sum.size
  · have h1I : (1000 : Int) < (e.sum.size : Int) := by omega
    clear h1
    go_enter Try.func5, Try.ntmps5
    go_wp2_with fail
    refine (lknown5_calls _).mono ?_
    rintro r wk ⟨rfl, hbk⟩
    go_wp2_with fail
    go_ret
    exact ⟨rfl, ((Below.refl w.heap.size w).alloc (Nat.le_refl _) (.cells #[.int .i64 e.kind, .int .i64 e.number, .int .i64 e.slot, .int .i64 e.size, .string e.sum] 23)).trans (hbk.mono (Nat.le_of_lt (Nat.lt_of_lt_of_eq (Nat.lt_succ_self _) (Array.size_push _).symm)))⟩
  have h1I : (e.sum.size : Int) ≤ 1000 := by omega
  clear h1
  have HB0 : Hid (Blk (w.alloc (.cells #[.int .i64 e.kind, .int .i64 e.number, .int .i64 e.slot, .int .i64 e.size, .string e.sum] 23)) w.heap.size 23 e.cells.toArray) := hide (Blk.new w 23 _)
  have HX0 : Hid (Below w.heap.size w (w.alloc (.cells #[.int .i64 e.kind, .int .i64 e.number, .int .i64 e.slot, .int .i64 e.size, .string e.sum] 23))) := hide ((Below.refl w.heap.size w).alloc (Nat.le_refl _) (.cells #[.int .i64 e.kind, .int .i64 e.number, .int .i64 e.slot, .int .i64 e.size, .string e.sum] 23))
  go_enter Try.func5, Try.ntmps5
  generalize hW0 : (w.alloc (.cells #[.int .i64 e.kind, .int .i64 e.number, .int .i64 e.slot, .int .i64 e.size, .string e.sum] 23)) = w0 at *
  obtain ⟨x0, x1, x2, x3, x4⟩ := ent_all HB0.out
  go_wp2_with fail
  clear x0 x1 x2 x3 x4
  refine (eScan_nil _).mono ?_
  rintro r _ ⟨rfl, rfl⟩
  go_wp2_with fail
  refine (eLast_nil _).mono ?_
  rintro r w1 ⟨rfl, hb1⟩
  have HB1 := hide (HB0.out.below hb1 HB0.out.lt)
  have HX1 := hide (HX0.out.trans (hb1.mono HX0.out.size))
  clear hb1 HB0 HX0
  have HZ := hide (varW_new w1)
  have HV := hide (varW_below w1 EntM.zero)
  have HY2x := hide (varW_blk w1 EntM.zero)
  have HB2 := hide (HB1.out.below HV.out HB1.out.lt)
  have HX2 := hide (HX1.out.trans (HV.out.mono HX1.out.size))
  clear HV HB1 HX1
  clear HY2x
  go_wp2_with (first | ((with_reducible show wpList _ _ _ (⟨none, _, _, _, _, _⟩ :: _) _ _); refine wpList_store_row rfl _ _ _ rfl w1.heap.size EntM.zero.cells.toArray rfl rfl 28 _ HZ.out (by kernel_rfl) rfl (by kernel_rfl) ?_; change wpList _ _ _ _ _ (varW w1 EntM.zero); generalize varW w1 EntM.zero = w2 at *) | ((with_reducible show wpList _ _ _ (⟨some 25, _, _, _, _, _⟩ :: _) _ _); refine wpList_load_row rfl _ _ rfl w.heap.size rfl 23 _ (0, 0) _ HB2.out Try.underlying23 rfl (by kernel_rfl) ?_))
  clear HZ
  refine (lgiven5_calls e _).mono ?_
  rintro r w3 ⟨rfl, hb3⟩
  have HB3 := hide (HB2.out.below hb3 HB2.out.lt)
  have HX3 := hide (HX2.out.trans (hb3.mono HX2.out.size))
  clear hb3 HB2 HX2
  go_wp2_with fail
  refine (eAppend_nil e _).mono ?_
  rintro r w4 ⟨rfl, hb4⟩
  have HX4 := hide (HX3.out.trans (hb4.mono HX3.out.size))
  clear hb4 HX3
  have HZ := hide (varW_new w4)
  have HV := hide (varW_below w4 EntM.zero)
  have HY5 := hide (varW_blk w4 EntM.zero)
  have HX5 := hide (HX4.out.trans (HV.out.mono HX4.out.size))
  clear HV HX4
  go_wp2_with (first | ((with_reducible show wpList _ _ _ (⟨none, _, _, _, _, _⟩ :: _) _ _); refine wpList_store_row rfl _ _ _ rfl w4.heap.size EntM.zero.cells.toArray rfl rfl 28 _ HZ.out (by kernel_rfl) rfl (by kernel_rfl) ?_; change wpList _ _ _ _ _ (varW w4 EntM.zero); generalize varW w4 EntM.zero = w5 at *) | ((with_reducible show wpList _ _ _ (⟨some 46, _, _, _, _, _⟩ :: _) _ _); refine wpList_want_row rfl _ _ rfl w4.heap.size rfl 28 _ (0, 0) _ HY5.out Try.underlying28 rfl (by kernel_rfl) ?_) | ((with_reducible show wpList _ _ _ (⟨some 47, _, _, _, _, _⟩ :: _) _ _); refine wpList_want_wp (v := .agg EntM.zero.cells.toArray) rfl (fun _ hK => wp_build_as _ _ _ rfl (by kernel_rfl) hK) ?_) | ((with_reducible show wpList _ _ _ (⟨some 48, _, _, _, _, _⟩ :: _) _ _); refine wpList_want_wp rfl (fun _ hK => ent_eq_op rfl rfl rfl hK) ?_))
  refine (lknown5_calls _).mono ?_
  rintro r wk ⟨rfl, hbk⟩
  go_wp2_with fail
  go_ret
  exact ⟨rfl, HX5.out.trans (hbk.mono HX5.out.size)⟩
end Go.Proofs.Ytmbkncckcpgdgaa
