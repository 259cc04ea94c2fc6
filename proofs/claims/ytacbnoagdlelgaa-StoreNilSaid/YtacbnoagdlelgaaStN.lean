/- Chapter 7: no disk, no store; StoreNil, walked. -/
import Derived.Test.YtacbnoagdlelgaaStQ
import Derived.Test.YtacbnoagdlelgaaRingW
namespace Go.Proofs.Ytacbnoagdlelgaa
open Go.RowKit Zb

set_option maxRecDepth 20000 in
theorem tOpen_nil (w : World) : Calls Try.prog 8 #[.pointer none] w fun e w' => e = .returned (.tuple #[.pointer none, .int .i64 16]) ∧ Below w.heap.size w w' := by
  go_enter Try.func8, Try.ntmps8
  go_wp2_with fail
  refine (eLast_nil _).mono ?_
  rintro r w1 ⟨rfl, hb1⟩
  have HZ := hide (varW_new w1)
  have HX := hide (hb1.trans ((varW_below w1 EntM.zero).mono hb1.size))
  clear hb1
  go_wp2_with ((with_reducible show wpList _ _ _ (⟨none, _, _, _, _, _⟩ :: _) _ _); refine wpList_store_row rfl _ _ _ rfl w1.heap.size EntM.zero.cells.toArray rfl rfl 59 _ HZ.out (by kernel_rfl) rfl (by kernel_rfl) ?_; change wpList _ _ _ _ _ (varW w1 EntM.zero); generalize varW w1 EntM.zero = w2 at *)
  go_ret2
  exact ⟨rfl, HX.out⟩
set_option maxRecDepth 20000 in
theorem tPrepare_nil (t : ByteArray) (w : World) : Calls Try.prog 10 #[.pointer none, .string t] w fun e w' => e = .returned (.int .i64 16) ∧ w = w' := by
  go_enter Try.func10, Try.ntmps10
  go_wp2_with fail
  refine (tthere_nil _).mono ?_
  rintro e w' ⟨rfl, rfl⟩
  go_wp2_with fail
  go_ret
  exact ⟨rfl, rfl⟩
set_option maxRecDepth 20000 in
theorem tPrepare_zero {w : World} {s : Nat} (h : w.cell? ⟨s, 3, none⟩ = some (.pointer none)) (t : ByteArray) : Calls Try.prog 10 #[.pointer (some ⟨s, 0, none⟩), .string t] w fun e w' => e = .returned (.int .i64 16) ∧ w = w' := by
  have HT := hide (tthere_zero h)
  go_enter Try.func10, Try.ntmps10
  go_wp2_with fail
  refine HT.out.mono ?_
  rintro e w' ⟨rfl, rfl⟩
  go_wp2_with fail
  go_ret
  exact ⟨rfl, rfl⟩
set_option maxRecDepth 20000 in
theorem tCommit_nil (w : World) : Calls Try.prog 11 #[.pointer none] w fun e w' => e = .returned (.int .i64 16) ∧ Below w.heap.size w w' := by
  go_enter Try.func11, Try.ntmps11
  go_wp2_with fail
  refine (ttake_nil _).mono ?_
  rintro r w2 ⟨rfl, hb2⟩
  have HZ := hide (kvarW_new w2)
  have HX := hide (hb2.trans ((kvarW_below w2 KeptM.zero).mono hb2.size))
  clear hb2
  go_wp2_with ((with_reducible show wpList _ _ _ (⟨none, _, _, _, _, _⟩ :: _) _ _); refine wpList_store_row rfl _ _ _ rfl w2.heap.size KeptM.zero.cells.toArray rfl rfl 45 _ HZ.out (by kernel_rfl) rfl (by kernel_rfl) ?_; change wpList _ _ _ _ _ (kvarW w2 KeptM.zero); generalize kvarW w2 KeptM.zero = w4 at *)
  go_ret
  exact ⟨rfl, HX.out⟩
set_option maxRecDepth 20000 in
theorem tDrop_nil (w : World) : Calls Try.prog 14 #[.pointer none] w fun e w' => e = .returned (.int .i64 16) ∧ Below w.heap.size w w' := by
  go_enter Try.func14, Try.ntmps14
  go_wp2_with fail
  refine (ttake_nil _).mono ?_
  rintro r w2 ⟨rfl, hb2⟩
  have HZ := hide (kvarW_new w2)
  have HX := hide (hb2.trans ((kvarW_below w2 KeptM.zero).mono hb2.size))
  clear hb2
  go_wp2_with ((with_reducible show wpList _ _ _ (⟨none, _, _, _, _, _⟩ :: _) _ _); refine wpList_store_row rfl _ _ _ rfl w2.heap.size KeptM.zero.cells.toArray rfl rfl 45 _ HZ.out (by kernel_rfl) rfl (by kernel_rfl) ?_; change wpList _ _ _ _ _ (kvarW w2 KeptM.zero); generalize kvarW w2 KeptM.zero = w4 at *)
  go_ret
  exact ⟨rfl, HX.out⟩
set_option maxRecDepth 20000 in
theorem tCopy_nil (w : World) : Calls Try.prog 20 #[.pointer none, .pointer none] w fun e w' => e = .returned (.pointer none) ∧ w = w' := by
  go_enter Try.func20, Try.ntmps20
  go_wp2_with fail
  refine (tthere_nil _).mono ?_
  rintro e w' ⟨rfl, rfl⟩
  go_wp2_with fail
  go_ret
  exact ⟨rfl, rfl⟩
def zeroCs : List Value := [.int .i64 0, .string ⟨#[]⟩, .string ⟨#[]⟩, .pointer none, .bool false, .pointer none]
set_option maxRecDepth 20000 in
set_option maxHeartbeats 2000000 in
theorem StoreNil_walk (t : ByteArray) (w : World) (_ : t.size ≤ 140737488351232) : Calls Try.prog 6 #[.string t] w fun r w' => r = .returned (.bool true) ∧ Below w.heap.size w w' := by
  by_cases h1 : 5000 < t.size
  · have h1I : (5000 : Int) < (t.size : Int) := by omega
    clear h1
    go_enter Try.func6, Try.ntmps6
    go_wp2_with fail
    refine (lknown7_calls _).mono ?_
    rintro r wk ⟨rfl, hbk⟩
    go_wp2_with fail
    go_ret
    exact ⟨rfl, hbk⟩
  have h1I : (t.size : Int) ≤ 5000 := by omega
  clear h1
  go_enter Try.func6, Try.ntmps6
  go_wp2_with fail
  refine (tOpen_nil _).mono ?_
  rintro r w1 ⟨rfl, hb1⟩
  have HX1 := hide hb1
  clear hb1
  go_wp2_with fail
  refine (tText_nil _).mono ?_
  rintro r _ ⟨rfl, rfl⟩
  have HB2 : Hid (Blk (w1.alloc (.cells zeroCs.toArray 48)) w1.heap.size 48 zeroCs.toArray) := hide (Blk.new w1 48 _)
  have HX2 := hide (HX1.out.alloc HX1.out.size (.cells zeroCs.toArray 48))
  go_upto_region 7 with ((with_reducible show wpList _ _ _ (⟨some 22, _, _, _, _, _⟩ :: _) _ _); refine wpList_build_as rfl _ _ zeroCs.toArray rfl (by kernel_rfl) ?_)
  generalize w1.alloc (.cells zeroCs.toArray 48) = w2 at *
  have c3 := HB2.out.cell 3
  have HPZ := hide (tPrepare_zero c3 t)
  clear c3
  go_wp2_with fail
  refine (tPrepare_nil t _).mono ?_
  rintro r _ ⟨rfl, rfl⟩
  go_wp2_with fail
  refine HPZ.out.mono ?_
  rintro r _ ⟨rfl, rfl⟩
  go_wp2_with fail
  refine (tCommit_nil _).mono ?_
  rintro r w3 ⟨rfl, hb3⟩
  have HX3 := hide (HX2.out.trans (hb3.mono HX2.out.size))
  clear hb3
  go_wp2_with fail
  refine (tDrop_nil _).mono ?_
  rintro r w4 ⟨rfl, hb4⟩
  have HX4 := hide (HX3.out.trans (hb4.mono HX3.out.size))
  clear hb4
  go_wp2_with fail
  refine (tWaits_nil _).mono ?_
  rintro r _ ⟨rfl, rfl⟩
  go_wp2_with fail
  refine (tOdd_nil _).mono ?_
  rintro r _ ⟨rfl, rfl⟩
  go_wp2_with fail
  refine (tCopy_nil _).mono ?_
  rintro r _ ⟨rfl, rfl⟩
  go_wp2_with fail
  refine (lknown7_calls _).mono ?_
  rintro r wk ⟨rfl, hbk⟩
  go_wp2_with fail
  go_ret
  exact ⟨rfl, HX4.out.trans (hbk.mono HX4.out.size)⟩
end Go.Proofs.Ytacbnoagdlelgaa
