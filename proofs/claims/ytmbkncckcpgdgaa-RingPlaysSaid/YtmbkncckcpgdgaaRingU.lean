/- Chapter 5: given and taken; RingBlocks, walked. -/
import Derived.Test.YtmbkncckcpgdgaaRingS
import Derived.Test.YtmbkncckcpgdgaaRingE
import Derived.Test.YtmbkncckcpgdgaaHeld
namespace Go.Proofs.Ytmbkncckcpgdgaa
open Go.RowKit Zb

set_option maxRecDepth 20000 in
theorem lgiven5_calls (e : EntM) (w : World) : Calls Try.prog 11 #[.agg #[.int .i64 e.kind, .int .i64 e.number, .int .i64 e.slot, .int .i64 e.size, .string e.sum]] w fun r w' => r = .returned (.agg e.cells.toArray) ∧ Below w.heap.size w w' := by
  have HZ : Hid (Blk ((w.alloc (.cells #[.int .i64 e.kind, .int .i64 e.number, .int .i64 e.slot, .int .i64 e.size, .string e.sum] 23)).alloc (.cells #[.int .i64 0, .int .i64 0, .int .i64 0, .int .i64 0, .string ⟨#[]⟩] 28)) (w.heap.size + 1) 28 EntM.zero.cells.toArray) := hide (heap_alloc2_new w _ _)
  have HB : Hid (Blk (((w.alloc (.cells #[.int .i64 e.kind, .int .i64 e.number, .int .i64 e.slot, .int .i64 e.size, .string e.sum] 23)).alloc (.cells #[.int .i64 0, .int .i64 0, .int .i64 0, .int .i64 0, .string ⟨#[]⟩] 28)).setRow (w.heap.size + 1) e.cells.toArray) (w.heap.size + 1) 28 e.cells.toArray) := hide (setRow_heap _ _ _ _ _ _ HZ.out)
  have HX : Hid (Below w.heap.size w (((w.alloc (.cells #[.int .i64 e.kind, .int .i64 e.number, .int .i64 e.slot, .int .i64 e.size, .string e.sum] 23)).alloc (.cells #[.int .i64 0, .int .i64 0, .int .i64 0, .int .i64 0, .string ⟨#[]⟩] 28)).setRow (w.heap.size + 1) e.cells.toArray)) := hide (below_setRow (((Below.refl _ _).alloc (Nat.le_refl _) _).alloc (Nat.le_of_lt (Nat.lt_of_lt_of_eq (Nat.lt_succ_self _) (Array.size_push _).symm)) _) (by omega) _)
  go_enter Try.func11, Try.ntmps11
  go_wp2_with (first | ((with_reducible show wpList _ _ _ (⟨some 13, _, _, _, _, _⟩ :: _) _ _); refine wpList_build rfl _ _ rfl (by kernel_rfl) ?_) | ((with_reducible show wpList _ _ _ (⟨none, _, _, _, _, _⟩ :: _) _ _); refine wpList_store_row rfl _ _ _ rfl (w.heap.size + 1) e.cells.toArray rfl (by kernel_rfl) 28 _ HZ.out (by kernel_rfl) rfl (by kernel_rfl) ?_))
  exact ret_cell1 rfl rfl rfl HB.out Try.underlying28 rfl (by kernel_rfl) ⟨rfl, HX.out⟩
set_option maxRecDepth 20000 in
theorem ltaken5_calls (e : EntM) (w : World) : Calls Try.prog 15 #[.agg #[.int .i64 e.kind, .int .i64 e.number, .int .i64 e.slot, .int .i64 e.size, .string e.sum]] w fun r w' => r = .returned (.agg e.cells.toArray) ∧ Below w.heap.size w w' := by
  have HZ : Hid (Blk ((w.alloc (.cells #[.int .i64 e.kind, .int .i64 e.number, .int .i64 e.slot, .int .i64 e.size, .string e.sum] 28)).alloc (.cells #[.int .i64 0, .int .i64 0, .int .i64 0, .int .i64 0, .string ⟨#[]⟩] 23)) (w.heap.size + 1) 23 EntM.zero.cells.toArray) := hide (heap_alloc2_new w _ _)
  have HB : Hid (Blk (((w.alloc (.cells #[.int .i64 e.kind, .int .i64 e.number, .int .i64 e.slot, .int .i64 e.size, .string e.sum] 28)).alloc (.cells #[.int .i64 0, .int .i64 0, .int .i64 0, .int .i64 0, .string ⟨#[]⟩] 23)).setRow (w.heap.size + 1) e.cells.toArray) (w.heap.size + 1) 23 e.cells.toArray) := hide (setRow_heap _ _ _ _ _ _ HZ.out)
  have HX : Hid (Below w.heap.size w (((w.alloc (.cells #[.int .i64 e.kind, .int .i64 e.number, .int .i64 e.slot, .int .i64 e.size, .string e.sum] 28)).alloc (.cells #[.int .i64 0, .int .i64 0, .int .i64 0, .int .i64 0, .string ⟨#[]⟩] 23)).setRow (w.heap.size + 1) e.cells.toArray)) := hide (below_setRow (((Below.refl _ _).alloc (Nat.le_refl _) _).alloc (Nat.le_of_lt (Nat.lt_of_lt_of_eq (Nat.lt_succ_self _) (Array.size_push _).symm)) _) (by omega) _)
  go_enter Try.func15, Try.ntmps15
  go_wp2_with (first | ((with_reducible show wpList _ _ _ (⟨some 13, _, _, _, _, _⟩ :: _) _ _); refine wpList_build rfl _ _ rfl (by kernel_rfl) ?_) | ((with_reducible show wpList _ _ _ (⟨none, _, _, _, _, _⟩ :: _) _ _); refine wpList_store_row rfl _ _ _ rfl (w.heap.size + 1) e.cells.toArray rfl (by kernel_rfl) 23 _ HZ.out (by kernel_rfl) rfl (by kernel_rfl) ?_))
  exact ret_cell1 rfl rfl rfl HB.out Try.underlying23 rfl (by kernel_rfl) ⟨rfl, HX.out⟩
set_option maxRecDepth 20000 in
set_option maxHeartbeats 2000000 in
theorem RingBlocks_walk (e : EntM) (s : ByteArray) (w : World) (_ : e.sum.size ≤ maxLen) (_ : s.size ≤ 140737488351232) : Calls Try.prog 3 #[.agg #[.int .i64 e.kind, .int .i64 e.number, .int .i64 e.slot, .int .i64 e.size, .string e.sum], .string s] w fun r w' => r = .returned (.bool true) ∧ Below w.heap.size w w' := by
  by_cases h1 : 1000 < e.sum.size
  · have h1I : (1000 : Int) < (e.sum.size : Int) := by omega
    clear h1
    go_enter Try.func3, Try.ntmps3
    go_wp2_with fail
    refine (lknown5_calls _).mono ?_
    rintro r wk ⟨rfl, hbk⟩
    go_wp2_with fail
    go_ret
    exact ⟨rfl, ((Below.refl w.heap.size w).alloc (Nat.le_refl _) (.cells #[.int .i64 e.kind, .int .i64 e.number, .int .i64 e.slot, .int .i64 e.size, .string e.sum] 23)).trans (hbk.mono (Nat.le_of_lt (Nat.lt_of_lt_of_eq (Nat.lt_succ_self _) (Array.size_push _).symm)))⟩
  by_cases h2 : 1000 < s.size
  · have h2I : (1000 : Int) < (s.size : Int) := by omega
    have h1I : (e.sum.size : Int) ≤ 1000 := by omega
    clear h1 h2
    go_enter Try.func3, Try.ntmps3
    go_wp2_with fail
    refine (lknown5_calls _).mono ?_
    rintro r wk ⟨rfl, hbk⟩
    go_wp2_with fail
    go_ret
    exact ⟨rfl, ((Below.refl w.heap.size w).alloc (Nat.le_refl _) (.cells #[.int .i64 e.kind, .int .i64 e.number, .int .i64 e.slot, .int .i64 e.size, .string e.sum] 23)).trans (hbk.mono (Nat.le_of_lt (Nat.lt_of_lt_of_eq (Nat.lt_succ_self _) (Array.size_push _).symm)))⟩
  have h2I : (s.size : Int) ≤ 1000 := by omega
  have h1I : (e.sum.size : Int) ≤ 1000 := by omega
  clear h1 h2
  have HB0 : Hid (Blk (w.alloc (.cells #[.int .i64 e.kind, .int .i64 e.number, .int .i64 e.slot, .int .i64 e.size, .string e.sum] 23)) w.heap.size 23 e.cells.toArray) := hide (Blk.new w 23 _)
  have HX0 : Hid (Below w.heap.size w (w.alloc (.cells #[.int .i64 e.kind, .int .i64 e.number, .int .i64 e.slot, .int .i64 e.size, .string e.sum] 23))) := hide ((Below.refl w.heap.size w).alloc (Nat.le_refl _) (.cells #[.int .i64 e.kind, .int .i64 e.number, .int .i64 e.slot, .int .i64 e.size, .string e.sum] 23))
  go_enter Try.func3, Try.ntmps3
  generalize hW0 : (w.alloc (.cells #[.int .i64 e.kind, .int .i64 e.number, .int .i64 e.slot, .int .i64 e.size, .string e.sum] 23)) = w0 at *
  obtain ⟨x0, x1, x2, x3, x4⟩ := ent_all HB0.out
  go_wp2_with (first | ((with_reducible show wpList _ _ _ (⟨some 24, _, _, _, _, _⟩ :: _) _ _); refine wpList_load_row rfl _ _ rfl w.heap.size rfl 23 _ (0, 0) _ HB0.out Try.underlying23 rfl (by kernel_rfl) ?_))
  clear x0 x1 x2 x3 x4
  refine (lgiven5_calls e _).mono ?_
  rintro r w1 ⟨rfl, hb1⟩
  have HB1 := hide (HB0.out.below hb1 HB0.out.lt)
  have HX1 := hide (HX0.out.trans (hb1.mono HX0.out.size))
  clear hb1 HB0 HX0
  go_wp2_with fail
  refine (eBuild_calls e _).mono ?_
  rintro r w2 ⟨rfl, hb2⟩
  have HB2 := hide (HB1.out.below hb2 HB1.out.lt)
  have HX2 := hide (HX1.out.trans (hb2.mono HX1.out.size))
  clear hb2 HB1 HX1
  go_wp2_with (first | ((with_reducible show wpList _ _ _ (⟨some 30, _, _, _, _, _⟩ :: _) _ _); refine wpList_load_row rfl _ _ rfl w.heap.size rfl 23 _ (0, 0) _ HB2.out Try.underlying23 rfl (by kernel_rfl) ?_))
  refine (reBuild_calls e _).mono ?_
  rintro r w3 ⟨rfl, hb3⟩
  have HB3 := hide (HB2.out.below hb3 HB2.out.lt)
  have HX3 := hide (HX2.out.trans (hb3.mono HX2.out.size))
  clear hb3 HB2 HX2
  go_wp2_with fail
  refine (eParse_calls s _).mono ?_
  rintro r w4 ⟨rfl, hb4⟩
  have HB4 := hide (HB3.out.below hb4 HB3.out.lt)
  have HX4 := hide (HX3.out.trans (hb4.mono HX3.out.size))
  clear hb4 HB3 HX3
  have HZ := hide (varW_new w4)
  have HV := hide (varW_below w4 (parseM s))
  have HY5 := hide (varW_blk w4 (parseM s))
  have HB5 := hide (HB4.out.below HV.out HB4.out.lt)
  have HX5 := hide (HX4.out.trans (HV.out.mono HX4.out.size))
  clear HV HB4 HX4
  go_wp2_with (first | ((with_reducible show wpList _ _ _ (⟨none, _, _, _, _, _⟩ :: _) _ _); refine wpList_store_row rfl _ _ _ rfl w4.heap.size (parseM s).cells.toArray rfl rfl 28 _ HZ.out (by kernel_rfl) rfl (by kernel_rfl) ?_; change wpList _ _ _ _ _ (varW w4 (parseM s)); generalize varW w4 (parseM s) = w5 at *))
  clear HZ
  refine (reParse_calls s _).mono ?_
  rintro r w6 ⟨rfl, hb6⟩
  have HB6 := hide (HB5.out.below hb6 HB5.out.lt)
  have HX6 := hide (HX5.out.trans (hb6.mono HX5.out.size))
  have HY6 := hide (HY5.out.below hb6 HY5.out.lt)
  clear hb6 HB5 HX5 HY5
  have HZ := hide (rvarW_new w6)
  have HV := hide (rvarW_below w6 (parseM s))
  have HZ7 := hide (rvarW_blk w6 (parseM s))
  have HB7 := hide (HB6.out.below HV.out HB6.out.lt)
  have HX7 := hide (HX6.out.trans (HV.out.mono HX6.out.size))
  have HY7 := hide (HY6.out.below HV.out HY6.out.lt)
  clear HV HB6 HX6 HY6
  go_wp2_with (first | ((with_reducible show wpList _ _ _ (⟨none, _, _, _, _, _⟩ :: _) _ _); refine wpList_store_row rfl _ _ _ rfl w6.heap.size (parseM s).cells.toArray rfl rfl 23 _ HZ.out (by kernel_rfl) rfl (by kernel_rfl) ?_; change wpList _ _ _ _ _ (rvarW w6 (parseM s)); generalize rvarW w6 (parseM s) = w7 at *))
  clear HZ
  refine wp_region_heads [0, 1, 2, 3, 4, 5, 6, 7, 8, 9, 11] 12 (fun w' => Blk w' w4.heap.size 28 (parseM s).cells.toArray ∧ Blk w' w6.heap.size 23 (parseM s).cells.toArray) (by kernel_rfl) rfl (by kernel_rfl) (by kernel_rfl) (fun _ _ d _ _ h => by cases d <;> exact h) ⟨HY7.out, HZ7.out⟩ ?_
  first
  | (refine' Heads.skip rfl (by rfl) ?_
     simp only [Act.put, List.setIfInBounds_toArray, List.set_cons_zero, List.set_cons_succ])
  | (refine' Heads.step rfl (by rfl) ?_ ?_
     rotate_left
     · intro w' hSw
       go_simp
       try with_reducible rfl
     simp only [Act.put, List.setIfInBounds_toArray, List.set_cons_zero, List.set_cons_succ])
  first
  | (refine' Heads.skip rfl (by rfl) ?_
     simp only [Act.put, List.setIfInBounds_toArray, List.set_cons_zero, List.set_cons_succ])
  | (refine' Heads.step rfl (by rfl) ?_ ?_
     rotate_left
     · intro w' hSw
       go_simp
       try with_reducible rfl
     simp only [Act.put, List.setIfInBounds_toArray, List.set_cons_zero, List.set_cons_succ])
  first
  | (refine' Heads.skip rfl (by rfl) ?_
     simp only [Act.put, List.setIfInBounds_toArray, List.set_cons_zero, List.set_cons_succ])
  | (refine' Heads.step rfl (by rfl) ?_ ?_
     rotate_left
     · intro w' hSw
       go_simp
       try with_reducible rfl
     simp only [Act.put, List.setIfInBounds_toArray, List.set_cons_zero, List.set_cons_succ])
  first
  | (refine' Heads.skip rfl (by rfl) ?_
     simp only [Act.put, List.setIfInBounds_toArray, List.set_cons_zero, List.set_cons_succ])
  | (refine' Heads.step rfl (by rfl) ?_ ?_
     rotate_left
     · intro w' hSw
       go_simp
       try with_reducible rfl
     simp only [Act.put, List.setIfInBounds_toArray, List.set_cons_zero, List.set_cons_succ])
  first
  | (refine' Heads.skip rfl (by rfl) ?_
     simp only [Act.put, List.setIfInBounds_toArray, List.set_cons_zero, List.set_cons_succ])
  | (refine' Heads.step rfl (by rfl) ?_ ?_
     rotate_left
     · intro w' hSw
       go_simp
       try with_reducible rfl
     simp only [Act.put, List.setIfInBounds_toArray, List.set_cons_zero, List.set_cons_succ])
  first
  | (refine' Heads.skip rfl (by rfl) ?_
     simp only [Act.put, List.setIfInBounds_toArray, List.set_cons_zero, List.set_cons_succ])
  | (refine' Heads.step rfl (by rfl) ?_ ?_
     rotate_left
     · intro w' hSw
       go_simp
       try with_reducible rfl
     simp only [Act.put, List.setIfInBounds_toArray, List.set_cons_zero, List.set_cons_succ])
  first
  | (refine' Heads.skip rfl (by rfl) ?_
     simp only [Act.put, List.setIfInBounds_toArray, List.set_cons_zero, List.set_cons_succ])
  | (refine' Heads.step rfl (by rfl) ?_ ?_
     rotate_left
     · intro w' hSw
       go_simp
       try with_reducible rfl
     simp only [Act.put, List.setIfInBounds_toArray, List.set_cons_zero, List.set_cons_succ])
  first
  | (refine' Heads.skip rfl (by rfl) ?_
     simp only [Act.put, List.setIfInBounds_toArray, List.set_cons_zero, List.set_cons_succ])
  | (refine' Heads.step rfl (by rfl) ?_ ?_
     rotate_left
     · intro w' hSw
       go_simp
       try with_reducible rfl
     simp only [Act.put, List.setIfInBounds_toArray, List.set_cons_zero, List.set_cons_succ])
  first
  | (refine' Heads.skip rfl (by rfl) ?_
     simp only [Act.put, List.setIfInBounds_toArray, List.set_cons_zero, List.set_cons_succ])
  | (refine' Heads.step rfl (by rfl) ?_ ?_
     rotate_left
     · intro w' hSw
       go_simp
       try with_reducible rfl
     simp only [Act.put, List.setIfInBounds_toArray, List.set_cons_zero, List.set_cons_succ])
  refine' Heads.step rfl (by rfl) ?_ ?_
  rotate_left
  · intro w' hSw
    exact exec_load_row _ _ rfl w4.heap.size rfl 28 _ (0, 0) _ hSw.1 Try.underlying28 rfl (by kernel_rfl)
  simp only [Act.put, List.setIfInBounds_toArray, List.set_cons_zero, List.set_cons_succ]
  refine' Heads.step rfl (by rfl) ?_ ?_
  rotate_left
  · intro w' hSw
    exact exec_load_row _ _ rfl w6.heap.size rfl 23 _ (0, 0) _ hSw.2 Try.underlying23 rfl (by kernel_rfl)
  simp only [Act.put, List.setIfInBounds_toArray, List.set_cons_zero, List.set_cons_succ]
  refine Heads.done ?_
  refine wpAnyH_ready (rs := [10]) (by kernel_rfl) (by simp) (AllReadyH.cons rfl (fun K hK => ?_) AllReadyH.nil)
  go_simp
  refine (ltaken5_calls (parseM s) _).mono ?_
  rintro r w8 ⟨rfl, hb8⟩
  have HX8 := hide (HX7.out.drew.trans (hb8.mono HX7.out.size))
  have HY8 := hide (HY7.out.below (w := w7.drew) hb8 HY7.out.lt)
  have HZ8 := hide (HZ7.out.below (w := w7.drew) hb8 HZ7.out.lt)
  clear hb8 HX7 HY7 HZ7
  refine hK.out _ _ ⟨HY8.out, HZ8.out⟩ (fun hHeld1 => ?_)
  clear hK K
  refine wpAnyH_more [12, 13, 14, 15, 16, 17, 18, 19] 3 rfl (by kernel_rfl) (by kernel_rfl) (fun _ _ d _ _ h => by cases d <;> exact h) hHeld1 ?_
  refine' Heads.step rfl (by rfl) ?_ ?_
  rotate_left
  · intro w' hSw
    exact exec_rent_eq rfl rfl rfl
  simp only [Act.put, List.setIfInBounds_toArray, List.set_cons_zero, List.set_cons_succ]
  first
  | (refine' Heads.skip rfl (by rfl) ?_
     simp only [Act.put, List.setIfInBounds_toArray, List.set_cons_zero, List.set_cons_succ])
  | (refine' Heads.step rfl (by rfl) ?_ ?_
     rotate_left
     · intro w' hSw
       go_simp
       try with_reducible rfl
     simp only [Act.put, List.setIfInBounds_toArray, List.set_cons_zero, List.set_cons_succ])
  first
  | (refine' Heads.skip rfl (by rfl) ?_
     simp only [Act.put, List.setIfInBounds_toArray, List.set_cons_zero, List.set_cons_succ])
  | (refine' Heads.step rfl (by rfl) ?_ ?_
     rotate_left
     · intro w' hSw
       go_simp
       try with_reducible rfl
     simp only [Act.put, List.setIfInBounds_toArray, List.set_cons_zero, List.set_cons_succ])
  first
  | (refine' Heads.skip rfl (by rfl) ?_
     simp only [Act.put, List.setIfInBounds_toArray, List.set_cons_zero, List.set_cons_succ])
  | (refine' Heads.step rfl (by rfl) ?_ ?_
     rotate_left
     · intro w' hSw
       go_simp
       try with_reducible rfl
     simp only [Act.put, List.setIfInBounds_toArray, List.set_cons_zero, List.set_cons_succ])
  first
  | (refine' Heads.skip rfl (by rfl) ?_
     simp only [Act.put, List.setIfInBounds_toArray, List.set_cons_zero, List.set_cons_succ])
  | (refine' Heads.step rfl (by rfl) ?_ ?_
     rotate_left
     · intro w' hSw
       go_simp
       try with_reducible rfl
     simp only [Act.put, List.setIfInBounds_toArray, List.set_cons_zero, List.set_cons_succ])
  first
  | (refine' Heads.skip rfl (by rfl) ?_
     simp only [Act.put, List.setIfInBounds_toArray, List.set_cons_zero, List.set_cons_succ])
  | (refine' Heads.step rfl (by rfl) ?_ ?_
     rotate_left
     · intro w' hSw
       go_simp
       try with_reducible rfl
     simp only [Act.put, List.setIfInBounds_toArray, List.set_cons_zero, List.set_cons_succ])
  first
  | (refine' Heads.skip rfl (by rfl) ?_
     simp only [Act.put, List.setIfInBounds_toArray, List.set_cons_zero, List.set_cons_succ])
  | (refine' Heads.step rfl (by rfl) ?_ ?_
     rotate_left
     · intro w' hSw
       go_simp
       try with_reducible rfl
     simp only [Act.put, List.setIfInBounds_toArray, List.set_cons_zero, List.set_cons_succ])
  first
  | (refine' Heads.skip rfl (by rfl) ?_
     simp only [Act.put, List.setIfInBounds_toArray, List.set_cons_zero, List.set_cons_succ])
  | (refine' Heads.step rfl (by rfl) ?_ ?_
     rotate_left
     · intro w' hSw
       go_simp
       try with_reducible rfl
     simp only [Act.put, List.setIfInBounds_toArray, List.set_cons_zero, List.set_cons_succ])
  refine Heads.done ?_
  refine wpAnyH_ready (rs := [20]) (by kernel_rfl) (by simp) (AllReadyH.cons rfl (fun K hK => ?_) AllReadyH.nil)
  go_simp
  refine (lknown5_calls _).mono ?_
  rintro r w9 ⟨rfl, hb9⟩
  have HX9 := hide (HX8.out.trans (hb9.mono HX8.out.size))
  have HY9 := hide (HY8.out.below hb9 HY8.out.lt)
  have HZ9 := hide (HZ8.out.below hb9 HZ8.out.lt)
  refine hK.out _ _ ⟨HY9.out, HZ9.out⟩ (fun hHeld2 => ?_)
  clear hK K
  refine wpAnyH_more [21, 22] 0 rfl (by kernel_rfl) (by kernel_rfl) (fun _ _ d _ _ h => by cases d <;> exact h) hHeld2 ?_
  iterate 2
    first
    | refine' Heads.skip rfl (by rfl) ?_
    | (refine' Heads.step rfl (by rfl) ?_ ?_
       rotate_left
       · intro w' hSw
         go_simp
         try with_reducible rfl)
    simp only [Act.put, List.setIfInBounds_toArray, List.set_cons_zero, List.set_cons_succ]
  refine Heads.done ?_
  refine wpAnyH_done (by kernel_rfl) ?_ _
  go_wp2_with fail
  go_ret
  exact ⟨rfl, HX9.out⟩
end Go.Proofs.Ytmbkncckcpgdgaa
