/- Chapter 5: RingBack, walked. -/
import Derived.Test.YtmbkncckcpgdgaaRingU
import Derived.Test.YtmbkncckcpgdgaaCount
import Derived.OpenShut
namespace Go.Proofs.Ytmbkncckcpgdgaa
open Go.RowKit Zb

set_option maxRecDepth 20000 in
set_option maxHeartbeats 2000000 in
theorem RingBack_walk (e : EntM) (at_ c : Int) (w : World) (_ : e.sum.size ≤ maxLen) (wa : (Lit.int .i64 at_).wf = true) (wc : (Lit.int .u8 c).wf = true) : Calls Try.prog 4 #[.agg #[.int .i64 e.kind, .int .i64 e.number, .int .i64 e.slot, .int .i64 e.size, .string e.sum], .int .i64 at_, .int .u8 c] w fun r w' => r = .returned (.bool true) ∧ Below w.heap.size w w' := by
  have ba := bounds_i64 wa
  have bc := bounds_u8 wc
  obtain ⟨cb, rfl⟩ : ∃ cb : UInt8, c = (cb.toNat : Int) := ⟨UInt8.ofNat c.toNat, by simp; omega⟩
  have HC := hide (wCount_calls at_ 64 (by omega) (by omega) (by omega) (by omega))
  have hcM : 0 ≤ countM at_ 64 ∧ countM at_ 64 < 64 := by unfold countM; omega
  obtain ⟨k, hc⟩ : ∃ k : Nat, countM at_ 64 = k := ⟨(countM at_ 64).toNat, by omega⟩
  have hc9 : k < 64 := by omega
  rw [hc] at HC
  clear hcM hc ba bc wa wc
  by_cases h1 : 1000 < e.sum.size
  · have h1I : (1000 : Int) < (e.sum.size : Int) := by omega
    clear h1
    go_enter Try.func4, Try.ntmps4
    go_wp2_with fail
    refine (lknown5_calls _).mono ?_
    rintro r wk ⟨rfl, hbk⟩
    go_wp2_with fail
    go_ret
    exact ⟨rfl, ((Below.refl w.heap.size w).alloc (Nat.le_refl _) (.cells #[.int .i64 e.kind, .int .i64 e.number, .int .i64 e.slot, .int .i64 e.size, .string e.sum] 23)).trans (hbk.mono (Nat.le_of_lt (Nat.lt_of_lt_of_eq (Nat.lt_succ_self _) (Array.size_push _).symm)))⟩
  have h1I : (e.sum.size : Int) ≤ 1000 := by omega
  clear h1
  have HB0 : Hid (Blk (w.alloc (.cells #[.int .i64 e.kind, .int .i64 e.number, .int .i64 e.slot, .int .i64 e.size, .string e.sum] 23)) w.heap.size 23 e.cells.toArray) := hide (Blk.new w 23 _)
  have HX0 : Hid (Below w.heap.size w (w.alloc (.cells #[.int .i64 e.kind, .int .i64 e.number, .int .i64 e.slot, .int .i64 e.size, .string e.sum] 23))) := hide ((Below.refl w.heap.size w).alloc (Nat.le_refl _) (.cells #[.int .i64 e.kind, .int .i64 e.number, .int .i64 e.slot, .int .i64 e.size, .string e.sum] 23))
  go_enter Try.func4, Try.ntmps4
  generalize hW0 : (w.alloc (.cells #[.int .i64 e.kind, .int .i64 e.number, .int .i64 e.slot, .int .i64 e.size, .string e.sum] 23)) = w0 at *
  obtain ⟨x0, x1, x2, x3, x4⟩ := ent_all HB0.out
  go_wp2_with (first | ((with_reducible show wpList _ _ _ (⟨some 23, _, _, _, _, _⟩ :: _) _ _); refine wpList_load_row rfl _ _ rfl w.heap.size rfl 23 _ (0, 0) _ HB0.out Try.underlying23 rfl (by kernel_rfl) ?_))
  clear x0 x1 x2 x3 x4
  refine (lgiven5_calls e _).mono ?_
  rintro r w1 ⟨rfl, hb1⟩
  have HB1 := hide (HB0.out.below hb1 HB0.out.lt)
  have HX1 := hide (HX0.out.trans (hb1.mono HX0.out.size))
  clear hb1 HB0 HX0
  go_wp2_with fail
  refine (eBuild_calls e _).mono ?_
  rintro r w2 ⟨rfl, hb2⟩
  have HB2 := hide (HB1.out.below hb2 HB1.out.lt)
  have HX2 := hide (HX1.out.trans (hb2.mono HX1.out.size))
  clear hb2 HB1 HX1
  cases hr : e.right
  · have e1 : buildB e = ⟨#[]⟩ := by unfold buildB; rw [hr]; rfl
    have e2 : buildE e = 1 := by unfold buildE; rw [hr]; rfl
    rw [e1, e2]
    clear e1 e2 hr
    go_wp2_with fail
    refine (lknown5_calls _).mono ?_
    rintro r wk ⟨rfl, hbk⟩
    go_wp2_with fail
    go_ret
    exact ⟨rfl, HX2.out.trans (hbk.mono HX2.out.size)⟩
  have HR := hide ((rightE_iff e).1 hr)
  have e1 : buildB e = e.block := by unfold buildB; rw [hr]; rfl
  have e2 : buildE e = 0 := by unfold buildE; rw [hr]; rfl
  have HPB := hide (parse_block HR.out)
  have hsz : (e.block.size : Int) = 64 := by rw [block_size HR.out]; rfl
  rw [e1, e2]
  clear e1 e2 hr
  generalize e.block = s at *
  go_wp2_with fail
  refine (eParse_calls s _).mono ?_
  rintro r w3 ⟨rfl, hb3⟩
  have HB3 := hide (HB2.out.below hb3 HB2.out.lt)
  have HX3 := hide (HX2.out.trans (hb3.mono HX2.out.size))
  clear hb3 HB2 HX2
  rw [HPB.out.1, HPB.out.2]
  have HZ := hide (varW_new w3)
  have HV := hide (varW_below w3 e)
  have HY4 := hide (varW_blk w3 e)
  have HB4 := hide (HB3.out.below HV.out HB3.out.lt)
  have HX4 := hide (HX3.out.trans (HV.out.mono HX3.out.size))
  clear HV HB3 HX3
  go_wp2_with (first | ((with_reducible show wpList _ _ _ (⟨none, _, _, _, _, _⟩ :: _) _ _); refine wpList_store_row rfl _ _ _ rfl w3.heap.size e.cells.toArray rfl rfl 28 _ HZ.out (by kernel_rfl) rfl (by kernel_rfl) ?_; change wpList _ _ _ _ _ (varW w3 e); generalize varW w3 e = w4 at *))
  clear HZ
  refine wp_region_heads [0, 2] 11 (fun w' => Blk w' w3.heap.size 28 e.cells.toArray ∧ Blk w' w.heap.size 23 e.cells.toArray) (by kernel_rfl) rfl (by kernel_rfl) (by kernel_rfl) (fun _ _ d _ _ h => by cases d <;> exact h) ⟨HY4.out, HB4.out⟩ ?_
  refine' Heads.step rfl (by rfl) ?_ ?_
  rotate_left
  · intro w' hSw
    exact exec_load_row _ _ rfl w3.heap.size rfl 28 _ (0, 0) _ hSw.1 Try.underlying28 rfl (by kernel_rfl)
  simp only [Act.put, List.setIfInBounds_toArray, List.set_cons_zero, List.set_cons_succ]
  refine' Heads.step rfl (by rfl) ?_ ?_
  rotate_left
  · intro w' hSw
    exact exec_load_row _ _ rfl w.heap.size rfl 23 _ (0, 0) _ hSw.2 Try.underlying23 rfl (by kernel_rfl)
  simp only [Act.put, List.setIfInBounds_toArray, List.set_cons_zero, List.set_cons_succ]
  refine Heads.done ?_
  refine wpAnyH_ready (rs := [1]) (by kernel_rfl) (by simp) (AllReadyH.cons rfl (fun K hK => ?_) AllReadyH.nil)
  go_simp
  refine (ltaken5_calls e _).mono ?_
  rintro r w5 ⟨rfl, hb5⟩
  have HX5 := hide (HX4.out.drew.trans (hb5.mono HX4.out.size))
  have HB5 := hide (HB4.out.below (w := w4.drew) hb5 HB4.out.lt)
  have HY5 := hide (HY4.out.below (w := w4.drew) hb5 HY4.out.lt)
  clear hb5 HX4 HB4 HY4
  refine hK.out _ _ ⟨HY5.out, HB5.out⟩ (fun hHeld1 => ?_)
  clear hK K
  refine wpAnyH_more [3, 4, 5, 6, 7, 8, 9, 10, 11, 12] 0 rfl (by kernel_rfl) (by kernel_rfl) (fun _ _ d _ _ h => by cases d <;> exact h) hHeld1 ?_
  refine' Heads.step rfl (by rfl) ?_ ?_
  rotate_left
  · intro w' hSw
    exact exec_rent_ne rfl rfl rfl
  simp only [Act.put, List.setIfInBounds_toArray, List.set_cons_zero, List.set_cons_succ]
  first
  | (refine' Heads.skip rfl (by rfl) ?_
     simp only [Act.put, List.setIfInBounds_toArray, List.set_cons_zero, List.set_cons_succ])
  | (refine' Heads.step rfl (by rfl) ?_ ?_
     rotate_left
     · intro w' hSw
       go_simp
       try with_reducible rfl
     simp only [Act.put, List.setIfInBounds_toArray, List.set_cons_zero, List.set_cons_succ])
  first
  | (refine' Heads.skip rfl (by rfl) ?_
     simp only [Act.put, List.setIfInBounds_toArray, List.set_cons_zero, List.set_cons_succ])
  | (refine' Heads.step rfl (by rfl) ?_ ?_
     rotate_left
     · intro w' hSw
       go_simp
       try with_reducible rfl
     simp only [Act.put, List.setIfInBounds_toArray, List.set_cons_zero, List.set_cons_succ])
  first
  | (refine' Heads.skip rfl (by rfl) ?_
     simp only [Act.put, List.setIfInBounds_toArray, List.set_cons_zero, List.set_cons_succ])
  | (refine' Heads.step rfl (by rfl) ?_ ?_
     rotate_left
     · intro w' hSw
       go_simp
       try with_reducible rfl
     simp only [Act.put, List.setIfInBounds_toArray, List.set_cons_zero, List.set_cons_succ])
  first
  | (refine' Heads.skip rfl (by rfl) ?_
     simp only [Act.put, List.setIfInBounds_toArray, List.set_cons_zero, List.set_cons_succ])
  | (refine' Heads.step rfl (by rfl) ?_ ?_
     rotate_left
     · intro w' hSw
       go_simp
       try with_reducible rfl
     simp only [Act.put, List.setIfInBounds_toArray, List.set_cons_zero, List.set_cons_succ])
  first
  | (refine' Heads.skip rfl (by rfl) ?_
     simp only [Act.put, List.setIfInBounds_toArray, List.set_cons_zero, List.set_cons_succ])
  | (refine' Heads.step rfl (by rfl) ?_ ?_
     rotate_left
     · intro w' hSw
       go_simp
       try with_reducible rfl
     simp only [Act.put, List.setIfInBounds_toArray, List.set_cons_zero, List.set_cons_succ])
  first
  | (refine' Heads.skip rfl (by rfl) ?_
     simp only [Act.put, List.setIfInBounds_toArray, List.set_cons_zero, List.set_cons_succ])
  | (refine' Heads.step rfl (by rfl) ?_ ?_
     rotate_left
     · intro w' hSw
       go_simp
       try with_reducible rfl
     simp only [Act.put, List.setIfInBounds_toArray, List.set_cons_zero, List.set_cons_succ])
  first
  | (refine' Heads.skip rfl (by rfl) ?_
     simp only [Act.put, List.setIfInBounds_toArray, List.set_cons_zero, List.set_cons_succ])
  | (refine' Heads.step rfl (by rfl) ?_ ?_
     rotate_left
     · intro w' hSw
       go_simp
       try with_reducible rfl
     simp only [Act.put, List.setIfInBounds_toArray, List.set_cons_zero, List.set_cons_succ])
  first
  | (refine' Heads.skip rfl (by rfl) ?_
     simp only [Act.put, List.setIfInBounds_toArray, List.set_cons_zero, List.set_cons_succ])
  | (refine' Heads.step rfl (by rfl) ?_ ?_
     rotate_left
     · intro w' hSw
       go_simp
       try with_reducible rfl
     simp only [Act.put, List.setIfInBounds_toArray, List.set_cons_zero, List.set_cons_succ])
  first
  | (refine' Heads.skip rfl (by rfl) ?_
     simp only [Act.put, List.setIfInBounds_toArray, List.set_cons_zero, List.set_cons_succ])
  | (refine' Heads.step rfl (by rfl) ?_ ?_
     rotate_left
     · intro w' hSw
       go_simp
       try with_reducible rfl
     simp only [Act.put, List.setIfInBounds_toArray, List.set_cons_zero, List.set_cons_succ])
  refine Heads.done ?_
  refine wpAnyH_done (by kernel_rfl) ?_ _
  go_wp2_with fail
  refine (HC.out _).mono ?_
  rintro r _ ⟨rfl, rfl⟩
  have hkI : (k : Int) < 64 := by omega
  have hk0 : (0 : Int) ≤ (k : Int) := by omega
  have hk1 : IntKind.i64.wrap ((k : Int) + 1) = (k : Int) + 1 := IntWalk.i64_in _ (by omega)
  go_wp2_with fail
  refine wp_region_heads [0, 1, 2, 3, 7, 8, 9, 10] 5 (fun _ => True) (by kernel_rfl) rfl (by kernel_rfl) (by kernel_rfl) (fun _ _ d _ _ h => by cases d <;> exact h) trivial ?_
  first
  | (refine' Heads.skip rfl (by rfl) ?_
     simp only [Act.put, List.setIfInBounds_toArray, List.set_cons_zero, List.set_cons_succ])
  | (refine' Heads.step rfl (by rfl) ?_ ?_
     rotate_left
     · intro w' hSw
       go_simp
       try with_reducible rfl
     simp only [Act.put, List.setIfInBounds_toArray, List.set_cons_zero, List.set_cons_succ])
  first
  | (refine' Heads.skip rfl (by rfl) ?_
     simp only [Act.put, List.setIfInBounds_toArray, List.set_cons_zero, List.set_cons_succ])
  | (refine' Heads.step rfl (by rfl) ?_ ?_
     rotate_left
     · intro w' hSw
       go_simp
       try with_reducible rfl
     simp only [Act.put, List.setIfInBounds_toArray, List.set_cons_zero, List.set_cons_succ])
  refine' Heads.step rfl (by rfl) ?_ ?_
  rotate_left
  · intro w' hSw
    (go_simp; rw [if_pos (by omega)])
  simp only [Act.put, List.setIfInBounds_toArray, List.set_cons_zero, List.set_cons_succ]
  first
  | (refine' Heads.skip rfl (by rfl) ?_
     simp only [Act.put, List.setIfInBounds_toArray, List.set_cons_zero, List.set_cons_succ])
  | (refine' Heads.step rfl (by rfl) ?_ ?_
     rotate_left
     · intro w' hSw
       go_simp
       try with_reducible rfl
     simp only [Act.put, List.setIfInBounds_toArray, List.set_cons_zero, List.set_cons_succ])
  first
  | (refine' Heads.skip rfl (by rfl) ?_
     simp only [Act.put, List.setIfInBounds_toArray, List.set_cons_zero, List.set_cons_succ])
  | (refine' Heads.step rfl (by rfl) ?_ ?_
     rotate_left
     · intro w' hSw
       go_simp
       try with_reducible rfl
     simp only [Act.put, List.setIfInBounds_toArray, List.set_cons_zero, List.set_cons_succ])
  first
  | (refine' Heads.skip rfl (by rfl) ?_
     simp only [Act.put, List.setIfInBounds_toArray, List.set_cons_zero, List.set_cons_succ])
  | (refine' Heads.step rfl (by rfl) ?_ ?_
     rotate_left
     · intro w' hSw
       go_simp
       try with_reducible rfl
     simp only [Act.put, List.setIfInBounds_toArray, List.set_cons_zero, List.set_cons_succ])
  first
  | (refine' Heads.skip rfl (by rfl) ?_
     simp only [Act.put, List.setIfInBounds_toArray, List.set_cons_zero, List.set_cons_succ])
  | (refine' Heads.step rfl (by rfl) ?_ ?_
     rotate_left
     · intro w' hSw
       go_simp
       try with_reducible rfl
     simp only [Act.put, List.setIfInBounds_toArray, List.set_cons_zero, List.set_cons_succ])
  refine' Heads.step rfl (by rfl) ?_ ?_
  rotate_left
  · intro w' hSw
    (go_simp; rw [if_pos (by omega)])
  simp only [Act.put, List.setIfInBounds_toArray, List.set_cons_zero, List.set_cons_succ]
  refine Heads.done ?_
  refine wpAnyH_ready (rs := [4]) (by kernel_rfl) (by simp) (AllReadyH.cons rfl (fun K hK => ?_) AllReadyH.nil)
  go_simp
  refine hK.out _ _ trivial (fun hHeld1 => ?_)
  clear hK K
  refine wpAnyH_weak (S' := fun w' => (convert 38 9 (.slice (some ⟨w5.heap.size, 0, none⟩) 1 1)).run Try.prog w' = .ok (.string ⟨#[cb]⟩) w') (fun _ _ => trivial) ?_
  refine wpAnyH_more [5, 6, 11, 12] 0 rfl (by kernel_rfl) (by kernel_rfl) (fun _ _ d _ _ h => by cases d <;> exact h) (conv_bytes _ 38 9 5 ⟨w5.heap.size, 0, none⟩ 1 [cb] (by kernel_rfl) (by kernel_rfl) (by kernel_rfl) (fun j hj => by obtain rfl : j = 0 := Nat.lt_one_iff.1 hj; exact (Blk.new w5 5 #[.int .u8 (cb.toNat : Int)]).cell 0)) ?_
  first
  | (refine' Heads.skip rfl (by rfl) ?_
     simp only [Act.put, List.setIfInBounds_toArray, List.set_cons_zero, List.set_cons_succ])
  | (refine' Heads.step rfl (by rfl) ?_ ?_
     rotate_left
     · intro w' hSw
       have hcv := hSw
       go_simp
       try with_reducible rfl
     simp only [Act.put, List.setIfInBounds_toArray, List.set_cons_zero, List.set_cons_succ])
  refine' Heads.step rfl (by rfl) ?_ ?_
  rotate_left
  · intro w' hSw
    (go_simp; rw [if_neg (by omega)])
  simp only [Act.put, List.setIfInBounds_toArray, List.set_cons_zero, List.set_cons_succ]
  refine' Heads.step rfl (by rfl) ?_ ?_
  rotate_left
  · intro w' hSw
    (go_simp; rw [if_neg (by omega)])
  simp only [Act.put, List.setIfInBounds_toArray, List.set_cons_zero, List.set_cons_succ]
  first
  | (refine' Heads.skip rfl (by rfl) ?_
     simp only [Act.put, List.setIfInBounds_toArray, List.set_cons_zero, List.set_cons_succ])
  | (refine' Heads.step rfl (by rfl) ?_ ?_
     rotate_left
     · intro w' hSw
       have hcv := hSw
       go_simp
       try with_reducible rfl
     simp only [Act.put, List.setIfInBounds_toArray, List.set_cons_zero, List.set_cons_succ])
  refine Heads.done ?_
  refine wpAnyH_done (by kernel_rfl) ?_ _
  have HX6 : Hid (Below w.heap.size w ((w5.alloc (.cells #[.int .u8 (cb.toNat : Int)] 5)).drew)) := hide (HX5.out.alloc HX5.out.size _).drew
  generalize ((w5.alloc (.cells #[.int .u8 (cb.toNat : Int)] 5)).drew) = w6 at *
  generalize (s.extract 0 k ++ ⟨#[cb]⟩ ++ s.extract (k + 1) s.size) = t
  go_wp2_with fail
  refine (eParse_calls t _).mono ?_
  rintro r w7 ⟨rfl, hb7⟩
  have HX7 := hide (HX6.out.trans (hb7.mono HX6.out.size))
  clear hb7 HX6
  have HZ := hide (varW_new w7)
  have HV := hide (varW_below w7 (parseM t))
  have HY8 := hide (varW_blk w7 (parseM t))
  have HX8 := hide (HX7.out.trans (HV.out.mono HX7.out.size))
  clear HV HX7
  go_wp2_with (first | ((with_reducible show wpList _ _ _ (⟨none, _, _, _, _, _⟩ :: _) _ _); refine wpList_store_row rfl _ _ _ rfl w7.heap.size (parseM t).cells.toArray rfl rfl 28 _ HZ.out (by kernel_rfl) rfl (by kernel_rfl) ?_; change wpList _ _ _ _ _ (varW w7 (parseM t)); generalize varW w7 (parseM t) = w8 at *) | ((with_reducible show wpList _ _ _ (⟨some 73, _, _, _, _, _⟩ :: _) _ _); refine wpList_load_row rfl _ _ rfl w7.heap.size rfl 28 _ (0, 0) _ HY8.out Try.underlying28 rfl (by kernel_rfl) ?_))
  refine (eBuild_calls (parseM t) _).mono ?_
  rintro r w9 ⟨rfl, hb9⟩
  have HX9 := hide (HX8.out.trans (hb9.mono HX8.out.size))
  clear hb9 HX8
  cases hp : parseOk t
  · go_wp2_with fail
    all_goals
      refine (lknown5_calls _).mono ?_
      rintro r wk ⟨rfl, hbk⟩
      go_wp2_with fail
      go_ret
      exact ⟨rfl, HX9.out.trans (hbk.mono HX9.out.size)⟩
  have HQ := parse_right hp
  have e1 : buildB (parseM t) = t := by unfold buildB; rw [(rightE_iff _).2 HQ.1]; exact HQ.2.1
  have e2 : buildE (parseM t) = 0 := by unfold buildE; rw [(rightE_iff _).2 HQ.1]; rfl
  rw [e1, e2]
  clear e1 e2 HQ hp
  go_wp2_with fail
  all_goals
    refine (lknown5_calls _).mono ?_
    rintro r wk ⟨rfl, hbk⟩
    go_wp2_with fail
    go_ret
    exact ⟨rfl, HX9.out.trans (hbk.mono HX9.out.size)⟩
end Go.Proofs.Ytmbkncckcpgdgaa
