/- Chapter 13: the document's Name and Shape; inst.Name. -/
import Derived.Test.YtagmoldiolabfaaInstA
namespace Go.Proofs.Ytagmoldiolabfaa
open Go.RowKit Zb

theorem below_alloc (w : World) (o : Obj) : Below w.heap.size w (w.alloc o) := ((Turned.refl (fun _ => False) w).alloc o).below (Nat.le_refl _) (fun _ h => h.elim)

theorem nameB_tab (o : Nat) (h : isOp o = true) (ho : o < (nameTab.map Value.string).length) : (nameTab.map Value.string)[o] = .string (nameB o) := by
  simp [nameB, h, List.getD_eq_getElem?_getD]
  rw [List.getElem?_eq_getElem (by simpa using ho)]; rfl

set_option maxRecDepth 100000 in
set_option maxHeartbeats 8000000 in
theorem riName_calls (op : Int) (w : World) : Calls Try.prog 17 #[.int .i64 op] w fun e w' => e = .returned (.string (nameB op)) ∧ Below w.heap.size w w' := by
  by_cases h : isOp op = true
  · obtain ⟨o, rfl⟩ : ∃ o : Nat, op = o := ⟨op.toNat, by simp [isOp] at h; omega⟩
    have ho : o < 38 := by simp [isOp] at h; omega
    go_enter Try.func17, Try.ntmps17
    go_wp2_with fail
    go_ret
    exact ⟨congrArg Ending.returned (nameB_tab o h ho), below_alloc _ _⟩
  · have h : isOp op = false := by simpa using h
    rw [nameB_out h]
    by_cases h0 : op < 0
    · go_enter Try.func17, Try.ntmps17
      go_wp2_with fail
      go_ret
      exact ⟨rfl, below_alloc _ _⟩
    · have h1 : 38 ≤ op := by simp [isOp] at h; omega
      go_enter Try.func17, Try.ntmps17
      go_wp2_with fail
      go_ret
      exact ⟨rfl, below_alloc _ _⟩

set_option maxRecDepth 100000 in
set_option maxHeartbeats 8000000 in
theorem riShape_calls (op : Int) (w : World) : Calls Try.prog 15 #[.int .i64 op] w fun e w' => e = .returned (.string (shapeB op)) ∧ Below w.heap.size w w' := by
  by_cases h : isOp op = true
  · rcases ops38 h with rfl | rfl | rfl | rfl | rfl | rfl | rfl | rfl | rfl | rfl | rfl | rfl | rfl | rfl | rfl | rfl | rfl | rfl | rfl | rfl | rfl | rfl | rfl | rfl | rfl | rfl | rfl | rfl | rfl | rfl | rfl | rfl | rfl | rfl | rfl | rfl | rfl | rfl
    all_goals go_enter Try.func15, Try.ntmps15
    all_goals go_wp2_with fail
    all_goals refine (riName_calls _ _).mono ?_
    all_goals rintro e w' ⟨rfl, hb⟩
    all_goals clear h
    all_goals simp only [nameB_0, nameB_1, nameB_2, nameB_3, nameB_4, nameB_5, nameB_6, nameB_7, nameB_8, nameB_9, nameB_10, nameB_11, nameB_12, nameB_13, nameB_14, nameB_15, nameB_16, nameB_17, nameB_18, nameB_19, nameB_20, nameB_21, nameB_22, nameB_23, nameB_24, nameB_25, nameB_26, nameB_27, nameB_28, nameB_29, nameB_30, nameB_31, nameB_32, nameB_33, nameB_34, nameB_35, nameB_36, nameB_37]
    all_goals go_wp2_with fail
    all_goals go_ret
    all_goals exact ⟨by kernel_rfl, hb⟩
  · have h : isOp op = false := by simpa using h
    rw [shapeB_out h]
    go_enter Try.func15, Try.ntmps15
    go_wp2_with fail
    refine (riName_calls _ _).mono ?_
    rintro e w' ⟨rfl, hb⟩
    rw [nameB_out h]
    go_wp2_with fail
    go_ret
    exact ⟨rfl, hb⟩
end Go.Proofs.Ytagmoldiolabfaa
