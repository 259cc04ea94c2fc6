/- Chapter 13: inst.known, fits, Shape, Name; the document's Name and Shape. -/
import Derived.Test.YtagmoldiolabfaaRows
import Derived.Test.YtagmoldiolabfaaInstM
namespace Go.Proofs.Ytagmoldiolabfaa
open Go.RowKit Zb

theorem iknown_calls (op : Int) (w : World) : Calls Try.prog 23 #[.int .i64 op] w fun e w' => e = .returned (.bool (isOp op)) ∧ w' = w := by
  by_cases h0 : 0 ≤ op
  · by_cases h1 : op < 38
    · have e : isOp op = true := by simp [isOp, h0, h1]
      rw [e]
      go_enter Try.func23, Try.ntmps23
      go_wp2_with fail
      go_ret
      exact ⟨rfl, rfl⟩
    · have e : isOp op = false := by simp [isOp, h0, h1]
      rw [e]
      go_enter Try.func23, Try.ntmps23
      go_wp2_with fail
      go_ret
      exact ⟨rfl, rfl⟩
  · have e : isOp op = false := by simp [isOp, h0]
    rw [e]
    go_enter Try.func23, Try.ntmps23
    go_wp2_with fail
    go_ret
    exact ⟨rfl, rfl⟩

theorem ifits_calls (n c : Int) (w : World) : Calls Try.prog 21 #[.int .i64 n, .int .u8 c] w fun e w' => e = .returned (.bool (fitsB n c)) ∧ w' = w := by
  by_cases hc : c = 45
  · subst hc
    have e : fitsB n 45 = (n == 0) := by simp [fitsB]
    rw [e]
    go_enter Try.func21, Try.ntmps21
    go_wp2_with fail
    go_ret
    exact ⟨rfl, rfl⟩
  · by_cases h0 : 0 ≤ n
    · by_cases h1 : n ≤ 255
      · have e : fitsB n c = true := by simp [fitsB, hc, h0, h1]
        rw [e]
        go_enter Try.func21, Try.ntmps21
        go_wp2_with fail
        go_ret
        exact ⟨rfl, rfl⟩
      · have e : fitsB n c = false := by simp [fitsB, hc, h0, h1]
        rw [e]
        go_enter Try.func21, Try.ntmps21
        go_wp2_with fail
        go_ret
        exact ⟨rfl, rfl⟩
    · have e : fitsB n c = false := by simp [fitsB, hc, h0]
      rw [e]
      go_enter Try.func21, Try.ntmps21
      go_wp2_with fail
      go_ret
      exact ⟨rfl, rfl⟩
theorem risms_calls (n c : Int) (w : World) : Calls Try.prog 22 #[.int .i64 n, .int .u8 c] w fun e w' => e = .returned (.bool (fitsB n c)) ∧ w' = w := by
  by_cases hc : c = 45
  · subst hc
    have e : fitsB n 45 = (n == 0) := by simp [fitsB]
    rw [e]
    by_cases hn : n = 0
    · subst hn
      go_enter Try.func22, Try.ntmps22
      go_wp2_with fail
      go_ret
      exact ⟨rfl, rfl⟩
    · have e : (n == 0) = false := by simp [hn]
      rw [e]
      by_cases h0 : 0 ≤ n
      · by_cases h1 : n ≤ 255
        all_goals go_enter Try.func22, Try.ntmps22
        all_goals go_wp2_with fail
        all_goals go_ret
        all_goals exact ⟨rfl, rfl⟩
      · go_enter Try.func22, Try.ntmps22
        go_wp2_with fail
        go_ret
        exact ⟨rfl, rfl⟩
  · by_cases h0 : 0 ≤ n
    · by_cases h1 : n ≤ 255
      · have e : fitsB n c = true := by simp [fitsB, hc, h0, h1]
        rw [e]
        go_enter Try.func22, Try.ntmps22
        go_wp2_with fail
        go_ret
        exact ⟨rfl, rfl⟩
      · have e : fitsB n c = false := by simp [fitsB, hc, h0, h1]
        rw [e]
        go_enter Try.func22, Try.ntmps22
        go_wp2_with fail
        go_ret
        exact ⟨rfl, rfl⟩
    · have e : fitsB n c = false := by simp [fitsB, hc, h0]
      rw [e]
      go_enter Try.func22, Try.ntmps22
      go_wp2_with fail
      go_ret
      exact ⟨rfl, rfl⟩

set_option maxRecDepth 100000 in
theorem iShape_calls (op : Int) (w : World) : Calls Try.prog 14 #[.int .i64 op] w fun e w' => e = .returned (.string (shapeB op)) ∧ w' = w := by
  by_cases h : isOp op = true
  · rcases ops38 h with rfl | rfl | rfl | rfl | rfl | rfl | rfl | rfl | rfl | rfl | rfl | rfl | rfl | rfl | rfl | rfl | rfl | rfl | rfl | rfl | rfl | rfl | rfl | rfl | rfl | rfl | rfl | rfl | rfl | rfl | rfl | rfl | rfl | rfl | rfl | rfl | rfl | rfl
    all_goals go_enter Try.func14, Try.ntmps14
    all_goals go_wp2_with fail
    all_goals refine (iknown_calls _ _).mono ?_
    all_goals rintro e w' ⟨rfl, rfl⟩
    all_goals rw [h]
    all_goals clear h
    all_goals go_wp2_with fail
    all_goals go_ret
    all_goals exact ⟨by kernel_rfl, rfl⟩
  · have h : isOp op = false := by simpa using h
    rw [shapeB_out h]
    go_enter Try.func14, Try.ntmps14
    go_wp2_with fail
    refine (iknown_calls _ _).mono ?_
    rintro e w' ⟨rfl, rfl⟩
    rw [h]
    go_wp2_with fail
    go_ret
    exact ⟨rfl, rfl⟩

end Go.Proofs.Ytagmoldiolabfaa
