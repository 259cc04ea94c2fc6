/- InstOps, walked: there are thirty-eight ops, each with a shape; an instruction of noughts of each can be. -/
import Derived.Test.YtagmoldiolabfaaInstQ
namespace Go.Proofs.Ytagmoldiolabfaa
open Go.RowKit Zb

theorem right_zero (op : Int) : rightB op 0 0 0 = isOp op := by
  have h : ∀ c, fitsB 0 c = true := by intro c; unfold fitsB; split <;> rfl
  simp [rightB, h]

set_option maxHeartbeats 1000000 in
theorem InstOps_walk (op : Int) (w : World) (wo : (Lit.int .i64 op).wf = true) : Calls Try.prog 7 #[.int .i64 op] w fun e w' => e = .returned (.bool true) ∧ Below w.heap.size w w' := by
  have hb := bounds_i64 wo
  have HB := hide (iBuild_calls op 0 0 0)
  have HR := hide (iRight_calls op 0 0 0)
  have HS := hide (iShape_calls op)
  have HN := hide (iName_calls op (by omega) (by omega))
  simp only [buildB, buildE, right_zero] at HB HR
  clear hb wo
  cases h : isOp op
  · rw [h] at HB HR
    rw [shapeB_out h] at HS
    rw [nameB_out h] at HN
    by_cases h0 : 0 ≤ op
    · have h1 : ¬ op < 38 := by simp [isOp, h0] at h; omega
      clear h
      go_enter Try.func7, Try.ntmps7
      go_wp2_with fail
      refine (HB.out _).mono ?_
      rintro e w1 ⟨rfl, hb⟩
      have T := hide (Turned.of_below (F := fun _ => False) hb)
      clear hb
      go_wp2_with fail
      refine (HS.out _).mono ?_
      rintro e w' ⟨rfl, rfl⟩
      go_wp2_with fail
      refine (HN.out _).mono ?_
      rintro e w' ⟨rfl, rfl⟩
      go_wp2_with fail
      refine (HR.out _).mono ?_
      rintro e w2 ⟨rfl, hb⟩
      have T2 := hide (T.out.then_below hb)
      clear hb T
      go_wp2_with fail
      refine (lknown13_calls _).mono ?_
      rintro e w3 ⟨rfl, hb⟩
      have T3 := hide (T2.out.then_below hb)
      clear hb T2
      go_wp2_with fail
      go_ret
      exact ⟨rfl, T3.out.below (Nat.le_refl _) (fun _ h => h.elim)⟩
    · clear h
      go_enter Try.func7, Try.ntmps7
      go_wp2_with fail
      refine (HB.out _).mono ?_
      rintro e w1 ⟨rfl, hb⟩
      have T := hide (Turned.of_below (F := fun _ => False) hb)
      clear hb
      go_wp2_with fail
      refine (HS.out _).mono ?_
      rintro e w' ⟨rfl, rfl⟩
      go_wp2_with fail
      refine (HN.out _).mono ?_
      rintro e w' ⟨rfl, rfl⟩
      go_wp2_with fail
      refine (HR.out _).mono ?_
      rintro e w2 ⟨rfl, hb⟩
      have T2 := hide (T.out.then_below hb)
      clear hb T
      go_wp2_with fail
      refine (lknown13_calls _).mono ?_
      rintro e w3 ⟨rfl, hb⟩
      have T3 := hide (T2.out.then_below hb)
      clear hb T2
      go_wp2_with fail
      go_ret
      exact ⟨rfl, T3.out.below (Nat.le_refl _) (fun _ h => h.elim)⟩
  · have hsz := shape_facts h
    have e1 := isEmpty_of (s := shapeB op) (by omega)
    have e2 := isEmpty_of (name_pos h)
    rw [h] at HB HR
    have h0 : 0 ≤ op := by simp [isOp] at h; omega
    have h1 : op < 38 := by simp [isOp] at h; omega
    generalize shapeB op = s at *
    generalize nameB op = n at *
    · clear h hsz
      go_enter Try.func7, Try.ntmps7
      go_wp2_with fail
      refine (HB.out _).mono ?_
      rintro e w1 ⟨rfl, hb⟩
      have T := hide (Turned.of_below (F := fun _ => False) hb)
      clear hb
      go_wp2_with fail
      refine (HS.out _).mono ?_
      rintro e w' ⟨rfl, rfl⟩
      go_wp2_with fail
      refine (HN.out _).mono ?_
      rintro e w' ⟨rfl, rfl⟩
      go_wp2_with fail
      refine (HR.out _).mono ?_
      rintro e w2 ⟨rfl, hb⟩
      have T2 := hide (T.out.then_below hb)
      clear hb T
      go_wp2_with fail
      refine (lknown13_calls _).mono ?_
      rintro e w3 ⟨rfl, hb⟩
      have T3 := hide (T2.out.then_below hb)
      clear hb T2
      go_wp2_with fail
      go_ret
      exact ⟨rfl, T3.out.below (Nat.le_refl _) (fun _ h => h.elim)⟩
end Go.Proofs.Ytagmoldiolabfaa
