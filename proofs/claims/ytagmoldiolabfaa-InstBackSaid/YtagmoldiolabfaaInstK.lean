/- Chapter 13: what must come of fixed calls. -/
import Derived.Test.YtagmoldiolabfaaInstG
namespace Go.Proofs.Ytagmoldiolabfaa
open Go.RowKit Zb

set_option maxHeartbeats 1000000 in
theorem lknown13_calls (w : World) : Calls Try.prog 18 #[] w fun e w' => e = .returned (.bool true) ∧ Below w.heap.size w w' := by
  go_enter Try.func18, Try.ntmps18
  go_wp2_with fail
  refine (iBuild_calls _ _ _ _ _).mono ?_
  rintro e w1 ⟨rfl, hb1⟩
  rw [show buildB 2 1 44 1 = ⟨#[2, 1, 44, 1]⟩ by kernel_rfl, show buildE 2 1 44 1 = 0 by kernel_rfl]
  have X1 := (Blk.new w 23 #[.int .i64 2, .int .i64 1, .int .i64 44, .int .i64 1]).below hb1 (by simp)
  have T1 := hide (((Turned.refl (fun _ => False) w).alloc _).then_below hb1)
  have Y1 := hide X1
  clear hb1 X1
  go_wp2_with fail
  refine (iParse_calls _ _ (of_decide_eq_true (by kernel_rfl)) _).mono ?_
  rintro e w2 ⟨rfl, hb2⟩
  rw [show parseB (⟨#[63]⟩ ++ ⟨#[2, 1, 44, 1]⟩) 1 = ((2, 1, 44, 1), 0) by kernel_rfl]
  have T2 := hide (T1.out.then_below hb2)
  have Y2 := hide (Y1.out.below hb2 Y1.out.lt)
  clear hb2 T1 Y1
  go_wp2_with fail
  refine (iBuild_calls _ _ _ _ _).mono ?_
  rintro e w3 ⟨rfl, hb3⟩
  rw [show buildB 1 1 2 0 = ⟨#[]⟩ by kernel_rfl, show buildE 1 1 2 0 = 4 by kernel_rfl]
  have T3 := hide ((T2.out.alloc _).then_below hb3)
  have Z3 := (Blk.new w2 23 #[.int .i64 2, .int .i64 1, .int .i64 44, .int .i64 1]).below hb3 (by simp)
  have Y3 := (Y2.out.alloc (.cells #[.int .i64 2, .int .i64 1, .int .i64 44, .int .i64 1] 23)).below hb3 (Y2.out.alloc _).lt
  clear hb3 T2 Y2
  have a0 : w3.cell? ⟨w.heap.size, 0, none⟩ = some (.int .i64 2) := Y3.cell 0
  have a1 : w3.cell? ⟨w.heap.size, 1, none⟩ = some (.int .i64 1) := Y3.cell 1
  have a2 : w3.cell? ⟨w.heap.size, 2, none⟩ = some (.int .i64 44) := Y3.cell 2
  have a3 : w3.cell? ⟨w.heap.size, 3, none⟩ = some (.int .i64 1) := Y3.cell 3
  have c0 : w3.cell? ⟨w2.heap.size, 0, none⟩ = some (.int .i64 2) := Z3.cell 0
  have c1 : w3.cell? ⟨w2.heap.size, 1, none⟩ = some (.int .i64 1) := Z3.cell 1
  have c2 : w3.cell? ⟨w2.heap.size, 2, none⟩ = some (.int .i64 44) := Z3.cell 2
  have c3 : w3.cell? ⟨w2.heap.size, 3, none⟩ = some (.int .i64 1) := Z3.cell 3
  clear Y3 Z3
  generalize hq : w.heap.size = q at *
  generalize hq2 : w2.heap.size = q2 at *
  go_wp2_with fail
  refine (iWide_calls _ _ _ _ _).mono ?_
  rintro e w4 ⟨rfl, hb4⟩
  rw [show (if rightB 2 1 44 1 = true then (44 : Int) + 256 * 1 else 0) = 300 by kernel_rfl]
  have T4 := hide (T3.out.then_below hb4)
  clear hb4 T3 a0 a1 a2 a3 c0 c1 c2 c3
  go_wp2_with fail
  refine (iName_calls _ (by omega) (by omega) _).mono ?_
  rintro e w5 ⟨rfl, rfl⟩
  rw [nameB_37]
  go_wp2_with fail
  refine (iShape_calls _ _).mono ?_
  rintro e w5 ⟨rfl, rfl⟩
  rw [show shapeB 29 = ⟨#[114, 114, 110]⟩ by kernel_rfl]
  go_wp2_with fail
  go_ret
  exact ⟨rfl, T4.out.below (Nat.le_refl _) (fun _ h => h.elim)⟩
end Go.Proofs.Ytagmoldiolabfaa
