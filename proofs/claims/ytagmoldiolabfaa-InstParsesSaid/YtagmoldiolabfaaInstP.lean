/- InstParses, InstShapes, InstOps, walked. -/
import Derived.Test.YtagmoldiolabfaaInstK
namespace Go.Proofs.Ytagmoldiolabfaa
open Go.RowKit Zb

set_option maxHeartbeats 1000000 in
theorem lInstParses_calls (s : ByteArray) (at_ : Int) (w : World) (hs : s.size ≤ 140737488351232) : Calls Try.prog 4 #[.string s, .int .i64 at_] w fun e w' => e = .returned (.bool true) ∧ Below w.heap.size w w' := by
  by_cases hl : (s.size : Int) > 10000
  · go_enter Try.func4, Try.ntmps4
    go_wp2_with fail
    refine (lknown13_calls _).mono ?_
    rintro e w1 ⟨rfl, hb⟩
    have H := hide hb
    clear hb
    go_wp2_with fail
    go_ret
    exact ⟨rfl, H.out⟩
  · go_enter Try.func4, Try.ntmps4
    go_wp2_with fail
    refine (iParse_calls _ _ hs _).mono ?_
    rintro e w1 ⟨rfl, hb1⟩
    have T1 := hide (Turned.of_below (F := fun _ => False) hb1)
    clear hb1
    obtain ⟨⟨⟨x0, x1, x2, x3⟩, e0⟩, hr⟩ : ∃ r, parseB s at_ = r := ⟨_, rfl⟩
    rw [hr]
    have HR := hide hr
    clear hr
    go_wp2_with fail
    refine (riParse_calls _ _ hs _).mono ?_
    rintro e w2 ⟨rfl, hb2⟩
    rw [HR.out]
    have Y2 := (Blk.new w1 23 #[.int .i64 x0, .int .i64 x1, .int .i64 x2, .int .i64 x3]).below hb2 (by simp)
    have T2 := hide ((T1.out.alloc _).then_below hb2)
    have Y3 := Y2.alloc (.cells #[.int .i64 x0, .int .i64 x1, .int .i64 x2, .int .i64 x3] 23)
    have Z3 := Blk.new w2 23 #[.int .i64 x0, .int .i64 x1, .int .i64 x2, .int .i64 x3]
    have a0 := Y3.cell 0
    have a1 := Y3.cell 1
    have a2 := Y3.cell 2
    have a3 := Y3.cell 3
    have c0 := Z3.cell 0
    have c1 := Z3.cell 1
    have c2 := Z3.cell 2
    have c3 := Z3.cell 3
    clear hb2 Y2 Y3 Z3 T1
    go_wp2_with fail
    refine (lknown13_calls _).mono ?_
    rintro e w3 ⟨rfl, hb⟩
    have T3 := hide ((T2.out.alloc _).then_below hb)
    clear hb T2 a0 a1 a2 a3 c0 c1 c2 c3
    go_wp2_with fail
    go_ret
    exact ⟨rfl, T3.out.below (Nat.le_refl _) (fun _ h => h.elim)⟩

theorem InstParses_walk (s : ByteArray) (at_ : Int) (w : World) (hs : s.size ≤ 140737488351232) (_ : (Lit.int .i64 at_).wf = true) : Calls Try.prog 4 #[.string s, .int .i64 at_] w fun e w' => e = .returned (.bool true) ∧ Below w.heap.size w w' :=
  lInstParses_calls s at_ w hs
end Go.Proofs.Ytagmoldiolabfaa
