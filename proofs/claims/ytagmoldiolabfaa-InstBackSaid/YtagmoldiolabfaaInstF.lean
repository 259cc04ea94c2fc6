/- Chapter 13: an instruction read at a place. -/
import Derived.Test.YtagmoldiolabfaaInstE
import Derived.Laws.ResultCell
import Derived.Laws.Rows
import Derived.Test.YtagmoldiolabfaaHeld
namespace Go.Proofs.Ytagmoldiolabfaa
open Go.RowKit Zb

theorem blk_drew {w : World} {g : Nat} {t : TypeId} {cs : Array Value} (h : Blk w g t cs) : Blk w.drew g t cs := h
/-- two results, of which the first lies in a row of its own -/
theorem ret_cell {P : Program} {fn : Func} {p u : Tmp} {ty t : TypeId} {R : Ending → World → Prop} {a : Act} {w : World} {g : Nat} {cs : Array Value} {d : TypeDesc} (h : fn.results = #[.cell p ty, .tmp u]) (hd : a.defers = [])
    (hp : a.tmps.getD p undef = .pointer (some ⟨g, 0, none⟩)) (hg : Blk w g t cs) (hu : P.underlying ty = some d) (hs : (match d with | .struct _ | .array _ _ => true | _ => false) = true) (hi : (P.info? ty).map (·.size) = some cs.size)
    (hR : R (.returned (.tuple #[.agg cs, a.tmps.getD u undef])) w) : bodyPost P fn R .ret a w := by
  refine bodyPost_ret (v := .tuple #[.agg cs, a.tmps.getD u undef]) ?_ hd hR
  rw [results_cell_tmp h, hp]
  have e : (asAddr (.pointer (some ⟨g, 0, none⟩))).run P w = .ok ⟨g, 0, none⟩ w := rfl
  rw [e]
  simp only [Result.andThen]
  rw [run_loadVar_row w g t ty cs (0, 0) d hg hu hs hi]

/-- an instruction at a place -/
def parseB (s : ByteArray) (at_ : Int) : (Int × Int × Int × Int) × Int :=
  if at_ < 0 then ((0, 0, 0, 0), 1)
  else if (s.size : Int) - at_ < 4 then ((0, 0, 0, 0), 2)
  else if rightB (sL s at_.toNat) (sL s (at_.toNat + 1)) (sL s (at_.toNat + 2)) (sL s (at_.toNat + 3)) then ((sL s at_.toNat, sL s (at_.toNat + 1), sL s (at_.toNat + 2), sL s (at_.toNat + 3)), 0)
  else ((0, 0, 0, 0), 4)
abbrev instP (x : Int × Int × Int × Int) : Value := instV x.1 x.2.1 x.2.2.1 x.2.2.2

set_option maxHeartbeats 400000 in
theorem iParse_calls (s : ByteArray) (at_ : Int) (hs : s.size ≤ 140737488351232) (w : World) : Calls Try.prog 19 #[.string s, .int .i64 at_] w fun e w' => e = .returned (.tuple #[instP (parseB s at_).1, .int .i64 (parseB s at_).2]) ∧ Below w.heap.size w w' := by
  by_cases h0 : at_ < 0
  · have e : parseB s at_ = ((0, 0, 0, 0), 1) := by simp [parseB, h0]
    rw [e]
    go_enter Try.func19, Try.ntmps19
    go_wp2_with fail
    exact ret_cell rfl rfl rfl (Blk.new w 23 _) Try.underlying23 rfl (by kernel_rfl) ⟨rfl, below_alloc _ _⟩
  · obtain ⟨k, rfl⟩ : ∃ k : Nat, at_ = k := ⟨at_.toNat, by omega⟩
    by_cases h1 : (s.size : Int) < k
    · have e : parseB s k = ((0, 0, 0, 0), 2) := by simp [parseB, h0]; omega
      rw [e]
      go_enter Try.func19, Try.ntmps19
      go_wp2_with fail
      exact ret_cell rfl rfl rfl (Blk.new w 23 _) Try.underlying23 rfl (by kernel_rfl) ⟨rfl, below_alloc _ _⟩
    · by_cases h2 : (s.size : Int) - k < 4
      · have e : parseB s k = ((0, 0, 0, 0), 2) := by simp [parseB, h2]
        rw [e]
        go_enter Try.func19, Try.ntmps19
        go_wp2_with fail
        exact ret_cell rfl rfl rfl (Blk.new w 23 _) Try.underlying23 rfl (by kernel_rfl) ⟨rfl, below_alloc _ _⟩
      · have i0 : k < s.size := by omega
        have i1 : k + 1 < s.size := by omega
        have i2 : k + 2 < s.size := by omega
        have i3 : k + 3 < s.size := by omega
        have e : parseB s k = if rightB (sL s k) (sL s (k + 1)) (sL s (k + 2)) (sL s (k + 3)) then ((sL s k, sL s (k + 1), sL s (k + 2), sL s (k + 3)), 0) else ((0, 0, 0, 0), 4) := by simp only [parseB]; rw [if_neg (by omega), if_neg h2]; rfl
        rw [e, ← sL_at s k i0, ← sL_at s _ i1, ← sL_at s _ i2, ← sL_at s _ i3]
        clear e
        obtain ⟨x0, e0⟩ : ∃ x, s[k]'i0 = x := ⟨_, rfl⟩
        obtain ⟨x1, e1⟩ : ∃ x, s[k + 1]'i1 = x := ⟨_, rfl⟩
        obtain ⟨x2, e2⟩ : ∃ x, s[k + 2]'i2 = x := ⟨_, rfl⟩
        obtain ⟨x3, e3⟩ : ∃ x, s[k + 3]'i3 = x := ⟨_, rfl⟩
        rw [e0, e1, e2, e3]
        obtain ⟨r, hP⟩ : ∃ r, (if rightB (x0.toNat : Int) x1.toNat x2.toNat x3.toNat then (((x0.toNat : Int), (x1.toNat : Int), (x2.toNat : Int), (x3.toNat : Int)), (0 : Int)) else ((0, 0, 0, 0), 4)) = r := ⟨_, rfl⟩
        rw [hP]
        have HP := hide hP
        clear hP
        have q0 : IntKind.i64.wrap (x0.toNat : Int) = (x0.toNat : Int) := IntWalk.i64_in _ (by have := x0.toNat_lt; omega)
        have q1 : IntKind.i64.wrap (x1.toNat : Int) = (x1.toNat : Int) := IntWalk.i64_in _ (by have := x1.toNat_lt; omega)
        have q2 : IntKind.i64.wrap (x2.toNat : Int) = (x2.toNat : Int) := IntWalk.i64_in _ (by have := x2.toNat_lt; omega)
        have q3 : IntKind.i64.wrap (x3.toNat : Int) = (x3.toNat : Int) := IntWalk.i64_in _ (by have := x3.toNat_lt; omega)
        have z1 : IntKind.i64.wrap ((k : Int) + 1) = (k : Int) + 1 := IntWalk.i64_in _ (by omega)
        have y1 : (0 : Int) ≤ (k : Int) + 1 := by omega
        have v1 : ((k : Int) + 1).toNat = k + 1 := by omega
        have u1 : (k : Int) + 1 < (s.size : Int) := by omega
        have z2 : IntKind.i64.wrap ((k : Int) + 2) = (k : Int) + 2 := IntWalk.i64_in _ (by omega)
        have y2 : (0 : Int) ≤ (k : Int) + 2 := by omega
        have v2 : ((k : Int) + 2).toNat = k + 2 := by omega
        have u2 : (k : Int) + 2 < (s.size : Int) := by omega
        have z3 : IntKind.i64.wrap ((k : Int) + 3) = (k : Int) + 3 := IntWalk.i64_in _ (by omega)
        have y3 : (0 : Int) ≤ (k : Int) + 3 := by omega
        have v3 : ((k : Int) + 3).toNat = k + 3 := by omega
        have u3 : (k : Int) + 3 < (s.size : Int) := by omega
        have u0 : (k : Int) < (s.size : Int) := by omega
        go_enter Try.func19, Try.ntmps19
        go_wp2_with fail
        clear hs
        refine wp_region_heads [0, 1, 2, 3, 4, 5, 6, 7, 8, 9, 10, 11, 12, 13, 14, 15, 16, 17, 18, 19] 2 (fun _ => True) (by kernel_rfl) rfl (by kernel_rfl) (by kernel_rfl) (fun _ _ d _ _ h => by cases d <;> exact h) trivial ?_
        iterate 20
          refine' Heads.step rfl (by rfl) ?_ ?_
          rotate_left
          · intro w1 _
            go_simp
            try with_reducible rfl
          simp only [Act.put, List.setIfInBounds_toArray, List.set_cons_zero, List.set_cons_succ]
        refine Heads.done ?_
        refine wpAnyH_ready (rs := [20]) (by kernel_rfl) (by simp) (AllReadyH.cons rfl (fun K hK => ?_) AllReadyH.nil)
        go_simp
        refine hK.out _ _ trivial (fun hHeld => ?_)
        clear hK K
        refine wpAnyH_ready (rs := [21]) (by kernel_rfl) (by simp) (AllReadyH.cons rfl (fun K hK => ?_) AllReadyH.nil)
        go_simp
        refine hK.out _ _ trivial (fun hHeld => ?_)
        clear hK K
        refine wpAnyH_done (by kernel_rfl) ?_ _
        clear q0 q1 q2 q3 z1 z2 z3 y1 y2 y3 v1 v2 v3 u0 u1 u2 u3 e0 e1 e2 e3 i0 i1 i2 i3
        have D0 := Blk.new w 23 #[.int .i64 0, .int .i64 0, .int .i64 0, .int .i64 0]
        have D1 := D0.alloc (.cells #[.int .i64 (x0.toNat : Int), .int .i64 (x1.toNat : Int), .int .i64 (x2.toNat : Int), .int .i64 (x3.toNat : Int)] 23)
        have E1 := Blk.new (w.alloc (.cells #[.int .i64 0, .int .i64 0, .int .i64 0, .int .i64 0] 23)) 23 #[.int .i64 (x0.toNat : Int), .int .i64 (x1.toNat : Int), .int .i64 (x2.toNat : Int), .int .i64 (x3.toNat : Int)]
        have T := hide ((((Turned.refl (fun _ => False) w).alloc (.cells #[.int .i64 0, .int .i64 0, .int .i64 0, .int .i64 0] 23)).alloc (.cells #[.int .i64 (x0.toNat : Int), .int .i64 (x1.toNat : Int), .int .i64 (x2.toNat : Int), .int .i64 (x3.toNat : Int)] 23)).drew)
        go_wp2_with fail
        refine (iRight_calls _ _ _ _ _).mono ?_
        rintro e w3 ⟨rfl, hb⟩
        have D3 := Blk.below (blk_drew D1) hb D1.lt
        have E3 := Blk.below (blk_drew E1) hb E1.lt
        have f0 : w3.frozen? ⟨w.heap.size, 0, none⟩ = false := D3.frozen 0
        have f1 : w3.frozen? ⟨w.heap.size, 1, none⟩ = false := D3.frozen 1
        have f2 : w3.frozen? ⟨w.heap.size, 2, none⟩ = false := D3.frozen 2
        have f3 : w3.frozen? ⟨w.heap.size, 3, none⟩ = false := D3.frozen 3
        have c0 : w3.cell? ⟨w.heap.size, 0, none⟩ = some (.int .i64 0) := D3.cell 0
        have c1 : w3.cell? ⟨w.heap.size, 1, none⟩ = some (.int .i64 0) := D3.cell 1
        have c2 : w3.cell? ⟨w.heap.size, 2, none⟩ = some (.int .i64 0) := D3.cell 2
        have c3 : w3.cell? ⟨w.heap.size, 3, none⟩ = some (.int .i64 0) := D3.cell 3
        have hs1 : (w.alloc (.cells #[.int .i64 0, .int .i64 0, .int .i64 0, .int .i64 0] 23)).heap.size = w.heap.size + 1 := by simp
        rw [hs1] at E3
        have g0 : w3.cell? ⟨w.heap.size + 1, 0, none⟩ = some (.int .i64 (x0.toNat : Int)) := E3.cell 0
        have g1 : w3.cell? ⟨w.heap.size + 1, 1, none⟩ = some (.int .i64 (x1.toNat : Int)) := E3.cell 1
        have g2 : w3.cell? ⟨w.heap.size + 1, 2, none⟩ = some (.int .i64 (x2.toNat : Int)) := E3.cell 2
        have g3 : w3.cell? ⟨w.heap.size + 1, 3, none⟩ = some (.int .i64 (x3.toNat : Int)) := E3.cell 3
        have T3 := hide (T.out.then_below hb)
        have HD := hide D3
        clear D0 D1 E1 D3 E3 hb T hs1
        generalize hq : w.heap.size = q at *
        cases hR : rightB x0.toNat x1.toNat x2.toNat x3.toNat
        · go_wp2_with fail
          have hP := HP.out
          rw [hR] at hP
          have B : Blk ((((w3.setCell ⟨q, 0, none⟩ (.int .i64 0)).setCell ⟨q, 1, none⟩ (.int .i64 0)).setCell ⟨q, 2, none⟩ (.int .i64 0)).setCell ⟨q, 3, none⟩ (.int .i64 0)) q 23 #[.int .i64 0, .int .i64 0, .int .i64 0, .int .i64 0] := by
            have := (((HD.out.set_ 0 (.int .i64 0)).set_ 1 (.int .i64 0)).set_ 2 (.int .i64 0)).set_ 3 (.int .i64 0)
            simpa using this
          have hge : w.heap.size ≤ q := by omega
          refine ret_cell rfl rfl rfl B Try.underlying23 rfl (by kernel_rfl) ⟨?_, ((((T3.out.setCell (p := ⟨q, 0, none⟩) (.inr hge) _).setCell (p := ⟨q, 1, none⟩) (.inr hge) _).setCell (p := ⟨q, 2, none⟩) (.inr hge) _).setCell (p := ⟨q, 3, none⟩) (.inr hge) _).below (Nat.le_refl _) (fun _ h => h.elim)⟩
          rw [← hP]
          rfl
        · go_wp2_with fail
          have hP := HP.out
          rw [hR] at hP
          have B : Blk ((((w3.setCell ⟨q, 0, none⟩ (.int .i64 (x0.toNat : Int))).setCell ⟨q, 1, none⟩ (.int .i64 (x1.toNat : Int))).setCell ⟨q, 2, none⟩ (.int .i64 (x2.toNat : Int))).setCell ⟨q, 3, none⟩ (.int .i64 (x3.toNat : Int))) q 23 #[.int .i64 (x0.toNat : Int), .int .i64 (x1.toNat : Int), .int .i64 (x2.toNat : Int), .int .i64 (x3.toNat : Int)] := by
            have := (((HD.out.set_ 0 (.int .i64 (x0.toNat : Int))).set_ 1 (.int .i64 (x1.toNat : Int))).set_ 2 (.int .i64 (x2.toNat : Int))).set_ 3 (.int .i64 (x3.toNat : Int))
            simpa using this
          have hge : w.heap.size ≤ q := by omega
          refine ret_cell rfl rfl rfl B Try.underlying23 rfl (by kernel_rfl) ⟨?_, ((((T3.out.setCell (p := ⟨q, 0, none⟩) (.inr hge) _).setCell (p := ⟨q, 1, none⟩) (.inr hge) _).setCell (p := ⟨q, 2, none⟩) (.inr hge) _).setCell (p := ⟨q, 3, none⟩) (.inr hge) _).below (Nat.le_refl _) (fun _ h => h.elim)⟩
          rw [← hP]
          rfl

end Go.Proofs.Ytagmoldiolabfaa
