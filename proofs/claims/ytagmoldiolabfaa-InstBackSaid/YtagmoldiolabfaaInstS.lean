/- InstBuilds, walked. -/
import Derived.Test.YtagmoldiolabfaaInstR
import Derived.Test.YtagmoldiolabfaaHeld
namespace Go.Proofs.Ytagmoldiolabfaa
open Go.RowKit Zb

/-- the instruction's block stands, and no older one has turned -/
def InstS (q : Nat) (op a b c : Int) (w w' : World) : Prop :=
  w'.cell? ⟨q, 0, none⟩ = some (.int .i64 op) ∧ w'.cell? ⟨q, 1, none⟩ = some (.int .i64 a) ∧ w'.cell? ⟨q, 2, none⟩ = some (.int .i64 b) ∧ w'.cell? ⟨q, 3, none⟩ = some (.int .i64 c) ∧
  Hid (Blk w' q 23 #[.int .i64 op, .int .i64 a, .int .i64 b, .int .i64 c]) ∧ Hid (Turned (fun _ => False) w w')
theorem InstS.of {q : Nat} {op a b c : Int} {w w' : World} (h : Blk w' q 23 #[.int .i64 op, .int .i64 a, .int .i64 b, .int .i64 c]) (t : Turned (fun _ => False) w w') : InstS q op a b c w w' :=
  ⟨h.cell 0, h.cell 1, h.cell 2, h.cell 3, hide h, hide t⟩
theorem InstS.below {q : Nat} {op a b c : Int} {w w' w2 : World} (h : InstS q op a b c w w') (hb : Below w'.heap.size w' w2) : InstS q op a b c w w2 :=
  InstS.of (h.2.2.2.2.1.out.below hb h.2.2.2.2.1.out.lt) (h.2.2.2.2.2.out.then_below hb)

set_option maxHeartbeats 1000000 in
theorem lInstBuilds_calls (op a b c : Int) (w : World) (h0 : -9223372036854775808 ≤ op) (h1 : op < 9223372036854775808) : Calls Try.prog 3 #[instV op a b c] w fun e w' => e = .returned (.bool true) ∧ Below w.heap.size w w' := by
  have HN := hide (iName_calls op h0 h1)
  have HW := hide (iWide_calls op a b c)
  have HV := hide (riWide_calls op a b c)
  obtain ⟨z, hz⟩ : ∃ z, (if rightB op a b c then b + 256 * c else 0) = z := ⟨_, rfl⟩
  rw [hz] at HW HV
  clear hz
  go_enter Try.func3, Try.ntmps3
  go_wp2_with fail
  refine (iBuild_calls _ _ _ _ _).mono ?_
  rintro e w1 ⟨rfl, hb⟩
  have Y := hide ((Blk.new w 23 #[.int .i64 op, .int .i64 a, .int .i64 b, .int .i64 c]).below hb (by simp))
  have T := hide (((Turned.refl (fun _ => False) w).alloc _).then_below hb)
  clear hb
  have a0 : w1.cell? ⟨w.heap.size, 0, none⟩ = some (.int .i64 op) := Y.out.cell 0
  have a1 : w1.cell? ⟨w.heap.size, 1, none⟩ = some (.int .i64 a) := Y.out.cell 1
  have a2 : w1.cell? ⟨w.heap.size, 2, none⟩ = some (.int .i64 b) := Y.out.cell 2
  have a3 : w1.cell? ⟨w.heap.size, 3, none⟩ = some (.int .i64 c) := Y.out.cell 3
  go_wp2_with fail
  refine (riBuild_calls _ _ _ _ _).mono ?_
  rintro e w2 ⟨rfl, hb⟩
  have Y2 := hide (Y.out.below hb Y.out.lt)
  have T2 := hide (T.out.then_below hb)
  clear hb a0 a1 a2 a3 Y T
  have a0 : w2.cell? ⟨w.heap.size, 0, none⟩ = some (.int .i64 op) := Y2.out.cell 0
  have a1 : w2.cell? ⟨w.heap.size, 1, none⟩ = some (.int .i64 a) := Y2.out.cell 1
  have a2 : w2.cell? ⟨w.heap.size, 2, none⟩ = some (.int .i64 b) := Y2.out.cell 2
  have a3 : w2.cell? ⟨w.heap.size, 3, none⟩ = some (.int .i64 c) := Y2.out.cell 3
  go_wp2_with fail
  have hS : InstS w.heap.size op a b c w w2.drew := InstS.of Y2.out T2.out.drew
  clear a0 a1 a2 a3 Y2 T2
  generalize hq : w.heap.size = q at *
  refine wp_region_heads [0, 1, 2, 3, 4, 5, 6, 7, 8, 9, 11] 33 (InstS q op a b c w) (by kernel_rfl) rfl (by kernel_rfl) (by kernel_rfl) (fun _ _ d _ _ h => by cases d <;> exact h) hS ?_
  iterate 11
    refine' Heads.step rfl (by rfl) ?_ ?_
    rotate_left
    · intro w' hSw
      obtain ⟨b0, b1, b2, b3, _, _⟩ := hSw
      go_simp
      try with_reducible rfl
    simp only [Act.put, List.setIfInBounds_toArray, List.set_cons_zero, List.set_cons_succ]
  refine Heads.done ?_
  refine wpAnyH_ready (rs := [10]) (by kernel_rfl) (by simp) (AllReadyH.cons rfl (fun K hK => ?_) AllReadyH.nil)
  go_simp
  refine (iRight_calls _ _ _ _ _).mono ?_
  rintro e w' ⟨rfl, hb⟩
  refine hK.out _ _ (InstS.below hS hb) (fun hH1 => ?_)
  clear hK K
  refine wpAnyH_ready (rs := [12]) (by kernel_rfl) (by simp) (AllReadyH.cons rfl (fun K hK => ?_) AllReadyH.nil)
  go_simp
  refine (riRight_calls _ _ _ _ _).mono ?_
  rintro e w' ⟨rfl, hb⟩
  refine hK.out _ _ (InstS.below hH1 hb) (fun hH2 => ?_)
  clear hK K
  refine wpAnyH_more [13, 14, 15, 16, 18] 26 rfl (by kernel_rfl) (by kernel_rfl) (fun _ _ d _ _ h => by cases d <;> exact h) hH2 ?_
  iterate 5
    refine' Heads.step rfl (by rfl) ?_ ?_
    rotate_left
    · intro w' hSw
      obtain ⟨b0, b1, b2, b3, _, _⟩ := hSw
      go_simp
      try with_reducible rfl
    simp only [Act.put, List.setIfInBounds_toArray, List.set_cons_zero, List.set_cons_succ]
  refine Heads.done ?_
  refine wpAnyH_ready (rs := [17]) (by kernel_rfl) (by simp) (AllReadyH.cons rfl (fun K hK => ?_) AllReadyH.nil)
  go_simp
  refine (HW.out _).mono ?_
  rintro e w' ⟨rfl, hb⟩
  refine hK.out _ _ (InstS.below hH2 hb) (fun hH3 => ?_)
  clear hK K
  refine wpAnyH_ready (rs := [19]) (by kernel_rfl) (by simp) (AllReadyH.cons rfl (fun K hK => ?_) AllReadyH.nil)
  go_simp
  refine (HV.out _).mono ?_
  rintro e w' ⟨rfl, hb⟩
  refine hK.out _ _ (InstS.below hH3 hb) (fun hH4 => ?_)
  clear hK K
  refine wpAnyH_more [20, 21, 22, 23, 24, 26, 27] 17 rfl (by kernel_rfl) (by kernel_rfl) (fun _ _ d _ _ h => by cases d <;> exact h) hH4 ?_
  iterate 7
    refine' Heads.step rfl (by rfl) ?_ ?_
    rotate_left
    · intro w' hSw
      obtain ⟨b0, b1, b2, b3, _, _⟩ := hSw
      go_simp
      try with_reducible rfl
    simp only [Act.put, List.setIfInBounds_toArray, List.set_cons_zero, List.set_cons_succ]
  refine Heads.done ?_
  refine wpAnyH_ready (rs := [25]) (by kernel_rfl) (by simp) (AllReadyH.cons rfl (fun K hK => ?_) AllReadyH.nil)
  go_simp
  refine (iShape_calls _ _).mono ?_
  rintro e w' ⟨rfl, rfl⟩
  refine hK.out _ _ hH4 (fun hH5 => ?_)
  clear hK K
  refine wpAnyH_ready (rs := [28]) (by kernel_rfl) (by simp) (AllReadyH.cons rfl (fun K hK => ?_) AllReadyH.nil)
  go_simp
  refine (riShape_calls _ _).mono ?_
  rintro e w' ⟨rfl, hb⟩
  refine hK.out _ _ (InstS.below hH5 hb) (fun hH6 => ?_)
  clear hK K
  refine wpAnyH_more [29, 30, 31, 32, 33, 35, 36] 8 rfl (by kernel_rfl) (by kernel_rfl) (fun _ _ d _ _ h => by cases d <;> exact h) hH6 ?_
  iterate 7
    refine' Heads.step rfl (by rfl) ?_ ?_
    rotate_left
    · intro w' hSw
      obtain ⟨b0, b1, b2, b3, _, _⟩ := hSw
      go_simp
      try with_reducible rfl
    simp only [Act.put, List.setIfInBounds_toArray, List.set_cons_zero, List.set_cons_succ]
  refine Heads.done ?_
  refine wpAnyH_ready (rs := [34]) (by kernel_rfl) (by simp) (AllReadyH.cons rfl (fun K hK => ?_) AllReadyH.nil)
  go_simp
  refine (HN.out _).mono ?_
  rintro e w' ⟨rfl, rfl⟩
  refine hK.out _ _ hH6 (fun hH7 => ?_)
  clear hK K
  refine wpAnyH_ready (rs := [37]) (by kernel_rfl) (by simp) (AllReadyH.cons rfl (fun K hK => ?_) AllReadyH.nil)
  go_simp
  refine (riName_calls _ _).mono ?_
  rintro e w' ⟨rfl, hb⟩
  refine hK.out _ _ (InstS.below hH7 hb) (fun hH8 => ?_)
  clear hK K
  refine wpAnyH_more [38, 39, 40] 3 rfl (by kernel_rfl) (by kernel_rfl) (fun _ _ d _ _ h => by cases d <;> exact h) hH8 ?_
  iterate 3
    refine' Heads.step rfl (by rfl) ?_ ?_
    rotate_left
    · intro w' hSw
      obtain ⟨b0, b1, b2, b3, _, _⟩ := hSw
      go_simp
      try with_reducible rfl
    simp only [Act.put, List.setIfInBounds_toArray, List.set_cons_zero, List.set_cons_succ]
  refine Heads.done ?_
  refine wpAnyH_ready (rs := [41]) (by kernel_rfl) (by simp) (AllReadyH.cons rfl (fun K hK => ?_) AllReadyH.nil)
  go_simp
  refine (lknown13_calls _).mono ?_
  rintro e w' ⟨rfl, hb⟩
  refine hK.out _ _ (InstS.below hH8 hb) (fun hH9 => ?_)
  clear hK K
  refine wpAnyH_more [42, 43] 0 rfl (by kernel_rfl) (by kernel_rfl) (fun _ _ d _ _ h => by cases d <;> exact h) hH9 ?_
  iterate 2
    refine' Heads.step rfl (by rfl) ?_ ?_
    rotate_left
    · intro w' hSw
      obtain ⟨b0, b1, b2, b3, _, _⟩ := hSw
      go_simp
      try with_reducible rfl
    simp only [Act.put, List.setIfInBounds_toArray, List.set_cons_zero, List.set_cons_succ]
  refine Heads.done ?_
  refine wpAnyH_done (by kernel_rfl) ?_ _
  go_wp2_with fail
  go_ret
  exact ⟨rfl, hH9.2.2.2.2.2.out.below (Nat.le_refl _) (fun _ h => h.elim)⟩

theorem InstBuilds_walk (op a b c : Int) (w : World) (wo : (Lit.int .i64 op).wf = true) : Calls Try.prog 3 #[instV op a b c] w fun e w' => e = .returned (.bool true) ∧ Below w.heap.size w w' := by
  have h := bounds_i64 wo
  exact lInstBuilds_calls op a b c w (by omega) (by omega)
end Go.Proofs.Ytagmoldiolabfaa
