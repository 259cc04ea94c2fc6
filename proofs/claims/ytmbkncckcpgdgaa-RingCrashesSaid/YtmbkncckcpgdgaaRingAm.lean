/- Chapter 5: among, walked: an entry that stands in a list is found. -/
import Derived.Test.YtmbkncckcpgdgaaRingO
import Derived.Test.YtmbkncckcpgdgaaRingX
namespace Go.Proofs.Ytmbkncckcpgdgaa
open Go.RowKit Zb

set_option maxRecDepth 20000 in
set_option maxHeartbeats 2000000 in
theorem lamong5_calls {w : World} {v : Value} {L : List EntM} (h : Row w 28 5 v L.length (ecells L)) (hl : L.length ≤ 1000) (e : EntM) (he : e ∈ L) : Calls Try.prog 36 #[v, .agg #[.int .i64 e.kind, .int .i64 e.number, .int .i64 e.slot, .int .i64 e.size, .string e.sum]] w fun r w' => r = .returned (.bool true) ∧ Below w.heap.size w w' := by
  obtain ⟨m, hm, hme⟩ := List.mem_iff_getElem.1 he
  obtain ⟨g, c, rfl, _, hgl, _, hcell⟩ := row_form h (by omega)
  have HCELL := hide hcell
  have hEM : L[m]? = some e := by rw [List.getElem?_eq_getElem hm, hme]
  have HEM := hide hEM
  have hB3 : Hid (Blk (w.alloc (.cells #[.int .i64 e.kind, .int .i64 e.number, .int .i64 e.slot, .int .i64 e.size, .string e.sum] 28)) w.heap.size 28 e.cells.toArray) := hide (Blk.new w 28 _)
  have hB0 : Hid (Below w.heap.size w (w.alloc (.cells #[.int .i64 e.kind, .int .i64 e.number, .int .i64 e.slot, .int .i64 e.size, .string e.sum] 28))) := hide ((Below.refl _ _).alloc (Nat.le_refl _) _)
  have hgw : g < (w.alloc (.cells #[.int .i64 e.kind, .int .i64 e.number, .int .i64 e.slot, .int .i64 e.size, .string e.sum] 28)).heap.size := Nat.lt_trans hgl hB3.out.lt
  clear h he hme hcell hEM
  go_enter Try.func36, Try.ntmps36
  go_wp2_with fail
  generalize hw0 : (w.alloc (.cells #[.int .i64 e.kind, .int .i64 e.number, .int .i64 e.slot, .int .i64 e.size, .string e.sum] 28)) = w0 at *
  clear hw0
  go_loopw [5] (fun i wr => ∃ j : Nat, j ≤ m ∧ i = .int .i64 (j : Int) ∧ Hid (Below w0.heap.size w0 wr)) (fun i _ => m + 1 - (intOf i).toNat)
  case atStart => exact ⟨0, by omega, rfl, hide (Below.refl _ _)⟩
  case round =>
    obtain ⟨j, hj, rfl, HB⟩ := hrel
    have hjI : (j : Int) < (L.length : Int) := by omega
    obtain ⟨y, hy⟩ : ∃ y, L[j]? = some y := ⟨_, List.getElem?_eq_getElem (by omega)⟩
    have HBB := hide (hB3.out.below HB.out hB3.out.lt)
    have HW := hide (hB0.out.trans (HB.out.mono hB0.out.size))
    have hc5 : ∀ k, k < 5 → wr.cell? ⟨g, j * 5 + k, none⟩ = y.cells[k]? := fun k hk => by
      rw [World.cell?_of_block (HW.out.block g hgl), HCELL.out _ (by omega), ecells_get _ _ _ hy k hk]
    have y0 : wr.cell? ⟨g, j * 5, none⟩ = some (.int .i64 y.kind) := hc5 0 (by omega)
    have y1 : wr.cell? ⟨g, j * 5 + 1, none⟩ = some (.int .i64 y.number) := hc5 1 (by omega)
    have y2 : wr.cell? ⟨g, j * 5 + 2, none⟩ = some (.int .i64 y.slot) := hc5 2 (by omega)
    have y3 : wr.cell? ⟨g, j * 5 + 3, none⟩ = some (.int .i64 y.size) := hc5 3 (by omega)
    have y4 : wr.cell? ⟨g, j * 5 + 4, none⟩ = some (.string y.sum) := hc5 4 (by omega)
    have HY := hide hy
    clear hc5 hy
    go_wp2_with fail
    refine wp_region_heads [0, 1, 2, 3, 4] 1 (fun w' => Blk w' w.heap.size 28 e.cells.toArray ∧ w'.cell? ⟨g, j * 5, none⟩ = some (.int .i64 y.kind) ∧ w'.cell? ⟨g, j * 5 + 1, none⟩ = some (.int .i64 y.number) ∧ w'.cell? ⟨g, j * 5 + 2, none⟩ = some (.int .i64 y.slot) ∧ w'.cell? ⟨g, j * 5 + 3, none⟩ = some (.int .i64 y.size) ∧ w'.cell? ⟨g, j * 5 + 4, none⟩ = some (.string y.sum)) (by kernel_rfl) rfl (by kernel_rfl) (by kernel_rfl) (fun _ _ d _ _ h => by cases d <;> exact h) ⟨HBB.out, y0, y1, y2, y3, y4⟩ ?_
    first
    | (refine' Heads.skip rfl (by rfl) ?_
       simp only [Act.put, List.setIfInBounds_toArray, List.set_cons_zero, List.set_cons_succ])
    | (refine' Heads.step rfl (by rfl) ?_ ?_
       rotate_left
       · intro w' hSw
         obtain ⟨zb, z0, z1, z2, z3, z4⟩ := hSw
         go_simp
         try with_reducible rfl
       simp only [Act.put, List.setIfInBounds_toArray, List.set_cons_zero, List.set_cons_succ])
    first
    | (refine' Heads.skip rfl (by rfl) ?_
       simp only [Act.put, List.setIfInBounds_toArray, List.set_cons_zero, List.set_cons_succ])
    | (refine' Heads.step rfl (by rfl) ?_ ?_
       rotate_left
       · intro w' hSw
         obtain ⟨zb, z0, z1, z2, z3, z4⟩ := hSw
         go_simp
         try with_reducible rfl
       simp only [Act.put, List.setIfInBounds_toArray, List.set_cons_zero, List.set_cons_succ])
    first
    | (refine' Heads.skip rfl (by rfl) ?_
       simp only [Act.put, List.setIfInBounds_toArray, List.set_cons_zero, List.set_cons_succ])
    | (refine' Heads.step rfl (by rfl) ?_ ?_
       rotate_left
       · intro w' hSw
         obtain ⟨zb, z0, z1, z2, z3, z4⟩ := hSw
         go_simp
         try with_reducible rfl
       simp only [Act.put, List.setIfInBounds_toArray, List.set_cons_zero, List.set_cons_succ])
    first
    | (refine' Heads.skip rfl (by rfl) ?_
       simp only [Act.put, List.setIfInBounds_toArray, List.set_cons_zero, List.set_cons_succ])
    | (refine' Heads.step rfl (by rfl) ?_ ?_
       rotate_left
       · intro w' hSw
         obtain ⟨zb, z0, z1, z2, z3, z4⟩ := hSw
         go_simp
         try with_reducible rfl
       simp only [Act.put, List.setIfInBounds_toArray, List.set_cons_zero, List.set_cons_succ])
    refine' Heads.step rfl (by rfl) ?_ ?_
    rotate_left
    · intro w' hSw
      exact exec_load_row _ _ rfl w.heap.size rfl 28 _ (0, 0) _ hSw.1 Try.underlying28 rfl (by kernel_rfl)
    simp only [Act.put, List.setIfInBounds_toArray, List.set_cons_zero, List.set_cons_succ]
    refine Heads.done ?_
    refine wpAnyH_more [5] 0 rfl (by kernel_rfl) (by kernel_rfl) (fun _ _ d _ _ h => by cases d <;> exact h) ⟨HBB.out, y0, y1, y2, y3, y4⟩ ?_
    refine' Heads.step rfl (by rfl) ?_ ?_
    rotate_left
    · intro w' hSw
      exact exec_ent_eq (p := y) (q := e) rfl rfl rfl
    simp only [Act.put, List.setIfInBounds_toArray, List.set_cons_zero, List.set_cons_succ]
    refine Heads.done ?_
    refine wpAnyH_done (by kernel_rfl) ?_ _
    by_cases hye : y = e
    · have hd : decide (y = e) = true := by simp [hye]
      rw [hd]
      clear hd
      go_wp2_with fail
      go_ret
      exact ⟨rfl, HW.out.drew⟩
    · have hd : decide (y = e) = false := by simp [hye]
      have hjm : j < m := by
        rcases Nat.lt_or_ge j m with h | h
        · exact h
        · obtain rfl : j = m := by omega
          have h1 := HY.out
          rw [HEM.out] at h1
          exact absurd (Option.some.inj h1).symm hye
      have HB1 := hide HB.out.drew
      rw [hd]
      clear hd
      go_wp2_with fail
      refine ⟨⟨j + 1, by omega, by go_num, HB1⟩, ?_⟩
      simp [intOf]
      omega
end Go.Proofs.Ytmbkncckcpgdgaa
