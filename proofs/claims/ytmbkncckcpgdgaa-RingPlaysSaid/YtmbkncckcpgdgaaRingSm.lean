/- Chapter 5: same, walked: a list beside itself. -/
import Derived.Test.YtmbkncckcpgdgaaRingU
import Derived.Test.YtmbkncckcpgdgaaRingX
namespace Go.Proofs.Ytmbkncckcpgdgaa
open Go.RowKit Zb

set_option maxRecDepth 20000 in
set_option maxHeartbeats 2000000 in
theorem lsame5_calls {w : World} {va vb : Value} {L : List EntM} (ha : Row w 28 5 va L.length (ecells L)) (hb : Row w 23 5 vb L.length (ecells L)) (hl : L.length ≤ 1000) : Calls Try.prog 35 #[va, vb] w fun r w' => r = .returned (.bool true) ∧ Below w.heap.size w w' := by
  obtain ⟨A, c, rfl, _⟩ := row_slice ha
  obtain ⟨A2, c2, rfl, _⟩ := row_slice hb
  have HA := hide ha
  have HB' := hide hb
  clear ha hb
  go_enter Try.func35, Try.ntmps35
  go_wp2_with fail
  go_loopw [5] (fun i wr => ∃ j : Nat, j ≤ L.length ∧ i = .int .i64 (j : Int) ∧ Hid (Below w.heap.size w wr)) (fun i _ => L.length - (intOf i).toNat)
  case atStart => exact ⟨0, by omega, rfl, hide (Below.refl _ _)⟩
  case round =>
    obtain ⟨j, hj, rfl, HB⟩ := hrel
    by_cases hjl : j < L.length
    · have hjI : (j : Int) < (L.length : Int) := by omega
      obtain ⟨y, hy⟩ : ∃ y, L[j]? = some y := ⟨_, List.getElem?_eq_getElem hjl⟩
      obtain ⟨g, c', he, _, hgl, _, hcell⟩ := row_form HA.out (by omega)
      obtain ⟨rfl, rfl⟩ : A = some ⟨g, 0, none⟩ ∧ c = c' := by simpa using he
      obtain ⟨h, c2', he2, _, hhl, _, hcell2⟩ := row_form HB'.out (by omega)
      obtain ⟨rfl, rfl⟩ : A2 = some ⟨h, 0, none⟩ ∧ c2 = c2' := by simpa using he2
      have hc5 : ∀ k, k < 5 → wr.cell? ⟨g, j * 5 + k, none⟩ = y.cells[k]? := fun k hk => by
        rw [World.cell?_of_block (HB.out.block g hgl), hcell _ (by omega), ecells_get _ _ _ hy k hk]
      have hd5 : ∀ k, k < 5 → wr.cell? ⟨h, j * 5 + k, none⟩ = y.cells[k]? := fun k hk => by
        rw [World.cell?_of_block (HB.out.block h hhl), hcell2 _ (by omega), ecells_get _ _ _ hy k hk]
      have y0 : wr.cell? ⟨g, j * 5, none⟩ = some (.int .i64 y.kind) := hc5 0 (by omega)
      have y1 : wr.cell? ⟨g, j * 5 + 1, none⟩ = some (.int .i64 y.number) := hc5 1 (by omega)
      have y2 : wr.cell? ⟨g, j * 5 + 2, none⟩ = some (.int .i64 y.slot) := hc5 2 (by omega)
      have y3 : wr.cell? ⟨g, j * 5 + 3, none⟩ = some (.int .i64 y.size) := hc5 3 (by omega)
      have y4 : wr.cell? ⟨g, j * 5 + 4, none⟩ = some (.string y.sum) := hc5 4 (by omega)
      have v0 : wr.cell? ⟨h, j * 5, none⟩ = some (.int .i64 y.kind) := hd5 0 (by omega)
      have v1 : wr.cell? ⟨h, j * 5 + 1, none⟩ = some (.int .i64 y.number) := hd5 1 (by omega)
      have v2 : wr.cell? ⟨h, j * 5 + 2, none⟩ = some (.int .i64 y.slot) := hd5 2 (by omega)
      have v3 : wr.cell? ⟨h, j * 5 + 3, none⟩ = some (.int .i64 y.size) := hd5 3 (by omega)
      have v4 : wr.cell? ⟨h, j * 5 + 4, none⟩ = some (.string y.sum) := hd5 4 (by omega)
      have hgw : g < wr.heap.size := Nat.lt_of_lt_of_le hgl HB.out.size
      have hhw : h < wr.heap.size := Nat.lt_of_lt_of_le hhl HB.out.size
      have HJL := hide hjl
      clear hc5 hd5 hy he he2 hcell hcell2
      go_wp2_with fail
      refine wp_region_heads [0, 1, 2, 3, 5, 6, 7, 8] 2 (fun w' => (w'.cell? ⟨g, j * 5, none⟩ = some (.int .i64 y.kind) ∧ w'.cell? ⟨g, j * 5 + 1, none⟩ = some (.int .i64 y.number) ∧ w'.cell? ⟨g, j * 5 + 2, none⟩ = some (.int .i64 y.slot) ∧ w'.cell? ⟨g, j * 5 + 3, none⟩ = some (.int .i64 y.size) ∧ w'.cell? ⟨g, j * 5 + 4, none⟩ = some (.string y.sum)) ∧ w'.cell? ⟨h, j * 5, none⟩ = some (.int .i64 y.kind) ∧ w'.cell? ⟨h, j * 5 + 1, none⟩ = some (.int .i64 y.number) ∧ w'.cell? ⟨h, j * 5 + 2, none⟩ = some (.int .i64 y.slot) ∧ w'.cell? ⟨h, j * 5 + 3, none⟩ = some (.int .i64 y.size) ∧ w'.cell? ⟨h, j * 5 + 4, none⟩ = some (.string y.sum)) (by kernel_rfl) rfl (by kernel_rfl) (by kernel_rfl) (fun _ _ d _ _ h => by cases d <;> exact h) ⟨⟨y0, y1, y2, y3, y4⟩, v0, v1, v2, v3, v4⟩ ?_
      iterate 8
        refine' Heads.step rfl (by rfl) ?_ ?_
        rotate_left
        · intro w' hSw
          obtain ⟨⟨z0, z1, z2, z3, z4⟩, s0, s1, s2, s3, s4⟩ := hSw
          go_simp
          try with_reducible rfl
        simp only [Act.put, List.setIfInBounds_toArray, List.set_cons_zero, List.set_cons_succ]
      refine Heads.done ?_
      refine wpAnyH_ready (rs := [4]) (by kernel_rfl) (by simp) (AllReadyH.cons rfl (fun K hK => ?_) AllReadyH.nil)
      go_simp
      refine (ltaken5_calls y _).mono ?_
      rintro r w2 ⟨rfl, hb2⟩
      have HB2 := hide (HB.out.drew.trans (hb2.mono HB.out.size))
      refine hK.out _ _ ⟨⟨(World.cell?_of_block (hb2.block _ hgw)).trans y0, (World.cell?_of_block (hb2.block _ hgw)).trans y1, (World.cell?_of_block (hb2.block _ hgw)).trans y2, (World.cell?_of_block (hb2.block _ hgw)).trans y3, (World.cell?_of_block (hb2.block _ hgw)).trans y4⟩, (World.cell?_of_block (hb2.block _ hhw)).trans v0, (World.cell?_of_block (hb2.block _ hhw)).trans v1, (World.cell?_of_block (hb2.block _ hhw)).trans v2, (World.cell?_of_block (hb2.block _ hhw)).trans v3, (World.cell?_of_block (hb2.block _ hhw)).trans v4⟩ (fun hHeld1 => ?_)
      clear hK K
      refine wpAnyH_more [9] 0 rfl (by kernel_rfl) (by kernel_rfl) (fun _ _ d _ _ h => by cases d <;> exact h) hHeld1 ?_
      refine' Heads.step rfl (by rfl) ?_ ?_
      rotate_left
      · intro w' hSw
        exact exec_rent_ne (p := y) (q := y) rfl rfl rfl
      simp only [Act.put, List.setIfInBounds_toArray, List.set_cons_zero, List.set_cons_succ]
      refine Heads.done ?_
      refine wpAnyH_done (by kernel_rfl) ?_ _
      go_wp2_with fail
      have hjl' := HJL.out
      refine ⟨⟨j + 1, by omega, by go_num, HB2⟩, ?_⟩
      simp [intOf]
      omega
    · have hje : j = L.length := by omega
      subst hje
      go_wp2_with fail
      go_ret
      exact ⟨rfl, HB.out⟩
end Go.Proofs.Ytmbkncckcpgdgaa
