/- Chapter 2: the document's step, walked. -/
import Derived.Test.YtjjpekgkaahpbaaDigQ
namespace Go.Proofs.Ytjjpekgkaahpbaa
open Go.RowKit Zb

theorem rr2 (x : Int) (w : World) : Calls Try.prog 37 #[.int .u32 x, .int .i64 2] w fun e w' => e = .returned (.int .u32 (rotW x 2)) ∧ w = w' := rrotr_calls x 2 (by omega) (by omega) w
theorem rr6 (x : Int) (w : World) : Calls Try.prog 37 #[.int .u32 x, .int .i64 6] w fun e w' => e = .returned (.int .u32 (rotW x 6)) ∧ w = w' := rrotr_calls x 6 (by omega) (by omega) w
theorem rr11 (x : Int) (w : World) : Calls Try.prog 37 #[.int .u32 x, .int .i64 11] w fun e w' => e = .returned (.int .u32 (rotW x 11)) ∧ w = w' := rrotr_calls x 11 (by omega) (by omega) w
theorem rr13 (x : Int) (w : World) : Calls Try.prog 37 #[.int .u32 x, .int .i64 13] w fun e w' => e = .returned (.int .u32 (rotW x 13)) ∧ w = w' := rrotr_calls x 13 (by omega) (by omega) w
theorem rr22 (x : Int) (w : World) : Calls Try.prog 37 #[.int .u32 x, .int .i64 22] w fun e w' => e = .returned (.int .u32 (rotW x 22)) ∧ w = w' := rrotr_calls x 22 (by omega) (by omega) w
theorem rr25 (x : Int) (w : World) : Calls Try.prog 37 #[.int .u32 x, .int .i64 25] w fun e w' => e = .returned (.int .u32 (rotW x 25)) ∧ w = w' := rrotr_calls x 25 (by omega) (by omega) w
theorem nch_bits (e f g : Int) : bits .xor .u32 (bits .and .u32 e f) (bits .and .u32 (bits .xor .u32 (if IntKind.u32.signed = true then -1 else IntKind.u32.max) e) g) = chW e f g := by
  have hm : (if IntKind.u32.signed = true then -1 else IntKind.u32.max : Int) = 4294967295 := rfl
  rw [hm]
  have e1 : bits .xor .u32 4294967295 e = ((~~~ (BV e)).toNat : Int) := by
    have := xor_bv 4294967295 e
    unfold xorW at this
    rw [this]
    congr 2
  unfold chW
  rw [e1]
  have e2 : bits .and .u32 ((~~~ (BV e)).toNat : Int) g = andW (notW e) g := by
    rw [and_bv, bv_not]
    have := and_bv ((~~~ (BV e)).toNat : Int) g
    unfold andW at this
    rw [this, bv_nat]
  rw [e2]
theorem nmaj_bits (a b c : Int) : bits .xor .u32 (bits .xor .u32 (bits .and .u32 a b) (bits .and .u32 a c)) (bits .and .u32 b c) = majW a b c := rfl

theorem WBuf.from_ {w w0 w' : World} {v : Value} {l : List Int} (h : WBuf w0 w' v l) (hb : Below w.heap.size w w0) : WBuf w w' v l := ⟨hb.trans (h.bel.mono hb.size), h.row, fun g hg => Nat.le_trans hb.size (h.own g hg)⟩
def Eight (w : World) (g : Nat) (v0 v1 v2 v3 v4 v5 v6 v7 : Int) : Prop :=
  w.cell? ⟨g, 0, none⟩ = some (.int .u32 v0) ∧ w.cell? ⟨g, 1, none⟩ = some (.int .u32 v1) ∧ w.cell? ⟨g, 2, none⟩ = some (.int .u32 v2) ∧ w.cell? ⟨g, 3, none⟩ = some (.int .u32 v3) ∧
  w.cell? ⟨g, 4, none⟩ = some (.int .u32 v4) ∧ w.cell? ⟨g, 5, none⟩ = some (.int .u32 v5) ∧ w.cell? ⟨g, 6, none⟩ = some (.int .u32 v6) ∧ w.cell? ⟨g, 7, none⟩ = some (.int .u32 v7)
theorem lt_of_cell {w : World} {g j : Nat} {v : Value} (h : w.cell? ⟨g, j, none⟩ = some v) : g < w.heap.size := by
  rcases Nat.lt_or_ge g w.heap.size with h1 | h1
  · exact h1
  · simp [World.cell?, Array.getElem?_eq_none h1] at h
theorem Eight.below {w w' : World} {g : Nat} {v0 v1 v2 v3 v4 v5 v6 v7 : Int} (h : Eight w g v0 v1 v2 v3 v4 v5 v6 v7) (hb : Below w.heap.size w w') : Eight w' g v0 v1 v2 v3 v4 v5 v6 v7 := by
  have hg := lt_of_cell h.1
  have e : ∀ j, w'.cell? ⟨g, j, none⟩ = w.cell? ⟨g, j, none⟩ := fun j => hb.cell (p := ⟨g, j, none⟩) hg
  unfold Eight
  simp only [e]
  exact h

set_option maxRecDepth 100000 in
set_option maxHeartbeats 8000000 in
theorem rgstep_calls {w : World} {g c : Nat} {v0 v1 v2 v3 v4 v5 v6 v7 : Int} (h : Eight w g v0 v1 v2 v3 v4 v5 v6 v7) (kk ww : Int) : Calls Try.prog 33 #[.slice (some ⟨g, 0, none⟩) 8 c, .int .u32 kk, .int .u32 ww] w fun e w' => ∃ v, e = .returned v ∧ WBuf w w' v (stepW [v0, v1, v2, v3, v4, v5, v6, v7] kk ww) := by
  obtain ⟨z0, z1, z2, z3, z4, z5, z6, z7⟩ := h
  have HE : Hid (Eight w g v0 v1 v2 v3 v4 v5 v6 v7) := hide ⟨z0, z1, z2, z3, z4, z5, z6, z7⟩
  go_enter Try.func33, Try.ntmps33
  go_wp2_with fail
  clear z0 z1 z2 z3 z4 z5 z6 z7
  refine wp_region_heads [0, 1, 2, 3, 5, 8, 12, 13, 14, 15, 16, 17, 18, 19, 20, 21, 22, 23, 25, 27] 10 (fun w' => Eight w' g v0 v1 v2 v3 v4 v5 v6 v7) (by kernel_rfl) rfl (by kernel_rfl) (by kernel_rfl) (fun _ _ d _ _ h => by cases d <;> exact h) HE.out ?_
  iterate 20
    refine' Heads.step rfl (by rfl) ?_ ?_
    rotate_left
    · intro w' hSw
      obtain ⟨z0, z1, z2, z3, z4, z5, z6, z7⟩ := hSw
      go_simp
      try with_reducible rfl
    simp only [Act.put, List.setIfInBounds_toArray, List.set_cons_zero, List.set_cons_succ]
  refine Heads.done ?_
  refine wpAnyH_ready (rs := [4]) (by kernel_rfl) (by simp) (AllReadyH.cons rfl (fun K hK => ?_) AllReadyH.nil)
  go_simp
  refine (rr6 v4 _).mono ?_
  rintro e w' ⟨rfl, rfl⟩
  refine hK.out _ _ HE.out (fun hHeld1 => ?_)
  clear hK K
  refine wpAnyH_ready (rs := [6]) (by kernel_rfl) (by simp) (AllReadyH.cons rfl (fun K hK => ?_) AllReadyH.nil)
  go_simp
  refine (rr11 v4 _).mono ?_
  rintro e w' ⟨rfl, rfl⟩
  refine hK.out _ _ HE.out (fun hHeld2 => ?_)
  clear hK K
  refine wpAnyH_more [7] 7 rfl (by kernel_rfl) (by kernel_rfl) (fun _ _ d _ _ h => by cases d <;> exact h) hHeld2 ?_
  iterate 1
    refine' Heads.step rfl (by rfl) ?_ ?_
    rotate_left
    · intro w' hSw
      obtain ⟨z0, z1, z2, z3, z4, z5, z6, z7⟩ := hSw
      go_simp
      try with_reducible rfl
    simp only [Act.put, List.setIfInBounds_toArray, List.set_cons_zero, List.set_cons_succ]
  refine Heads.done ?_
  refine wpAnyH_ready (rs := [9]) (by kernel_rfl) (by simp) (AllReadyH.cons rfl (fun K hK => ?_) AllReadyH.nil)
  go_simp
  refine (rr25 v4 _).mono ?_
  rintro e w' ⟨rfl, rfl⟩
  refine hK.out _ _ HE.out (fun hHeld3 => ?_)
  clear hK K
  refine wpAnyH_more [10, 11, 24, 26, 28, 29] 0 rfl (by kernel_rfl) (by kernel_rfl) (fun _ _ d _ _ h => by cases d <;> exact h) hHeld3 ?_
  iterate 6
    refine' Heads.step rfl (by rfl) ?_ ?_
    rotate_left
    · intro w' hSw
      obtain ⟨z0, z1, z2, z3, z4, z5, z6, z7⟩ := hSw
      go_simp
      try with_reducible rfl
    simp only [Act.put, List.setIfInBounds_toArray, List.set_cons_zero, List.set_cons_succ]
  refine Heads.done ?_
  refine wpAnyH_done (by kernel_rfl) ?_ _
  rw [nch_bits, S1_bits]
  have hsg : IntKind.u32.signed = false := rfl
  simp only [wrap_u32, hsg, Bool.false_eq_true, if_false]
  clear hsg
  have ex : t1W [v0, v1, v2, v3, v4, v5, v6, v7] kk ww = ((((v7 + S1W v4) % 4294967296 + chW v4 v5 v6) % 4294967296 + kk) % 4294967296 + ww) % 4294967296 := rfl
  rw [← ex]
  clear ex hHeld1 hHeld2 hHeld3
  have HEd : Hid (Eight w.drew g v0 v1 v2 v3 v4 v5 v6 v7) := hide HE.out
  have HBd := hide ((Below.refl w.heap.size w).drew)
  have HW : Hid (stepW [v0, v1, v2, v3, v4, v5, v6, v7] kk ww = [addW (t1W [v0, v1, v2, v3, v4, v5, v6, v7] kk ww) (t2W [v0, v1, v2, v3, v4, v5, v6, v7]), v0, v1, v2, addW v3 (t1W [v0, v1, v2, v3, v4, v5, v6, v7] kk ww), v4, v5, v6]) := hide rfl
  have ex2 : t2W [v0, v1, v2, v3, v4, v5, v6, v7] = (bits .xor .u32 (bits .xor .u32 (rotW v0 2) (rotW v0 13)) (rotW v0 22) + majW v0 v1 v2) % 4294967296 := rfl
  have HX2 := hide ex2
  clear ex2 HE
  generalize t1W [v0, v1, v2, v3, v4, v5, v6, v7] kk ww = t1 at *
  generalize t2W [v0, v1, v2, v3, v4, v5, v6, v7] = t2 at *
  generalize w.drew = w1 at *
  have HE := HEd
  clear HEd
  go_wp2_with fail
  refine wp_region_heads [0, 2, 5, 8, 9, 10, 11, 12, 13, 14, 15, 16, 17, 18, 19, 20, 21, 22, 23, 24, 25, 26] 7 (fun w' => Eight w' g v0 v1 v2 v3 v4 v5 v6 v7) (by kernel_rfl) rfl (by kernel_rfl) (by kernel_rfl) (fun _ _ d _ _ h => by cases d <;> exact h) HE.out ?_
  iterate 22
    refine' Heads.step rfl (by rfl) ?_ ?_
    rotate_left
    · intro w' hSw
      obtain ⟨z0, z1, z2, z3, z4, z5, z6, z7⟩ := hSw
      go_simp
      try with_reducible rfl
    simp only [Act.put, List.setIfInBounds_toArray, List.set_cons_zero, List.set_cons_succ]
  refine Heads.done ?_
  refine wpAnyH_ready (rs := [1]) (by kernel_rfl) (by simp) (AllReadyH.cons rfl (fun K hK => ?_) AllReadyH.nil)
  go_simp
  refine (rr2 v0 _).mono ?_
  rintro e w' ⟨rfl, rfl⟩
  refine hK.out _ _ HE.out (fun hHeld1 => ?_)
  clear hK K
  refine wpAnyH_ready (rs := [3]) (by kernel_rfl) (by simp) (AllReadyH.cons rfl (fun K hK => ?_) AllReadyH.nil)
  go_simp
  refine (rr13 v0 _).mono ?_
  rintro e w' ⟨rfl, rfl⟩
  refine hK.out _ _ HE.out (fun hHeld2 => ?_)
  clear hK K
  refine wpAnyH_more [4] 4 rfl (by kernel_rfl) (by kernel_rfl) (fun _ _ d _ _ h => by cases d <;> exact h) hHeld2 ?_
  iterate 1
    refine' Heads.step rfl (by rfl) ?_ ?_
    rotate_left
    · intro w' hSw
      obtain ⟨z0, z1, z2, z3, z4, z5, z6, z7⟩ := hSw
      go_simp
      try with_reducible rfl
    simp only [Act.put, List.setIfInBounds_toArray, List.set_cons_zero, List.set_cons_succ]
  refine Heads.done ?_
  refine wpAnyH_ready (rs := [6]) (by kernel_rfl) (by simp) (AllReadyH.cons rfl (fun K hK => ?_) AllReadyH.nil)
  go_simp
  refine (rr22 v0 _).mono ?_
  rintro e w' ⟨rfl, rfl⟩
  refine hK.out _ _ HE.out (fun hHeld3 => ?_)
  clear hK K
  refine wpAnyH_more [7, 27, 28] 0 rfl (by kernel_rfl) (by kernel_rfl) (fun _ _ d _ _ h => by cases d <;> exact h) hHeld3 ?_
  iterate 3
    refine' Heads.step rfl (by rfl) ?_ ?_
    rotate_left
    · intro w' hSw
      obtain ⟨z0, z1, z2, z3, z4, z5, z6, z7⟩ := hSw
      go_simp
      try with_reducible rfl
    simp only [Act.put, List.setIfInBounds_toArray, List.set_cons_zero, List.set_cons_succ]
  refine Heads.done ?_
  refine wpAnyH_done (by kernel_rfl) ?_ _
  rw [nmaj_bits]
  simp only [wrap_u32]
  rw [← HX2.out]
  clear hHeld1 hHeld2 hHeld3
  have HEd : Hid (Eight w1.drew g v0 v1 v2 v3 v4 v5 v6 v7) := hide HE.out
  have HBd2 := hide (HBd.out.trans ((Below.refl w1.heap.size w1).drew.mono HBd.out.size))
  clear HX2 HE HBd
  generalize w1.drew = w0 at *
  have HE := HEd
  clear HEd
  go_wp2_with fail
  refine wp_region_heads [0, 1, 2, 3, 4, 5, 6, 7, 8, 9, 10, 11, 12, 13, 14, 15, 16, 17, 18, 19, 20, 21, 22, 23, 24, 25] 2 (fun w' => Eight w' g v0 v1 v2 v3 v4 v5 v6 v7) (by kernel_rfl) rfl (by kernel_rfl) (by kernel_rfl) (fun _ _ d _ _ h => by cases d <;> exact h) HE.out ?_
  iterate 26
    refine' Heads.step rfl (by rfl) ?_ ?_
    rotate_left
    · intro w' hSw
      obtain ⟨z0, z1, z2, z3, z4, z5, z6, z7⟩ := hSw
      go_simp
      try with_reducible rfl
    simp only [Act.put, List.setIfInBounds_toArray, List.set_cons_zero, List.set_cons_succ]
  refine Heads.done ?_
  refine wpAnyH_ready (rs := [26]) (by kernel_rfl) (by simp) (AllReadyH.cons rfl (fun K hK => ?_) AllReadyH.nil)
  go_simp
  refine hK.out _ _ (Eight.below (w := w0.drew) HE.out ((Below.refl _ _).alloc (Nat.le_refl _) _)) (fun hHeld1 => ?_)
  clear hK K
  refine wpAnyH_ready (rs := [27]) (by kernel_rfl) (by simp) (AllReadyH.cons rfl (fun K hK => ?_) AllReadyH.nil)
  go_simp
  refine hK.out _ _ hHeld1 (fun hHeld2 => ?_)
  clear hK K
  refine wpAnyH_done (by kernel_rfl) ?_ _
  have HN := hide (((WBuf.lit w0 #[.int .u32 (IntKind.u32.wrap (t1 + t2)), .int .u32 v0, .int .u32 v1, .int .u32 v2, .int .u32 (IntKind.u32.wrap (v3 + t1)), .int .u32 v4, .int .u32 v5, .int .u32 v6] [addW t1 t2, v0, v1, v2, addW v3 t1, v4, v5, v6] rfl (by simp)).drew).from_ HBd2.out)
  clear hHeld1 hHeld2 HE HBd2
  generalize World.drew _ = wz at *
  go_wp2_with fail
  go_ret
  rw [HW.out]
  exact ⟨_, rfl, HN.out⟩
end Go.Proofs.Ytjjpekgkaahpbaa
