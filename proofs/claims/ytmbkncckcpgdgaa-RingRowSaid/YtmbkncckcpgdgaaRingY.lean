/- Chapter 5: RingRow, walked. -/
import Derived.Test.YtmbkncckcpgdgaaRingU
import Derived.Test.YtmbkncckcpgdgaaRingX
import Derived.OpenShut
namespace Go.Proofs.Ytmbkncckcpgdgaa
open Go.RowKit Zb

/-- one round of RingRow -/
structure RowR (w wr : World) (b : Nat) (c : UInt8) (j : Nat) (D : DiskM) : Prop where
  ds : Hid (DS w.heap.size w wr b D)
  inv : RowInv c j D
set_option maxRecDepth 20000 in
set_option maxHeartbeats 2000000 in
theorem RingRow_walk (n c : Int) (w : World) (wn : (Lit.int .u8 n).wf = true) (wc : (Lit.int .u8 c).wf = true) : Calls Try.prog 6 #[.int .u8 n, .int .u8 c] w fun r w' => r = .returned (.bool true) ∧ Below w.heap.size w w' := by
  have bn := bounds_u8 wn
  have bc := bounds_u8 wc
  obtain ⟨cb, rfl⟩ : ∃ cb : UInt8, c = (cb.toNat : Int) := ⟨UInt8.ofNat c.toNat, by simp; omega⟩
  obtain ⟨k, hk⟩ : ∃ k : Nat, n % 40 = k := ⟨(n % 40).toNat, by omega⟩
  have hk40 : k < 40 := by omega
  have hn0 : 0 ≤ n := bn.1
  have hn1 : n ≤ 255 := bn.2
  have HS := hide (lSum5_calls cb)
  have HN := hide (ds_new 16 (by omega) (by omega) (Below.refl w.heap.size w) (Nat.le_refl _))
  clear bn bc wn wc
  go_enter Try.func6, Try.ntmps6
  go_wp2_with fail
  refine HN.out.mono ?_
  rintro r w1 ⟨b, rfl, HD1⟩
  have HR0 : Hid (RowR w w1 b cb 0 (DiskM.new 16)) := hide ⟨HD1, RowInv.zero cb⟩
  clear HD1 HN
  go_wp2_with fail
  simp only [hk]
  clear hk hn0 hn1
  go_loopw [8] (fun i wr => ∃ (j : Nat) (D : DiskM), j ≤ k ∧ i = .int .i64 (j : Int) ∧ Hid (RowR w wr b cb j D)) (fun i _ => k - (intOf i).toNat)
  case atStart => exact ⟨0, _, by omega, rfl, HR0⟩
  case round =>
  obtain ⟨j, D, hj, rfl, HR⟩ := hrel
  by_cases hjk : j < k
  · have hjI : (j : Int) < (k : Int) := by omega
    have hj0 : (0 : Int) ≤ (j : Int) := by omega
    have hjm : (j : Int) < 40 := by omega
    go_wp2_with fail
    refine (HS.out _).mono ?_
    rintro r w2 ⟨rfl, hb2⟩
    have HD2 := hide (HR.out.ds.out.below hb2)
    have HST := hide (HR.out.inv.step (show j < 40 by omega))
    have HA := hide (ds_append HD2 (by rw [HR.out.inv.calm.wts]; exact Nat.zero_le _) (rowIn cb j))
    clear hb2 HR HD2
    go_wp2_with ((with_reducible show wpList _ _ _ (⟨some 42, _, _, _, _, _⟩ :: _) _ _); refine wpList_build_as rfl _ _ #[.int .i64 (rowIn cb j).kind, .int .i64 (rowIn cb j).number, .int .i64 (rowIn cb j).slot, .int .i64 (rowIn cb j).size, .string (rowIn cb j).sum] rfl (by rfl) ?_)
    refine HA.out.mono ?_
    rintro r w3 ⟨rfl, HD3⟩
    rw [HST.out.1]
    have HZ := hide (varW_new w3)
    have HD4 := hide (HD3.below (varW_below w3 (rowE cb j)))
    have HB4 := hide (varW_blk w3 (rowE cb j))
    have x1 : (varW w3 (rowE cb j)).cell? ⟨w3.heap.size, 1, none⟩ = some (.int .i64 ((j : Int) + 1)) := HB4.out.cell 1
    have x3 : (varW w3 (rowE cb j)).cell? ⟨w3.heap.size, 3, none⟩ = some (.int .i64 (j : Int)) := HB4.out.cell 3
    have HR4 := hide (RowR.mk HD4.out HST.out.2)
    go_wp2_with (((with_reducible show wpList _ _ _ (⟨none, _, _, _, _, _⟩ :: _) _ _); refine wpList_store_row rfl _ _ _ rfl w3.heap.size (rowE cb j).cells.toArray rfl rfl 28 _ HZ.out (by kernel_rfl) rfl (by kernel_rfl) ?_; change wpList _ _ _ _ _ (varW w3 (rowE cb j)); generalize varW w3 (rowE cb j) = w4 at *))
    refine ⟨⟨j + 1, _, by omega, by go_num, HR4⟩, ?_⟩
    simp [intOf]
    omega
  · have hjk' : j = k := by omega
    subst hjk'
    have HSC := hide (ds_scan HR.out.ds (by rw [HR.out.inv.calm.wts]; exact Nat.zero_le _))
    have HL := hide HR.out.inv.list
    have HE0 := hide HR.out.inv.calm.scan
    go_wp2_with fail
    refine HSC.out.mono ?_
    rintro r w2 ⟨v, rfl, hb2, hrow, _⟩
    rw [HE0.out]
    have HW2 := hide ((HR.out.ds.out.below hb2).1)
    rw [HL.out, rowsFrom_len] at hrow
    obtain ⟨m, hm⟩ : ∃ m, min j 8 = m := ⟨_, rfl⟩
    have hmI : (if 8 < (j : Int) then (8 : Int) else (j : Int)) = (m : Int) := by split <;> omega
    rw [hm] at hrow
    obtain ⟨a, ha⟩ : ∃ a, j - m = a := ⟨_, rfl⟩
    rw [ha] at hrow
    have haI : (a : Int) + (m : Int) = (j : Int) := by omega
    have hm8 : m ≤ 8 := by omega
    obtain ⟨A, cc, rfl, hcc⟩ := row_slice hrow
    have HROW := hide hrow
    clear hrow hb2 HR HSC HE0
    go_wp2_with fail
    clear hm hmI ha HL
    go_loopw [13] (fun i wr => ∃ q : Nat, q ≤ m ∧ i = .int .i64 (q : Int) ∧ Hid (Below w2.heap.size w2 wr)) (fun i _ => m - (intOf i).toNat)
    case atStart => exact ⟨0, by omega, rfl, hide (Below.refl _ _)⟩
    case round =>
    obtain ⟨q, hq, rfl, HB⟩ := hrel
    by_cases hqm : q < m
    · have hqI : (q : Int) < (m : Int) := by omega
      obtain ⟨g, c', he, _, hgl, _, hcell⟩ := row_form HROW.out (by omega)
      obtain ⟨rfl, rfl⟩ : A = some ⟨g, 0, none⟩ ∧ cc = c' := by simpa using he
      have hget := rowsFrom_get cb m a q hqm
      have y1 : wr.cell? ⟨g, q * 5 + 1, none⟩ = some (.int .i64 ((a : Int) + 1 + (q : Int))) := by
        rw [World.cell?_of_block (HB.out.block g hgl), hcell _ (by omega), ecells_get _ q _ hget 1 (by omega)]
        show some (Value.int .i64 (((a + q : Nat) : Int) + 1)) = _
        congr 2
        omega
      have y3 : wr.cell? ⟨g, q * 5 + 3, none⟩ = some (.int .i64 ((a : Int) + (q : Int))) := by
        rw [World.cell?_of_block (HB.out.block g hgl), hcell _ (by omega), ecells_get _ q _ hget 3 (by omega)]
        show some (Value.int .i64 (((a + q : Nat) : Int))) = _
        congr 2
      have y4 : wr.cell? ⟨g, q * 5 + 4, none⟩ = some (.string (sumB cb)) := by
        rw [World.cell?_of_block (HB.out.block g hgl), hcell _ (by omega), ecells_get _ q _ hget 4 (by omega)]
        rfl
      have s1 : IntKind.i64.wrap ((j : Int) - (m : Int)) = (a : Int) := by rw [IntWalk.i64_in _ (by omega)]; omega
      have s2 : IntKind.i64.wrap ((a : Int) + 1) = (a : Int) + 1 := IntWalk.i64_in _ (by omega)
      have s3 : IntKind.i64.wrap ((a : Int) + 1 + (q : Int)) = (a : Int) + 1 + (q : Int) := IntWalk.i64_in _ (by omega)
      have s4 : IntKind.i64.wrap ((a : Int) + 1 + (q : Int) - 1) = (a : Int) + (q : Int) := by rw [IntWalk.i64_in _ (by omega)]; omega
      have hgw : g < wr.heap.size := Nat.lt_of_lt_of_le hgl HB.out.size
      clear hget hcell he
      generalize sumB cb = sm at *
      go_wp2_with fail
      refine wp_region_heads [0, 1, 2, 3, 4, 5, 6, 7, 8, 9, 10, 11, 12, 13, 14, 15, 16, 17, 18, 19, 20, 21, 22, 23, 24, 25, 26, 27, 28, 29, 30, 31, 32, 33] 3 (fun w' => w'.cell? ⟨g, q * 5 + 1, none⟩ = some (.int .i64 ((a : Int) + 1 + (q : Int))) ∧ w'.cell? ⟨g, q * 5 + 3, none⟩ = some (.int .i64 ((a : Int) + (q : Int))) ∧ w'.cell? ⟨g, q * 5 + 4, none⟩ = some (.string sm)) (by kernel_rfl) rfl (by kernel_rfl) (by kernel_rfl) (fun _ _ d _ _ h => by cases d <;> exact h) ⟨y1, y3, y4⟩ ?_
      iterate 34
        first
        | refine' Heads.skip rfl (by rfl) ?_
        | (refine' Heads.step rfl (by rfl) ?_ ?_
           rotate_left
           · intro w' hSw
             obtain ⟨z1, z3, z4⟩ := hSw
             go_simp
             try with_reducible rfl)
        simp only [Act.put, List.setIfInBounds_toArray, List.set_cons_zero, List.set_cons_succ]
      refine Heads.done ?_
      refine wpAnyH_ready (rs := [34]) (by kernel_rfl) (by simp) (AllReadyH.cons rfl (fun K hK => ?_) AllReadyH.nil)
      go_simp
      refine (HS.out _).mono ?_
      rintro r w3 ⟨rfl, hb3⟩
      have v1 := (World.cell?_of_block (hb3.block g hgw)).trans y1
      have v3 := (World.cell?_of_block (hb3.block g hgw)).trans y3
      have v4 := (World.cell?_of_block (hb3.block g hgw)).trans y4
      have HB3 := hide (HB.out.drew.trans (hb3.mono HB.out.size))
      clear hb3
      refine hK.out _ _ ⟨v1, v3, v4⟩ (fun hHeld1 => ?_)
      clear hK K
      refine wpAnyH_more [35, 36] 0 rfl (by kernel_rfl) (by kernel_rfl) (fun _ _ d _ _ h => by cases d <;> exact h) hHeld1 ?_
      iterate 2
        first
        | refine' Heads.skip rfl (by rfl) ?_
        | (refine' Heads.step rfl (by rfl) ?_ ?_
           rotate_left
           · intro w' hSw
             obtain ⟨z1, z3, z4⟩ := hSw
             go_simp
             try with_reducible rfl)
        simp only [Act.put, List.setIfInBounds_toArray, List.set_cons_zero, List.set_cons_succ]
      refine Heads.done ?_
      refine wpAnyH_done (by kernel_rfl) ?_ _
      go_wp2_with fail
      refine ⟨⟨q + 1, by omega, by go_num, HB3⟩, ?_⟩
      simp [intOf]
      omega
    · have hqm' : q = m := by omega
      subst hqm'
      go_wp2_with fail
      refine (lknown5_calls _).mono ?_
      rintro r w3 ⟨rfl, hb3⟩
      go_wp2_with fail
      go_ret
      exact ⟨rfl, HW2.out.trans ((HB.out.trans (hb3.mono HB.out.size)).mono HW2.out.size)⟩
end Go.Proofs.Ytmbkncckcpgdgaa
