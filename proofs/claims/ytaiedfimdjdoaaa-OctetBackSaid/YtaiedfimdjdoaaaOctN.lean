/- Chapter 1: OctetLow comes to true. -/
import Derived.Test.YtaiedfimdjdoaaaOctL
namespace Go.Proofs.Ytaiedfimdjdoaaa
open Go.RowKit Zb

theorem put_8 (n : Int) : putOk n 8 = true := by simp [putOk, wideB]
theorem leL_take (n : Int) (k m : Nat) (h : k ≤ m) : (leL n m).take k = leL n k := by
  unfold leL
  rw [← List.map_take, List.take_range, Nat.min_eq_left h]
theorem putB_ok {n width : Int} (h : putOk n width = true) : ∃ k : Nat, width = k ∧ 0 < k ∧ k ≤ 8 ∧ putB n width = ⟨(leL n k).toArray⟩ := by
  have hw : wideB width = true := by simp [putOk] at h; exact h.1
  obtain ⟨k, rfl, hk⟩ := wideB_nat hw
  exact ⟨k, rfl, by omega, by omega, by rw [putB, if_pos h]; rfl⟩
theorem leB_size (n : Int) (k : Nat) : (⟨(leL n k).toArray⟩ : ByteArray).size = k := by
  show (leL n k).toArray.size = k
  rw [List.size_toArray, leL_length]
theorem leB_first (n : Int) (k : Nat) (h : 0 < (⟨(leL n k).toArray⟩ : ByteArray).size) : ((⟨(leL n k).toArray⟩ : ByteArray)[0].toNat : Int) = n % 256 := by
  have h0 : 0 < k := by rw [leB_size] at h; exact h
  have e : (⟨(leL n k).toArray⟩ : ByteArray)[0] = octAt n 0 := by
    show (leL n k).toArray[0]'_ = _
    simp [leL]
  rw [e, octAt_toNat]
  simp
theorem leB_cut (n : Int) (k : Nat) (h : k ≤ 8) : (⟨(leL n 8).toArray⟩ : ByteArray).extract 0 k = ⟨(leL n k).toArray⟩ := by
  apply ByteArray.ext
  simp only [ByteArray.data_extract]
  apply Array.ext'
  simp [leL_take n k 8 h]

set_option maxRecDepth 100000 in
theorem OctetLow_walk (n width : Int) (w : World) (w0 : (Lit.int .i64 n).wf = true) (_ : (Lit.int .i64 width).wf = true) : Calls Try.prog 8 #[.int .i64 n, .int .i64 width] w fun e w' => e = .returned (.bool true) ∧ Below w.heap.size w w' := by
  have h := bounds_i64 w0
  have H1 := hide (oPut_calls n (by omega) (by omega) width)
  have H2 := hide (oPut_calls n (by omega) (by omega) 8)
  clear h w0
  have e8 := hide (show putE n 8 = 0 by rw [putE, if_pos (put_8 n)])
  obtain ⟨t, HT⟩ : ∃ t, Hid (putB n 8 = t) := ⟨_, hide rfl⟩
  have ht8 : putB n 8 = ⟨(leL n 8).toArray⟩ := by rw [putB, if_pos (put_8 n)]; rfl
  have T0 : Hid (t = ⟨(leL n 8).toArray⟩) := hide (by rw [← HT.out, ht8])
  have hts : t.size = 8 := by rw [T0.out, leB_size]
  have HTS := hide hts
  have u0 : 0 < t.size := by omega
  have u1 : (0 : Int) < (t.size : Int) := by omega
  have hz : ((t.size : Int) != 8) = false := by rw [hts]; rfl
  have ht0 : ((t[0]'u0).toNat : Int) = n % 256 := by
    have := leB_first n 8 (by rw [leB_size]; omega)
    rw [← this]
    congr 2
    simp only [T0.out]
  clear hts ht8
  by_cases hok : putOk n width = true
  · obtain ⟨k, rfl, hk0, hk8, hput⟩ := putB_ok hok
    have HE := hide (show putE n k = 0 by rw [putE, if_pos hok])
    obtain ⟨s, HS⟩ : ∃ s, Hid (putB n k = s) := ⟨_, hide rfl⟩
    have S0 : Hid (s = ⟨(leL n k).toArray⟩) := hide (by rw [← HS.out, hput])
    have hss : s.size = k := by rw [S0.out, leB_size]
    have v0 : 0 < s.size := by omega
    have v1 : (0 : Int) < (s.size : Int) := by omega
    have v2 : decide ((0 : Int) < (s.size : Int)) = true := by simp; omega
    have v3 : decide ((s.size : Int) > 0) = true := by simp; omega
    have v4 : s.size ≤ t.size := by have := HTS.out; omega
    have v5 : (s.size : Int) ≤ (t.size : Int) := by omega
    have hs0 : ((s[0]'v0).toNat : Int) = n % 256 := by
      have := leB_first n k (by rw [leB_size]; omega)
      rw [← this]
      congr 2
      simp only [S0.out]
    have hcut : t.extract 0 s.size = s := by rw [T0.out, hss, leB_cut n k hk8, ← S0.out]
    clear hok hput hss
    go_enter Try.func8, Try.ntmps8
    go_wp2_with fail
    refine (H1.out _).mono ?_
    rintro e w1 ⟨rfl, hb1⟩
    rw [HE.out, HS.out]
    have T1 := hide hb1
    clear hb1
    go_wp2_with fail
    refine (H2.out _).mono ?_
    rintro e w2 ⟨rfl, hb2⟩
    rw [e8.out, HT.out]
    have T2 := hide (T1.out.trans (hb2.mono T1.out.size))
    clear hb2 T1 H1 H2
    go_wp2_with fail
    refine wp_region_heads [0, 1, 2, 3, 4, 5, 6, 7, 8, 9, 10, 11, 12, 13, 14, 15, 16, 17, 18, 19, 20, 21, 22] 3 (fun _ => True) (by kernel_rfl) rfl (by kernel_rfl) (by kernel_rfl) (fun _ _ d _ _ h => by cases d <;> exact h) trivial ?_
    iterate 23
      first
      | refine' Heads.skip rfl (by rfl) ?_
      | (refine' Heads.step rfl (by rfl) ?_ ?_
         rotate_left
         · intro w' hSw
           go_simp
           try with_reducible rfl)
      simp only [Act.put, List.setIfInBounds_toArray, List.set_cons_zero, List.set_cons_succ]
    refine Heads.done ?_
    refine wpAnyH_ready (rs := [23]) (by kernel_rfl) (by simp) (AllReadyH.cons rfl (fun K hK => ?_) AllReadyH.nil)
    go_simp
    refine (lknown1_calls _).mono ?_
    rintro e w9 ⟨rfl, hb9⟩
    refine hK.out _ _ trivial (fun hHeld1 => ?_)
    clear hK K
    refine wpAnyH_more [24, 25] 0 rfl (by kernel_rfl) (by kernel_rfl) (fun _ _ d _ _ h => by cases d <;> exact h) trivial ?_
    iterate 2
      first
      | refine' Heads.skip rfl (by rfl) ?_
      | (refine' Heads.step rfl (by rfl) ?_ ?_
         rotate_left
         · intro w' hSw
           go_simp
           try with_reducible rfl)
      simp only [Act.put, List.setIfInBounds_toArray, List.set_cons_zero, List.set_cons_succ]
    refine Heads.done ?_
    refine wpAnyH_done (by kernel_rfl) ?_ _
    go_wp2_with fail
    go_ret
    exact ⟨rfl, T2.out.drew.trans (hb9.mono T2.out.size)⟩
  · have HE := hide (show putE n width = 1 by rw [putE, if_neg hok])
    have HS := hide (show putB n width = ⟨#[]⟩ by rw [putB, if_neg hok])
    clear hok
    go_enter Try.func8, Try.ntmps8
    go_wp2_with fail
    refine (H1.out _).mono ?_
    rintro e w1 ⟨rfl, hb1⟩
    rw [HE.out, HS.out]
    have T1 := hide hb1
    clear hb1
    go_wp2_with fail
    refine (H2.out _).mono ?_
    rintro e w2 ⟨rfl, hb2⟩
    rw [e8.out, HT.out]
    have T2 := hide (T1.out.trans (hb2.mono T1.out.size))
    clear hb2 T1 H1 H2
    go_wp2_with fail
    refine wp_region_heads [0, 1, 2, 3, 4, 5, 6, 7, 8, 9, 10, 11, 12, 13, 14, 15, 16, 17, 18, 19, 20, 21, 22] 3 (fun _ => True) (by kernel_rfl) rfl (by kernel_rfl) (by kernel_rfl) (fun _ _ d _ _ h => by cases d <;> exact h) trivial ?_
    iterate 23
      first
      | refine' Heads.skip rfl (by rfl) ?_
      | (refine' Heads.step rfl (by rfl) ?_ ?_
         rotate_left
         · intro w' hSw
           go_simp
           try with_reducible rfl)
      simp only [Act.put, List.setIfInBounds_toArray, List.set_cons_zero, List.set_cons_succ]
    refine Heads.done ?_
    refine wpAnyH_ready (rs := [23]) (by kernel_rfl) (by simp) (AllReadyH.cons rfl (fun K hK => ?_) AllReadyH.nil)
    go_simp
    refine (lknown1_calls _).mono ?_
    rintro e w9 ⟨rfl, hb9⟩
    refine hK.out _ _ trivial (fun hHeld1 => ?_)
    clear hK K
    refine wpAnyH_more [24, 25] 0 rfl (by kernel_rfl) (by kernel_rfl) (fun _ _ d _ _ h => by cases d <;> exact h) trivial ?_
    iterate 2
      first
      | refine' Heads.skip rfl (by rfl) ?_
      | (refine' Heads.step rfl (by rfl) ?_ ?_
         rotate_left
         · intro w' hSw
           go_simp
           try with_reducible rfl)
      simp only [Act.put, List.setIfInBounds_toArray, List.set_cons_zero, List.set_cons_succ]
    refine Heads.done ?_
    refine wpAnyH_done (by kernel_rfl) ?_ _
    go_wp2_with fail
    go_ret
    exact ⟨rfl, T2.out.drew.trans (hb9.mono T2.out.size)⟩
end Go.Proofs.Ytaiedfimdjdoaaa
