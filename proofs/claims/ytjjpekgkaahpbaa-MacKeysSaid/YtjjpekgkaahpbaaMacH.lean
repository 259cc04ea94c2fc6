/- Chapter 3: MacKeys comes to true. -/
import Derived.Test.YtjjpekgkaahpbaaMacG
namespace Go.Proofs.Ytjjpekgkaahpbaa
open Go.RowKit Zb

theorem keyM_zeros (k : List UInt8) (j : Nat) (h : k.length + j ≤ 64) : keyM (k ++ List.replicate j 0) = keyM k := by
  have h1 : longK (k ++ List.replicate j 0) = k ++ List.replicate j 0 := by unfold longK; rw [if_neg (by simp; omega)]
  have h2 : longK k = k := by unfold longK; rw [if_neg (by omega)]
  unfold keyM
  rw [h1, h2]
  unfold padK
  rw [List.append_assoc, List.replicate_append_replicate]
  congr 2
  simp
  omega
theorem keyM_long (k : List UInt8) (h : 64 < k.length) : keyM ((keyM k).take 32) = keyM k := by
  have h1 : keyM k = padK (digW k) := by unfold keyM longK; rw [if_pos h]
  have h2 : (padK (digW k)).take 32 = digW k := by
    unfold padK
    rw [List.take_append_of_le_length (by rw [digW_length]; omega), List.take_of_length_le (by rw [digW_length]; omega)]
  rw [h1, h2]
  unfold keyM longK
  rw [if_neg (by rw [digW_length]; omega)]
theorem macB_keys {a b : ByteArray} (s : ByteArray) (h : keyM a.data.toList = keyM b.data.toList) : macB a s = macB b s := by
  unfold macB macM
  rw [h]
theorem keyB_keys {a b : ByteArray} (h : keyM a.data.toList = keyM b.data.toList) : keyB a = keyB b := by
  unfold keyB
  rw [h]
set_option maxRecDepth 20000 in
set_option maxHeartbeats 2000000 in
theorem MacKeys_walk (k : ByteArray) (more : Int) (s : ByteArray) (w : World) (_ : k.size ≤ 140737488351232) (wm : (Lit.int .u8 more).wf = true) (_ : s.size ≤ 140737488351232) : Calls Try.prog 6 #[.string k, .int .u8 more, .string s] w fun e w' => e = .returned (.bool true) ∧ Below w.heap.size w w' := by
  have bm := bounds_u8 wm
  by_cases hk : 300 < k.size
  · have hkI : (300 : Int) < (k.size : Int) := by omega
    clear hk
    go_enter Try.func6, Try.ntmps6
    go_wp2_with fail
    refine (lknown3_calls _).mono ?_
    rintro e w9 ⟨rfl, hb9⟩
    have HB9 := hide (hb9)
    clear hb9
    go_wp2_with fail
    go_ret
    exact ⟨rfl, HB9.out⟩
  · have hkI : (k.size : Int) ≤ 300 := by omega
    have hkN : k.size ≤ 300 := by omega
    clear hk
    by_cases hs : 1000 < s.size
    · have hsI : (1000 : Int) < (s.size : Int) := by omega
      clear hs
      go_enter Try.func6, Try.ntmps6
      go_wp2_with fail
      refine (lknown3_calls _).mono ?_
      rintro e w9 ⟨rfl, hb9⟩
      have HB9 := hide (hb9)
      clear hb9
      go_wp2_with fail
      go_ret
      exact ⟨rfl, HB9.out⟩
    · have hsI : (s.size : Int) ≤ 1000 := by omega
      have hsN : s.size ≤ 1000 := by omega
      clear hs
      have HK := hide (mKey_keyB k (by omega))
      have HKS := hide (keyB_size k)
      have HKL := hide (keyB_list k)
      have hkk : ((keyB k).size : Int) = 64 := by rw [HKS.out]; rfl
      by_cases hg : 64 < k.size
      · have hgI : (64 : Int) < (k.size : Int) := by omega
        obtain ⟨q, hq⟩ : ∃ q : ByteArray, (keyB k).extract 0 32 = q := ⟨_, rfl⟩
        have HQ : Hid (keyM q.data.toList = keyM k.data.toList) := hide (by
          rw [← hq, ByteArray.data_extract, Array.toList_extract, List.extract_eq_take_drop]
          exact keyM_long k.data.toList (by rw [size_toList']; omega))
        have hqs : q.size ≤ 64 := by rw [← hq, ByteArray.size_extract]; omega
        have HM : Hid (macB q s = macB k s) := hide (macB_keys s HQ.out)
        have H1 := hide (mOf_macB k s (by omega) (by omega))
        have H2 := hide (mOf_macB q s (by omega) (by omega))
        rw [HM.out] at H2
        generalize macB k s = m at *
        generalize keyB k = kk at *
        clear hg
        go_enter Try.func6, Try.ntmps6
        go_wp2_with fail
        refine (HK.out _).mono ?_
        rintro e w1 ⟨rfl, hb1⟩
        have HB1 := hide (hb1)
        clear hb1
        go_wp2_with fail
        refine wp_region_heads [0, 1, 3, 4, 5] 7 (fun _ => True) (by kernel_rfl) rfl (by kernel_rfl) (by kernel_rfl) (fun _ _ d _ _ h => by cases d <;> exact h) trivial ?_
        iterate 5
          refine' Heads.step rfl (by rfl) ?_ ?_
          rotate_left
          · intro w' hSw
            go_simp
            try with_reducible rfl
          simp only [Act.put, List.setIfInBounds_toArray, List.set_cons_zero, List.set_cons_succ]
        refine Heads.done ?_
        refine wpAnyH_ready (rs := [2]) (by kernel_rfl) (by simp) (AllReadyH.cons rfl (fun K hK => ?_) AllReadyH.nil)
        go_simp
        refine (H1.out _).mono ?_
        rintro e w2 ⟨rfl, hb2⟩
        have HB2 := hide ((HB1.out.drew).trans (hb2.mono HB1.out.size))
        clear hb2
        refine hK.out _ _ trivial (fun hHeld1 => ?_)
        clear hK K
        refine wpAnyH_ready (rs := [6]) (by kernel_rfl) (by simp) (AllReadyH.cons rfl (fun K hK => ?_) AllReadyH.nil)
        go_simp
        refine (H2.out _).mono ?_
        rintro e w3 ⟨rfl, hb3⟩
        have HB3 := hide (HB2.out.trans (hb3.mono HB2.out.size))
        clear hb3
        refine hK.out _ _ trivial (fun hHeld2 => ?_)
        clear hK K
        refine wpAnyH_more [7, 8] 3 rfl (by kernel_rfl) (by kernel_rfl) (fun _ _ d _ _ h => by cases d <;> exact h) trivial ?_
        iterate 2
          refine' Heads.step rfl (by rfl) ?_ ?_
          rotate_left
          · intro w' hSw
            go_simp
            try with_reducible rfl
          simp only [Act.put, List.setIfInBounds_toArray, List.set_cons_zero, List.set_cons_succ]
        refine Heads.done ?_
        refine wpAnyH_ready (rs := [9]) (by kernel_rfl) (by simp) (AllReadyH.cons rfl (fun K hK => ?_) AllReadyH.nil)
        go_simp
        refine (lknown3_calls _).mono ?_
        rintro e w4 ⟨rfl, hb4⟩
        have HB4 := hide (HB3.out.trans (hb4.mono HB3.out.size))
        clear hb4
        refine hK.out _ _ trivial (fun hHeld3 => ?_)
        clear hK K
        refine wpAnyH_more [10, 11] 0 rfl (by kernel_rfl) (by kernel_rfl) (fun _ _ d _ _ h => by cases d <;> exact h) trivial ?_
        iterate 2
          refine' Heads.step rfl (by rfl) ?_ ?_
          rotate_left
          · intro w' hSw
            go_simp
            try with_reducible rfl
          simp only [Act.put, List.setIfInBounds_toArray, List.set_cons_zero, List.set_cons_succ]
        refine Heads.done ?_
        refine wpAnyH_done (by kernel_rfl) ?_ _
        go_wp2_with fail
        go_ret
        exact ⟨rfl, HB4.out⟩
      · have hgI : (k.size : Int) ≤ 64 := by omega
        have HKZ := hide (show k.size ≤ 64 by omega)
        have H1 := hide (mOf_macB k s (by omega) (by omega))
        have HKK := hide (mKey_keyB k (by omega))
        have HI0 : ∃ (j : Nat) (T : ByteArray), Value.string k = .string T ∧ T.size ≤ 64 ∧ Hid (T.data.toList = k.data.toList ++ List.replicate j 0) ∧ Hid (Below w.heap.size w w) := ⟨0, k, rfl, by omega, hide (by simp), hide (Below.refl _ _)⟩
        have HZ : Hid (∀ T j, T.size ≤ 64 → T.data.toList = k.data.toList ++ List.replicate j 0 → macB T s = macB k s ∧ keyB T = keyB k) := hide (fun T j h1 h2 => by
          have h3 : keyM T.data.toList = keyM k.data.toList := by
            rw [h2]
            refine keyM_zeros _ _ ?_
            have h4 : T.data.toList.length = T.size := size_toList' T
            rw [h2, List.length_append, List.length_replicate] at h4
            omega
          exact ⟨macB_keys s h3, keyB_keys h3⟩)
        have hz9 : more ≤ 255 := by omega
        obtain ⟨n, rfl⟩ : ∃ n : Nat, more = n := ⟨more.toNat, by omega⟩
        generalize hmm : macB k s = m at *
        generalize hkk9 : keyB k = kk at *
        have HMM := hide hmm
        have HKK9 := hide hkk9
        clear hg hmm hkk9
        go_enter Try.func6, Try.ntmps6
        go_wp2_with fail
        refine (HK.out _).mono ?_
        rintro e w1 ⟨rfl, hb1⟩
        have HB1 := hide (hb1)
        clear hb1
        go_wp2_with fail
        go_loopw [8, 9] (fun v i wr => ∃ (i9 j : Nat) (T : ByteArray), i = .int .i64 i9 ∧ i9 ≤ n ∧ v = .string T ∧ T.size ≤ 64 ∧ Hid (T.data.toList = k.data.toList ++ List.replicate j 0) ∧ Hid (Below w.heap.size w wr)) (fun _ i _ => n - (intOf i).toNat)
        case atStart => exact ⟨0, 0, k, rfl, by omega, rfl, HKZ.out, hide (by simp), HB1⟩
        case round =>
        clear HI0 HB1
        obtain ⟨i, j, T, rfl, hi, rfl, hT, hTL, HB⟩ := hrel
        have hTI : (T.size : Int) ≤ 64 := by omega
        by_cases hc : i < n ∧ T.size < 64
        · obtain ⟨hc1, hc2⟩ := hc
          have hc1I : (i : Int) < (n : Int) := by omega
          have hc2I : (T.size : Int) < 64 := by omega
          obtain ⟨X, hX⟩ : ∃ X : ByteArray, T ++ ⟨#[0]⟩ = X := ⟨_, rfl⟩
          have HXS : Hid (X.size ≤ 64) := hide (by rw [← hX, ByteArray.size_append]; have : (⟨#[0]⟩ : ByteArray).size = 1 := rfl; omega)
          have HXL : Hid (X.data.toList = k.data.toList ++ List.replicate (j + 1) 0) := hide (by rw [← hX, toList_append, hTL.out, List.replicate_succ', List.append_assoc])
          go_wp2_with fail
          go_roundw
          case rel => exact ⟨i + 1, j + 1, X, by go_num, by omega, rfl, HXS.out, HXL, HB⟩
          case measure => simp [intOf]; omega
        · have H2 := hide (mOf_macB T s (by omega) (by omega))
          have HT2 := hide (mKey_keyB T (by omega))
          obtain ⟨e1, e2⟩ := HZ.out T j hT hTL.out
          rw [e1] at H2
          rw [e2] at HT2
          clear e1 e2
          by_cases hin : i < n
          · have hc1I : (i : Int) < (n : Int) := by omega
            have hc2I : (64 : Int) ≤ (T.size : Int) := by omega
            clear hc hin
            go_wp2_with fail
            refine (H1.out _).mono ?_
            rintro e w2 ⟨rfl, hb2⟩
            have HB2 := hide (HB.out.trans (hb2.mono HB.out.size))
            clear hb2 HB
            go_wp2_with fail
            refine (H2.out _).mono ?_
            rintro e w3 ⟨rfl, hb3⟩
            have HB3 := hide (HB2.out.trans (hb3.mono HB2.out.size))
            clear hb3 HB2
            go_wp2_with fail
            refine (HT2.out _).mono ?_
            rintro e w4 ⟨rfl, hb4⟩
            have HB4 := hide (HB3.out.trans (hb4.mono HB3.out.size))
            clear hb4 HB3
            go_wp2_with fail
            refine (HKK.out _).mono ?_
            rintro e w5 ⟨rfl, hb5⟩
            have HB5 := hide (HB4.out.trans (hb5.mono HB4.out.size))
            clear hb5 HB4
            go_wp2_with fail
            refine (HKK.out _).mono ?_
            rintro e w6 ⟨rfl, hb6⟩
            have HB6 := hide (HB5.out.trans (hb6.mono HB5.out.size))
            clear hb6 HB5
            go_wp2_with fail
            refine (lknown3_calls _).mono ?_
            rintro e w9 ⟨rfl, hb9⟩
            have HB9 := hide (HB6.out.trans (hb9.mono HB6.out.size))
            clear hb9 HB6
            go_wp2_with fail
            go_ret
            exact ⟨rfl, HB9.out⟩
          · have hc1I : ¬ (i : Int) < (n : Int) := by omega
            clear hc hin
            go_wp2_with fail
            refine (H1.out _).mono ?_
            rintro e w2 ⟨rfl, hb2⟩
            have HB2 := hide (HB.out.trans (hb2.mono HB.out.size))
            clear hb2 HB
            go_wp2_with fail
            refine (H2.out _).mono ?_
            rintro e w3 ⟨rfl, hb3⟩
            have HB3 := hide (HB2.out.trans (hb3.mono HB2.out.size))
            clear hb3 HB2
            go_wp2_with fail
            refine (HT2.out _).mono ?_
            rintro e w4 ⟨rfl, hb4⟩
            have HB4 := hide (HB3.out.trans (hb4.mono HB3.out.size))
            clear hb4 HB3
            go_wp2_with fail
            refine (HKK.out _).mono ?_
            rintro e w5 ⟨rfl, hb5⟩
            have HB5 := hide (HB4.out.trans (hb5.mono HB4.out.size))
            clear hb5 HB4
            go_wp2_with fail
            refine (HKK.out _).mono ?_
            rintro e w6 ⟨rfl, hb6⟩
            have HB6 := hide (HB5.out.trans (hb6.mono HB5.out.size))
            clear hb6 HB5
            go_wp2_with fail
            refine (lknown3_calls _).mono ?_
            rintro e w9 ⟨rfl, hb9⟩
            have HB9 := hide (HB6.out.trans (hb9.mono HB6.out.size))
            clear hb9 HB6
            go_wp2_with fail
            go_ret
            exact ⟨rfl, HB9.out⟩
end Go.Proofs.Ytjjpekgkaahpbaa
