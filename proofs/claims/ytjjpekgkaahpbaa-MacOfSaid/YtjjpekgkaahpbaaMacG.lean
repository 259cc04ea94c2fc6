/- Chapter 3: MacOf, MacRight, MacForm come to true. -/
import Derived.Test.YtjjpekgkaahpbaaMacF
import Derived.OpenShut
namespace Go.Proofs.Ytjjpekgkaahpbaa
open Go.RowKit Zb

theorem bytes_ne {n m : ByteArray} (h : n ≠ m) : (¬ n.toList = m.toList) ∧ (n.toList == m.toList) = false := by
  have h1 : ¬ n.toList = m.toList := by
    intro e
    rw [ByteArray.toList_eq, ByteArray.toList_eq] at e
    exact h (ByteArray.ext (Array.toList_inj.1 e))
  exact ⟨h1, by simpa using h1⟩
set_option maxRecDepth 20000 in
set_option maxHeartbeats 2000000 in
theorem MacOf_walk (k s : ByteArray) (w : World) (_ : k.size ≤ 140737488351232) (_ : s.size ≤ 140737488351232) : Calls Try.prog 3 #[.string k, .string s] w fun e w' => e = .returned (.bool true) ∧ Below w.heap.size w w' := by
  by_cases hk : 500 < k.size
  · have hkI : (500 : Int) < (k.size : Int) := by omega
    clear hk
    go_enter Try.func3, Try.ntmps3
    go_wp2_with fail
    refine (lknown3_calls _).mono ?_
    rintro e w9 ⟨rfl, hb9⟩
    have HB9 := hide (hb9)
    clear hb9
    go_wp2_with fail
    go_ret
    exact ⟨rfl, HB9.out⟩
  · have hkI : (k.size : Int) ≤ 500 := by omega
    have hkN : k.size ≤ 500 := by omega
    clear hk
    by_cases hs : 1000 < s.size
    · have hsI : (1000 : Int) < (s.size : Int) := by omega
      clear hs
      go_enter Try.func3, Try.ntmps3
      go_wp2_with fail
      refine (lknown3_calls _).mono ?_
      rintro e w9 ⟨rfl, hb9⟩
      have HB9 := hide (hb9)
      clear hb9
      go_wp2_with fail
      go_ret
      exact ⟨rfl, HB9.out⟩
    · have hsI : (s.size : Int) ≤ 1000 := by omega
      have hsN : s.size ≤ 1000 := by omega
      clear hs
      have h1 := hide (mOf_macB k s (by omega) (by omega))
      have h2 := hide (rmOf_calls k s (by omega) (by omega))
      have h3 := hide (mKey_keyB k (by omega))
      have h4 := hide (rmKey_keyB k (by omega))
      generalize macB k s = m at *
      generalize keyB k = kk at *
      go_enter Try.func3, Try.ntmps3
      go_wp2_with fail
      refine (h1.out _).mono ?_
      rintro e w1 ⟨rfl, hb1⟩
      have HB1 := hide (hb1)
      clear hb1
      go_wp2_with fail
      refine (h2.out _).mono ?_
      rintro e w2 ⟨rfl, hb2⟩
      have HB2 := hide (HB1.out.trans (hb2.mono HB1.out.size))
      clear hb2 HB1
      go_wp2_with fail
      refine (h3.out _).mono ?_
      rintro e w3 ⟨rfl, hb3⟩
      have HB3 := hide (HB2.out.trans (hb3.mono HB2.out.size))
      clear hb3 HB2
      go_wp2_with fail
      refine (h4.out _).mono ?_
      rintro e w4 ⟨rfl, hb4⟩
      have HB4 := hide (HB3.out.trans (hb4.mono HB3.out.size))
      clear hb4 HB3
      go_wp2_with fail
      refine (lknown3_calls _).mono ?_
      rintro e w9 ⟨rfl, hb9⟩
      have HB9 := hide (HB4.out.trans (hb9.mono HB4.out.size))
      clear hb9 HB4
      go_wp2_with fail
      go_ret
      exact ⟨rfl, HB9.out⟩
set_option maxRecDepth 20000 in
set_option maxHeartbeats 2000000 in
theorem MacRight_walk (k s t : ByteArray) (w : World) (_ : k.size ≤ 140737488351232) (_ : s.size ≤ 140737488351232) (_ : t.size ≤ 140737488351232) : Calls Try.prog 4 #[.string k, .string s, .string t] w fun e w' => e = .returned (.bool true) ∧ Below w.heap.size w w' := by
  by_cases hk : 500 < k.size
  · have hkI : (500 : Int) < (k.size : Int) := by omega
    clear hk
    go_enter Try.func4, Try.ntmps4
    go_wp2_with fail
    refine (lknown3_calls _).mono ?_
    rintro e w9 ⟨rfl, hb9⟩
    have HB9 := hide (hb9)
    clear hb9
    go_wp2_with fail
    go_ret
    exact ⟨rfl, HB9.out⟩
  · have hkI : (k.size : Int) ≤ 500 := by omega
    have hkN : k.size ≤ 500 := by omega
    clear hk
    by_cases hs : 1000 < s.size
    · have hsI : (1000 : Int) < (s.size : Int) := by omega
      clear hs
      go_enter Try.func4, Try.ntmps4
      go_wp2_with fail
      refine (lknown3_calls _).mono ?_
      rintro e w9 ⟨rfl, hb9⟩
      have HB9 := hide (hb9)
      clear hb9
      go_wp2_with fail
      go_ret
      exact ⟨rfl, HB9.out⟩
    · have hsI : (s.size : Int) ≤ 1000 := by omega
      have hsN : s.size ≤ 1000 := by omega
      clear hs
      by_cases ht : 1000 < t.size
      · have htI : (1000 : Int) < (t.size : Int) := by omega
        clear ht
        go_enter Try.func4, Try.ntmps4
        go_wp2_with fail
        refine (lknown3_calls _).mono ?_
        rintro e w9 ⟨rfl, hb9⟩
        have HB9 := hide (hb9)
        clear hb9
        go_wp2_with fail
        go_ret
        exact ⟨rfl, HB9.out⟩
      · have htI : (t.size : Int) ≤ 1000 := by omega
        have htN : t.size ≤ 1000 := by omega
        clear ht
        by_cases hq : t = macB k s
        · have h1 := hide (mRight_calls k s t (by omega) (by omega))
          have h2 := hide (rmOf_calls k s (by omega) (by omega))
          have h3 := hide (mRight_calls k s (macB k s) (by omega) (by omega))
          have hd : Hid (decide (macB k s = macB k s) = true) := hide (by simp)
          generalize macB k s = m at *
          subst hq
          go_enter Try.func4, Try.ntmps4
          go_wp2_with fail
          refine (h1.out _).mono ?_
          rintro e w1 ⟨rfl, hb1⟩
          have HB1 := hide (hb1)
          clear hb1
          rw [hd.out]
          go_wp2_with fail
          refine (h2.out _).mono ?_
          rintro e w2 ⟨rfl, hb2⟩
          have HB2 := hide (HB1.out.trans (hb2.mono HB1.out.size))
          clear hb2 HB1
          go_wp2_with fail
          refine (h2.out _).mono ?_
          rintro e w3 ⟨rfl, hb3⟩
          have HB3 := hide (HB2.out.trans (hb3.mono HB2.out.size))
          clear hb3 HB2
          go_wp2_with fail
          refine (h3.out _).mono ?_
          rintro e w4 ⟨rfl, hb4⟩
          have HB4 := hide (HB3.out.trans (hb4.mono HB3.out.size))
          clear hb4 HB3
          rw [hd.out]
          go_wp2_with fail
          refine (lknown3_calls _).mono ?_
          rintro e w9 ⟨rfl, hb9⟩
          have HB9 := hide (HB4.out.trans (hb9.mono HB4.out.size))
          clear hb9 HB4
          go_wp2_with fail
          go_ret
          exact ⟨rfl, HB9.out⟩
        · have h1 := hide (mRight_calls k s t (by omega) (by omega))
          have h2 := hide (rmOf_calls k s (by omega) (by omega))
          have h3 := hide (mRight_calls k s (macB k s) (by omega) (by omega))
          have hd : Hid (decide (macB k s = macB k s) = true) := hide (by simp)
          generalize macB k s = m at *
          have hd2 : Hid (decide (t = m) = false) := hide (by simpa using hq)
          obtain ⟨n1, n2⟩ := bytes_ne hq
          go_enter Try.func4, Try.ntmps4
          go_wp2_with fail
          refine (h1.out _).mono ?_
          rintro e w1 ⟨rfl, hb1⟩
          have HB1 := hide (hb1)
          clear hb1
          rw [hd2.out]
          go_wp2_with fail
          refine (h2.out _).mono ?_
          rintro e w2 ⟨rfl, hb2⟩
          have HB2 := hide (HB1.out.trans (hb2.mono HB1.out.size))
          clear hb2 HB1
          go_wp2_with fail
          refine (h2.out _).mono ?_
          rintro e w3 ⟨rfl, hb3⟩
          have HB3 := hide (HB2.out.trans (hb3.mono HB2.out.size))
          clear hb3 HB2
          go_wp2_with fail
          refine (h3.out _).mono ?_
          rintro e w4 ⟨rfl, hb4⟩
          have HB4 := hide (HB3.out.trans (hb4.mono HB3.out.size))
          clear hb4 HB3
          rw [hd.out]
          go_wp2_with fail
          refine (lknown3_calls _).mono ?_
          rintro e w9 ⟨rfl, hb9⟩
          have HB9 := hide (HB4.out.trans (hb9.mono HB4.out.size))
          clear hb9 HB4
          go_wp2_with fail
          go_ret
          exact ⟨rfl, HB9.out⟩
set_option maxRecDepth 20000 in
set_option maxHeartbeats 2000000 in
theorem MacForm_walk (k s : ByteArray) (w : World) (_ : k.size ≤ 140737488351232) (_ : s.size ≤ 140737488351232) : Calls Try.prog 7 #[.string k, .string s] w fun e w' => e = .returned (.bool true) ∧ Below w.heap.size w w' := by
  by_cases hk : 500 < k.size
  · have hkI : (500 : Int) < (k.size : Int) := by omega
    clear hk
    go_enter Try.func7, Try.ntmps7
    go_wp2_with fail
    refine (lknown3_calls _).mono ?_
    rintro e w9 ⟨rfl, hb9⟩
    have HB9 := hide (hb9)
    clear hb9
    go_wp2_with fail
    go_ret
    exact ⟨rfl, HB9.out⟩
  · have hkI : (k.size : Int) ≤ 500 := by omega
    have hkN : k.size ≤ 500 := by omega
    clear hk
    by_cases hs : 1000 < s.size
    · have hsI : (1000 : Int) < (s.size : Int) := by omega
      clear hs
      go_enter Try.func7, Try.ntmps7
      go_wp2_with fail
      refine (lknown3_calls _).mono ?_
      rintro e w9 ⟨rfl, hb9⟩
      have HB9 := hide (hb9)
      clear hb9
      go_wp2_with fail
      go_ret
      exact ⟨rfl, HB9.out⟩
    · have hsI : (s.size : Int) ≤ 1000 := by omega
      have hsN : s.size ≤ 1000 := by omega
      clear hs
      have HK := hide (mKey_keyB k (by omega))
      have HO := hide (mOf_macB k s (by omega) (by omega))
      have HKS := hide (keyB_size k)
      have HM := hide (macB_eq k s)
      generalize macB k s = m at *
      generalize keyB k = kk at *
      have HM1 := hide (lmix92 kk (by rw [HKS.out]; omega) (by rw [HKS.out]; omega))
      have HM2 := hide (lmix54 kk (by rw [HKS.out]; omega) (by rw [HKS.out]; omega))
      have HS1 := hide (mixB_size kk 0x5c)
      have HS2 := hide (mixB_size kk 0x36)
      generalize mixB kk 0x5c = P1 at *
      generalize mixB kk 0x36 = P2 at *
      have hP1 : P1.size ≤ 64 := by rw [HS1.out, HKS.out]; omega
      have hP2 : P2.size ≤ 64 := by rw [HS2.out, HKS.out]; omega
      obtain ⟨X, hX⟩ : ∃ X : ByteArray, P2 ++ s = X := ⟨_, rfl⟩
      have HXS : Hid (X.size ≤ 50000000000) := hide (by rw [← hX, ByteArray.size_append]; omega)
      have HD := hide (gOf_digB X HXS.out)
      have HDS := hide (digB_size X)
      rw [hX] at HM
      have HXE := hide hX
      clear hX
      go_enter Try.func7, Try.ntmps7
      go_wp2_with fail
      refine (HK.out _).mono ?_
      rintro e w1 ⟨rfl, hb1⟩
      have HB1 := hide (hb1)
      clear hb1
      go_wp2_with fail
      refine (HO.out _).mono ?_
      rintro e w2 ⟨rfl, hb2⟩
      have HB2 := hide (HB1.out.trans (hb2.mono HB1.out.size))
      clear hb2 HB1
      go_wp2_with fail
      refine (HM1.out _).mono ?_
      rintro e w3 ⟨rfl, hb3⟩
      have HB3 := hide (HB2.out.trans (hb3.mono HB2.out.size))
      clear hb3 HB2
      go_wp2_with fail
      refine (HM2.out _).mono ?_
      rintro e w4 ⟨rfl, hb4⟩
      have HB4 := hide (HB3.out.trans (hb4.mono HB3.out.size))
      clear hb4 HB3
      have hX := HXE.out
      go_wp2_with fail
      refine (HD.out _).mono ?_
      rintro e w5 ⟨rfl, hb5⟩
      have HB5 := hide (HB4.out.trans (hb5.mono HB4.out.size))
      clear hb5 HB4 hX
      generalize digB X = D at *
      have hDs : D.size ≤ 32 := by rw [HDS.out]; omega
      obtain ⟨Y, hY⟩ : ∃ Y : ByteArray, P1 ++ D = Y := ⟨_, rfl⟩
      have HYS : Hid (Y.size ≤ 50000000000) := hide (by rw [← hY, ByteArray.size_append]; omega)
      rw [hY] at HM
      go_wp2_with fail
      refine (gOf_digB Y HYS.out _).mono ?_
      rintro e w6 ⟨rfl, hb6⟩
      have HB6 := hide (HB5.out.trans (hb6.mono HB5.out.size))
      clear hb6 HB5 hY
      rw [HM.out]
      go_wp2_with fail
      refine (lknown3_calls _).mono ?_
      rintro e w9 ⟨rfl, hb9⟩
      have HB9 := hide (HB6.out.trans (hb9.mono HB6.out.size))
      clear hb9 HB6
      go_wp2_with fail
      go_ret
      exact ⟨rfl, HB9.out⟩
end Go.Proofs.Ytjjpekgkaahpbaa
