/- Chapter 1: OctetBack comes to true. -/
import Derived.Test.YtaiedfimdjdoaaaOctN
namespace Go.Proofs.Ytaiedfimdjdoaaa
open Go.RowKit Zb

theorem cutL_mid (a s c : ByteArray) : cutL (a ++ s ++ c) a.size s.size = s.data.toList := by
  unfold cutL
  have : (a ++ s ++ c).data.toList = a.data.toList ++ (s.data.toList ++ c.data.toList) := by
    simp [ByteArray.data_append, Array.toList_append]
  rw [this]
  have h1 : a.size = a.data.toList.length := rfl
  have h2 : s.size = s.data.toList.length := rfl
  rw [h1, List.drop_left, h2, List.take_left]
theorem num_back {n : Int} (h0 : -9223372036854775808 ≤ n) (h1 : n < 9223372036854775808) {k : Nat} (h : putOk n k = true) : wrap64 (leN (leL n k) : Int) = n := by
  rw [leN_leL]
  simp only [putOk, Bool.and_eq_true, Bool.or_eq_true, beq_iff_eq, decide_eq_true_eq, Int.toNat_natCast] at h
  rcases h.2 with e | ⟨h2, h3⟩
  · have : k = 8 := by omega
    subst this
    rw [show (256 : Int) ^ 8 = 18446744073709551616 from rfl]
    unfold wrap64
    omega
  · rw [Int.emod_eq_of_lt h2 h3]
    unfold wrap64
    omega
theorem get_back {n : Int} (h0 : -9223372036854775808 ≤ n) (h1 : n < 9223372036854775808) {k : Nat} (h : putOk n k = true) (a c : ByteArray) (hw : wideB k = true) : getE (a ++ ⟨(leL n k).toArray⟩ ++ c) a.size k = 0 ∧ getN (a ++ ⟨(leL n k).toArray⟩ ++ c) a.size k = n := by
  have hz := leB_size n k
  have he : getE (a ++ ⟨(leL n k).toArray⟩ ++ c) a.size k = 0 := by
    unfold getE
    rw [if_neg (by rw [hw]; simp), if_neg]
    rw [ByteArray.size_append, ByteArray.size_append, hz]
    omega
  refine ⟨he, ?_⟩
  rw [getN_of he]
  have hc := cutL_mid a ⟨(leL n k).toArray⟩ c
  rw [hz] at hc
  rw [hc]
  exact num_back h0 h1 h
theorem get_late {n : Int} {k : Nat} (_hk : 0 < k) (a : ByteArray) (hw : wideB k = true) : getE (a ++ ⟨(leL n k).toArray⟩) ((a.size : Int) + 1) k = 2 := by
  have hz := leB_size n k
  unfold getE
  rw [if_neg (by rw [hw]; simp; omega), if_pos]
  rw [ByteArray.size_append, hz]
  omega

set_option maxRecDepth 100000 in
set_option maxHeartbeats 1000000 in
theorem OctetBack_walk (a : ByteArray) (n width : Int) (c : ByteArray) (w : World) (_ : a.size ≤ maxLen) (wn : (Lit.int .i64 n).wf = true) (_ : (Lit.int .i64 width).wf = true) (_ : c.size ≤ maxLen) :
    Calls Try.prog 6 #[.agg #[.string a, .int .i64 n, .int .i64 width, .string c]] w fun e w' => e = .returned (.bool true) ∧ Below w.heap.size w w' := by
  have h := bounds_i64 wn
  have h0 : -9223372036854775808 ≤ n := by omega
  have h1 : n < 9223372036854775808 := by omega
  have H1 := hide (oPut_calls n h0 h1 width)
  have HN := hide (And.intro h0 h1)
  have T0 := hide ((Below.refl w.heap.size w).alloc (Nat.le_refl _) (.cells #[.string a, .int .i64 n, .int .i64 width, .string c] 36))
  clear h wn h0 h1
  by_cases ha : 5000 < a.size
  · go_enter Try.func6, Try.ntmps6
    go_wp2_with fail
    refine (lknown1_calls _).mono ?_
    rintro e w3 ⟨rfl, hb3⟩
    have T3 := hide (T0.out.trans (hb3.mono T0.out.size))
    clear hb3
    go_wp2_with fail
    go_ret
    exact ⟨rfl, T3.out⟩
  · by_cases hc : 5000 < c.size
    · go_enter Try.func6, Try.ntmps6
      go_wp2_with fail
      refine (lknown1_calls _).mono ?_
      rintro e w3 ⟨rfl, hb3⟩
      have T3 := hide (T0.out.trans (hb3.mono T0.out.size))
      clear hb3
      go_wp2_with fail
      go_ret
      exact ⟨rfl, T3.out⟩
    · by_cases hok : putOk n width = true
      · obtain ⟨k, rfl, hk0, hk8, hput⟩ := putB_ok hok
        have HE := hide (show putE n k = 0 by rw [putE, if_pos hok])
        obtain ⟨s, HS⟩ : ∃ s, Hid (putB n k = s) := ⟨_, hide rfl⟩
        have S0 : Hid (s = ⟨(leL n k).toArray⟩) := hide (by rw [← HS.out, hput])
        have hss : s.size = k := by rw [S0.out, leB_size]
        have hw : wideB k = true := by simp [putOk] at hok; exact hok.1
        have G1 := hide (get_back HN.out.1 HN.out.2 hok a c hw)
        have G2 := hide (get_late (n := n) hk0 a hw)
        rw [← S0.out] at G1 G2
        have hs1 : (a ++ s ++ c).size ≤ 140737488351232 := by rw [ByteArray.size_append, ByteArray.size_append]; omega
        have hs2 : (a ++ s).size ≤ 140737488351232 := by rw [ByteArray.size_append]; omega
        have C1 := hide (oGet_calls _ hs1 a.size k (by omega) (by omega))
        have C2 := hide (oGet_calls _ hs2 ((a.size : Int) + 1) k (by omega) (by omega))
        have hsz : s.size ≤ 8 := by omega
        have hse : ((s.size : Int) == (k : Int)) = true := by simp; omega
        have HSS := hide hss
        clear hok hput hw hs1 hs2 hss
        have K0 := (Blk.new w 36 #[.string a, .int .i64 n, .int .i64 (k : Int), .string c])
        go_enter Try.func6, Try.ntmps6
        go_wp2_with fail
        refine (H1.out _).mono ?_
        rintro e w1 ⟨rfl, hb1⟩
        rw [HE.out, HS.out]
        have T1 := hide (T0.out.trans (hb1.mono T0.out.size))
        clear hb1
        go_wp2_with fail
        refine (C1.out _).mono ?_
        rintro e w2 ⟨rfl, rfl⟩
        rw [G1.out.1, G1.out.2]
        go_wp2_with fail
        refine (C2.out _).mono ?_
        rintro e w2 ⟨rfl, rfl⟩
        rw [G2.out]
        go_wp2_with fail
        refine (lknown1_calls _).mono ?_
        rintro e w3 ⟨rfl, hb3⟩
        have T3 := hide (T1.out.trans (hb3.mono T1.out.size))
        clear hb3
        go_wp2_with fail
        go_ret
        exact ⟨rfl, T3.out⟩
      · have HE := hide (show putE n width = 1 by rw [putE, if_neg hok])
        have HS := hide (show putB n width = ⟨#[]⟩ by rw [putB, if_neg hok])
        clear hok
        go_enter Try.func6, Try.ntmps6
        go_wp2_with fail
        refine (H1.out _).mono ?_
        rintro e w1 ⟨rfl, hb1⟩
        rw [HE.out, HS.out]
        have T1 := hide (T0.out.trans (hb1.mono T0.out.size))
        clear hb1
        go_wp2_with fail
        refine (lknown1_calls _).mono ?_
        rintro e w3 ⟨rfl, hb3⟩
        have T3 := hide (T1.out.trans (hb3.mono T1.out.size))
        clear hb3
        go_wp2_with fail
        go_ret
        exact ⟨rfl, T3.out⟩
end Go.Proofs.Ytaiedfimdjdoaaa
