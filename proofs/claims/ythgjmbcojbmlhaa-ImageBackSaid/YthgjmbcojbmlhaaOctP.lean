/- Numbers and texts laid down and read back: plain facts. No program's text. -/
import Derived.Test.YthgjmbcojbmlhaaOc1
namespace Go.Proofs.Ythgjmbcojbmlhaa
open Go.RowKit Zb

set_option maxRecDepth 20000 in
theorem putB_ok {n width : Int} (h : putOk n width = true) : ∃ k : Nat, width = k ∧ 0 < k ∧ k ≤ 8 ∧ putB n width = ⟨(leL n k).toArray⟩ := by
  have hw : wideB width = true := by simp [putOk] at h; exact h.1
  obtain ⟨k, rfl, hk⟩ := wideB_nat hw
  exact ⟨k, rfl, by omega, by omega, by rw [putB, if_pos h]; rfl⟩
set_option maxRecDepth 20000 in
theorem leB_size (n : Int) (k : Nat) : (⟨(leL n k).toArray⟩ : ByteArray).size = k := by
  show (leL n k).toArray.size = k
  rw [List.size_toArray, leL_length]
set_option maxRecDepth 20000 in
theorem cutL_mid (a s c : ByteArray) : cutL (a ++ s ++ c) a.size s.size = s.data.toList := by
  unfold cutL
  have : (a ++ s ++ c).data.toList = a.data.toList ++ (s.data.toList ++ c.data.toList) := by
    simp [ByteArray.data_append, Array.toList_append]
  rw [this]
  have h1 : a.size = a.data.toList.length := rfl
  have h2 : s.size = s.data.toList.length := rfl
  rw [h1, List.drop_left, h2, List.take_left]
set_option maxRecDepth 20000 in
theorem num_back {n : Int} (h0 : -9223372036854775808 ≤ n) (h1 : n < 9223372036854775808) {k : Nat} (h : putOk n k = true) : wrap64 (leN (leL n k) : Int) = n := by
  rw [leN_leL]
  simp only [putOk, Bool.and_eq_true, Bool.or_eq_true, beq_iff_eq, decide_eq_true_eq, Int.toNat_natCast] at h
  rcases h.2 with e | ⟨h2, h3⟩
  · have : k = 8 := by omega
    subst this
    rw [show (256 : Int) ^ 8 = 18446744073709551616 from rfl]
    unfold wrap64
    omega
  · rw [Int.emod_eq_of_lt h2 h3]
    unfold wrap64
    omega
set_option maxRecDepth 20000 in
theorem get_back {n : Int} (h0 : -9223372036854775808 ≤ n) (h1 : n < 9223372036854775808) {k : Nat} (h : putOk n k = true) (a c : ByteArray) (hw : wideB k = true) : getE (a ++ ⟨(leL n k).toArray⟩ ++ c) a.size k = 0 ∧ getN (a ++ ⟨(leL n k).toArray⟩ ++ c) a.size k = n := by
  have hz := leB_size n k
  have he : getE (a ++ ⟨(leL n k).toArray⟩ ++ c) a.size k = 0 := by
    unfold getE
    rw [if_neg (by rw [hw]; simp), if_neg]
    rw [ByteArray.size_append, ByteArray.size_append, hz]
    omega
  refine ⟨he, ?_⟩
  rw [getN_of he]
  have hc := cutL_mid a ⟨(leL n k).toArray⟩ c
  rw [hz] at hc
  rw [hc]
  exact num_back h0 h1 h
set_option maxRecDepth 20000 in
theorem textB_eq (t : ByteArray) (h : t.size ≤ 4294967295) : textB t = ⟨(leL t.size 4).toArray⟩ ++ t := by
  have hok : putOk t.size 4 = true := by
    simp only [putOk, wideB]
    simp
    omega
  rw [textB, putB, if_pos hok]
  rfl
set_option maxRecDepth 20000 in
theorem textB_size (t : ByteArray) (h : t.size ≤ 4294967295) : (textB t).size = 4 + t.size := by
  rw [textB_eq t h, ByteArray.size_append, leB_size]
set_option maxRecDepth 20000 in
theorem next_mid (A t C : ByteArray) (h : t.size ≤ 4294967295) : nextM (A ++ textB t ++ C) A.size = (t, (A.size : Int) + 4 + t.size, 0) := by
  have hok : putOk t.size (4 : Nat) = true := by
    simp only [putOk, wideB]
    simp
    omega
  have hg := get_back (n := t.size) (by omega) (by omega) hok A (t ++ C) (by decide)
  have e : A ++ ⟨(leL t.size 4).toArray⟩ ++ (t ++ C) = A ++ textB t ++ C := by
    rw [textB_eq t h]
    simp only [ByteArray.append_assoc]
  rw [e] at hg
  have h1 : getE (A ++ textB t ++ C) A.size 4 = 0 := hg.1
  have h2 : getN (A ++ textB t ++ C) A.size 4 = t.size := hg.2
  have hz : (A ++ textB t ++ C).size = A.size + (4 + t.size) + C.size := by rw [ByteArray.size_append, ByteArray.size_append, textB_size t h]
  rw [nextM, if_pos h1, h2, if_pos (by omega)]
  have hc : (A ++ textB t ++ C).extract (A.size + 4) (A.size + 4 + t.size) = t := by
    rw [textB_eq t h]
    apply ByteArray.ext
    simp only [ByteArray.data_extract, ByteArray.data_append]
    apply Array.ext'
    have e1 : A.size = A.data.toList.length := rfl
    have e2 : t.size = t.data.toList.length := rfl
    have e3 : (leL (t.size : Int) 4).length = 4 := leL_length _ _
    simp only [Array.toList_extract, Array.toList_append, List.extract_eq_take_drop]
    rw [show A.size + 4 + t.size - (A.size + 4) = t.data.toList.length by omega, show A.data.toList ++ (leL (t.size : Int) 4 ++ t.data.toList) ++ C.data.toList = (A.data.toList ++ leL (t.size : Int) 4) ++ (t.data.toList ++ C.data.toList) by simp]
    rw [show A.size + 4 = (A.data.toList ++ leL (t.size : Int) 4).length by rw [List.length_append, e3]; omega, List.drop_left, List.take_left]
  rw [show ((A.size : Int) + 4).toNat = A.size + 4 by omega, show ((A.size : Int) + 4 + t.size).toNat = A.size + 4 + t.size by omega, hc]
end Go.Proofs.Ythgjmbcojbmlhaa
