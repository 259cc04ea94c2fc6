/- Chapter 1: octet's wide and Put, and the document's: both lay the same bytes down. -/
import Derived.Test.YtaiedfimdjdoaaaBuf
import Derived.Test.YtaiedfimdjdoaaaOctM
namespace Go.Proofs.Ytaiedfimdjdoaaa
open Go.RowKit Zb

theorem owide_calls (n : Int) (w : World) : Calls Try.prog 22 #[.int .i64 n] w fun e w' => e = .returned (.bool (wideB n)) ∧ w = w' := by
  by_cases h0 : 0 < n
  · by_cases h8 : n ≤ 8
    · have : n = 1 ∨ n = 2 ∨ n = 3 ∨ n = 4 ∨ n = 5 ∨ n = 6 ∨ n = 7 ∨ n = 8 := by omega
      clear h0 h8
      rcases this with rfl | rfl | rfl | rfl | rfl | rfl | rfl | rfl
      all_goals go_enter Try.func22, Try.ntmps22
      all_goals go_wp2_with fail
      all_goals go_ret
      all_goals exact ⟨rfl, rfl⟩
    · have e : wideB n = false := by simp [wideB]; omega
      rw [e]
      clear e
      go_enter Try.func22, Try.ntmps22
      go_wp2_with fail
      go_ret
      exact ⟨rfl, rfl⟩
  · have e : wideB n = false := by simp [wideB]; omega
    rw [e]
    clear e
    go_enter Try.func22, Try.ntmps22
    go_wp2_with fail
    go_ret
    exact ⟨rfl, rfl⟩
theorem rowide_calls (n : Int) (w : World) : Calls Try.prog 23 #[.int .i64 n] w fun e w' => e = .returned (.bool (wideB n)) ∧ w = w' := by
  by_cases h : wideB n = true
  · rcases wideB_cases h with rfl | rfl | rfl | rfl
    all_goals clear h
    all_goals go_enter Try.func23, Try.ntmps23
    all_goals go_wp2_with fail
    all_goals go_ret
    all_goals exact ⟨rfl, rfl⟩
  · have h1 : n ≠ 1 := by rintro rfl; simp [wideB] at h
    have h2 : n ≠ 2 := by rintro rfl; simp [wideB] at h
    have h4 : n ≠ 4 := by rintro rfl; simp [wideB] at h
    clear h
    go_enter Try.func23, Try.ntmps23
    go_wp2_with fail
    go_ret
    exact ⟨rfl, rfl⟩
theorem put_test (n : Int) (h0 : -9223372036854775808 ≤ n) (h1 : n < 9223372036854775808) (k : Nat) (hk : k = 1 ∨ k = 2 ∨ k = 4) : (IntKind.u64.wrap n / 2 ^ (8 * k) != 0) = !(decide (0 ≤ n) && decide (n < 256 ^ k)) := by
  rw [IntKind.wrap_u64, Bool.eq_iff_iff]
  rcases hk with rfl | rfl | rfl
  all_goals simp
  all_goals omega
theorem pow_256 (m : Nat) : (2 : Int) ^ (8 * m) = 256 ^ m := by rw [Int.pow_mul]; rfl
theorem leL_set (n : Int) (m k : Nat) (h : m < k) : (leL n m ++ List.replicate (k - m) 0).set m (octAt n m) = leL n (m + 1) ++ List.replicate (k - (m + 1)) 0 := by
  rw [show k - m = (k - (m + 1)) + 1 by omega, List.replicate_succ, List.set_append_right _ _ (by rw [leL_length]; omega), leL_length, Nat.sub_self, leL_succ]
  simp
theorem leL_len (n : Int) (m k : Nat) (h : m ≤ k) : (leL n m ++ List.replicate (k - m) 0).length = k := by simp [leL_length]; omega
def PutPost (n width : Int) (w : World) (e : Ending) (w' : World) : Prop := e = .returned (.tuple #[.string (putB n width), .int .i64 (putE n width)]) ∧ Below w.heap.size w w'

set_option maxRecDepth 100000 in
theorem oPut_calls (n : Int) (h0 : -9223372036854775808 ≤ n) (h1 : n < 9223372036854775808) (width : Int) (w : World) : Calls Try.prog 9 #[.int .i64 n, .int .i64 width] w (PutPost n width w) := by
  by_cases hok : putOk n width = true
  · have HOK := hide hok
    have hw : wideB width = true := by simp [putOk] at hok; exact hok.1
    have HW := hide hw
    obtain ⟨k, rfl, hk⟩ := wideB_nat hw
    have hk1 : 0 < k := by omega
    have hk8 : k ≤ 8 := by omega
    have hq : k < 8 → (IntKind.u64.wrap n / 2 ^ (8 * k) != 0) = false := by
      intro hlt
      rw [put_test n h0 h1 k (by omega)]
      simp only [putOk, hw, Bool.true_and, Bool.or_eq_true, beq_iff_eq, Int.toNat_natCast] at hok
      rcases hok with h | h
      · omega
      · rw [h]; rfl
    have hmk := fun W => make_row (P := Try.prog) 43 5 _ 1 Try.underlying43 binfo_u8 rfl .i64 .i64 k (by omega) (by omega) W
    have HB0 := hide (Buf.made (Below.refl w.heap.size w) k (by unfold maxLen; omega))
    clear hw hok
    go_enter Try.func9, Try.ntmps9
    go_wp2_with fail
    refine (owide_calls _ _).mono ?_
    rintro e w' ⟨rfl, rfl⟩
    rw [HW.out]
    by_cases h8 : k < 8
    case' pos => have hq := hq h8
    all_goals
      go_wp2_with fail
      go_loopw [28] (fun i wr => ∃ m : Nat, m ≤ k ∧ i = .int .i64 m ∧ Hid (Buf w wr (.slice (some ⟨w.heap.size, 0, none⟩) k k) (leL n m ++ List.replicate (k - m) 0))) (fun i _ => k - (intOf i).toNat)
      case atStart => exact ⟨0, Nat.zero_le _, rfl, HB0⟩
      case round =>
        obtain ⟨m, hm, rfl, hinv⟩ := hrel
        generalize hs0 : w.heap.size = q at *
        have hl := leL_len n m k hm
        have hinv2 : Hid (Buf w wr (.slice (some ⟨q, 0, none⟩) (leL n m ++ List.replicate (k - m) 0).length k) (leL n m ++ List.replicate (k - m) 0)) := by rw [hl]; exact hinv
        by_cases hlt : m < k
        · have hc := hinv2.out.cell m (by omega)
          have hf := hinv2.out.frozen m rfl
          have hst := hide (hinv2.out.set m (octAt n m))
          rw [leL_set n m k hlt, hl, octAt_toNat, ← pow_256] at hst
          generalize ((leL n m ++ List.replicate (k - m) 0)[m].toNat : Int) = xm at hc
          clear hl hinv2 hinv
          go_wp2_with fail
          go_roundw
          case rel => exact ⟨m + 1, by omega, by go_num, hst⟩
          case measure => simp [intOf]; omega
        · obtain rfl : m = k := by omega
          have hcv := hinv2.out.conv
          rw [hl] at hcv
          clear hl
          go_wp2_with fail
          go_ret2
          refine ⟨?_, by rw [hs0]; have := hinv2.out.bel; rw [hs0] at this; exact this⟩
          rw [putB, putE, if_pos HOK.out, if_pos HOK.out]
          rfl
  · have HOK := hide hok
    by_cases hw : wideB width = true
    · obtain ⟨k, rfl, hk⟩ := wideB_nat hw
      have HW := hide hw
      have h8 : k < 8 := by
        rcases Nat.lt_or_ge k 8 with h | h
        · exact h
        · have : k = 8 := by omega
          subst this
          simp [putOk, wideB] at hok
      have hq : (IntKind.u64.wrap n / 2 ^ (8 * k) != 0) = true := by
        rw [put_test n h0 h1 k (by omega)]
        simp only [putOk, hw, Bool.true_and, Bool.or_eq_true, beq_iff_eq, Int.toNat_natCast, not_or] at hok
        rw [Bool.eq_false_iff.2 hok.2]
        rfl
      clear hok hw
      go_enter Try.func9, Try.ntmps9
      go_wp2_with fail
      refine (owide_calls _ _).mono ?_
      rintro e w' ⟨rfl, rfl⟩
      rw [HW.out]
      go_wp2_with fail
      go_ret2
      exact ⟨by rw [putB, putE, if_neg HOK.out, if_neg HOK.out]; rfl, Below.refl _ _⟩
    · have HW := hide (Bool.eq_false_iff.2 hw)
      clear hok hw
      go_enter Try.func9, Try.ntmps9
      go_wp2_with fail
      refine (owide_calls _ _).mono ?_
      rintro e w' ⟨rfl, rfl⟩
      rw [HW.out]
      go_wp2_with fail
      go_ret2
      exact ⟨by rw [putB, putE, if_neg HOK.out, if_neg HOK.out]; rfl, Below.refl _ _⟩
end Go.Proofs.Ytaiedfimdjdoaaa
