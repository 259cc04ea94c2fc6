/- Chapter 1: the document's Put. -/
import Derived.Test.YtaiedfimdjdoaaaOctA
namespace Go.Proofs.Ytaiedfimdjdoaaa
open Go.RowKit Zb

theorem low_byte (n : Int) (m : Nat) (h : m < 8) : n % 18446744073709551616 / 256 ^ m % 256 = n / 256 ^ m % 256 := by
  have : m = 0 ∨ m = 1 ∨ m = 2 ∨ m = 3 ∨ m = 4 ∨ m = 5 ∨ m = 6 ∨ m = 7 := by omega
  rcases this with rfl | rfl | rfl | rfl | rfl | rfl | rfl | rfl
  all_goals omega
theorem pow_next (n : Int) (m : Nat) : n % 18446744073709551616 / 256 ^ m / 256 = n % 18446744073709551616 / 256 ^ (m + 1) := by
  rw [Int.pow_succ, Int.ediv_ediv_of_nonneg (Int.pow_nonneg (by omega))]

set_option maxRecDepth 100000 in
set_option maxHeartbeats 1000000 in
theorem roPut_calls (n : Int) (h0 : -9223372036854775808 ≤ n) (h1 : n < 9223372036854775808) (width : Int) (w : World) : Calls Try.prog 10 #[.int .i64 n, .int .i64 width] w (PutPost n width w) := by
  by_cases hw : wideB width = true
  · have hk := wideB_cases hw
    have HW := hide hw
    by_cases hok : putOk n width = true
    · have HOK := hide hok
      have hA : width = 1 → 0 ≤ n ∧ n ≤ 255 := by rintro rfl; simp [putOk, wideB] at hok; omega
      have hB : width = 2 → 0 ≤ n ∧ n ≤ 65535 := by rintro rfl; simp [putOk, wideB] at hok; omega
      have hC : width = 4 → 0 ≤ n ∧ n ≤ 4294967295 := by rintro rfl; simp [putOk, wideB] at hok; omega
      clear hw hok
      have HB0 := fun {o} => hide (Buf.nil (Below.alloc (Below.refl w.heap.size w) (Nat.le_refl _) o))
      have hn0 : 0 ≤ IntKind.u64.wrap n ∧ IntKind.u64.wrap n = n % 18446744073709551616 := by rw [IntKind.wrap_u64]; omega
      rcases hk with rfl | rfl | rfl | rfl
      · obtain ⟨hl0, hl1⟩ := hA rfl
        clear hA hB hC
        have hng : decide (n < 0) = false := by simp; omega
        go_enter Try.func10, Try.ntmps10
        go_wp2_with fail
        refine (rowide_calls _ _).mono ?_
        rintro e w' ⟨rfl, rfl⟩
        rw [HW.out]
        go_wp2_with fail
        go_loopw [7, 8, 9] (fun v u i wr => ∃ m : Nat, m ≤ 1 ∧ i = .int .i64 m ∧ u = .int .u64 (n % 18446744073709551616 / 256 ^ m) ∧ Hid (Buf w wr v (leL n m))) (fun _ _ i _ => 1 - (intOf i).toNat)
        case atStart => exact ⟨0, Nat.zero_le _, rfl, by simp, HB0⟩
        case round =>
          obtain ⟨m, hm, rfl, rfl, hinv⟩ := hrel
          by_cases hlt : m < 1
          · have hx0 : 0 ≤ n % 18446744073709551616 / 256 ^ m := Int.ediv_nonneg (by omega) (Int.pow_nonneg (by omega))
            have hx1 := octAt_toNat n m
            rw [← low_byte n m (by omega)] at hx1
            have hx2 := pow_next n m
            have hx3 := leL_succ n m
            have hx4 := leL_length n m
            have HX := hide (And.intro hx1 (And.intro hx2 (And.intro hx3 hx4)))
            clear hx1 hx2 hx3 hx4
            have hx9 : n % 18446744073709551616 / 256 ^ m ≤ 18446744073709551615 := Int.le_trans (Int.ediv_le_self _ (by omega)) (by omega)
            generalize n % 18446744073709551616 / 256 ^ m = x at *
            go_wp2_with (at_builtin; refine buf_app rfl (.tmp 35) (.tmp 39) rfl hinv #[.int .u8 (x % 256)] [octAt n m] 1 rfl rfl (by rw [← HX.out.1]; rfl) (by rw [HX.out.2.2.2]; simp; omega) ?_; intro v' w' hb' hg'; rw [← HX.out.2.2.1] at hb'; clear hg')
            go_roundw
            case rel => exact ⟨m + 1, by omega, by go_num, by rw [HX.out.2.1], ‹_›⟩
            case measure => simp [intOf]; omega
          · obtain rfl : m = 1 := by omega
            have hcv := hinv.out.conv
            go_wp2_with fail
            go_ret2
            refine ⟨?_, hinv.out.bel⟩
            rw [putB, putE, if_pos HOK.out, if_pos HOK.out]
            rfl
      · obtain ⟨hl0, hl1⟩ := hB rfl
        clear hA hB hC
        have hng : decide (n < 0) = false := by simp; omega
        go_enter Try.func10, Try.ntmps10
        go_wp2_with fail
        refine (rowide_calls _ _).mono ?_
        rintro e w' ⟨rfl, rfl⟩
        rw [HW.out]
        go_wp2_with fail
        go_loopw [7, 8, 9] (fun v u i wr => ∃ m : Nat, m ≤ 2 ∧ i = .int .i64 m ∧ u = .int .u64 (n % 18446744073709551616 / 256 ^ m) ∧ Hid (Buf w wr v (leL n m))) (fun _ _ i _ => 2 - (intOf i).toNat)
        case atStart => exact ⟨0, Nat.zero_le _, rfl, by simp, HB0⟩
        case round =>
          obtain ⟨m, hm, rfl, rfl, hinv⟩ := hrel
          by_cases hlt : m < 2
          · have hx0 : 0 ≤ n % 18446744073709551616 / 256 ^ m := Int.ediv_nonneg (by omega) (Int.pow_nonneg (by omega))
            have hx1 := octAt_toNat n m
            rw [← low_byte n m (by omega)] at hx1
            have hx2 := pow_next n m
            have hx3 := leL_succ n m
            have hx4 := leL_length n m
            have HX := hide (And.intro hx1 (And.intro hx2 (And.intro hx3 hx4)))
            clear hx1 hx2 hx3 hx4
            have hx9 : n % 18446744073709551616 / 256 ^ m ≤ 18446744073709551615 := Int.le_trans (Int.ediv_le_self _ (by omega)) (by omega)
            generalize n % 18446744073709551616 / 256 ^ m = x at *
            go_wp2_with (at_builtin; refine buf_app rfl (.tmp 35) (.tmp 39) rfl hinv #[.int .u8 (x % 256)] [octAt n m] 1 rfl rfl (by rw [← HX.out.1]; rfl) (by rw [HX.out.2.2.2]; simp; omega) ?_; intro v' w' hb' hg'; rw [← HX.out.2.2.1] at hb'; clear hg')
            go_roundw
            case rel => exact ⟨m + 1, by omega, by go_num, by rw [HX.out.2.1], ‹_›⟩
            case measure => simp [intOf]; omega
          · obtain rfl : m = 2 := by omega
            have hcv := hinv.out.conv
            go_wp2_with fail
            go_ret2
            refine ⟨?_, hinv.out.bel⟩
            rw [putB, putE, if_pos HOK.out, if_pos HOK.out]
            rfl
      · obtain ⟨hl0, hl1⟩ := hC rfl
        clear hA hB hC
        have hng : decide (n < 0) = false := by simp; omega
        go_enter Try.func10, Try.ntmps10
        go_wp2_with fail
        refine (rowide_calls _ _).mono ?_
        rintro e w' ⟨rfl, rfl⟩
        rw [HW.out]
        go_wp2_with fail
        go_loopw [7, 8, 9] (fun v u i wr => ∃ m : Nat, m ≤ 4 ∧ i = .int .i64 m ∧ u = .int .u64 (n % 18446744073709551616 / 256 ^ m) ∧ Hid (Buf w wr v (leL n m))) (fun _ _ i _ => 4 - (intOf i).toNat)
        case atStart => exact ⟨0, Nat.zero_le _, rfl, by simp, HB0⟩
        case round =>
          obtain ⟨m, hm, rfl, rfl, hinv⟩ := hrel
          by_cases hlt : m < 4
          · have hx0 : 0 ≤ n % 18446744073709551616 / 256 ^ m := Int.ediv_nonneg (by omega) (Int.pow_nonneg (by omega))
            have hx1 := octAt_toNat n m
            rw [← low_byte n m (by omega)] at hx1
            have hx2 := pow_next n m
            have hx3 := leL_succ n m
            have hx4 := leL_length n m
            have HX := hide (And.intro hx1 (And.intro hx2 (And.intro hx3 hx4)))
            clear hx1 hx2 hx3 hx4
            have hx9 : n % 18446744073709551616 / 256 ^ m ≤ 18446744073709551615 := Int.le_trans (Int.ediv_le_self _ (by omega)) (by omega)
            generalize n % 18446744073709551616 / 256 ^ m = x at *
            go_wp2_with (at_builtin; refine buf_app rfl (.tmp 35) (.tmp 39) rfl hinv #[.int .u8 (x % 256)] [octAt n m] 1 rfl rfl (by rw [← HX.out.1]; rfl) (by rw [HX.out.2.2.2]; simp; omega) ?_; intro v' w' hb' hg'; rw [← HX.out.2.2.1] at hb'; clear hg')
            go_roundw
            case rel => exact ⟨m + 1, by omega, by go_num, by rw [HX.out.2.1], ‹_›⟩
            case measure => simp [intOf]; omega
          · obtain rfl : m = 4 := by omega
            have hcv := hinv.out.conv
            go_wp2_with fail
            go_ret2
            refine ⟨?_, hinv.out.bel⟩
            rw [putB, putE, if_pos HOK.out, if_pos HOK.out]
            rfl
      · clear hA hB hC
        go_enter Try.func10, Try.ntmps10
        go_wp2_with fail
        refine (rowide_calls _ _).mono ?_
        rintro e w' ⟨rfl, rfl⟩
        rw [HW.out]
        go_wp2_with fail
        go_loopw [7, 8, 9] (fun v u i wr => ∃ m : Nat, m ≤ 8 ∧ i = .int .i64 m ∧ u = .int .u64 (n % 18446744073709551616 / 256 ^ m) ∧ Hid (Buf w wr v (leL n m))) (fun _ _ i _ => 8 - (intOf i).toNat)
        case atStart => exact ⟨0, Nat.zero_le _, rfl, by simp, HB0⟩
        case round =>
          obtain ⟨m, hm, rfl, rfl, hinv⟩ := hrel
          by_cases hlt : m < 8
          · have hx0 : 0 ≤ n % 18446744073709551616 / 256 ^ m := Int.ediv_nonneg (by omega) (Int.pow_nonneg (by omega))
            have hx1 := octAt_toNat n m
            rw [← low_byte n m (by omega)] at hx1
            have hx2 := pow_next n m
            have hx3 := leL_succ n m
            have hx4 := leL_length n m
            have HX := hide (And.intro hx1 (And.intro hx2 (And.intro hx3 hx4)))
            clear hx1 hx2 hx3 hx4
            have hx9 : n % 18446744073709551616 / 256 ^ m ≤ 18446744073709551615 := Int.le_trans (Int.ediv_le_self _ (by omega)) (by omega)
            generalize n % 18446744073709551616 / 256 ^ m = x at *
            go_wp2_with (at_builtin; refine buf_app rfl (.tmp 35) (.tmp 39) rfl hinv #[.int .u8 (x % 256)] [octAt n m] 1 rfl rfl (by rw [← HX.out.1]; rfl) (by rw [HX.out.2.2.2]; simp; omega) ?_; intro v' w' hb' hg'; rw [← HX.out.2.2.1] at hb'; clear hg')
            go_roundw
            case rel => exact ⟨m + 1, by omega, by go_num, by rw [HX.out.2.1], ‹_›⟩
            case measure => simp [intOf]; omega
          · obtain rfl : m = 8 := by omega
            have hcv := hinv.out.conv
            go_wp2_with fail
            go_ret2
            refine ⟨?_, hinv.out.bel⟩
            rw [putB, putE, if_pos HOK.out, if_pos HOK.out]
            rfl
    · have HOK := hide hok
      have h8 : width ≠ 8 := by rintro rfl; simp [putOk, wideB] at hok
      have hA : width = 1 → n < 0 ∨ 256 ≤ n := by rintro rfl; simp [putOk, wideB] at hok; omega
      have hB : width = 2 → n < 0 ∨ 65536 ≤ n := by rintro rfl; simp [putOk, wideB] at hok; omega
      have hC : width = 4 → n < 0 ∨ 4294967296 ≤ n := by rintro rfl; simp [putOk, wideB] at hok; omega
      clear hok
      by_cases hn : n < 0
      · clear hA hB hC
        rcases hk with rfl | rfl | rfl | rfl
        case' inr.inr.inr => exact absurd rfl h8
        all_goals
          go_enter Try.func10, Try.ntmps10
          go_wp2_with fail
          refine (rowide_calls _ _).mono ?_
          rintro e w' ⟨rfl, rfl⟩
          rw [HW.out]
          go_wp2_with fail
          go_ret2
          exact ⟨by rw [putB, putE, if_neg HOK.out, if_neg HOK.out]; rfl, (Below.refl _ _).alloc (Nat.le_refl _) _⟩
      · rcases hk with rfl | rfl | rfl | rfl
        · have hng : 256 ≤ n := by have := hA rfl; omega
          have hng0 : decide (n < 0) = false := by simp; omega
          clear hA hB hC
          go_enter Try.func10, Try.ntmps10
          go_wp2_with fail
          refine (rowide_calls _ _).mono ?_
          rintro e w' ⟨rfl, rfl⟩
          rw [HW.out]
          go_wp2_with fail
          go_ret2
          exact ⟨by rw [putB, putE, if_neg HOK.out, if_neg HOK.out]; rfl, (Below.refl _ _).alloc (Nat.le_refl _) _⟩
        · have hng : 65536 ≤ n := by have := hB rfl; omega
          have hng0 : decide (n < 0) = false := by simp; omega
          clear hA hB hC
          go_enter Try.func10, Try.ntmps10
          go_wp2_with fail
          refine (rowide_calls _ _).mono ?_
          rintro e w' ⟨rfl, rfl⟩
          rw [HW.out]
          go_wp2_with fail
          go_ret2
          exact ⟨by rw [putB, putE, if_neg HOK.out, if_neg HOK.out]; rfl, (Below.refl _ _).alloc (Nat.le_refl _) _⟩
        · have hng : 4294967296 ≤ n := by have := hC rfl; omega
          have hng0 : decide (n < 0) = false := by simp; omega
          clear hA hB hC
          go_enter Try.func10, Try.ntmps10
          go_wp2_with fail
          refine (rowide_calls _ _).mono ?_
          rintro e w' ⟨rfl, rfl⟩
          rw [HW.out]
          go_wp2_with fail
          go_ret2
          exact ⟨by rw [putB, putE, if_neg HOK.out, if_neg HOK.out]; rfl, (Below.refl _ _).alloc (Nat.le_refl _) _⟩
        · exact absurd rfl h8
  · have HOK : Hid (putOk n width = false) := hide (by simp [putOk, hw])
    have HW := hide (Bool.eq_false_iff.2 hw)
    clear hw
    go_enter Try.func10, Try.ntmps10
    go_wp2_with fail
    refine (rowide_calls _ _).mono ?_
    rintro e w' ⟨rfl, rfl⟩
    rw [HW.out]
    go_wp2_with fail
    go_ret2
    exact ⟨by rw [putB, putE, HOK.out]; rfl, Below.refl _ _⟩
end Go.Proofs.Ytaiedfimdjdoaaa
