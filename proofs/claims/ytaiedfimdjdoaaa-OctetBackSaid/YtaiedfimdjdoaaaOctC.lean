/- Chapter 1: octet's Get and the document's. -/
import Derived.Test.YtaiedfimdjdoaaaOctB
namespace Go.Proofs.Ytaiedfimdjdoaaa
open Go.RowKit Zb

def GetPost (s : ByteArray) (at_ width : Int) (w : World) (e : Ending) (w' : World) : Prop := e = .returned (.tuple #[.int .i64 (getN s at_ width), .int .i64 (getE s at_ width)]) ∧ w = w'
theorem or_step (x : Nat) (b : UInt8) (m : Nat) (hm : m < 8) (hx : x < 256 ^ m) : bits .or .u64 (x : Int) (IntKind.u64.wrap (IntKind.u64.wrap (b.toNat : Int) * 2 ^ (8 * m))) = ((x + 256 ^ m * b.toNat : Nat) : Int) := by
  have hb := b.toNat_lt
  have hp : (256 : Int) ^ m * 256 ≤ 18446744073709551616 := by
    have : m = 0 ∨ m = 1 ∨ m = 2 ∨ m = 3 ∨ m = 4 ∨ m = 5 ∨ m = 6 ∨ m = 7 := by omega
    rcases this with rfl | rfl | rfl | rfl | rfl | rfl | rfl | rfl <;> decide
  have hp0 : (0 : Int) < 256 ^ m := Int.pow_pos (by omega)
  have hxI : (x : Int) < 256 ^ m := by have := Int.ofNat_lt.2 hx; simpa using this
  have e1 : IntKind.u64.wrap (b.toNat : Int) = b.toNat := by rw [IntKind.wrap_u64]; omega
  have hlt : (b.toNat : Int) * 256 ^ m < 18446744073709551616 := by
    have : (b.toNat : Int) * 256 ^ m ≤ 255 * 256 ^ m := Int.mul_le_mul_of_nonneg_right (by omega) (by omega)
    omega
  have hge : 0 ≤ (b.toNat : Int) * 256 ^ m := Int.mul_nonneg (by omega) (by omega)
  have e2 : IntKind.u64.wrap ((b.toNat : Int) * 256 ^ m) = (b.toNat : Int) * 256 ^ m := by rw [IntKind.wrap_u64]; omega
  rw [e1, pow_256, e2]
  have hc : bits .or .u64 (x : Int) ((b.toNat : Int) * 256 ^ m) = bits .or .u64 ((b.toNat : Int) * 256 ^ m) x := by simp only [bits, BitVec.or_comm]
  rw [hc, bits_join .u64 64 (by decide) (fun n h0 h1 => by rw [IntKind.wrap_u64]; omega) (8 * m) _ _ hge (by rw [pow_256]; simp) (by omega) (by omega) (by rw [pow_256]; exact hxI) (by omega)]
  rw [Int.natCast_add, Int.natCast_mul, Int.natCast_pow, Int.mul_comm, Int.add_comm]
  rfl
theorem getN_of {s : ByteArray} {a k : Nat} (h : getE s a k = 0) : getN s a k = wrap64 (leN (cutL s a k)) := by
  rw [getN, if_pos h]
  simp only [Int.toNat_natCast]
theorem leN_cut (s : ByteArray) (a m : Nat) : leN (cutL s a m) < 256 ^ (cutL s a m).length := leN_lt _

set_option maxRecDepth 100000 in
set_option maxHeartbeats 1000000 in
theorem oGet_calls (s : ByteArray) (hs : s.size ≤ 140737488351232) (at_ width : Int) (h0 : -9223372036854775808 ≤ at_) (h1 : at_ < 9223372036854775808) (w : World) : Calls Try.prog 12 #[.string s, .int .i64 at_, .int .i64 width] w (GetPost s at_ width w) := by
  by_cases hw : wideB width = true
  · obtain ⟨k, rfl, hk⟩ := wideB_nat hw
    have HW := hide hw
    clear hw
    by_cases ha : 0 ≤ at_
    · obtain ⟨a, rfl⟩ : ∃ a : Nat, at_ = a := ⟨at_.toNat, by omega⟩
      by_cases hl : a + k ≤ s.size
      · have hE : getE s a k = 0 := by simp [getE, HW.out]; omega
        have HE := hide hE; clear hE
        have HS := hide hs; clear hs
        have hsI : (s.size : Int) ≤ 140737488351232 := by have := HS.out; omega
        have hlI : (a : Int) + (k : Int) ≤ (s.size : Int) := by omega
        have hd1 : decide ((a : Int) < 0) = false := by simp only [decide_eq_false_iff_not]; omega
        have hd2 : decide (s.size < a) = false := by simp only [decide_eq_false_iff_not]; omega
        have hd3 : decide ((s.size : Int) - (a : Int) < (k : Int)) = false := by simp only [decide_eq_false_iff_not]; omega
        have HL := hide hl; clear hl h0 h1
        go_enter Try.func12, Try.ntmps12
        go_wp2_with fail
        refine (owide_calls _ _).mono ?_
        rintro e w' ⟨rfl, rfl⟩
        rw [HW.out]
        go_wp2_with fail
        go_loop [8, 32] (fun u i => ∃ m : Nat, m ≤ k ∧ i = .int .i64 m ∧ u = .int .u64 (leN (cutL s a m) : Nat)) (fun _ i => k - (intOf i).toNat)
        case atStart => exact ⟨0, Nat.zero_le _, rfl, rfl⟩
        case round =>
          obtain ⟨m, hm, rfl, rfl⟩ := hrel
          by_cases hlt : m < k
          · have hi : a + m < s.size := by have := HL.out; omega
            go_wp2_with fail
            go_round
            case rel =>
              have hc := cutL_succ (s := s) (i := a) (n := m) hi
              have hl := cutL_length (s := s) (i := a) (n := m) (by omega)
              refine ⟨m + 1, by omega, by go_num, ?_⟩
              have hx := leN_cut s a m
              rw [hl] at hx
              rw [or_step _ _ m (by omega) hx, hc, leN_snoc, hl]
            case measure => simp [intOf]; omega
          · obtain rfl : m = k := by omega
            go_wp2_with fail
            go_ret2
            refine ⟨?_, rfl⟩
            rw [getN_of HE.out, HE.out]
            rfl
      · have hE : getE s a k = 2 := by simp [getE, HW.out]; omega
        have HE := hide hE; clear hE
        have HS := hide hs; clear hs
        have hsI : (s.size : Int) ≤ 140737488351232 := by have := HS.out; omega
        clear h0 h1
        by_cases hb : a ≤ s.size
        all_goals
          go_enter Try.func12, Try.ntmps12
          go_wp2_with fail
          refine (owide_calls _ _).mono ?_
          rintro e w' ⟨rfl, rfl⟩
          rw [HW.out]
          go_wp2_with fail
          go_ret2
          refine ⟨?_, rfl⟩
          rw [getN, HE.out]
          rfl
    · have hE : getE s at_ k = 1 := by simp [getE, HW.out]; omega
      have HE := hide hE; clear hE
      go_enter Try.func12, Try.ntmps12
      go_wp2_with fail
      refine (owide_calls _ _).mono ?_
      rintro e w' ⟨rfl, rfl⟩
      rw [HW.out]
      go_wp2_with fail
      go_ret2
      refine ⟨?_, rfl⟩
      rw [getN, HE.out]
      rfl
  · have HW := hide (Bool.eq_false_iff.2 hw)
    have hE : getE s at_ width = 1 := by simp [getE, HW.out]
    have HE := hide hE; clear hE hw
    go_enter Try.func12, Try.ntmps12
    go_wp2_with fail
    refine (owide_calls _ _).mono ?_
    rintro e w' ⟨rfl, rfl⟩
    rw [HW.out]
    go_wp2_with fail
    go_ret2
    refine ⟨?_, rfl⟩
    rw [getN, HE.out]
    rfl
theorem get_step (x : Nat) (m : Nat) (hm : m < 8) (hx : x < 256 ^ m) : 0 ≤ (x : Int) ∧ (x : Int) ≤ 72057594037927935 := by
  have hp : (256 : Nat) ^ m ≤ 72057594037927936 := by
    have : m = 0 ∨ m = 1 ∨ m = 2 ∨ m = 3 ∨ m = 4 ∨ m = 5 ∨ m = 6 ∨ m = 7 := by omega
    rcases this with rfl | rfl | rfl | rfl | rfl | rfl | rfl | rfl <;> decide
  omega
set_option maxRecDepth 100000 in
set_option maxHeartbeats 1000000 in
theorem roGet_calls (s : ByteArray) (hs : s.size ≤ 140737488351232) (at_ width : Int) (h0 : -9223372036854775808 ≤ at_) (h1 : at_ < 9223372036854775808) (w : World) : Calls Try.prog 13 #[.string s, .int .i64 at_, .int .i64 width] w (GetPost s at_ width w) := by
  by_cases hw : wideB width = true
  · obtain ⟨k, rfl, hk⟩ := wideB_nat hw
    have HW := hide hw
    clear hw
    by_cases ha : 0 ≤ at_
    · obtain ⟨a, rfl⟩ : ∃ a : Nat, at_ = a := ⟨at_.toNat, by omega⟩
      by_cases hl : a + k ≤ s.size
      · have hE : getE s a k = 0 := by simp [getE, HW.out]; omega
        have HE := hide hE; clear hE
        have HS := hide hs; clear hs
        have hsI : (s.size : Int) ≤ 140737488351232 := by have := HS.out; omega
        have hlI : (a : Int) + (k : Int) ≤ (s.size : Int) := by omega
        have hd1 : decide ((a : Int) < 0) = false := by simp only [decide_eq_false_iff_not]; omega
        have hd2 : decide (s.size < a) = false := by simp only [decide_eq_false_iff_not]; omega
        have hd3 : decide ((s.size : Int) - (a : Int) < (k : Int)) = false := by simp only [decide_eq_false_iff_not]; omega
        have HL := hide hl; clear hl h0 h1
        go_enter Try.func13, Try.ntmps13
        go_wp2_with fail
        refine (rowide_calls _ _).mono ?_
        rintro e w' ⟨rfl, rfl⟩
        rw [HW.out]
        go_wp2_with fail
        go_loop [8, 9] (fun u i => ∃ m : Nat, m ≤ k ∧ i = .int .i64 ((m : Int) - 1) ∧ u = .int .u64 (leN (cutL s (a + m) (k - m)) : Nat)) (fun _ i => ((intOf i) + 1).toNat)
        case atStart => exact ⟨k, Nat.le_refl _, rfl, by simp [cutL, leN]⟩
        case round =>
          obtain ⟨m, hm, rfl, rfl⟩ := hrel
          by_cases hlt : 0 < m
          · have hi : a + (m - 1) < s.size := by have := HL.out; omega
            have hc := cutL_cons (s := s) (i := a + (m - 1)) (n := k - m) (by have := HL.out; omega)
            have hl := cutL_length (s := s) (i := a + m) (n := k - m) (by have := HL.out; omega)
            have hx := leN_cut s (a + m) (k - m)
            rw [hl] at hx
            have hst := get_step _ (k - m) (by omega) hx
            have HX := hide hc
            have hb9 : (s[a + (m - 1)].toNat : Int) < 256 := by have := s[a + (m - 1)].toNat_lt; omega
            clear hc hl hx
            obtain ⟨x, HXX⟩ : ∃ x, Hid ((leN (cutL s (a + m) (k - m)) : Int) = x) := ⟨_, hide rfl⟩
            rw [HXX.out] at hst ⊢
            obtain ⟨hst0, hst1⟩ := hst
            go_wp2_with fail
            go_round
            case rel =>
              refine ⟨m - 1, by omega, by go_num, ?_⟩
              have hq := HX.out
              rw [show k - m + 1 = k - (m - 1) by omega, show a + (m - 1) + 1 = a + m by omega] at hq
              rw [hq, leN, ← HXX.out, Int.natCast_add, Int.natCast_mul, Int.add_comm]
              rfl
            case measure => simp [intOf]; omega
          · obtain rfl : m = 0 := by omega
            go_wp2_with fail
            go_ret2
            refine ⟨?_, rfl⟩
            rw [getN_of HE.out, HE.out]
            rfl
      · have hE : getE s a k = 2 := by simp [getE, HW.out]; omega
        have HE := hide hE; clear hE
        have HS := hide hs; clear hs
        have hsI : (s.size : Int) ≤ 140737488351232 := by have := HS.out; omega
        clear h0 h1
        by_cases hb : a ≤ s.size
        all_goals
          go_enter Try.func13, Try.ntmps13
          go_wp2_with fail
          refine (rowide_calls _ _).mono ?_
          rintro e w' ⟨rfl, rfl⟩
          rw [HW.out]
          go_wp2_with fail
          go_ret2
          refine ⟨?_, rfl⟩
          rw [getN, HE.out]
          rfl
    · have hE : getE s at_ k = 1 := by simp [getE, HW.out]; omega
      have HE := hide hE; clear hE
      go_enter Try.func13, Try.ntmps13
      go_wp2_with fail
      refine (rowide_calls _ _).mono ?_
      rintro e w' ⟨rfl, rfl⟩
      rw [HW.out]
      go_wp2_with fail
      go_ret2
      refine ⟨?_, rfl⟩
      rw [getN, HE.out]
      rfl
  · have HW := hide (Bool.eq_false_iff.2 hw)
    have hE : getE s at_ width = 1 := by simp [getE, HW.out]
    have HE := hide hE; clear hE hw
    go_enter Try.func13, Try.ntmps13
    go_wp2_with fail
    refine (rowide_calls _ _).mono ?_
    rintro e w' ⟨rfl, rfl⟩
    rw [HW.out]
    go_wp2_with fail
    go_ret2
    refine ⟨?_, rfl⟩
    rw [getN, HE.out]
    rfl
end Go.Proofs.Ytaiedfimdjdoaaa
