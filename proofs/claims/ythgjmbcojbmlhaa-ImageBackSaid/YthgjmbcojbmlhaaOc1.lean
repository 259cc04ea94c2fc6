/- Several texts in one: OctM, OctA, OctB, OctC, OctD, OctE. -/
import Derived.Test.YthgjmbcojbmlhaaBase
import Derived.IntWalk
import Derived.Test.YthgjmbcojbmlhaaBuf
import Derived.OwnWalk
import Derived.Test.YthgjmbcojbmlhaaHeld
/- Chapter 1: the pure model of numbers and texts in bytes. No program's text. -/
namespace Go.Proofs.Ythgjmbcojbmlhaa.Zb
open Go.RowKit

def wideB (n : Int) : Bool := n == 1 || n == 2 || n == 4 || n == 8
set_option maxRecDepth 20000 in
theorem wideB_cases {n : Int} (h : wideB n = true) : n = 1 ∨ n = 2 ∨ n = 4 ∨ n = 8 := by
  simp [wideB] at h; omega
set_option maxRecDepth 20000 in
theorem wideB_nat {n : Int} (h : wideB n = true) : ∃ k : Nat, n = k ∧ (k = 1 ∨ k = 2 ∨ k = 4 ∨ k = 8) := by
  have := wideB_cases h
  exact ⟨n.toNat, by omega, by omega⟩
/-- byte i of a number -/
def octAt (n : Int) (i : Nat) : UInt8 := UInt8.ofNat (n / 256 ^ i % 256).toNat
def leL (n : Int) (k : Nat) : List UInt8 := (List.range k).map (octAt n)
set_option maxRecDepth 20000 in
theorem leL_length (n : Int) (k : Nat) : (leL n k).length = k := by simp [leL]
set_option maxRecDepth 20000 in
theorem leL_succ (n : Int) (k : Nat) : leL n (k + 1) = leL n k ++ [octAt n k] := by simp [leL, List.range_succ]
/-- what bytes say, the lowest first -/
def leN : List UInt8 → Nat
  | [] => 0
  | b :: l => b.toNat + 256 * leN l
set_option maxRecDepth 20000 in
theorem leN_lt : ∀ l : List UInt8, leN l < 256 ^ l.length
  | [] => by simp [leN]
  | b :: l => by
    have := leN_lt l
    have hb := b.toNat_lt
    simp only [leN, List.length_cons, Nat.pow_succ]
    omega
set_option maxRecDepth 20000 in
theorem leN_append : ∀ l m : List UInt8, leN (l ++ m) = leN l + 256 ^ l.length * leN m
  | [], m => by simp [leN]
  | b :: l, m => by
    simp only [List.cons_append, leN, leN_append l m, List.length_cons, Nat.pow_succ, Nat.mul_add]
    rw [Nat.mul_comm (256 ^ l.length) 256, Nat.mul_assoc]
    omega
set_option maxRecDepth 20000 in
theorem leN_snoc (l : List UInt8) (b : UInt8) : leN (l ++ [b]) = leN l + 256 ^ l.length * b.toNat := by
  rw [leN_append]; simp [leN]
set_option maxRecDepth 20000 in
theorem octAt_toNat (n : Int) (i : Nat) : ((octAt n i).toNat : Int) = n / 256 ^ i % 256 := by
  unfold octAt
  have h0 : 0 ≤ n / 256 ^ i % 256 := Int.emod_nonneg _ (by omega)
  have h1 : n / 256 ^ i % 256 < 256 := Int.emod_lt_of_pos _ (by omega)
  rw [UInt8.toNat_ofNat_of_lt' (show _ < 256 by omega)]
  omega
set_option maxRecDepth 20000 in
theorem leN_leL (n : Int) : ∀ k, (leN (leL n k) : Int) = n % 256 ^ k
  | 0 => by simp [leL, leN, Int.emod_one]
  | k + 1 => by
    rw [leL_succ, leN_snoc, leL_length]
    have ih := leN_leL n k
    have hb := octAt_toNat n k
    rw [Int.natCast_add, Int.natCast_mul, Int.natCast_pow, ih, hb]
    rw [show ((256 : Nat) : Int) = 256 from rfl]
    have hp : (0 : Int) < 256 ^ k := Int.pow_pos (by omega)
    have e1 : (256 : Int) ^ (k + 1) = 256 ^ k * 256 := Int.pow_succ _ _
    rw [e1]
    have e2 := Int.emod_add_mul_ediv n (256 ^ k)
    have e3 := Int.emod_add_mul_ediv (n / 256 ^ k) 256
    have e4 := Int.emod_nonneg n (Int.ne_of_gt hp)
    have e5 := Int.emod_lt_of_pos n hp
    have e6 := Int.emod_nonneg (n / 256 ^ k) (show (256 : Int) ≠ 0 by omega)
    have e7 := Int.emod_lt_of_pos (n / 256 ^ k) (show (0 : Int) < 256 by omega)
    generalize (256 : Int) ^ k = p at *
    have e : n = (n % p + p * (n / p % 256)) + (p * 256) * (n / p / 256) := by
      calc n = n % p + p * (n / p) := e2.symm
        _ = n % p + p * (n / p % 256 + 256 * (n / p / 256)) := by rw [e3]
        _ = _ := by rw [Int.mul_add, Int.mul_assoc, Int.add_assoc]
    have hlt : n % p + p * (n / p % 256) < p * 256 := by
      have : p * (n / p % 256) ≤ p * 255 := Int.mul_le_mul_of_nonneg_left (by omega) (by omega)
      omega
    have hge : 0 ≤ n % p + p * (n / p % 256) := by
      have : 0 ≤ p * (n / p % 256) := Int.mul_nonneg (by omega) e6
      omega
    have := congrArg (· % (p * 256)) e
    simp only [Int.add_mul_emod_self_left] at this
    rw [this, Int.emod_eq_of_lt hge hlt]

/-- may the number be laid down in so many bytes -/
def putOk (n width : Int) : Bool := wideB width && (width == 8 || (decide (0 ≤ n) && decide (n < 256 ^ width.toNat)))
def putB (n width : Int) : ByteArray := if putOk n width then ⟨(leL n width.toNat).toArray⟩ else ⟨#[]⟩
def putE (n width : Int) : Int := if putOk n width then 0 else 1
/-- the bytes of a text from a place on -/
def cutL (s : ByteArray) (i n : Nat) : List UInt8 := (s.data.toList.drop i).take n
def getE (s : ByteArray) (at_ width : Int) : Int := if wideB width = false ∨ at_ < 0 then 1 else if (s.size : Int) - at_ < width then 2 else 0
def getN (s : ByteArray) (at_ width : Int) : Int := if getE s at_ width = 0 then wrap64 (leN (cutL s at_.toNat width.toNat)) else 0
set_option maxRecDepth 20000 in
theorem cutL_length {s : ByteArray} {i n : Nat} (h : i + n ≤ s.size) : (cutL s i n).length = n := by
  have : s.data.toList.length = s.size := rfl
  simp only [cutL, List.length_take, List.length_drop]; omega
set_option maxRecDepth 20000 in
theorem cutL_succ {s : ByteArray} {i n : Nat} (h : i + n < s.size) : cutL s i (n + 1) = cutL s i n ++ [s[i + n]] := by
  have hl : n < (s.data.toList.drop i).length := by
    have : s.data.toList.length = s.size := rfl
    simp only [List.length_drop]; omega
  unfold cutL
  rw [List.take_succ_eq_append_getElem hl]
  congr 1
  simp
  rfl
set_option maxRecDepth 20000 in
theorem cutL_cons {s : ByteArray} {i n : Nat} (h : i + n < s.size) : cutL s i (n + 1) = s[i] :: cutL s (i + 1) n := by
  have hi : i < s.data.toList.length := by
    have : s.data.toList.length = s.size := rfl
    omega
  unfold cutL
  rw [List.drop_eq_getElem_cons hi, List.take_succ_cons]
  congr 1
/-- a text behind its length -/
def textB (s : ByteArray) : ByteArray := putB s.size 4 ++ s
/-- the text at a place: its bytes, the place behind, and what is wrong -/
def nextM (s : ByteArray) (at_ : Int) : ByteArray × Int × Int :=
  if getE s at_ 4 = 0 then
    if getN s at_ 4 ≤ s.size - at_ - 4 then (s.extract (at_ + 4).toNat (at_ + 4 + getN s at_ 4).toNat, at_ + 4 + getN s at_ 4, 0) else (⟨#[]⟩, 0, 2)
  else (⟨#[]⟩, 0, getE s at_ 4)

/-- digits -/
def DIG : List UInt8 := [48, 49, 50, 51, 52, 53, 54, 55, 56, 57, 97, 98, 99, 100, 101, 102]
def digU (n : Nat) : UInt8 := DIG.getD n 0
def hexL : List UInt8 → List UInt8
  | [] => []
  | b :: l => digU (b.toNat / 16) :: digU (b.toNat % 16) :: hexL l
set_option maxRecDepth 20000 in
theorem hexL_append : ∀ l m, hexL (l ++ m) = hexL l ++ hexL m
  | [], m => rfl
  | b :: l, m => by simp [hexL, hexL_append l m]
set_option maxRecDepth 20000 in
theorem hexL_length : ∀ l, (hexL l).length = 2 * l.length
  | [] => rfl
  | b :: l => by simp [hexL, hexL_length l]; omega
/-- a digit's number -/
def halfO (b : UInt8) : Option Nat := if 48 ≤ b.toNat ∧ b.toNat ≤ 57 then some (b.toNat - 48) else if 97 ≤ b.toNat ∧ b.toNat ≤ 102 then some (b.toNat - 87) else none
def allHalf (l : List UInt8) : Bool := l.all fun b => (halfO b).isSome
def hv (b : UInt8) : Nat := (halfO b).getD 0
def pairs : List UInt8 → List UInt8
  | a :: b :: l => UInt8.ofNat (16 * hv a + hv b) :: pairs l
  | _ => []
def unhexOk (l : List UInt8) : Bool := allHalf l && l.length % 2 == 0
def unhexB (s : ByteArray) : ByteArray := if unhexOk s.data.toList then ⟨(pairs s.data.toList).toArray⟩ else ⟨#[]⟩
def unhexE (s : ByteArray) : Int := if unhexOk s.data.toList then 0 else 4
set_option maxRecDepth 20000 in
theorem hv_lt (b : UInt8) : hv b < 16 := by
  unfold hv halfO
  split
  · simp; omega
  · split
    · simp; omega
    · simp
set_option maxRecDepth 20000 in
theorem dig_facts : ∀ n, n < 16 → halfO (digU n) = some n := by decide +kernel
set_option maxRecDepth 20000 in
theorem unhex_hex : ∀ l : List UInt8, unhexOk (hexL l) = true ∧ pairs (hexL l) = l
  | [] => by decide
  | b :: l => by
    obtain ⟨h1, h2⟩ := unhex_hex l
    have hb := b.toNat_lt
    have e1 := dig_facts (b.toNat / 16) (by omega)
    have e2 := dig_facts (b.toNat % 16) (by omega)
    refine ⟨?_, ?_⟩
    · simp only [unhexOk, allHalf, Bool.and_eq_true, beq_iff_eq] at h1 ⊢
      simp only [hexL, List.all_cons, e1, e2, Option.isSome_some, Bool.true_and, List.length_cons]
      exact ⟨h1.1, by omega⟩
    · simp only [hexL, pairs, h2, hv, e1, e2, Option.getD_some]
      congr 1
      apply UInt8.toNat_inj.1
      rw [UInt8.toNat_ofNat_of_lt' (show _ < 256 by omega)]
      omega
/-- pairs, a pair further -/
theorem pairs_snoc2 : ∀ (l : List UInt8) (a b : UInt8), l.length % 2 = 0 → pairs (l ++ [a, b]) = pairs l ++ [UInt8.ofNat (16 * hv a + hv b)]
  | [], a, b, _ => rfl
  | [x], a, b, h => by simp at h
  | x :: y :: l, a, b, h => by
    have := pairs_snoc2 l a b (by simp at h; omega)
    simp [pairs, this]
set_option maxRecDepth 20000 in
theorem pairs_snoc1 : ∀ (l : List UInt8) (a : UInt8), l.length % 2 = 0 → pairs (l ++ [a]) = pairs l
  | [], a, _ => rfl
  | [x], a, h => by simp at h
  | x :: y :: l, a, h => by
    have := pairs_snoc1 l a (by simp at h; omega)
    simp [pairs, this]
set_option maxRecDepth 20000 in
theorem pairs_length : ∀ (l : List UInt8), (pairs l).length = l.length / 2
  | [] => rfl
  | [x] => by simp [pairs]
  | x :: y :: l => by
    have := pairs_length l
    simp only [pairs, List.length_cons, this]
    omega
end Go.Proofs.Ythgjmbcojbmlhaa.Zb

/- Chapter 1: octet's wide and Put, and the document's: both lay the same bytes down. -/
namespace Go.Proofs.Ythgjmbcojbmlhaa
open Go.RowKit Zb

set_option maxRecDepth 20000 in
theorem owide_calls (n : Int) (w : World) : Calls Try.prog 72 #[.int .i64 n] w fun e w' => e = .returned (.bool (wideB n)) ∧ w = w' := by
  by_cases h0 : 0 < n
  · by_cases h8 : n ≤ 8
    · have : n = 1 ∨ n = 2 ∨ n = 3 ∨ n = 4 ∨ n = 5 ∨ n = 6 ∨ n = 7 ∨ n = 8 := by omega
      clear h0 h8
      rcases this with rfl | rfl | rfl | rfl | rfl | rfl | rfl | rfl
      all_goals go_enter Try.func72, Try.ntmps72
      all_goals go_wp2_with fail
      all_goals go_ret
      all_goals exact ⟨rfl, rfl⟩
    · have e : wideB n = false := by simp [wideB]; omega
      rw [e]
      clear e
      go_enter Try.func72, Try.ntmps72
      go_wp2_with fail
      go_ret
      exact ⟨rfl, rfl⟩
  · have e : wideB n = false := by simp [wideB]; omega
    rw [e]
    clear e
    go_enter Try.func72, Try.ntmps72
    go_wp2_with fail
    go_ret
    exact ⟨rfl, rfl⟩
set_option maxRecDepth 20000 in
theorem rowide_calls (n : Int) (w : World) : Calls Try.prog 73 #[.int .i64 n] w fun e w' => e = .returned (.bool (wideB n)) ∧ w = w' := by
  by_cases h : wideB n = true
  · rcases wideB_cases h with rfl | rfl | rfl | rfl
    all_goals clear h
    all_goals go_enter Try.func73, Try.ntmps73
    all_goals go_wp2_with fail
    all_goals go_ret
    all_goals exact ⟨rfl, rfl⟩
  · have h1 : n ≠ 1 := by rintro rfl; simp [wideB] at h
    have h2 : n ≠ 2 := by rintro rfl; simp [wideB] at h
    have h4 : n ≠ 4 := by rintro rfl; simp [wideB] at h
    clear h
    go_enter Try.func73, Try.ntmps73
    go_wp2_with fail
    go_ret
    exact ⟨rfl, rfl⟩
set_option maxRecDepth 20000 in
theorem put_test (n : Int) (h0 : -9223372036854775808 ≤ n) (h1 : n < 9223372036854775808) (k : Nat) (hk : k = 1 ∨ k = 2 ∨ k = 4) : (IntKind.u64.wrap n / 2 ^ (8 * k) != 0) = !(decide (0 ≤ n) && decide (n < 256 ^ k)) := by
  rw [IntKind.wrap_u64, Bool.eq_iff_iff]
  rcases hk with rfl | rfl | rfl
  all_goals simp
  all_goals omega
set_option maxRecDepth 20000 in
theorem pow_256 (m : Nat) : (2 : Int) ^ (8 * m) = 256 ^ m := by rw [Int.pow_mul]; rfl
set_option maxRecDepth 20000 in
theorem leL_set (n : Int) (m k : Nat) (h : m < k) : (leL n m ++ List.replicate (k - m) 0).set m (octAt n m) = leL n (m + 1) ++ List.replicate (k - (m + 1)) 0 := by
  rw [show k - m = (k - (m + 1)) + 1 by omega, List.replicate_succ, List.set_append_right _ _ (by rw [leL_length]; omega), leL_length, Nat.sub_self, leL_succ]
  simp
set_option maxRecDepth 20000 in
theorem leL_len (n : Int) (m k : Nat) (h : m ≤ k) : (leL n m ++ List.replicate (k - m) 0).length = k := by simp [leL_length]; omega
def PutPost (n width : Int) (w : World) (e : Ending) (w' : World) : Prop := e = .returned (.tuple #[.string (putB n width), .int .i64 (putE n width)]) ∧ Below w.heap.size w w'

set_option maxRecDepth 100000 in
theorem oPut_calls (n : Int) (h0 : -9223372036854775808 ≤ n) (h1 : n < 9223372036854775808) (width : Int) (w : World) : Calls Try.prog 44 #[.int .i64 n, .int .i64 width] w (PutPost n width w) := by
  by_cases hok : putOk n width = true
  · have HOK := hide hok
    have hw : wideB width = true := by simp [putOk] at hok; exact hok.1
    have HW := hide hw
    obtain ⟨k, rfl, hk⟩ := wideB_nat hw
    have hk1 : 0 < k := by omega
    have hk8 : k ≤ 8 := by omega
    have hq : k < 8 → (IntKind.u64.wrap n / 2 ^ (8 * k) != 0) = false := by
      intro hlt
      rw [put_test n h0 h1 k (by omega)]
      simp only [putOk, hw, Bool.true_and, Bool.or_eq_true, beq_iff_eq, Int.toNat_natCast] at hok
      rcases hok with h | h
      · omega
      · rw [h]; rfl
    have hmk := fun W => make_row (P := Try.prog) 47 5 _ 1 Try.underlying47 binfo_u8 rfl .i64 .i64 k (by omega) (by omega) W
    have HB0 := hide (Buf.made (Below.refl w.heap.size w) k (by unfold maxLen; omega))
    clear hw hok
    go_enter Try.func44, Try.ntmps44
    go_wp2_with fail
    refine (owide_calls _ _).mono ?_
    rintro e w' ⟨rfl, rfl⟩
    rw [HW.out]
    by_cases h8 : k < 8
    case' pos => have hq := hq h8
    all_goals
      go_wp2_with fail
      go_loopw [28] (fun i wr => ∃ m : Nat, m ≤ k ∧ i = .int .i64 m ∧ Hid (Buf w wr (.slice (some ⟨w.heap.size, 0, none⟩) k k) (leL n m ++ List.replicate (k - m) 0))) (fun i _ => k - (intOf i).toNat)
      case atStart => exact ⟨0, Nat.zero_le _, rfl, HB0⟩
      case round =>
        obtain ⟨m, hm, rfl, hinv⟩ := hrel
        generalize hs0 : w.heap.size = q at *
        have hl := leL_len n m k hm
        have hinv2 : Hid (Buf w wr (.slice (some ⟨q, 0, none⟩) (leL n m ++ List.replicate (k - m) 0).length k) (leL n m ++ List.replicate (k - m) 0)) := by rw [hl]; exact hinv
        by_cases hlt : m < k
        · have hc := hinv2.out.cell m (by omega)
          have hf := hinv2.out.frozen m rfl
          have hst := hide (hinv2.out.set m (octAt n m))
          rw [leL_set n m k hlt, hl, octAt_toNat, ← pow_256] at hst
          generalize ((leL n m ++ List.replicate (k - m) 0)[m].toNat : Int) = xm at hc
          clear hl hinv2 hinv
          go_wp2_with fail
          go_roundw
          case rel => exact ⟨m + 1, by omega, by go_num, hst⟩
          case measure => simp [intOf]; omega
        · obtain rfl : m = k := by omega
          have hcv := hinv2.out.conv
          rw [hl] at hcv
          clear hl
          go_wp2_with fail
          go_ret2
          refine ⟨?_, by rw [hs0]; have := hinv2.out.bel; rw [hs0] at this; exact this⟩
          rw [putB, putE, if_pos HOK.out, if_pos HOK.out]
          rfl
  · have HOK := hide hok
    by_cases hw : wideB width = true
    · obtain ⟨k, rfl, hk⟩ := wideB_nat hw
      have HW := hide hw
      have h8 : k < 8 := by
        rcases Nat.lt_or_ge k 8 with h | h
        · exact h
        · have : k = 8 := by omega
          subst this
          simp [putOk, wideB] at hok
      have hq : (IntKind.u64.wrap n / 2 ^ (8 * k) != 0) = true := by
        rw [put_test n h0 h1 k (by omega)]
        simp only [putOk, hw, Bool.true_and, Bool.or_eq_true, beq_iff_eq, Int.toNat_natCast, not_or] at hok
        rw [Bool.eq_false_iff.2 hok.2]
        rfl
      clear hok hw
      go_enter Try.func44, Try.ntmps44
      go_wp2_with fail
      refine (owide_calls _ _).mono ?_
      rintro e w' ⟨rfl, rfl⟩
      rw [HW.out]
      go_wp2_with fail
      go_ret2
      exact ⟨by rw [putB, putE, if_neg HOK.out, if_neg HOK.out]; rfl, Below.refl _ _⟩
    · have HW := hide (Bool.eq_false_iff.2 hw)
      clear hok hw
      go_enter Try.func44, Try.ntmps44
      go_wp2_with fail
      refine (owide_calls _ _).mono ?_
      rintro e w' ⟨rfl, rfl⟩
      rw [HW.out]
      go_wp2_with fail
      go_ret2
      exact ⟨by rw [putB, putE, if_neg HOK.out, if_neg HOK.out]; rfl, Below.refl _ _⟩
end Go.Proofs.Ythgjmbcojbmlhaa

/- Chapter 1: the document's Put. -/
namespace Go.Proofs.Ythgjmbcojbmlhaa
open Go.RowKit Zb

set_option maxRecDepth 20000 in
theorem low_byte (n : Int) (m : Nat) (h : m < 8) : n % 18446744073709551616 / 256 ^ m % 256 = n / 256 ^ m % 256 := by
  have : m = 0 ∨ m = 1 ∨ m = 2 ∨ m = 3 ∨ m = 4 ∨ m = 5 ∨ m = 6 ∨ m = 7 := by omega
  rcases this with rfl | rfl | rfl | rfl | rfl | rfl | rfl | rfl
  all_goals omega
set_option maxRecDepth 20000 in
theorem pow_next (n : Int) (m : Nat) : n % 18446744073709551616 / 256 ^ m / 256 = n % 18446744073709551616 / 256 ^ (m + 1) := by
  rw [Int.pow_succ, Int.ediv_ediv_of_nonneg (Int.pow_nonneg (by omega))]

set_option maxRecDepth 100000 in
set_option maxHeartbeats 1000000 in
theorem roPut_calls (n : Int) (h0 : -9223372036854775808 ≤ n) (h1 : n < 9223372036854775808) (width : Int) (w : World) : Calls Try.prog 47 #[.int .i64 n, .int .i64 width] w (PutPost n width w) := by
  by_cases hw : wideB width = true
  · have hk := wideB_cases hw
    have HW := hide hw
    by_cases hok : putOk n width = true
    · have HOK := hide hok
      have hA : width = 1 → 0 ≤ n ∧ n ≤ 255 := by rintro rfl; simp [putOk, wideB] at hok; omega
      have hB : width = 2 → 0 ≤ n ∧ n ≤ 65535 := by rintro rfl; simp [putOk, wideB] at hok; omega
      have hC : width = 4 → 0 ≤ n ∧ n ≤ 4294967295 := by rintro rfl; simp [putOk, wideB] at hok; omega
      clear hw hok
      have HB0 := fun {o} => hide (Buf.nil (Below.alloc (Below.refl w.heap.size w) (Nat.le_refl _) o))
      have hn0 : 0 ≤ IntKind.u64.wrap n ∧ IntKind.u64.wrap n = n % 18446744073709551616 := by rw [IntKind.wrap_u64]; omega
      rcases hk with rfl | rfl | rfl | rfl
      · obtain ⟨hl0, hl1⟩ := hA rfl
        clear hA hB hC
        have hng : decide (n < 0) = false := by simp; omega
        go_enter Try.func47, Try.ntmps47
        go_wp2_with fail
        refine (rowide_calls _ _).mono ?_
        rintro e w' ⟨rfl, rfl⟩
        rw [HW.out]
        go_wp2_with fail
        go_loopw [7, 8, 9] (fun v u i wr => ∃ m : Nat, m ≤ 1 ∧ i = .int .i64 m ∧ u = .int .u64 (n % 18446744073709551616 / 256 ^ m) ∧ Hid (Buf w wr v (leL n m))) (fun _ _ i _ => 1 - (intOf i).toNat)
        case atStart => exact ⟨0, Nat.zero_le _, rfl, by simp, HB0⟩
        case round =>
          obtain ⟨m, hm, rfl, rfl, hinv⟩ := hrel
          by_cases hlt : m < 1
          · have hx0 : 0 ≤ n % 18446744073709551616 / 256 ^ m := Int.ediv_nonneg (by omega) (Int.pow_nonneg (by omega))
            have hx1 := octAt_toNat n m
            rw [← low_byte n m (by omega)] at hx1
            have hx2 := pow_next n m
            have hx3 := leL_succ n m
            have hx4 := leL_length n m
            have HX := hide (And.intro hx1 (And.intro hx2 (And.intro hx3 hx4)))
            clear hx1 hx2 hx3 hx4
            have hx9 : n % 18446744073709551616 / 256 ^ m ≤ 18446744073709551615 := Int.le_trans (Int.ediv_le_self _ (by omega)) (by omega)
            generalize n % 18446744073709551616 / 256 ^ m = x at *
            go_wp2_with (at_builtin; refine buf_app rfl (.tmp 35) (.tmp 39) rfl hinv #[.int .u8 (x % 256)] [octAt n m] 1 rfl rfl (by rw [← HX.out.1]; rfl) (by rw [HX.out.2.2.2]; simp; omega) ?_; intro v' w' hb' hg'; rw [← HX.out.2.2.1] at hb'; clear hg')
            go_roundw
            case rel => exact ⟨m + 1, by omega, by go_num, by rw [HX.out.2.1], ‹_›⟩
            case measure => simp [intOf]; omega
          · obtain rfl : m = 1 := by omega
            have hcv := hinv.out.conv
            go_wp2_with fail
            go_ret2
            refine ⟨?_, hinv.out.bel⟩
            rw [putB, putE, if_pos HOK.out, if_pos HOK.out]
            rfl
      · obtain ⟨hl0, hl1⟩ := hB rfl
        clear hA hB hC
        have hng : decide (n < 0) = false := by simp; omega
        go_enter Try.func47, Try.ntmps47
        go_wp2_with fail
        refine (rowide_calls _ _).mono ?_
        rintro e w' ⟨rfl, rfl⟩
        rw [HW.out]
        go_wp2_with fail
        go_loopw [7, 8, 9] (fun v u i wr => ∃ m : Nat, m ≤ 2 ∧ i = .int .i64 m ∧ u = .int .u64 (n % 18446744073709551616 / 256 ^ m) ∧ Hid (Buf w wr v (leL n m))) (fun _ _ i _ => 2 - (intOf i).toNat)
        case atStart => exact ⟨0, Nat.zero_le _, rfl, by simp, HB0⟩
        case round =>
          obtain ⟨m, hm, rfl, rfl, hinv⟩ := hrel
          by_cases hlt : m < 2
          · have hx0 : 0 ≤ n % 18446744073709551616 / 256 ^ m := Int.ediv_nonneg (by omega) (Int.pow_nonneg (by omega))
            have hx1 := octAt_toNat n m
            rw [← low_byte n m (by omega)] at hx1
            have hx2 := pow_next n m
            have hx3 := leL_succ n m
            have hx4 := leL_length n m
            have HX := hide (And.intro hx1 (And.intro hx2 (And.intro hx3 hx4)))
            clear hx1 hx2 hx3 hx4
            have hx9 : n % 18446744073709551616 / 256 ^ m ≤ 18446744073709551615 := Int.le_trans (Int.ediv_le_self _ (by omega)) (by omega)
            generalize n % 18446744073709551616 / 256 ^ m = x at *
            go_wp2_with (at_builtin; refine buf_app rfl (.tmp 35) (.tmp 39) rfl hinv #[.int .u8 (x % 256)] [octAt n m] 1 rfl rfl (by rw [← HX.out.1]; rfl) (by rw [HX.out.2.2.2]; simp; omega) ?_; intro v' w' hb' hg'; rw [← HX.out.2.2.1] at hb'; clear hg')
            go_roundw
            case rel => exact ⟨m + 1, by omega, by go_num, by rw [HX.out.2.1], ‹_›⟩
            case measure => simp [intOf]; omega
          · obtain rfl : m = 2 := by omega
            have hcv := hinv.out.conv
            go_wp2_with fail
            go_ret2
            refine ⟨?_, hinv.out.bel⟩
            rw [putB, putE, if_pos HOK.out, if_pos HOK.out]
            rfl
      · obtain ⟨hl0, hl1⟩ := hC rfl
        clear hA hB hC
        have hng : decide (n < 0) = false := by simp; omega
        go_enter Try.func47, Try.ntmps47
        go_wp2_with fail
        refine (rowide_calls _ _).mono ?_
        rintro e w' ⟨rfl, rfl⟩
        rw [HW.out]
        go_wp2_with fail
        go_loopw [7, 8, 9] (fun v u i wr => ∃ m : Nat, m ≤ 4 ∧ i = .int .i64 m ∧ u = .int .u64 (n % 18446744073709551616 / 256 ^ m) ∧ Hid (Buf w wr v (leL n m))) (fun _ _ i _ => 4 - (intOf i).toNat)
        case atStart => exact ⟨0, Nat.zero_le _, rfl, by simp, HB0⟩
        case round =>
          obtain ⟨m, hm, rfl, rfl, hinv⟩ := hrel
          by_cases hlt : m < 4
          · have hx0 : 0 ≤ n % 18446744073709551616 / 256 ^ m := Int.ediv_nonneg (by omega) (Int.pow_nonneg (by omega))
            have hx1 := octAt_toNat n m
            rw [← low_byte n m (by omega)] at hx1
            have hx2 := pow_next n m
            have hx3 := leL_succ n m
            have hx4 := leL_length n m
            have HX := hide (And.intro hx1 (And.intro hx2 (And.intro hx3 hx4)))
            clear hx1 hx2 hx3 hx4
            have hx9 : n % 18446744073709551616 / 256 ^ m ≤ 18446744073709551615 := Int.le_trans (Int.ediv_le_self _ (by omega)) (by omega)
            generalize n % 18446744073709551616 / 256 ^ m = x at *
            go_wp2_with (at_builtin; refine buf_app rfl (.tmp 35) (.tmp 39) rfl hinv #[.int .u8 (x % 256)] [octAt n m] 1 rfl rfl (by rw [← HX.out.1]; rfl) (by rw [HX.out.2.2.2]; simp; omega) ?_; intro v' w' hb' hg'; rw [← HX.out.2.2.1] at hb'; clear hg')
            go_roundw
            case rel => exact ⟨m + 1, by omega, by go_num, by rw [HX.out.2.1], ‹_›⟩
            case measure => simp [intOf]; omega
          · obtain rfl : m = 4 := by omega
            have hcv := hinv.out.conv
            go_wp2_with fail
            go_ret2
            refine ⟨?_, hinv.out.bel⟩
            rw [putB, putE, if_pos HOK.out, if_pos HOK.out]
            rfl
      · clear hA hB hC
        go_enter Try.func47, Try.ntmps47
        go_wp2_with fail
        refine (rowide_calls _ _).mono ?_
        rintro e w' ⟨rfl, rfl⟩
        rw [HW.out]
        go_wp2_with fail
        go_loopw [7, 8, 9] (fun v u i wr => ∃ m : Nat, m ≤ 8 ∧ i = .int .i64 m ∧ u = .int .u64 (n % 18446744073709551616 / 256 ^ m) ∧ Hid (Buf w wr v (leL n m))) (fun _ _ i _ => 8 - (intOf i).toNat)
        case atStart => exact ⟨0, Nat.zero_le _, rfl, by simp, HB0⟩
        case round =>
          obtain ⟨m, hm, rfl, rfl, hinv⟩ := hrel
          by_cases hlt : m < 8
          · have hx0 : 0 ≤ n % 18446744073709551616 / 256 ^ m := Int.ediv_nonneg (by omega) (Int.pow_nonneg (by omega))
            have hx1 := octAt_toNat n m
            rw [← low_byte n m (by omega)] at hx1
            have hx2 := pow_next n m
            have hx3 := leL_succ n m
            have hx4 := leL_length n m
            have HX := hide (And.intro hx1 (And.intro hx2 (And.intro hx3 hx4)))
            clear hx1 hx2 hx3 hx4
            have hx9 : n % 18446744073709551616 / 256 ^ m ≤ 18446744073709551615 := Int.le_trans (Int.ediv_le_self _ (by omega)) (by omega)
            generalize n % 18446744073709551616 / 256 ^ m = x at *
            go_wp2_with (at_builtin; refine buf_app rfl (.tmp 35) (.tmp 39) rfl hinv #[.int .u8 (x % 256)] [octAt n m] 1 rfl rfl (by rw [← HX.out.1]; rfl) (by rw [HX.out.2.2.2]; simp; omega) ?_; intro v' w' hb' hg'; rw [← HX.out.2.2.1] at hb'; clear hg')
            go_roundw
            case rel => exact ⟨m + 1, by omega, by go_num, by rw [HX.out.2.1], ‹_›⟩
            case measure => simp [intOf]; omega
          · obtain rfl : m = 8 := by omega
            have hcv := hinv.out.conv
            go_wp2_with fail
            go_ret2
            refine ⟨?_, hinv.out.bel⟩
            rw [putB, putE, if_pos HOK.out, if_pos HOK.out]
            rfl
    · have HOK := hide hok
      have h8 : width ≠ 8 := by rintro rfl; simp [putOk, wideB] at hok
      have hA : width = 1 → n < 0 ∨ 256 ≤ n := by rintro rfl; simp [putOk, wideB] at hok; omega
      have hB : width = 2 → n < 0 ∨ 65536 ≤ n := by rintro rfl; simp [putOk, wideB] at hok; omega
      have hC : width = 4 → n < 0 ∨ 4294967296 ≤ n := by rintro rfl; simp [putOk, wideB] at hok; omega
      clear hok
      by_cases hn : n < 0
      · clear hA hB hC
        rcases hk with rfl | rfl | rfl | rfl
        case' inr.inr.inr => exact absurd rfl h8
        all_goals
          go_enter Try.func47, Try.ntmps47
          go_wp2_with fail
          refine (rowide_calls _ _).mono ?_
          rintro e w' ⟨rfl, rfl⟩
          rw [HW.out]
          go_wp2_with fail
          go_ret2
          exact ⟨by rw [putB, putE, if_neg HOK.out, if_neg HOK.out]; rfl, (Below.refl _ _).alloc (Nat.le_refl _) _⟩
      · rcases hk with rfl | rfl | rfl | rfl
        · have hng : 256 ≤ n := by have := hA rfl; omega
          have hng0 : decide (n < 0) = false := by simp; omega
          clear hA hB hC
          go_enter Try.func47, Try.ntmps47
          go_wp2_with fail
          refine (rowide_calls _ _).mono ?_
          rintro e w' ⟨rfl, rfl⟩
          rw [HW.out]
          go_wp2_with fail
          go_ret2
          exact ⟨by rw [putB, putE, if_neg HOK.out, if_neg HOK.out]; rfl, (Below.refl _ _).alloc (Nat.le_refl _) _⟩
        · have hng : 65536 ≤ n := by have := hB rfl; omega
          have hng0 : decide (n < 0) = false := by simp; omega
          clear hA hB hC
          go_enter Try.func47, Try.ntmps47
          go_wp2_with fail
          refine (rowide_calls _ _).mono ?_
          rintro e w' ⟨rfl, rfl⟩
          rw [HW.out]
          go_wp2_with fail
          go_ret2
          exact ⟨by rw [putB, putE, if_neg HOK.out, if_neg HOK.out]; rfl, (Below.refl _ _).alloc (Nat.le_refl _) _⟩
        · have hng : 4294967296 ≤ n := by have := hC rfl; omega
          have hng0 : decide (n < 0) = false := by simp; omega
          clear hA hB hC
          go_enter Try.func47, Try.ntmps47
          go_wp2_with fail
          refine (rowide_calls _ _).mono ?_
          rintro e w' ⟨rfl, rfl⟩
          rw [HW.out]
          go_wp2_with fail
          go_ret2
          exact ⟨by rw [putB, putE, if_neg HOK.out, if_neg HOK.out]; rfl, (Below.refl _ _).alloc (Nat.le_refl _) _⟩
        · exact absurd rfl h8
  · have HOK : Hid (putOk n width = false) := hide (by simp [putOk, hw])
    have HW := hide (Bool.eq_false_iff.2 hw)
    clear hw
    go_enter Try.func47, Try.ntmps47
    go_wp2_with fail
    refine (rowide_calls _ _).mono ?_
    rintro e w' ⟨rfl, rfl⟩
    rw [HW.out]
    go_wp2_with fail
    go_ret2
    exact ⟨by rw [putB, putE, HOK.out]; rfl, Below.refl _ _⟩
end Go.Proofs.Ythgjmbcojbmlhaa

/- Chapter 1: octet's Get and the document's. -/
namespace Go.Proofs.Ythgjmbcojbmlhaa
open Go.RowKit Zb

def GetPost (s : ByteArray) (at_ width : Int) (w : World) (e : Ending) (w' : World) : Prop := e = .returned (.tuple #[.int .i64 (getN s at_ width), .int .i64 (getE s at_ width)]) ∧ w = w'
set_option maxRecDepth 20000 in
theorem or_step (x : Nat) (b : UInt8) (m : Nat) (hm : m < 8) (hx : x < 256 ^ m) : bits .or .u64 (x : Int) (IntKind.u64.wrap (IntKind.u64.wrap (b.toNat : Int) * 2 ^ (8 * m))) = ((x + 256 ^ m * b.toNat : Nat) : Int) := by
  have hb := b.toNat_lt
  have hp : (256 : Int) ^ m * 256 ≤ 18446744073709551616 := by
    have : m = 0 ∨ m = 1 ∨ m = 2 ∨ m = 3 ∨ m = 4 ∨ m = 5 ∨ m = 6 ∨ m = 7 := by omega
    rcases this with rfl | rfl | rfl | rfl | rfl | rfl | rfl | rfl <;> decide
  have hp0 : (0 : Int) < 256 ^ m := Int.pow_pos (by omega)
  have hxI : (x : Int) < 256 ^ m := by have := Int.ofNat_lt.2 hx; simpa using this
  have e1 : IntKind.u64.wrap (b.toNat : Int) = b.toNat := by rw [IntKind.wrap_u64]; omega
  have hlt : (b.toNat : Int) * 256 ^ m < 18446744073709551616 := by
    have : (b.toNat : Int) * 256 ^ m ≤ 255 * 256 ^ m := Int.mul_le_mul_of_nonneg_right (by omega) (by omega)
    omega
  have hge : 0 ≤ (b.toNat : Int) * 256 ^ m := Int.mul_nonneg (by omega) (by omega)
  have e2 : IntKind.u64.wrap ((b.toNat : Int) * 256 ^ m) = (b.toNat : Int) * 256 ^ m := by rw [IntKind.wrap_u64]; omega
  rw [e1, pow_256, e2]
  have hc : bits .or .u64 (x : Int) ((b.toNat : Int) * 256 ^ m) = bits .or .u64 ((b.toNat : Int) * 256 ^ m) x := by simp only [bits, BitVec.or_comm]
  rw [hc, bits_join .u64 64 (by decide) (fun n h0 h1 => by rw [IntKind.wrap_u64]; omega) (8 * m) _ _ hge (by rw [pow_256]; simp) (by omega) (by omega) (by rw [pow_256]; exact hxI) (by omega)]
  rw [Int.natCast_add, Int.natCast_mul, Int.natCast_pow, Int.mul_comm, Int.add_comm]
  rfl
set_option maxRecDepth 20000 in
theorem getN_of {s : ByteArray} {a k : Nat} (h : getE s a k = 0) : getN s a k = wrap64 (leN (cutL s a k)) := by
  rw [getN, if_pos h]
  simp only [Int.toNat_natCast]
set_option maxRecDepth 20000 in
theorem leN_cut (s : ByteArray) (a m : Nat) : leN (cutL s a m) < 256 ^ (cutL s a m).length := leN_lt _

set_option maxRecDepth 100000 in
set_option maxHeartbeats 1000000 in
theorem oGet_calls (s : ByteArray) (hs : s.size ≤ 140737488351232) (at_ width : Int) (h0 : -9223372036854775808 ≤ at_) (h1 : at_ < 9223372036854775808) (w : World) : Calls Try.prog 62 #[.string s, .int .i64 at_, .int .i64 width] w (GetPost s at_ width w) := by
  by_cases hw : wideB width = true
  · obtain ⟨k, rfl, hk⟩ := wideB_nat hw
    have HW := hide hw
    clear hw
    by_cases ha : 0 ≤ at_
    · obtain ⟨a, rfl⟩ : ∃ a : Nat, at_ = a := ⟨at_.toNat, by omega⟩
      by_cases hl : a + k ≤ s.size
      · have hE : getE s a k = 0 := by simp [getE, HW.out]; omega
        have HE := hide hE; clear hE
        have HS := hide hs; clear hs
        have hsI : (s.size : Int) ≤ 140737488351232 := by have := HS.out; omega
        have hlI : (a : Int) + (k : Int) ≤ (s.size : Int) := by omega
        have hd1 : decide ((a : Int) < 0) = false := by simp only [decide_eq_false_iff_not]; omega
        have hd2 : decide (s.size < a) = false := by simp only [decide_eq_false_iff_not]; omega
        have hd3 : decide ((s.size : Int) - (a : Int) < (k : Int)) = false := by simp only [decide_eq_false_iff_not]; omega
        have HL := hide hl; clear hl h0 h1
        go_enter Try.func62, Try.ntmps62
        go_wp2_with fail
        refine (owide_calls _ _).mono ?_
        rintro e w' ⟨rfl, rfl⟩
        rw [HW.out]
        go_wp2_with fail
        go_loop [8, 32] (fun u i => ∃ m : Nat, m ≤ k ∧ i = .int .i64 m ∧ u = .int .u64 (leN (cutL s a m) : Nat)) (fun _ i => k - (intOf i).toNat)
        case atStart => exact ⟨0, Nat.zero_le _, rfl, rfl⟩
        case round =>
          obtain ⟨m, hm, rfl, rfl⟩ := hrel
          by_cases hlt : m < k
          · have hi : a + m < s.size := by have := HL.out; omega
            go_wp2_with fail
            go_round
            case rel =>
              have hc := cutL_succ (s := s) (i := a) (n := m) hi
              have hl := cutL_length (s := s) (i := a) (n := m) (by omega)
              refine ⟨m + 1, by omega, by go_num, ?_⟩
              have hx := leN_cut s a m
              rw [hl] at hx
              rw [or_step _ _ m (by omega) hx, hc, leN_snoc, hl]
            case measure => simp [intOf]; omega
          · obtain rfl : m = k := by omega
            go_wp2_with fail
            go_ret2
            refine ⟨?_, rfl⟩
            rw [getN_of HE.out, HE.out]
            rfl
      · have hE : getE s a k = 2 := by simp [getE, HW.out]; omega
        have HE := hide hE; clear hE
        have HS := hide hs; clear hs
        have hsI : (s.size : Int) ≤ 140737488351232 := by have := HS.out; omega
        clear h0 h1
        by_cases hb : a ≤ s.size
        all_goals
          go_enter Try.func62, Try.ntmps62
          go_wp2_with fail
          refine (owide_calls _ _).mono ?_
          rintro e w' ⟨rfl, rfl⟩
          rw [HW.out]
          go_wp2_with fail
          go_ret2
          refine ⟨?_, rfl⟩
          rw [getN, HE.out]
          rfl
    · have hE : getE s at_ k = 1 := by simp [getE, HW.out]; omega
      have HE := hide hE; clear hE
      go_enter Try.func62, Try.ntmps62
      go_wp2_with fail
      refine (owide_calls _ _).mono ?_
      rintro e w' ⟨rfl, rfl⟩
      rw [HW.out]
      go_wp2_with fail
      go_ret2
      refine ⟨?_, rfl⟩
      rw [getN, HE.out]
      rfl
  · have HW := hide (Bool.eq_false_iff.2 hw)
    have hE : getE s at_ width = 1 := by simp [getE, HW.out]
    have HE := hide hE; clear hE hw
    go_enter Try.func62, Try.ntmps62
    go_wp2_with fail
    refine (owide_calls _ _).mono ?_
    rintro e w' ⟨rfl, rfl⟩
    rw [HW.out]
    go_wp2_with fail
    go_ret2
    refine ⟨?_, rfl⟩
    rw [getN, HE.out]
    rfl
set_option maxRecDepth 20000 in
theorem get_step (x : Nat) (m : Nat) (hm : m < 8) (hx : x < 256 ^ m) : 0 ≤ (x : Int) ∧ (x : Int) ≤ 72057594037927935 := by
  have hp : (256 : Nat) ^ m ≤ 72057594037927936 := by
    have : m = 0 ∨ m = 1 ∨ m = 2 ∨ m = 3 ∨ m = 4 ∨ m = 5 ∨ m = 6 ∨ m = 7 := by omega
    rcases this with rfl | rfl | rfl | rfl | rfl | rfl | rfl | rfl <;> decide
  omega
set_option maxRecDepth 100000 in
set_option maxHeartbeats 1000000 in
theorem roGet_calls (s : ByteArray) (hs : s.size ≤ 140737488351232) (at_ width : Int) (h0 : -9223372036854775808 ≤ at_) (h1 : at_ < 9223372036854775808) (w : World) : Calls Try.prog 70 #[.string s, .int .i64 at_, .int .i64 width] w (GetPost s at_ width w) := by
  by_cases hw : wideB width = true
  · obtain ⟨k, rfl, hk⟩ := wideB_nat hw
    have HW := hide hw
    clear hw
    by_cases ha : 0 ≤ at_
    · obtain ⟨a, rfl⟩ : ∃ a : Nat, at_ = a := ⟨at_.toNat, by omega⟩
      by_cases hl : a + k ≤ s.size
      · have hE : getE s a k = 0 := by simp [getE, HW.out]; omega
        have HE := hide hE; clear hE
        have HS := hide hs; clear hs
        have hsI : (s.size : Int) ≤ 140737488351232 := by have := HS.out; omega
        have hlI : (a : Int) + (k : Int) ≤ (s.size : Int) := by omega
        have hd1 : decide ((a : Int) < 0) = false := by simp only [decide_eq_false_iff_not]; omega
        have hd2 : decide (s.size < a) = false := by simp only [decide_eq_false_iff_not]; omega
        have hd3 : decide ((s.size : Int) - (a : Int) < (k : Int)) = false := by simp only [decide_eq_false_iff_not]; omega
        have HL := hide hl; clear hl h0 h1
        go_enter Try.func70, Try.ntmps70
        go_wp2_with fail
        refine (rowide_calls _ _).mono ?_
        rintro e w' ⟨rfl, rfl⟩
        rw [HW.out]
        go_wp2_with fail
        go_loop [8, 9] (fun u i => ∃ m : Nat, m ≤ k ∧ i = .int .i64 ((m : Int) - 1) ∧ u = .int .u64 (leN (cutL s (a + m) (k - m)) : Nat)) (fun _ i => ((intOf i) + 1).toNat)
        case atStart => exact ⟨k, Nat.le_refl _, rfl, by simp [cutL, leN]⟩
        case round =>
          obtain ⟨m, hm, rfl, rfl⟩ := hrel
          by_cases hlt : 0 < m
          · have hi : a + (m - 1) < s.size := by have := HL.out; omega
            have hc := cutL_cons (s := s) (i := a + (m - 1)) (n := k - m) (by have := HL.out; omega)
            have hl := cutL_length (s := s) (i := a + m) (n := k - m) (by have := HL.out; omega)
            have hx := leN_cut s (a + m) (k - m)
            rw [hl] at hx
            have hst := get_step _ (k - m) (by omega) hx
            have HX := hide hc
            have hb9 : (s[a + (m - 1)].toNat : Int) < 256 := by have := s[a + (m - 1)].toNat_lt; omega
            clear hc hl hx
            obtain ⟨x, HXX⟩ : ∃ x, Hid ((leN (cutL s (a + m) (k - m)) : Int) = x) := ⟨_, hide rfl⟩
            rw [HXX.out] at hst ⊢
            obtain ⟨hst0, hst1⟩ := hst
            go_wp2_with fail
            go_round
            case rel =>
              refine ⟨m - 1, by omega, by go_num, ?_⟩
              have hq := HX.out
              rw [show k - m + 1 = k - (m - 1) by omega, show a + (m - 1) + 1 = a + m by omega] at hq
              rw [hq, leN, ← HXX.out, Int.natCast_add, Int.natCast_mul, Int.add_comm]
              rfl
            case measure => simp [intOf]; omega
          · obtain rfl : m = 0 := by omega
            go_wp2_with fail
            go_ret2
            refine ⟨?_, rfl⟩
            rw [getN_of HE.out, HE.out]
            rfl
      · have hE : getE s a k = 2 := by simp [getE, HW.out]; omega
        have HE := hide hE; clear hE
        have HS := hide hs; clear hs
        have hsI : (s.size : Int) ≤ 140737488351232 := by have := HS.out; omega
        clear h0 h1
        by_cases hb : a ≤ s.size
        all_goals
          go_enter Try.func70, Try.ntmps70
          go_wp2_with fail
          refine (rowide_calls _ _).mono ?_
          rintro e w' ⟨rfl, rfl⟩
          rw [HW.out]
          go_wp2_with fail
          go_ret2
          refine ⟨?_, rfl⟩
          rw [getN, HE.out]
          rfl
    · have hE : getE s at_ k = 1 := by simp [getE, HW.out]; omega
      have HE := hide hE; clear hE
      go_enter Try.func70, Try.ntmps70
      go_wp2_with fail
      refine (rowide_calls _ _).mono ?_
      rintro e w' ⟨rfl, rfl⟩
      rw [HW.out]
      go_wp2_with fail
      go_ret2
      refine ⟨?_, rfl⟩
      rw [getN, HE.out]
      rfl
  · have HW := hide (Bool.eq_false_iff.2 hw)
    have hE : getE s at_ width = 1 := by simp [getE, HW.out]
    have HE := hide hE; clear hE hw
    go_enter Try.func70, Try.ntmps70
    go_wp2_with fail
    refine (rowide_calls _ _).mono ?_
    rintro e w' ⟨rfl, rfl⟩
    rw [HW.out]
    go_wp2_with fail
    go_ret2
    refine ⟨?_, rfl⟩
    rw [getN, HE.out]
    rfl
end Go.Proofs.Ythgjmbcojbmlhaa

/- Chapter 1: octet's Text and Next, and the document's. -/
namespace Go.Proofs.Ythgjmbcojbmlhaa
open Go.RowKit Zb

def NextPost (s : ByteArray) (at_ : Int) (w : World) (e : Ending) (w' : World) : Prop := e = .returned (.tuple #[.string (nextM s at_).1, .int .i64 (nextM s at_).2.1, .int .i64 (nextM s at_).2.2]) ∧ w = w'
set_option maxRecDepth 20000 in
theorem getN_lim (s : ByteArray) (a : Nat) : 0 ≤ getN s a 4 ∧ getN s a 4 ≤ 4294967295 := by
  unfold getN
  split
  · have h : leN (cutL s (a : Int).toNat (4 : Int).toNat) < 4294967296 := by
      have h1 := leN_lt (cutL s (a : Int).toNat (4 : Int).toNat)
      have h2 : (cutL s (a : Int).toNat (4 : Int).toNat).length ≤ 4 := List.length_take_le _ _
      exact Nat.lt_of_lt_of_le h1 (Nat.pow_le_pow_right (by omega) h2)
    generalize leN (cutL s (a : Int).toNat (4 : Int).toNat) = x at *
    unfold wrap64
    omega
  · omega
set_option maxRecDepth 20000 in
theorem extract_extract (s : ByteArray) (a n : Nat) (h : a + n ≤ s.size) : (s.extract a s.size).extract 0 n = s.extract a (a + n) := by
  apply ByteArray.ext
  simp only [ByteArray.data_extract, Array.extract_extract]
  congr 1
  omega
def nextYes (s : ByteArray) (a : Nat) (n : Nat) : ByteArray × Int × Int := (s.extract (a + 4) (a + 4 + n), (a : Int) + 4 + n, 0)

set_option maxRecDepth 100000 in
theorem oNext_calls (s : ByteArray) (hs : s.size ≤ 140737488351232) (at_ : Int) (h0 : -9223372036854775808 ≤ at_) (h1 : at_ < 9223372036854775808) (w : World) : Calls Try.prog 64 #[.string s, .int .i64 at_] w (NextPost s at_ w) := by
  have HG := hide (oGet_calls s hs at_ 4 h0 h1)
  by_cases hE : getE s at_ 4 = 0
  · obtain ⟨a, rfl⟩ : ∃ a : Nat, at_ = a := ⟨at_.toNat, by unfold getE at hE; split at hE <;> omega⟩
    have hl : a + 4 ≤ s.size := by unfold getE at hE; split at hE; omega; split at hE <;> omega
    obtain ⟨n, hn⟩ : ∃ n : Nat, getN s a 4 = n := ⟨(getN s a 4).toNat, by have := getN_lim s a; omega⟩
    have hn1 : n ≤ 4294967295 := by have := getN_lim s a; omega
    have hsI : (s.size : Int) ≤ 140737488351232 := by omega
    have hlI : (a : Int) + 4 ≤ (s.size : Int) := by omega
    have HE := hide hE; clear hE
    have HN := hide hn; clear hn
    have HS := hide hs; clear hs
    have HL := hide hl; clear hl h0 h1
    by_cases hle : a + 4 + n ≤ s.size
    · have hleI : (a : Int) + 4 + (n : Int) ≤ (s.size : Int) := by omega
      have HM : Hid (nextM s a = nextYes s a n) := hide (by
        have h3 : ((a : Int) + 4).toNat = a + 4 := by omega
        have h4 : ((a : Int) + 4 + n).toNat = a + 4 + n := by omega
        rw [nextM, if_pos HE.out, HN.out, if_pos (by omega), h3, h4]; rfl)
      have HX := hide (extract_extract s (a + 4) n hle)
      go_enter Try.func64, Try.ntmps64
      go_wp2_with fail
      refine (HG.out _).mono ?_
      rintro e w' ⟨rfl, rfl⟩
      rw [HE.out, HN.out]
      go_wp2_with fail
      go_ret3
      refine ⟨?_, rfl⟩
      rw [HM.out]
      exact congrArg (fun z => Ending.returned (.tuple #[.string z, .int .i64 ((a : Int) + 4 + n), .int .i64 0])) HX.out
    · have hleI : ¬ (a : Int) + 4 + (n : Int) ≤ (s.size : Int) := by omega
      have HM : Hid (nextM s a = (⟨#[]⟩, 0, 2)) := hide (by rw [nextM, if_pos HE.out, HN.out, if_neg (by omega)])
      go_enter Try.func64, Try.ntmps64
      go_wp2_with fail
      refine (HG.out _).mono ?_
      rintro e w' ⟨rfl, rfl⟩
      rw [HE.out, HN.out]
      go_wp2_with fail
      go_ret3
      refine ⟨?_, rfl⟩
      rw [HM.out]
      rfl
  · have HM : Hid (nextM s at_ = (⟨#[]⟩, 0, getE s at_ 4)) := hide (by rw [nextM, if_neg hE])
    have hq : (getE s at_ 4 != 0) = true := by simp [hE]
    clear hE
    go_enter Try.func64, Try.ntmps64
    go_wp2_with fail
    refine (HG.out _).mono ?_
    rintro e w' ⟨rfl, rfl⟩
    go_wp2_with fail
    go_ret3
    refine ⟨?_, rfl⟩
    rw [HM.out]
    rfl
set_option maxRecDepth 100000 in
theorem roNext_calls (s : ByteArray) (hs : s.size ≤ 140737488351232) (at_ : Int) (h0 : -9223372036854775808 ≤ at_) (h1 : at_ < 9223372036854775808) (w : World) : Calls Try.prog 71 #[.string s, .int .i64 at_] w (NextPost s at_ w) := by
  have HG := hide (roGet_calls s hs at_ 4 h0 h1)
  by_cases hE : getE s at_ 4 = 0
  · obtain ⟨a, rfl⟩ : ∃ a : Nat, at_ = a := ⟨at_.toNat, by unfold getE at hE; split at hE <;> omega⟩
    have hl : a + 4 ≤ s.size := by unfold getE at hE; split at hE; omega; split at hE <;> omega
    obtain ⟨n, hn⟩ : ∃ n : Nat, getN s a 4 = n := ⟨(getN s a 4).toNat, by have := getN_lim s a; omega⟩
    have hn1 : n ≤ 4294967295 := by have := getN_lim s a; omega
    have hsI : (s.size : Int) ≤ 140737488351232 := by omega
    have hlI : (a : Int) + 4 ≤ (s.size : Int) := by omega
    have HE := hide hE; clear hE
    have HN := hide hn; clear hn
    have HS := hide hs; clear hs
    have HL := hide hl; clear hl h0 h1
    by_cases hle : a + 4 + n ≤ s.size
    · have hleI : (a : Int) + 4 + (n : Int) ≤ (s.size : Int) := by omega
      have HM : Hid (nextM s a = nextYes s a n) := hide (by
        have h3 : ((a : Int) + 4).toNat = a + 4 := by omega
        have h4 : ((a : Int) + 4 + n).toNat = a + 4 + n := by omega
        rw [nextM, if_pos HE.out, HN.out, if_pos (by omega), h3, h4]; rfl)
      go_enter Try.func71, Try.ntmps71
      go_wp2_with fail
      refine (HG.out _).mono ?_
      rintro e w' ⟨rfl, rfl⟩
      rw [HE.out, HN.out]
      go_wp2_with fail
      go_ret3
      refine ⟨?_, rfl⟩
      rw [HM.out]
      rfl
    · have hleI : ¬ (a : Int) + 4 + (n : Int) ≤ (s.size : Int) := by omega
      have HM : Hid (nextM s a = (⟨#[]⟩, 0, 2)) := hide (by rw [nextM, if_pos HE.out, HN.out, if_neg (by omega)])
      go_enter Try.func71, Try.ntmps71
      go_wp2_with fail
      refine (HG.out _).mono ?_
      rintro e w' ⟨rfl, rfl⟩
      rw [HE.out, HN.out]
      go_wp2_with fail
      go_ret3
      refine ⟨?_, rfl⟩
      rw [HM.out]
      rfl
  · have HM : Hid (nextM s at_ = (⟨#[]⟩, 0, getE s at_ 4)) := hide (by rw [nextM, if_neg hE])
    have hq : (getE s at_ 4 != 0) = true := by simp [hE]
    clear hE
    go_enter Try.func71, Try.ntmps71
    go_wp2_with fail
    refine (HG.out _).mono ?_
    rintro e w' ⟨rfl, rfl⟩
    go_wp2_with fail
    go_ret3
    refine ⟨?_, rfl⟩
    rw [HM.out]
    rfl

set_option maxRecDepth 100000 in
theorem oText_calls (s : ByteArray) (hs : s.size ≤ 140737488351232) (w : World) : Calls Try.prog 43 #[.string s] w fun e w' => e = .returned (.string (textB s)) ∧ Below w.heap.size w w' := by
  have HP := hide (oPut_calls s.size (by omega) (by omega) 4)
  have hsI : (s.size : Int) ≤ 140737488351232 := by omega
  have hz : (putB s.size 4).size ≤ 4 := by
    unfold putB
    split
    · show (leL _ _).toArray.size ≤ 4
      rw [List.size_toArray, leL_length]
      decide
    · decide
  have HS := hide hs; clear hs
  obtain ⟨t, HT⟩ : ∃ t, Hid (putB s.size 4 = t) := ⟨_, hide rfl⟩
  rw [HT.out] at hz
  rw [show textB s = t ++ s by rw [textB, HT.out]]
  go_enter Try.func43, Try.ntmps43
  go_wp2_with fail
  refine (HP.out _).mono ?_
  rintro e w' ⟨rfl, hb⟩
  rw [HT.out]
  have HB := hide hb; clear hb
  go_wp2_with fail
  go_ret
  exact ⟨rfl, HB.out⟩
set_option maxRecDepth 100000 in
theorem roText_calls (s : ByteArray) (hs : s.size ≤ 140737488351232) (w : World) : Calls Try.prog 21 #[.string s] w fun e w' => e = .returned (.string (textB s)) ∧ Below w.heap.size w w' := by
  have HP := hide (roPut_calls s.size (by omega) (by omega) 4)
  have hsI : (s.size : Int) ≤ 140737488351232 := by omega
  have hz : (putB s.size 4).size ≤ 4 := by
    unfold putB
    split
    · show (leL _ _).toArray.size ≤ 4
      rw [List.size_toArray, leL_length]
      decide
    · decide
  have HS := hide hs; clear hs
  obtain ⟨t, HT⟩ : ∃ t, Hid (putB s.size 4 = t) := ⟨_, hide rfl⟩
  rw [HT.out] at hz
  rw [show textB s = t ++ s by rw [textB, HT.out]]
  go_enter Try.func21, Try.ntmps21
  go_wp2_with fail
  refine (HP.out _).mono ?_
  rintro e w' ⟨rfl, hb⟩
  rw [HT.out]
  have HB := hide hb; clear hb
  go_wp2_with fail
  go_ret
  exact ⟨rfl, HB.out⟩
end Go.Proofs.Ythgjmbcojbmlhaa

/- Chapter 1: octet's Hex and the document's. -/
namespace Go.Proofs.Ythgjmbcojbmlhaa
open Go.RowKit Zb

set_option maxRecDepth 20000 in
theorem hexL_take (s : ByteArray) (k : Nat) (h : k < s.size) : hexL (s.data.toList.take (k + 1)) = hexL (s.data.toList.take k) ++ [digU (s[k].toNat / 16), digU (s[k].toNat % 16)] := by
  have : s.data.toList.take (k + 1) = s.data.toList.take k ++ [s[k]] := by
    rw [List.take_succ_eq_append_getElem (by simpa using h)]; rfl
  rw [this, hexL_append]; rfl
set_option maxRecDepth 20000 in
theorem and_low (b : UInt8) : bits .and .u8 (b.toNat : Int) 15 = (b.toNat : Int) % 16 := by
  have h : ∀ n : Nat, n < 256 → bits .and .u8 (n : Int) 15 = (n : Int) % 16 := by decide +kernel
  exact h _ b.toNat_lt
def DIGB : ByteArray := ⟨#[48, 49, 50, 51, 52, 53, 54, 55, 56, 57, 97, 98, 99, 100, 101, 102]⟩
set_option maxRecDepth 20000 in
theorem DIGB_size : DIGB.size = 16 := by decide +kernel
set_option maxRecDepth 20000 in
theorem digU_val (n : Nat) (z : Int) (hz : z.toNat = n) (hn : n < 16) (h : z.toNat < DIGB.size) : digU n = DIGB[z.toNat] := by
  subst hz
  have h' : z.toNat < DIG.length := h
  unfold digU
  rw [List.getD_eq_getElem?_getD, List.getElem?_eq_getElem h']
  rfl
end Go.Proofs.Ythgjmbcojbmlhaa
