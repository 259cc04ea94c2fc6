/- Chapter 1: the pure model of numbers and texts in bytes. No program's text. -/
import Derived.Test.YtjjpekgkaahpbaaBase
import Derived.IntWalk
namespace Go.Proofs.Ytjjpekgkaahpbaa.Zb
open Go.RowKit

def wideB (n : Int) : Bool := n == 1 || n == 2 || n == 4 || n == 8
theorem wideB_cases {n : Int} (h : wideB n = true) : n = 1 ∨ n = 2 ∨ n = 4 ∨ n = 8 := by
  simp [wideB] at h; omega
theorem wideB_nat {n : Int} (h : wideB n = true) : ∃ k : Nat, n = k ∧ (k = 1 ∨ k = 2 ∨ k = 4 ∨ k = 8) := by
  have := wideB_cases h
  exact ⟨n.toNat, by omega, by omega⟩
/-- byte i of a number -/
def octAt (n : Int) (i : Nat) : UInt8 := UInt8.ofNat (n / 256 ^ i % 256).toNat
def leL (n : Int) (k : Nat) : List UInt8 := (List.range k).map (octAt n)
theorem leL_length (n : Int) (k : Nat) : (leL n k).length = k := by simp [leL]
theorem leL_succ (n : Int) (k : Nat) : leL n (k + 1) = leL n k ++ [octAt n k] := by simp [leL, List.range_succ]
/-- what bytes say, the lowest first -/
def leN : List UInt8 → Nat
  | [] => 0
  | b :: l => b.toNat + 256 * leN l
theorem leN_lt : ∀ l : List UInt8, leN l < 256 ^ l.length
  | [] => by simp [leN]
  | b :: l => by
    have := leN_lt l
    have hb := b.toNat_lt
    simp only [leN, List.length_cons, Nat.pow_succ]
    omega
theorem leN_append : ∀ l m : List UInt8, leN (l ++ m) = leN l + 256 ^ l.length * leN m
  | [], m => by simp [leN]
  | b :: l, m => by
    simp only [List.cons_append, leN, leN_append l m, List.length_cons, Nat.pow_succ, Nat.mul_add]
    rw [Nat.mul_comm (256 ^ l.length) 256, Nat.mul_assoc]
    omega
theorem leN_snoc (l : List UInt8) (b : UInt8) : leN (l ++ [b]) = leN l + 256 ^ l.length * b.toNat := by
  rw [leN_append]; simp [leN]
theorem octAt_toNat (n : Int) (i : Nat) : ((octAt n i).toNat : Int) = n / 256 ^ i % 256 := by
  unfold octAt
  have h0 : 0 ≤ n / 256 ^ i % 256 := Int.emod_nonneg _ (by omega)
  have h1 : n / 256 ^ i % 256 < 256 := Int.emod_lt_of_pos _ (by omega)
  rw [UInt8.toNat_ofNat_of_lt' (show _ < 256 by omega)]
  omega
theorem leN_leL (n : Int) : ∀ k, (leN (leL n k) : Int) = n % 256 ^ k
  | 0 => by simp [leL, leN, Int.emod_one]
  | k + 1 => by
    rw [leL_succ, leN_snoc, leL_length]
    have ih := leN_leL n k
    have hb := octAt_toNat n k
    rw [Int.natCast_add, Int.natCast_mul, Int.natCast_pow, ih, hb]
    rw [show ((256 : Nat) : Int) = 256 from rfl]
    have hp : (0 : Int) < 256 ^ k := Int.pow_pos (by omega)
    have e1 : (256 : Int) ^ (k + 1) = 256 ^ k * 256 := Int.pow_succ _ _
    rw [e1]
    have e2 := Int.emod_add_mul_ediv n (256 ^ k)
    have e3 := Int.emod_add_mul_ediv (n / 256 ^ k) 256
    have e4 := Int.emod_nonneg n (Int.ne_of_gt hp)
    have e5 := Int.emod_lt_of_pos n hp
    have e6 := Int.emod_nonneg (n / 256 ^ k) (show (256 : Int) ≠ 0 by omega)
    have e7 := Int.emod_lt_of_pos (n / 256 ^ k) (show (0 : Int) < 256 by omega)
    generalize (256 : Int) ^ k = p at *
    have e : n = (n % p + p * (n / p % 256)) + (p * 256) * (n / p / 256) := by
      calc n = n % p + p * (n / p) := e2.symm
        _ = n % p + p * (n / p % 256 + 256 * (n / p / 256)) := by rw [e3]
        _ = _ := by rw [Int.mul_add, Int.mul_assoc, Int.add_assoc]
    have hlt : n % p + p * (n / p % 256) < p * 256 := by
      have : p * (n / p % 256) ≤ p * 255 := Int.mul_le_mul_of_nonneg_left (by omega) (by omega)
      omega
    have hge : 0 ≤ n % p + p * (n / p % 256) := by
      have : 0 ≤ p * (n / p % 256) := Int.mul_nonneg (by omega) e6
      omega
    have := congrArg (· % (p * 256)) e
    simp only [Int.add_mul_emod_self_left] at this
    rw [this, Int.emod_eq_of_lt hge hlt]

/-- may the number be laid down in so many bytes -/
def putOk (n width : Int) : Bool := wideB width && (width == 8 || (decide (0 ≤ n) && decide (n < 256 ^ width.toNat)))
def putB (n width : Int) : ByteArray := if putOk n width then ⟨(leL n width.toNat).toArray⟩ else ⟨#[]⟩
def putE (n width : Int) : Int := if putOk n width then 0 else 1
/-- the bytes of a text from a place on -/
def cutL (s : ByteArray) (i n : Nat) : List UInt8 := (s.data.toList.drop i).take n
def getE (s : ByteArray) (at_ width : Int) : Int := if wideB width = false ∨ at_ < 0 then 1 else if (s.size : Int) - at_ < width then 2 else 0
def getN (s : ByteArray) (at_ width : Int) : Int := if getE s at_ width = 0 then wrap64 (leN (cutL s at_.toNat width.toNat)) else 0
theorem cutL_length {s : ByteArray} {i n : Nat} (h : i + n ≤ s.size) : (cutL s i n).length = n := by
  have : s.data.toList.length = s.size := rfl
  simp only [cutL, List.length_take, List.length_drop]; omega
theorem cutL_succ {s : ByteArray} {i n : Nat} (h : i + n < s.size) : cutL s i (n + 1) = cutL s i n ++ [s[i + n]] := by
  have hl : n < (s.data.toList.drop i).length := by
    have : s.data.toList.length = s.size := rfl
    simp only [List.length_drop]; omega
  unfold cutL
  rw [List.take_succ_eq_append_getElem hl]
  congr 1
  simp
  rfl
theorem cutL_cons {s : ByteArray} {i n : Nat} (h : i + n < s.size) : cutL s i (n + 1) = s[i] :: cutL s (i + 1) n := by
  have hi : i < s.data.toList.length := by
    have : s.data.toList.length = s.size := rfl
    omega
  unfold cutL
  rw [List.drop_eq_getElem_cons hi, List.take_succ_cons]
  congr 1
/-- a text behind its length -/
def textB (s : ByteArray) : ByteArray := putB s.size 4 ++ s
/-- the text at a place: its bytes, the place behind, and what is wrong -/
def nextM (s : ByteArray) (at_ : Int) : ByteArray × Int × Int :=
  if getE s at_ 4 = 0 then
    if getN s at_ 4 ≤ s.size - at_ - 4 then (s.extract (at_ + 4).toNat (at_ + 4 + getN s at_ 4).toNat, at_ + 4 + getN s at_ 4, 0) else (⟨#[]⟩, 0, 2)
  else (⟨#[]⟩, 0, getE s at_ 4)

/-- digits -/
def DIG : List UInt8 := [48, 49, 50, 51, 52, 53, 54, 55, 56, 57, 97, 98, 99, 100, 101, 102]
def digU (n : Nat) : UInt8 := DIG.getD n 0
def hexL : List UInt8 → List UInt8
  | [] => []
  | b :: l => digU (b.toNat / 16) :: digU (b.toNat % 16) :: hexL l
theorem hexL_append : ∀ l m, hexL (l ++ m) = hexL l ++ hexL m
  | [], m => rfl
  | b :: l, m => by simp [hexL, hexL_append l m]
theorem hexL_length : ∀ l, (hexL l).length = 2 * l.length
  | [] => rfl
  | b :: l => by simp [hexL, hexL_length l]; omega
/-- a digit's number -/
def halfO (b : UInt8) : Option Nat := if 48 ≤ b.toNat ∧ b.toNat ≤ 57 then some (b.toNat - 48) else if 97 ≤ b.toNat ∧ b.toNat ≤ 102 then some (b.toNat - 87) else none
def allHalf (l : List UInt8) : Bool := l.all fun b => (halfO b).isSome
def hv (b : UInt8) : Nat := (halfO b).getD 0
def pairs : List UInt8 → List UInt8
  | a :: b :: l => UInt8.ofNat (16 * hv a + hv b) :: pairs l
  | _ => []
def unhexOk (l : List UInt8) : Bool := allHalf l && l.length % 2 == 0
def unhexB (s : ByteArray) : ByteArray := if unhexOk s.data.toList then ⟨(pairs s.data.toList).toArray⟩ else ⟨#[]⟩
def unhexE (s : ByteArray) : Int := if unhexOk s.data.toList then 0 else 4
theorem hv_lt (b : UInt8) : hv b < 16 := by
  unfold hv halfO
  split
  · simp; omega
  · split
    · simp; omega
    · simp
theorem dig_facts : ∀ n, n < 16 → halfO (digU n) = some n := by decide +kernel
theorem unhex_hex : ∀ l : List UInt8, unhexOk (hexL l) = true ∧ pairs (hexL l) = l
  | [] => by decide
  | b :: l => by
    obtain ⟨h1, h2⟩ := unhex_hex l
    have hb := b.toNat_lt
    have e1 := dig_facts (b.toNat / 16) (by omega)
    have e2 := dig_facts (b.toNat % 16) (by omega)
    refine ⟨?_, ?_⟩
    · simp only [unhexOk, allHalf, Bool.and_eq_true, beq_iff_eq] at h1 ⊢
      simp only [hexL, List.all_cons, e1, e2, Option.isSome_some, Bool.true_and, List.length_cons]
      exact ⟨h1.1, by omega⟩
    · simp only [hexL, pairs, h2, hv, e1, e2, Option.getD_some]
      congr 1
      apply UInt8.toNat_inj.1
      rw [UInt8.toNat_ofNat_of_lt' (show _ < 256 by omega)]
      omega
/-- pairs, a pair further -/
theorem pairs_snoc2 : ∀ (l : List UInt8) (a b : UInt8), l.length % 2 = 0 → pairs (l ++ [a, b]) = pairs l ++ [UInt8.ofNat (16 * hv a + hv b)]
  | [], a, b, _ => rfl
  | [x], a, b, h => by simp at h
  | x :: y :: l, a, b, h => by
    have := pairs_snoc2 l a b (by simp at h; omega)
    simp [pairs, this]
theorem pairs_snoc1 : ∀ (l : List UInt8) (a : UInt8), l.length % 2 = 0 → pairs (l ++ [a]) = pairs l
  | [], a, _ => rfl
  | [x], a, h => by simp at h
  | x :: y :: l, a, h => by
    have := pairs_snoc1 l a (by simp at h; omega)
    simp [pairs, this]
theorem pairs_length : ∀ (l : List UInt8), (pairs l).length = l.length / 2
  | [] => rfl
  | [x] => by simp [pairs]
  | x :: y :: l => by
    have := pairs_length l
    simp only [pairs, List.length_cons, this]
    omega
end Go.Proofs.Ytjjpekgkaahpbaa.Zb
