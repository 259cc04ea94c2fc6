/- Chapter 2: what stands behind a text, walked. -/
import Derived.Test.YtjjpekgkaahpbaaDigH
namespace Go.Proofs.Ytjjpekgkaahpbaa
open Go.RowKit Zb

def padZ (_n j : Nat) : List UInt8 := 0x80 :: List.replicate j 0
def zerosN (n : Nat) : Nat := (119 - n % 64) % 64
def padS (n i : Nat) : List UInt8 := (0x80 :: List.replicate (zerosN n) 0) ++ (List.range i).map fun i => UInt8.ofNat (8 * n / 256 ^ (7 - i) % 256)
theorem padW_eq (n : Nat) : padW n = padS n 8 := rfl
theorem padS_succ (n i : Nat) : padS n (i + 1) = padS n i ++ [UInt8.ofNat (8 * n / 256 ^ (7 - i) % 256)] := by simp [padS, List.range_succ]
theorem padS_length (n i : Nat) : (padS n i).length = 1 + zerosN n + i := by simp [padS]; omega
theorem padZ_length (n j : Nat) : (padZ n j).length = 1 + j := by simp [padZ]; omega
theorem padZ_succ (n j : Nat) : padZ n (j + 1) = padZ n j ++ [0] := by simp [padZ, List.replicate_succ']
theorem zerosN_le (n : Nat) : zerosN n ≤ 63 := by unfold zerosN; omega
theorem zerosN_is (n j : Nat) (hj : j ≤ zerosN n) : (n + (1 + j)) % 64 = 56 ↔ j = zerosN n := by unfold zerosN at *; omega
theorem pad_byte (n i : Nat) (hi : i < 8) (s : Nat) (hs : s = 56 - 8 * i) : ((UInt8.ofNat (8 * n / 256 ^ (7 - i) % 256)).toNat : Int) = (n : Int) * 8 / 2 ^ s % 256 := by
  rw [UInt8.toNat_ofNat']
  have e : (2 : Nat) ^ s = 256 ^ (7 - i) := by
    rw [show (256 : Nat) = 2 ^ 8 from rfl, ← Nat.pow_mul, hs]
    congr 1
    omega
  have e2 : (n : Int) * 8 / 2 ^ s % 256 = ((8 * n / 2 ^ s % 256 : Nat) : Int) := by
    rw [Nat.mul_comm 8 n]
    simp
  rw [e2, e]
  omega

set_option maxRecDepth 20000 in
set_option maxHeartbeats 2000000 in
theorem gending_calls (n : Nat) (hn : n ≤ 1000000000000) (w : World) : Calls Try.prog 28 #[.int .i64 n] w fun e w' => ∃ v, e = .returned v ∧ Buf w w' v (padW n) := by
  have HZ := zerosN_le n
  have HB0 : Hid (Buf w (w.alloc (.cells #[.int .u8 128] 5)) (.slice (some ⟨w.heap.size, 0, none⟩) 1 1) (padZ n 0)) := hide
    ⟨(Below.refl _ _).alloc (Nat.le_refl _) _, World.ownsRow_lit w #[.int .u8 128] 1 (Nat.zero_le _) (by unfold maxLen; omega) rfl, fun g hg => by
      simp [Value.ownBlock] at hg; omega⟩
  go_enter Try.func28, Try.ntmps28
  go_wp2_with fail
  go_loopw [3] (fun b wr => ∃ j : Nat, j ≤ zerosN n ∧ Hid (Buf w wr b (padZ n j))) (fun b _ => 100 - (match b with | .slice _ l _ => l | _ => 0))
  case atStart => exact ⟨0, Nat.zero_le _, HB0⟩
  case round =>
  clear HB0
  obtain ⟨j, hj, hinv⟩ := hrel
  obtain ⟨A, c, rfl, hc⟩ := hinv.out.slice
  have hL := padZ_length n j
  by_cases hlt : j < zerosN n
  · have hz := zerosN_is n j hj
    have hq : (((n : Int) + ((padZ n j).length : Int)) % 64 == 56) = false := by
      rw [beq_eq_false_iff_ne]
      intro e
      have : (n + (1 + j)) % 64 = 56 := by omega
      omega
    have HS := hide (padZ_succ n j)
    have HL := hide hL
    have hl9 : (padZ n j).length ≤ 64 := by omega
    have hl8 : ((padZ n j).length : Int) ≤ 64 := by omega
    clear hL hz hj
    generalize hp : (padZ n j).length = L at *
    have HP := hide hp
    clear hp
    go_wp2_with (at_builtin; refine buf_app rfl (.tmp 13) (.tmp 14) rfl hinv #[.int .u8 0] [0] 1 rfl rfl rfl (by rw [HP.out]; simp; omega) ?_; intro v' w' hb' hg'; rw [← HS.out] at hb'; clear hg')
    obtain ⟨A', c', rfl, _⟩ := hb'.out.slice
    have hL2 := padZ_length n (j + 1)
    have HL3 := HL.out
    go_roundw
    case rel => exact ⟨j + 1, by omega, hb'⟩
    case measure => simp only; omega
  · obtain rfl : j = zerosN n := by omega
    have hz := (zerosN_is n _ hj).2 rfl
    have hq : (((n : Int) + ((padZ n (zerosN n)).length : Int)) % 64 == 56) = true := by
      rw [beq_iff_eq]
      omega
    have hl8 : ((padZ n (zerosN n)).length : Int) ≤ 64 := by omega
    have HP := hide hL
    have hi : Hid (Buf w wr (.slice A (padZ n (zerosN n)).length c) (padS n 0)) := hide (by
      have := hinv.out
      simp only [padS, List.range_zero, List.map_nil, List.append_nil]
      exact this)
    clear hL hz hj hlt hinv hc
    have hn0 : IntKind.u64.wrap (n : Int) = (n : Int) := by show (n : Int) % 18446744073709551616 = _; omega
    have hn1 : IntKind.u64.wrap ((n : Int) * 8) = (n : Int) * 8 := by show (n : Int) * 8 % 18446744073709551616 = _; omega
    have hn2 : 0 ≤ (n : Int) * 8 := by omega
    generalize (padZ n (zerosN n)).length = L at *
    clear HP
    go_wp2_with fail
    simp only [bne, hq, Bool.not_true]
    clear hq hl8
    go_loopw [3, 5] (fun b s wr => ∃ i : Nat, i ≤ 8 ∧ s = .int .i64 (56 - 8 * (i : Int)) ∧ Hid (Buf w wr b (padS n i))) (fun _ s _ => (intOf s + 8).toNat)
    case atStart => exact ⟨0, Nat.zero_le _, rfl, hi⟩
    case round =>
    clear hi
    obtain ⟨i, hi, rfl, hinv⟩ := hrel
    by_cases hlt : i < 8
    · have HS := hide (padS_succ n i)
      have HL := hide (padS_length n i)
      obtain ⟨sh, hsh⟩ : ∃ sh : Nat, sh = 56 - 8 * i := ⟨_, rfl⟩
      have HPB := hide (pad_byte n i hlt sh hsh)
      have e : (56 : Int) - 8 * (i : Int) = (sh : Int) := by omega
      have hs9 : sh ≤ 56 := by omega
      have hsI : (sh : Int) ≤ 56 := by omega
      have hw0 : IntKind.u64.wrap (sh : Int) = (sh : Int) := by show (sh : Int) % 18446744073709551616 = _; omega
      rw [e]
      have HSH := hide hsh
      have HE := hide e
      clear hsh e
      generalize UInt8.ofNat (8 * n / 256 ^ (7 - i) % 256) = x at *
      go_wp2_with (at_builtin; refine buf_app rfl (.tmp 23) (.tmp 29) rfl hinv #[.int .u8 ((n : Int) * 8 / 2 ^ sh % 256)] [x] 1 rfl rfl (by rw [← HPB.out]; rfl) (by rw [HL.out]; simp; omega) ?_; intro v' w' hb' hg'; rw [← HS.out] at hb'; clear hg')
      have hsh := HSH.out
      go_roundw
      case rel => exact ⟨i + 1, by omega, by go_num, ‹_›⟩
      case measure => simp [intOf]; omega
    · obtain rfl : i = 8 := by omega
      go_wp2_with fail
      go_ret
      exact ⟨_, rfl, hinv.out⟩
end Go.Proofs.Ytjjpekgkaahpbaa
