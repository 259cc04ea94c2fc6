/- Several texts in one: DigH, DigI, DigJ, DigK, DigL, DigN. -/
import Derived.Test.YtkipmbnmmbeeaaaDg1
import Derived.Test.YtkipmbnmmbeeaaaBuf
/- Chapter 2: a state's text, walked. -/
namespace Go.Proofs.Ytkipmbnmmbeeaaa
open Go.RowKit Zb

set_option maxRecDepth 20000 in
theorem index_state (v : List Int) (k : Nat) (h : v.length = 8) (hk : k < 8) (w : World) : (Instr.index 79 (.agg (wcs v).toArray) (.int .i64 (k : Int))).run Try.prog w = .ok (.int .u32 (at0 v k)) w := by
  have hk2 : k < v.length := by omega
  obtain ⟨i, hi, _, hz1, _⟩ := info_parts (show (Try.prog.info? 69).map (fun i => (i.zero, i.size, i.bytes)) = some (some (.int .u32 0), 1, 4) by kernel_rfl)
  have hg := wcs_get v k hk2
  simp [Instr.index, run_underlying Try.underlying79, asIntOf, hk, sizeOf, typeInfo, hi, hz1, part, isAgg, run_underlying Try.underlying69, go_sem]
  simp at hg
  simp [hg]
def out1 (x : Int) : List UInt8 := [UInt8.ofNat (x / 2 ^ 24 % 256).toNat, UInt8.ofNat (x / 2 ^ 16 % 256).toNat, UInt8.ofNat (x / 2 ^ 8 % 256).toNat, UInt8.ofNat (x % 256).toNat]
def outN (v : List Int) (k : Nat) : List UInt8 := (List.range k).flatMap fun i => out1 (at0 v i)
set_option maxRecDepth 20000 in
theorem outN_succ (v : List Int) (k : Nat) : outN v (k + 1) = outN v k ++ out1 (at0 v k) := by simp [outN, List.range_succ]
set_option maxRecDepth 20000 in
theorem outN_length (v : List Int) : ∀ k, (outN v k).length = 4 * k
  | 0 => rfl
  | k + 1 => by rw [outN_succ, List.length_append, outN_length v k]; rfl
set_option maxRecDepth 20000 in
theorem outW_eq (v : List Int) : outW v = outN v 8 := rfl
set_option maxRecDepth 20000 in
theorem byte_of (z : Int) : ((UInt8.ofNat (z % 256).toNat).toNat : Int) = z % 256 := by
  rw [UInt8.toNat_ofNat']
  omega
set_option maxRecDepth 20000 in
theorem out1_vals (x : Int) : [Value.int .u8 (x / 16777216 % 256), .int .u8 (x / 65536 % 256), .int .u8 (x / 256 % 256), .int .u8 (x % 256)] = bytesVals (out1 x) := by
  unfold bytesVals out1
  simp only [List.map_cons, List.map_nil, byte_of]
  rfl
set_option maxRecDepth 20000 in
set_option maxHeartbeats 2000000 in
theorem gtext_calls (v : List Int) (hv : v.length = 8) (w : World) : Calls Try.prog 60 #[.agg (wcs v).toArray] w fun e w' => e = .returned (.string ⟨(outW v).toArray⟩) ∧ Below w.heap.size w w' := by
  have HV := hide hv
  have HB : Hid (Blk (w.alloc (.cells (wcs v).toArray 79)) w.heap.size 79 (wcs v).toArray) := hide (Blk.new w 79 _)
  have hsz : (wcs v).toArray.size = 8 := by rw [List.size_toArray, wcs_length, hv]
  have HSZ := hide hsz
  have HB0 := hide (Buf.made0 (Below.alloc (Below.refl w.heap.size w) (Nat.le_refl _) (.cells (wcs v).toArray 79)) 32 (by unfold maxLen; omega))
  have hmk : ∀ W : World, (Instr.makeSlice 40 (.int .i64 0) (.int .i64 32)).run Try.prog W = .ok (.slice (some ⟨W.heap.size, 0, none⟩) 0 32) (W.alloc (.cells (madeCells #[.int .u8 0] 32) 5)) := by
    intro W
    obtain ⟨i, hi, hz0, hz1, hz2⟩ := info_parts binfo_u8
    have h := run_make (P := Try.prog) W 40 5 i _ Try.underlying40 hi hz0 .i64 .i64 0 32 (by omega) (by omega) (by rw [hz2]; omega) (by omega)
    simpa [hz1, Value.cells] using h
  have HIX : Hid (∀ k : Nat, k < 8 → ∀ w, (Instr.index 79 (.agg (wcs v).toArray) (.int .i64 (k : Int))).run Try.prog w = .ok (.int .u32 (at0 v k)) w) := hide fun k hk w => index_state v k hv hk w
  have e1 : (w.alloc (.cells (wcs v).toArray 79)).heap.size = w.heap.size + 1 := by simp
  rw [e1] at HB0
  clear hv hsz e1
  go_enter Try.func60, Try.ntmps60
  go_wp2_with ((with_reducible show wpList _ _ _ (⟨some 7, _, _, _, _, _⟩ :: _) _ _); refine wpList_load_row rfl _ _ rfl w.heap.size rfl 79 _ (0, 0) _ (HB.out.alloc _) Try.underlying79 rfl (by rw [HSZ.out]; kernel_rfl) ?_)
  go_loopw [3, 8] (fun b i wr => ∃ k : Nat, k ≤ 8 ∧ i = .int .i64 k ∧ Hid (Buf w wr b (outN v k))) (fun _ i _ => 8 - (intOf i).toNat)
  case atStart => exact ⟨0, Nat.zero_le _, rfl, HB0⟩
  case round =>
  clear HB0
  obtain ⟨k, hk, rfl, hinv⟩ := hrel
  by_cases hlt : k < 8
  · have hix := HIX.out k hlt
    have HS := hide (outN_succ v k)
    have HO := hide (out1_vals (at0 v k))
    have HL := hide (outN_length v k)
    have HC : Hid ((out1 (at0 v k)).length = 4) := hide rfl
    generalize at0 v k = x at *
    go_wp2_with (at_builtin; refine buf_app rfl (.tmp 11) (.tmp 23) rfl hinv #[.int .u8 (x / 16777216 % 256), .int .u8 (x / 65536 % 256), .int .u8 (x / 256 % 256), .int .u8 (x % 256)] (out1 x) 4 rfl rfl HO.out (by rw [HL.out, HC.out]; omega) ?_; intro v' w' hb' hg'; rw [← HS.out] at hb'; clear hg')
    go_roundw
    case rel => exact ⟨k + 1, by omega, by go_num, ‹_›⟩
    case measure => simp [intOf]; omega
  · obtain rfl : k = 8 := by omega
    have hcv := hinv.out.conv
    go_wp2_with fail
    go_ret
    exact ⟨rfl, hinv.out.bel⟩
end Go.Proofs.Ytkipmbnmmbeeaaa

/- Chapter 2: what stands behind a text, walked. -/
namespace Go.Proofs.Ytkipmbnmmbeeaaa
open Go.RowKit Zb

def padZ (_n j : Nat) : List UInt8 := 0x80 :: List.replicate j 0
def zerosN (n : Nat) : Nat := (119 - n % 64) % 64
def padS (n i : Nat) : List UInt8 := (0x80 :: List.replicate (zerosN n) 0) ++ (List.range i).map fun i => UInt8.ofNat (8 * n / 256 ^ (7 - i) % 256)
set_option maxRecDepth 20000 in
theorem padW_eq (n : Nat) : padW n = padS n 8 := rfl
set_option maxRecDepth 20000 in
theorem padS_succ (n i : Nat) : padS n (i + 1) = padS n i ++ [UInt8.ofNat (8 * n / 256 ^ (7 - i) % 256)] := by simp [padS, List.range_succ]
set_option maxRecDepth 20000 in
theorem padS_length (n i : Nat) : (padS n i).length = 1 + zerosN n + i := by simp [padS]; omega
set_option maxRecDepth 20000 in
theorem padZ_length (n j : Nat) : (padZ n j).length = 1 + j := by simp [padZ]; omega
set_option maxRecDepth 20000 in
theorem padZ_succ (n j : Nat) : padZ n (j + 1) = padZ n j ++ [0] := by simp [padZ, List.replicate_succ']
set_option maxRecDepth 20000 in
theorem zerosN_le (n : Nat) : zerosN n ≤ 63 := by unfold zerosN; omega
set_option maxRecDepth 20000 in
theorem zerosN_is (n j : Nat) (hj : j ≤ zerosN n) : (n + (1 + j)) % 64 = 56 ↔ j = zerosN n := by unfold zerosN at *; omega
set_option maxRecDepth 20000 in
theorem pad_byte (n i : Nat) (hi : i < 8) (s : Nat) (hs : s = 56 - 8 * i) : ((UInt8.ofNat (8 * n / 256 ^ (7 - i) % 256)).toNat : Int) = (n : Int) * 8 / 2 ^ s % 256 := by
  rw [UInt8.toNat_ofNat']
  have e : (2 : Nat) ^ s = 256 ^ (7 - i) := by
    rw [show (256 : Nat) = 2 ^ 8 from rfl, ← Nat.pow_mul, hs]
    congr 1
    omega
  have e2 : (n : Int) * 8 / 2 ^ s % 256 = ((8 * n / 2 ^ s % 256 : Nat) : Int) := by
    rw [Nat.mul_comm 8 n]
    simp
  rw [e2, e]
  omega

set_option maxRecDepth 20000 in
set_option maxHeartbeats 2000000 in
theorem gending_calls (n : Nat) (hn : n ≤ 1000000000000) (w : World) : Calls Try.prog 59 #[.int .i64 n] w fun e w' => ∃ v, e = .returned v ∧ Buf w w' v (padW n) := by
  have HZ := zerosN_le n
  have HB0 : Hid (Buf w (w.alloc (.cells #[.int .u8 128] 5)) (.slice (some ⟨w.heap.size, 0, none⟩) 1 1) (padZ n 0)) := hide
    ⟨(Below.refl _ _).alloc (Nat.le_refl _) _, World.ownsRow_lit w #[.int .u8 128] 1 (Nat.zero_le _) (by unfold maxLen; omega) rfl, fun g hg => by
      simp [Value.ownBlock] at hg; omega⟩
  go_enter Try.func59, Try.ntmps59
  go_wp2_with fail
  go_loopw [3] (fun b wr => ∃ j : Nat, j ≤ zerosN n ∧ Hid (Buf w wr b (padZ n j))) (fun b _ => 100 - (match b with | .slice _ l _ => l | _ => 0))
  case atStart => exact ⟨0, Nat.zero_le _, HB0⟩
  case round =>
  clear HB0
  obtain ⟨j, hj, hinv⟩ := hrel
  obtain ⟨A, c, rfl, hc⟩ := hinv.out.slice
  have hL := padZ_length n j
  by_cases hlt : j < zerosN n
  · have hz := zerosN_is n j hj
    have hq : (((n : Int) + ((padZ n j).length : Int)) % 64 == 56) = false := by
      rw [beq_eq_false_iff_ne]
      intro e
      have : (n + (1 + j)) % 64 = 56 := by omega
      omega
    have HS := hide (padZ_succ n j)
    have HL := hide hL
    have hl9 : (padZ n j).length ≤ 64 := by omega
    have hl8 : ((padZ n j).length : Int) ≤ 64 := by omega
    clear hL hz hj
    generalize hp : (padZ n j).length = L at *
    have HP := hide hp
    clear hp
    go_wp2_with (at_builtin; refine buf_app rfl (.tmp 13) (.tmp 14) rfl hinv #[.int .u8 0] [0] 1 rfl rfl rfl (by rw [HP.out]; simp; omega) ?_; intro v' w' hb' hg'; rw [← HS.out] at hb'; clear hg')
    obtain ⟨A', c', rfl, _⟩ := hb'.out.slice
    have hL2 := padZ_length n (j + 1)
    have HL3 := HL.out
    go_roundw
    case rel => exact ⟨j + 1, by omega, hb'⟩
    case measure => simp only; omega
  · obtain rfl : j = zerosN n := by omega
    have hz := (zerosN_is n _ hj).2 rfl
    have hq : (((n : Int) + ((padZ n (zerosN n)).length : Int)) % 64 == 56) = true := by
      rw [beq_iff_eq]
      omega
    have hl8 : ((padZ n (zerosN n)).length : Int) ≤ 64 := by omega
    have HP := hide hL
    have hi : Hid (Buf w wr (.slice A (padZ n (zerosN n)).length c) (padS n 0)) := hide (by
      have := hinv.out
      simp only [padS, List.range_zero, List.map_nil, List.append_nil]
      exact this)
    clear hL hz hj hlt hinv hc
    have hn0 : IntKind.u64.wrap (n : Int) = (n : Int) := by show (n : Int) % 18446744073709551616 = _; omega
    have hn1 : IntKind.u64.wrap ((n : Int) * 8) = (n : Int) * 8 := by show (n : Int) * 8 % 18446744073709551616 = _; omega
    have hn2 : 0 ≤ (n : Int) * 8 := by omega
    generalize (padZ n (zerosN n)).length = L at *
    clear HP
    go_wp2_with fail
    simp only [bne, hq, Bool.not_true]
    clear hq hl8
    go_loopw [3, 5] (fun b s wr => ∃ i : Nat, i ≤ 8 ∧ s = .int .i64 (56 - 8 * (i : Int)) ∧ Hid (Buf w wr b (padS n i))) (fun _ s _ => (intOf s + 8).toNat)
    case atStart => exact ⟨0, Nat.zero_le _, rfl, hi⟩
    case round =>
    clear hi
    obtain ⟨i, hi, rfl, hinv⟩ := hrel
    by_cases hlt : i < 8
    · have HS := hide (padS_succ n i)
      have HL := hide (padS_length n i)
      obtain ⟨sh, hsh⟩ : ∃ sh : Nat, sh = 56 - 8 * i := ⟨_, rfl⟩
      have HPB := hide (pad_byte n i hlt sh hsh)
      have e : (56 : Int) - 8 * (i : Int) = (sh : Int) := by omega
      have hs9 : sh ≤ 56 := by omega
      have hsI : (sh : Int) ≤ 56 := by omega
      have hw0 : IntKind.u64.wrap (sh : Int) = (sh : Int) := by show (sh : Int) % 18446744073709551616 = _; omega
      rw [e]
      have HSH := hide hsh
      have HE := hide e
      clear hsh e
      generalize UInt8.ofNat (8 * n / 256 ^ (7 - i) % 256) = x at *
      go_wp2_with (at_builtin; refine buf_app rfl (.tmp 23) (.tmp 29) rfl hinv #[.int .u8 ((n : Int) * 8 / 2 ^ sh % 256)] [x] 1 rfl rfl (by rw [← HPB.out]; rfl) (by rw [HL.out]; simp; omega) ?_; intro v' w' hb' hg'; rw [← HS.out] at hb'; clear hg')
      have hsh := HSH.out
      go_roundw
      case rel => exact ⟨i + 1, by omega, by go_num, ‹_›⟩
      case measure => simp [intOf]; omega
    · obtain rfl : i = 8 := by omega
      go_wp2_with fail
      go_ret
      exact ⟨_, rfl, hinv.out⟩
end Go.Proofs.Ytkipmbnmmbeeaaa

/- Chapter 2: whole blocks eaten, one part behind the other: plain facts; a slice of bytes that is only read. -/
namespace Go.Proofs.Ytkipmbnmmbeeaaa
open Go.RowKit Zb

def eatA (v : List Int) (l : List UInt8) : List Int × List UInt8 := eatW (l.length / 64) v l
set_option maxRecDepth 20000 in
theorem eatW_enough : ∀ (n m : Nat) (v : List Int) (l : List UInt8), l.length / 64 ≤ n → l.length / 64 ≤ m → eatW n v l = eatW m v l
  | 0, 0, _, _, _, _ => rfl
  | 0, m + 1, v, l, h, _ => by
    have hl : l.length < 64 := by omega
    simp only [eatW, if_pos hl]
  | n + 1, 0, v, l, _, h => by
    have hl : l.length < 64 := by omega
    simp only [eatW, if_pos hl]
  | n + 1, m + 1, v, l, h, k => by
    simp only [eatW]
    by_cases hl : l.length < 64
    · rw [if_pos hl, if_pos hl]
    · rw [if_neg hl, if_neg hl]
      exact eatW_enough n m _ _ (by rw [List.length_drop]; omega) (by rw [List.length_drop]; omega)
set_option maxRecDepth 20000 in
theorem eatA_stop {v : List Int} {l : List UInt8} (h : l.length < 64) : eatA v l = (v, l) := by
  unfold eatA
  rw [show l.length / 64 = 0 by omega]
  rfl
set_option maxRecDepth 20000 in
theorem eatA_step {v : List Int} {l : List UInt8} (h : 64 ≤ l.length) : eatA v l = eatA (mixW v (l.take 64)) (l.drop 64) := by
  unfold eatA
  obtain ⟨n, hn⟩ : ∃ n, l.length / 64 = n + 1 := ⟨l.length / 64 - 1, by omega⟩
  rw [hn, eatW, if_neg (by omega)]
  exact eatW_enough _ _ _ _ (by rw [List.length_drop]; omega) (by rw [List.length_drop]; omega)
set_option maxRecDepth 20000 in
theorem eatA_join (c : List UInt8) : ∀ (k : Nat) (v : List Int) (l : List UInt8), l.length / 64 ≤ k → eatA (eatA v l).1 ((eatA v l).2 ++ c) = eatA v (l ++ c)
  | 0, v, l, h => by rw [eatA_stop (by omega : l.length < 64)]
  | k + 1, v, l, h => by
    by_cases hl : l.length < 64
    · rw [eatA_stop hl]
    · have h1 : 64 ≤ l.length := by omega
      rw [eatA_step h1, eatA_join c k _ _ (by rw [List.length_drop]; omega), eatA_step (l := l ++ c) (by rw [List.length_append]; omega)]
      rw [List.take_append_of_le_length h1, List.drop_append_of_le_length h1]
set_option maxRecDepth 20000 in
theorem eatA_join' (c : List UInt8) (v : List Int) (l : List UInt8) : eatA (eatA v l).1 ((eatA v l).2 ++ c) = eatA v (l ++ c) := eatA_join c _ v l (Nat.le_refl _)
set_option maxRecDepth 20000 in
theorem mixW_length (v : List Int) (b : List UInt8) : (mixW v b).length = 8 := by simp [mixW, sumW]
set_option maxRecDepth 20000 in
theorem eatA_facts : ∀ (k : Nat) (v : List Int) (l : List UInt8), l.length / 64 ≤ k → v.length = 8 → (eatA v l).1.length = 8 ∧ (eatA v l).2.length < 64
  | 0, v, l, h, hv => by rw [eatA_stop (by omega : l.length < 64)]; exact ⟨hv, by show l.length < 64; omega⟩
  | k + 1, v, l, h, hv => by
    by_cases hl : l.length < 64
    · rw [eatA_stop hl]; exact ⟨hv, hl⟩
    · rw [eatA_step (by omega)]
      exact eatA_facts k _ _ (by rw [List.length_drop]; omega) (mixW_length _ _)
set_option maxRecDepth 20000 in
theorem eatA_len (v : List Int) (l : List UInt8) (hv : v.length = 8) : (eatA v l).1.length = 8 := (eatA_facts _ v l (Nat.le_refl _) hv).1
set_option maxRecDepth 20000 in
theorem eatA_rest (v : List Int) (l : List UInt8) (hv : v.length = 8) : (eatA v l).2.length < 64 := (eatA_facts _ v l (Nat.le_refl _) hv).2
set_option maxRecDepth 20000 in
theorem padW_length (n : Nat) : (padW n).length = 9 + zerosN n := by rw [padW_eq, padS_length]; omega
set_option maxRecDepth 20000 in
theorem digW_eq (s : List UInt8) : digW s = outW (eatA firstW (s ++ padW s.length)).1 := by
  unfold digW eatA
  congr 2
  have := padW_length s.length
  have := zerosN_le s.length
  exact eatW_enough _ _ _ _ (by rw [List.length_append]; omega) (by rw [List.length_append]; omega)
set_option maxRecDepth 20000 in
theorem len8 {v : List Int} (h : v.length = 8) : ∃ v0 v1 v2 v3 v4 v5 v6 v7, v = [v0, v1, v2, v3, v4, v5, v6, v7] := by
  match v, h with
  | [v0, v1, v2, v3, v4, v5, v6, v7], _ => exact ⟨v0, v1, v2, v3, v4, v5, v6, v7, rfl⟩
set_option maxRecDepth 20000 in
theorem gmix8 {v : List Int} (hv : v.length = 8) (l : List UInt8) (h : l.length = 64) (w : World) : Calls Try.prog 58 #[.agg (wcs v).toArray, .string ⟨l.toArray⟩] w fun e w' => e = .returned (.agg (wcs (mixW v l)).toArray) ∧ Below w.heap.size w w' := by
  obtain ⟨v0, v1, v2, v3, v4, v5, v6, v7, rfl⟩ := len8 hv
  exact gmix_calls v0 v1 v2 v3 v4 v5 v6 v7 ⟨l.toArray⟩ (by show l.toArray.size = 64; simpa using h) w

/-- Block g is these cells, whatever of them a string shares. -/
def BlkF (w : World) (g : Nat) (t : TypeId) (cs : Array Value) : Prop := ∃ fz, w.heap[g]? = some (.cells cs t fz)
set_option maxRecDepth 20000 in
theorem BlkF.lt {w : World} {g : Nat} {t : TypeId} {cs : Array Value} (h : BlkF w g t cs) : g < w.heap.size := by
  obtain ⟨fz, h⟩ := h
  exact (Array.getElem?_eq_some_iff.1 h).1
set_option maxRecDepth 20000 in
theorem BlkF.cell {w : World} {g : Nat} {t : TypeId} {cs : Array Value} (h : BlkF w g t cs) (i : Nat) : w.cell? ⟨g, i, none⟩ = cs[i]? := by
  obtain ⟨fz, h⟩ := h
  exact cell_of_row w g i cs t fz h
set_option maxRecDepth 20000 in
theorem BlkF.of {w : World} {g : Nat} {t : TypeId} {cs : Array Value} (h : Blk w g t cs) : BlkF w g t cs := ⟨_, h⟩
set_option maxRecDepth 20000 in
theorem BlkF.of_block {w w' : World} {g : Nat} {t : TypeId} {cs : Array Value} (h : BlkF w g t cs) (hk : w'.heap[g]? = w.heap[g]?) : BlkF w' g t cs := by
  obtain ⟨fz, h⟩ := h
  exact ⟨fz, hk.trans h⟩
set_option maxRecDepth 20000 in
theorem BlkF.ne_ {w : World} {g g' : Nat} {t t' : TypeId} {cs cs' : Array Value} (h : BlkF w g t cs) (h' : Blk w g' t' cs') (hne : t ≠ t') : g ≠ g' := by
  rintro rfl
  obtain ⟨fz, h⟩ := h
  unfold Blk at h'
  rw [h] at h'
  injection h' with h'
  injection h' with _ ht
  exact hne ht
/-- v is a slice whose bytes are l: it is only read. -/
def BytesAt (w : World) (v : Value) (l : List UInt8) : Prop :=
  (v = .slice none 0 0 ∧ l = []) ∨
    ∃ g off cap cs, v = .slice (some ⟨g, off, none⟩) l.length cap ∧ l.length ≤ cap ∧ cap ≤ maxLen ∧ BlkF w g 5 cs ∧ off + l.length ≤ cs.size ∧ ∀ j, j < l.length → cs[off + j]? = (bytesVals l)[j]?
section
variable {w w' : World} {v : Value} {l : List UInt8}
set_option maxRecDepth 20000 in
theorem BytesAt.of_block (h : BytesAt w v l) (hk : ∀ g, v.ownBlock = some g → w'.heap[g]? = w.heap[g]?) : BytesAt w' v l := by
  rcases h with h | ⟨g, off, cap, cs, rfl, h1, h2, h3, h4⟩
  · exact .inl h
  · exact .inr ⟨g, off, cap, cs, rfl, h1, h2, h3.of_block (hk g rfl), h4⟩
set_option maxRecDepth 20000 in
theorem BytesAt.lt (h : BytesAt w v l) (g : Nat) (hg : v.ownBlock = some g) : g < w.heap.size := by
  rcases h with ⟨rfl, _⟩ | ⟨g', off, cap, cs, rfl, h1, h2, h3, h4⟩
  · simp [Value.ownBlock] at hg
  · have : g' = g := by simpa [Value.ownBlock] using hg
    subst this
    exact h3.lt
set_option maxRecDepth 20000 in
theorem BytesAt.below (h : BytesAt w v l) (hb : Below w.heap.size w w') : BytesAt w' v l := h.of_block fun g hg => hb.block g (h.lt g hg)
set_option maxRecDepth 20000 in
theorem BytesAt.ne (h : BytesAt w v l) {b : Nat} {t : TypeId} {cs : Array Value} (hb : Blk w b t cs) (ht : 5 ≠ t) : v.ownBlock ≠ some b := by
  rcases h with ⟨rfl, _⟩ | ⟨g', off, cap, cs', rfl, h1, h2, h3, h4⟩
  · simp [Value.ownBlock]
  · intro he
    have : g' = b := by simpa [Value.ownBlock] using he
    subst this
    exact BlkF.ne_ (t := 5) h3 hb ht rfl
set_option maxRecDepth 20000 in
theorem BytesAt.buf {w0 : World} (h : Buf w0 w v l) : BytesAt w v l := by
  rcases h.row.2 with ⟨rfl, hn⟩ | ⟨g, cap, cur, rfl, _, hg, hc, hm, hcs, ht⟩
  · exact .inl ⟨rfl, List.eq_nil_of_length_eq_zero hn⟩
  · refine .inr ⟨g, 0, cap, cur, rfl, hc, hm, ⟨_, hg⟩, by omega, fun j hj => ?_⟩
    have := World.ownsRow.cellAt h.row j (by omega)
    rw [cell_of_row w g j cur 5 (0, 0) hg] at this
    simpa using this
set_option maxRecDepth 20000 in
theorem add_off (g off j : Nat) : (⟨g, off, none⟩ : Addr).add j = ⟨g, off + j, none⟩ := by unfold Addr.add; split <;> simp_all
set_option maxRecDepth 20000 in
theorem BytesAt.form (h : BytesAt w v l) : ∃ A cap, v = .slice A l.length cap ∧ l.length ≤ cap := by
  rcases h with ⟨rfl, rfl⟩ | ⟨g, off, cap, cs, rfl, h1, _⟩
  · exact ⟨_, _, rfl, Nat.le_refl _⟩
  · exact ⟨_, _, rfl, h1⟩
set_option maxRecDepth 20000 in
theorem BytesAt.conv (h : BytesAt w v l) : (convert 40 9 v).run Try.prog w = .ok (.string ⟨l.toArray⟩) w := by
  rcases h with ⟨rfl, rfl⟩ | ⟨g, off, cap, cs, rfl, h1, h2, h3, h4, h5⟩
  · rw [run_convert_bytes_string w 40 9 5 none 0 0 Try.underlying40 Try.underlying5 Try.underlying9]; rfl
  · refine conv_bytes w 40 9 5 _ cap l Try.underlying40 Try.underlying5 Try.underlying9 fun j hj => ?_
    rw [add_off, h3.cell]
    exact h5 j hj
/-- b[:n] -/
theorem BytesAt.take {A : Option Addr} {cap : Nat} (h : BytesAt w (.slice A l.length cap) l) (n : Nat) (h0 : 0 < n) (hn : n ≤ l.length) : BytesAt w (.slice A n cap) (l.take n) := by
  rcases h with ⟨_, rfl⟩ | ⟨g, off, cap', cs, hv, h1, h2, h3, h4, h5⟩
  · simp at hn; omega
  · obtain ⟨rfl, rfl⟩ : A = some ⟨g, off, none⟩ ∧ cap = cap' := by simpa using hv
    have hl : (l.take n).length = n := by rw [List.length_take]; omega
    refine .inr ⟨g, off, cap, cs, by rw [hl], by omega, h2, h3, by omega, fun j hj => ?_⟩
    rw [h5 j (by omega)]
    simp only [bytesVals, List.getElem?_map, List.getElem?_take]
    rw [if_pos (by omega)]
/-- b[n:] -/
theorem BytesAt.drop {A : Option Addr} {cap : Nat} (h : BytesAt w (.slice A l.length cap) l) (n : Nat) (h0 : 0 < n) (hn : n ≤ l.length) :
    ∀ A', A' = (if cap = n then A else A.map (·.add n)) → BytesAt w (.slice A' (l.length - n) (cap - n)) (l.drop n) := by
  rintro A' rfl
  rcases h with ⟨_, rfl⟩ | ⟨g, off, cap', cs, hv, h1, h2, h3, h4, h5⟩
  · simp at hn; omega
  · obtain ⟨rfl, rfl⟩ : A = some ⟨g, off, none⟩ ∧ cap = cap' := by simpa using hv
    have hl : (l.drop n).length = l.length - n := List.length_drop
    by_cases hc : cap = n
    · rw [if_pos hc]
      have h0 : l.drop n = [] := List.drop_of_length_le (by omega)
      refine .inr ⟨g, off, cap - n, cs, by rw [hl], by omega, by omega, h3, by rw [h0]; simp; omega, fun j hj => ?_⟩
      rw [h0] at hj
      simp at hj
    · rw [if_neg hc]
      refine .inr ⟨g, off + n, cap - n, cs, by rw [hl, Option.map_some, add_off], by omega, by omega, h3, by omega, fun j hj => ?_⟩
      rw [Nat.add_assoc, h5 (n + j) (by omega)]
      simp only [bytesVals, List.getElem?_map, List.getElem?_drop]
/-- b[:len(b):len(b)] -/
theorem BytesAt.shut {A : Option Addr} {cap : Nat} (h : BytesAt w (.slice A l.length cap) l) : BytesAt w (.slice A l.length l.length) l := by
  rcases h with ⟨hv, rfl⟩ | ⟨g, off, cap', cs, hv, h1, h2, h3, h4, h5⟩
  · obtain ⟨rfl, _⟩ : A = none ∧ cap = 0 := by simpa using hv
    exact .inl ⟨rfl, rfl⟩
  · obtain ⟨rfl, rfl⟩ : A = some ⟨g, off, none⟩ ∧ cap = cap' := by simpa using hv
    exact .inr ⟨g, off, _, cs, rfl, Nat.le_refl _, by omega, h3, h4, h5⟩
end
end Go.Proofs.Ytkipmbnmmbeeaaa

/- Chapter 2: operations on a Hash's memory. -/
namespace Go.Proofs.Ytkipmbnmmbeeaaa
open Go.RowKit Zb

section
variable {W : World} {l : List UInt8}
/-- append(b[:len(b):len(b)], s...) -/
theorem run_bytes_app (ty : TypeId) {A : Option Addr} (h : BytesAt W (.slice A l.length l.length) l) (t : ByteArray) (hlen : l.length + t.size ≤ 1000000000000) :
    ∃ v' w', (Builtin.append_ #[40, 9] ty #[.slice A l.length l.length, .string t]).run Try.prog W = .ok v' w' ∧ BytesAt w' v' (l ++ t.data.toList) ∧ Below W.heap.size W w' := by
  obtain ⟨i, hi, hz0, hz1, hz2⟩ := info_parts binfo_u8
  have htl : t.data.toList.length = t.size := rfl
  rcases h with ⟨hv, rfl⟩ | ⟨g, off, cap, cs, hv, h1, h2, h3, h4, h5⟩
  · have hB := Buf.nil (Below.refl W.heap.size W)
    obtain ⟨h1, h2, h3⟩ := hB
    obtain ⟨v', w', hr, hrow, hg, _⟩ := Lib.run_append_own_string (P := Try.prog) W W.heap.size 40 9 ty 5 i Try.underlying40 Try.underlying9 hi hz0 hz1 hz2 (.slice none 0 0) 0 [] ⟨rfl, .inl ⟨rfl, rfl⟩⟩ t (by unfold maxLen; omega) (by omega) (Nat.le_refl _)
    obtain ⟨rfl, _⟩ : A = none ∧ True := by simpa using hv
    refine ⟨v', w', hr, ?_, (Below.refl _ _).grown hg (Nat.le_refl _) (fun k hk => by simp [Value.ownBlock] at hk)⟩
    have hb : Buf { W with heap := #[] } w' v' ([] ++ t.data.toList) := by
      refine ⟨⟨hg.os, hg.tape, hg.output, by simp, fun i hi => by simp at hi⟩, ?_, fun x _ => by simp⟩
      have e : ([] ++ t.data.toList : List UInt8).length = 0 + t.size := by simp
      rw [e]
      refine ⟨by simp [bytesVals], ?_⟩
      rcases hrow.2 with hn | ⟨g, cap, cur, rfl, _, rest⟩
      · exact .inl hn
      · exact .inr ⟨g, cap, cur, rfl, Nat.zero_le _, rest⟩
    exact BytesAt.buf hb
  · obtain ⟨rfl, hcap⟩ : A = some ⟨g, off, none⟩ ∧ l.length = cap := by simpa using hv
    rcases Nat.eq_zero_or_pos t.size with h0 | h0
    · have hnil : t.data.toList = [] := List.eq_nil_of_length_eq_zero h0
      refine ⟨.slice (some ⟨g, off, none⟩) l.length l.length, W, ?_, ?_, Below.refl _ _⟩
      · have hf := Lib.run_firstCells_string (P := Try.prog) W 1 t
        rw [h0] at hf
        have hsc : Lib.strCells t = [] := List.eq_nil_of_length_eq_zero (by rw [Lib.strCells_length, h0])
        rw [hsc] at hf
        simp [Builtin.append_, run_underlying Try.underlying40, run_underlying Try.underlying9, sizeOf, typeInfo, hi, hz1, Builtin.lenOf, h0, hf, storeCells]
      · rw [hnil, List.append_nil]
        exact .inr ⟨g, off, l.length, cs, rfl, Nat.le_refl _, by omega, h3, h4, h5⟩
    · have hr := Lib.run_append_grow_string (P := Try.prog) W 40 9 ty 5 i (.int .u8 0) Try.underlying40 Try.underlying9 hi hz0 ⟨g, off, none⟩ l.length l.length (bytesVals l) (by rw [bytesVals_length, hz1, Nat.mul_one]) (fun j u hu => by
          rw [add_off, h3.cell]
          have hj : j < l.length := by
            rcases Nat.lt_or_ge j l.length with h | h
            · exact h
            · rw [List.getElem?_eq_none (by rw [bytesVals_length]; exact h)] at hu; cases hu
          rw [h5 j hj, hu]) t (by omega) (by omega) (growslice_fits (by omega) (by rw [hz2]; omega))
      refine ⟨_, _, hr, ?_, ?_⟩
      · have hll : (l ++ t.data.toList).length = l.length + t.size := by rw [List.length_append]; rfl
        have hge := grownCap_ge W (l.length + t.size) l.length 5
        refine .inr ⟨W.heap.size, 0, _, _, by rw [hll], by rw [hll]; exact hge, grownCap_le_maxLen W _ _ _ (by unfold maxLen; omega), ⟨_, heap_alloc_new W.drew _⟩, ?_, fun j hj => ?_⟩
        · simp only [Array.size_append, List.size_toArray, bytesVals_length, Lib.strCells_length, hll]
          omega
        · rw [hll] at hj
          have hbv : bytesVals (l ++ t.data.toList) = bytesVals l ++ Lib.strCells t := by rw [bytesVals_append]; rfl
          rw [Nat.zero_add, hbv, Array.getElem?_append_left (by simp only [Array.size_append, List.size_toArray, bytesVals_length, Lib.strCells_length]; omega)]
          simp
      · exact ((Below.refl _ _).drew).alloc (Nat.le_refl _) _
end

def hcells (m : Bool) (v : List Int) (rs : Value) (n : Int) : Array Value := (.bool m :: (wcs v ++ [rs, .int .i64 n])).toArray
set_option maxRecDepth 20000 in
theorem hcells_size (m : Bool) {v : List Int} (hv : v.length = 8) (rs : Value) (n : Int) : (hcells m v rs n).size = 11 := by
  unfold hcells
  simp [wcs_length, hv]
set_option maxRecDepth 20000 in
theorem hcells_0 (m : Bool) (v : List Int) (rs : Value) (n : Int) : (hcells m v rs n)[0]? = some (.bool m) := rfl
set_option maxRecDepth 20000 in
theorem hcells_9 (m : Bool) {v : List Int} (hv : v.length = 8) (rs : Value) (n : Int) : (hcells m v rs n)[9]? = some rs := by
  obtain ⟨v0, v1, v2, v3, v4, v5, v6, v7, rfl⟩ := len8 hv
  rfl
set_option maxRecDepth 20000 in
theorem hcells_10 (m : Bool) {v : List Int} (hv : v.length = 8) (rs : Value) (n : Int) : (hcells m v rs n)[10]? = some (.int .i64 n) := by
  obtain ⟨v0, v1, v2, v3, v4, v5, v6, v7, rfl⟩ := len8 hv
  rfl
set_option maxRecDepth 20000 in
theorem hcells_set10 (m : Bool) {v : List Int} (hv : v.length = 8) (rs : Value) (n k : Int) : (hcells m v rs n).setIfInBounds 10 (.int .i64 k) = hcells m v rs k := by
  obtain ⟨v0, v1, v2, v3, v4, v5, v6, v7, rfl⟩ := len8 hv
  rfl
set_option maxRecDepth 20000 in
theorem hcells_set9 (m : Bool) {v : List Int} (hv : v.length = 8) (rs r2 : Value) (n : Int) : (hcells m v rs n).setIfInBounds 9 r2 = hcells m v r2 n := by
  obtain ⟨v0, v1, v2, v3, v4, v5, v6, v7, rfl⟩ := len8 hv
  rfl
set_option maxRecDepth 20000 in
theorem wcs_one (v : List Int) : ∀ u ∈ wcs v, u.oneCell' = true := by
  intro u hu
  obtain ⟨x, _, rfl⟩ := List.mem_map.1 hu
  rfl
set_option maxRecDepth 20000 in
theorem run_load_state {w : World} {b : Nat} {m : Bool} {v : List Int} {rs : Value} {n : Int} (hb : Blk w b 82 (hcells m v rs n)) (hv : v.length = 8) : (loadVar 79 ⟨b, 1, none⟩).run Try.prog w = .ok (.agg (wcs v).toArray) w := by
  have hl := run_loadCells_list (P := Try.prog) w ⟨b, 1, none⟩ (wcs v) (fun j u hu => by
    rw [add_off, hb.cell]
    obtain ⟨v0, v1, v2, v3, v4, v5, v6, v7, rfl⟩ := len8 hv
    have hj : j < 8 := by
      rcases Nat.lt_or_ge j 8 with h | h
      · exact h
      · rw [List.getElem?_eq_none (by simpa [wcs] using h)] at hu; cases hu
    have : j = 0 ∨ j = 1 ∨ j = 2 ∨ j = 3 ∨ j = 4 ∨ j = 5 ∨ j = 6 ∨ j = 7 := by omega
    rcases this with rfl | rfl | rfl | rfl | rfl | rfl | rfl | rfl <;> exact hu)
  rw [wcs_length, hv] at hl
  have hagg : (isAgg 79).run Try.prog w = .ok true w := by
    unfold isAgg
    rw [Sem.run_bind, run_underlying Try.underlying79 w]
    rfl
  obtain ⟨i, hi, hz1⟩ : ∃ i, Try.prog.info? 79 = some i ∧ i.size = 8 := by
    have : (Try.prog.info? 79).map (·.size) = some 8 := by kernel_rfl
    cases hq : Try.prog.info? 79 with
    | none => rw [hq] at this; cases this
    | some i => rw [hq] at this; exact ⟨i, rfl, by simpa using this⟩
  simp [loadVar, Sem.run_bind, hagg, sizeOf, typeInfo, hi, hz1, hl]
set_option maxRecDepth 20000 in
theorem wp_load_state {o : Oper} {a : Act} {w : World} {K : Act → World → Prop} {Q : Exit → Act → World → Prop} (x : Operand) (ho : o.op = .load 79 x) {b : Nat} (hx : a.eval x = .pointer (some ⟨b, 1, none⟩))
    {m : Bool} {v : List Int} {rs : Value} {n : Int} (hb : Blk w b 82 (hcells m v rs n)) (hv : v.length = 8) (h : K (a.put o.dst (.agg (wcs v).toArray)) w) : o.wp Try.prog a w K Q := by
  unfold Oper.wp execOp
  simp only [ho, hx, Instr.loadAt, Instr.sureAddr, Sem.run_bind, Sem.run_pure, Result.andThen_ok, run_load_state hb hv]
  exact h
set_option maxRecDepth 20000 in
theorem run_store_state {w : World} {b : Nat} {m : Bool} {v v2 : List Int} {rs : Value} {n : Int} (hb : Blk w b 82 (hcells m v rs n)) (hv : v.length = 8) (hv2 : v2.length = 8) :
    (storeVar 79 ⟨b, 1, none⟩ (.agg (wcs v2).toArray)).run Try.prog w = .ok () (w.setRow b (hcells m v2 rs n)) := by
  have hst := run_storeCells_at Try.prog b 1 82 (wcs v2) 0 _ w hb (by rw [hcells_size m hv, wcs_length, hv2]; omega) (wcs_one v2)
  have e : ((hcells m v rs n).toList.take (1 + 0) ++ wcs v2 ++ (hcells m v rs n).toList.drop (1 + 0 + (wcs v2).length)).toArray = hcells m v2 rs n := by
    obtain ⟨a0, a1, a2, a3, a4, a5, a6, a7, rfl⟩ := len8 hv
    obtain ⟨b0, b1, b2, b3, b4, b5, b6, b7, rfl⟩ := len8 hv2
    rfl
  rw [e] at hst
  obtain ⟨i, hi, hz1⟩ : ∃ i, Try.prog.info? 79 = some i ∧ i.size = 8 := by
    have : (Try.prog.info? 79).map (·.size) = some 8 := by kernel_rfl
    cases hq : Try.prog.info? 79 with
    | none => rw [hq] at this; cases this
    | some i => rw [hq] at this; exact ⟨i, rfl, by simpa using this⟩
  have hs : (wcs v2).toArray.size = i.size := by rw [hz1, List.size_toArray, wcs_length, hv2]
  simp [storeVar, sizeOf, typeInfo, hi, Value.cells, hs, hst, hz1]
set_option maxRecDepth 20000 in
theorem wp_store_state {o : Oper} {a : Act} {w : World} {K : Act → World → Prop} {Q : Exit → Act → World → Prop} (x y : Operand) (ho : o.op = .store 79 x y) {b : Nat} (hx : a.eval x = .pointer (some ⟨b, 1, none⟩))
    {m : Bool} {v v2 : List Int} {rs : Value} {n : Int} (hy : a.eval y = .agg (wcs v2).toArray) (hb : Blk w b 82 (hcells m v rs n)) (hv : v.length = 8) (hv2 : v2.length = 8) (h : K (a.put o.dst undef) (w.setRow b (hcells m v2 rs n))) : o.wp Try.prog a w K Q := by
  unfold Oper.wp execOp
  simp only [ho, hx, hy, Instr.storeAt, Instr.sureAddr, Sem.run_bind, Sem.run_pure, Result.andThen_ok, run_store_state hb hv hv2]
  exact h
/-- append at the operation -/
theorem bytes_app_op {o : Oper} {a : Act} {w : World} {l : List UInt8} {K : Act → World → Prop} {Q : Exit → Act → World → Prop} (s x : Operand) (ho : o.op = .call { callee := .builtin .append, args := #[s, x], argTypes := #[40, 9] })
    {A : Option Addr} (hb : BytesAt w (.slice A l.length l.length) l) (hs : a.eval s = .slice A l.length l.length) (t : ByteArray) (hx : a.eval x = .string t) (hlen : l.length + t.size ≤ 1000000000000)
    (h : ∀ v' w', Hid (BytesAt w' v' (l ++ t.data.toList)) → Hid (Below w.heap.size w w') → K (a.put o.dst v') w') : o.wp Try.prog a w K Q := by
  obtain ⟨v', w', hr, h1, h2⟩ := run_bytes_app o.type hb t hlen
  unfold Oper.wp execOp
  simp only [ho, resolve, invoke, builtin, Sem.run_bind, Sem.run_pure, Result.andThen_ok, List.map_toArray, List.map_cons, List.map_nil, hs, hx, hr]
  exact h v' w' (hide h1) (hide h2)
/-- b[:len(b):len(b)] -/
theorem slice_shut {A : Option Addr} {n cap : Nat} (h : n ≤ cap) (w : World) : (Instr.slice 40 (.slice A n cap) none (some (.int .i64 (n : Int))) (some (.int .i64 (n : Int)))).run Try.prog w = .ok (.slice A n n) w := by
  obtain ⟨i, hi, _, _, _⟩ := info_parts binfo_u8
  simp [Instr.slice, run_underlying Try.underlying40, Instr.sliceBounds, Instr.sliceBound, asIntOf, h, sizeOf, typeInfo, hi, go_sem]
/-- b[:n] -/
theorem slice_take {A : Option Addr} {n cap k : Nat} (h : k ≤ cap) (w : World) : (Instr.slice 40 (.slice A n cap) none (some (.int .i64 (k : Int))) none).run Try.prog w = .ok (.slice A k cap) w := by
  obtain ⟨i, hi, _, _, _⟩ := info_parts binfo_u8
  simp [Instr.slice, run_underlying Try.underlying40, Instr.sliceBounds, Instr.sliceBound, asIntOf, h, sizeOf, typeInfo, hi, go_sem]
/-- b[n:] -/
theorem slice_drop {A : Option Addr} {n cap k : Nat} (h : k ≤ n) (w : World) : (Instr.slice 40 (.slice A n cap) (some (.int .i64 (k : Int))) none none).run Try.prog w = .ok (.slice (if cap = k then A else A.map (·.add k)) (n - k) (cap - k)) w := by
  obtain ⟨i, hi, hz0, hz1, hz2⟩ := info_parts binfo_u8
  simp [Instr.slice, run_underlying Try.underlying40, Instr.sliceBounds, Instr.sliceBound, asIntOf, h, sizeOf, typeInfo, hi, hz1, go_sem]

/-- Block b is a Hash that New gave: its words, what stands behind whole blocks, how many bytes. -/
structure HashIn (w : World) (b : Nat) (v : List Int) (l : List UInt8) (n : Int) (rs : Value) : Prop where
  hb : Blk w b 82 (hcells true v rs n)
  hv : v.length = 8
  hs : BytesAt w rs l
section
variable {w w' : World} {b : Nat} {v : List Int} {l : List UInt8} {n : Int} {rs : Value}
set_option maxRecDepth 20000 in
theorem HashIn.below (h : HashIn w b v l n rs) (k : Below w.heap.size w w') : HashIn w' b v l n rs := ⟨h.hb.below k h.hb.lt, h.hv, h.hs.below k⟩
set_option maxRecDepth 20000 in
theorem HashIn.turned {F : Nat → Prop} (h : HashIn w b v l n rs) (k : Turned F w w') (hF : ¬ F b) (hG : ∀ g, rs.ownBlock = some g → ¬ F g) : HashIn w' b v l n rs :=
  ⟨h.hb.turned k hF, h.hv, h.hs.of_block fun g hg => k.block g (h.hs.lt g hg) (hG g hg)⟩
set_option maxRecDepth 20000 in
theorem BytesAt.at_form (h : BytesAt w rs l) : ∃ A cap, rs = .slice A l.length cap ∧ l.length ≤ cap ∧ (A = none ∨ ∃ g off, A = some ⟨g, off, none⟩) := by
  rcases h with ⟨rfl, rfl⟩ | ⟨g, off, cap, cs, rfl, h1, _⟩
  · exact ⟨_, _, rfl, Nat.le_refl _, .inl rfl⟩
  · exact ⟨_, _, rfl, h1, .inr ⟨_, _, rfl⟩⟩
end
end Go.Proofs.Ytkipmbnmmbeeaaa

/- Chapter 2: Write, walked. -/
namespace Go.Proofs.Ytkipmbnmmbeeaaa
open Go.RowKit Zb

/-- b[64:] at the operation -/
theorem wpList_drop64 {ops : Array Oper} {rest : List Oper} {o : Oper} {a : Act} {Q : Exit → Act → World → Prop} {w : World} (hgd : o.guard = none) (x : Operand) (ho : o.op = .slice 40 x (some (.const (.int .i64 64))) none none)
    {A : Option Addr} {n cap : Nat} (hx : a.eval x = .slice A n cap) (hn : 64 ≤ n)
    (h : ∀ A', A' = (if cap = 64 then A else A.map (·.add 64)) → wpList Try.prog ops Q rest (a.put o.dst (.slice A' (n - 64) (cap - 64))) w) : wpList Try.prog ops Q (o :: rest) a w := by
  refine wpList_plain hgd fun K hK => ?_
  have hr : (Instr.sliceAt 40 (.slice A n cap) (some (.int .i64 ((64 : Nat) : Int))) none none).run Try.prog w = .ok (.slice (if cap = 64 then A else A.map (·.add 64)) (n - 64) (cap - 64)) w := by
    rw [Instr.sliceAt, Sem.run_bind, run_underlying Try.underlying40, Result.andThen_ok]
    exact slice_drop hn w
  have hc : a.eval (.const (.int .i64 64)) = .int .i64 ((64 : Nat) : Int) := rfl
  unfold Oper.wp execOp
  simp only [ho, hx, Option.map_some, Option.map_none, hc, hr, Sem.run_bind, Sem.run_pure, Result.andThen_ok]
  exact hK _ _ (h _ rfl)
/-- what Write leaves -/
def WPost (w : World) (b : Nat) (v : List Int) (l : List UInt8) (n : Int) (e : Ending) (w' : World) : Prop :=
  e = .returned (.tuple #[]) ∧ Turned (· = b) w w' ∧ ∃ rs, HashIn w' b v l n rs

/-- at its loop: what is left is to be eaten -/
def WLoop (w : World) (b : Nat) (v : List Int) (l : List UInt8) (n : Int) (rs : Value) (v' : List Int) (l' : List UInt8) (u : Value) (wr : World) : Prop :=
  Turned (· = b) w wr ∧ Blk wr b 82 (hcells true v' rs n) ∧ v'.length = 8 ∧ BytesAt wr u l' ∧ eatA v l = eatA v' l'

set_option maxRecDepth 20000 in
set_option maxHeartbeats 4000000 in
theorem gWrite_calls {w : World} {b : Nat} {v : List Int} {l : List UInt8} {n : Nat} {rs : Value} (h : HashIn w b v l n rs) (s : ByteArray) (hl : l.length < 64) (hn : n + s.size ≤ 100000000000) :
    Calls Try.prog 37 #[.pointer (some ⟨b, 0, none⟩), .string s] w (WPost w b (eatA v (l ++ s.data.toList)).1 (eatA v (l ++ s.data.toList)).2 (n + s.size) ) := by
  obtain ⟨A, cap, rfl, hcap, hA⟩ := h.hs.at_form
  have c0 : w.cell? ⟨b, 0, none⟩ = some (.bool true) := (h.hb.cell 0).trans (hcells_0 _ _ _ _)
  have c10 : w.cell? ⟨b, 10, none⟩ = some (.int .i64 n) := (h.hb.cell 10).trans (hcells_10 _ h.hv _ _)
  have f10 : w.frozen? ⟨b, 10, none⟩ = false := h.hb.frozen 10
  have h1 := h.hb.set_ 10 (.int .i64 (n + s.size))
  rw [hcells_set10 _ h.hv] at h1
  have htu : Turned (· = b) w (w.setCell ⟨b, 10, none⟩ (.int .i64 (n + s.size))) := (Turned.refl (· = b) w).setCell (.inl rfl) _
  have hbs : BytesAt (w.setCell ⟨b, 10, none⟩ (.int .i64 (n + s.size))) (.slice A l.length cap) l := h.hs.of_block fun g hg => htu.block g (h.hs.lt g hg) (fun e => h.hs.ne h.hb (by decide) (by rw [hg]; exact congrArg some e))
  have HH := hide h
  have H1 := hide h1
  have HTU := hide htu
  have HBS := hide hbs
  have HV := hide h.hv
  have HV := hide h.hv
  have hnI : (n : Int) + (s.size : Int) ≤ 100000000000 := by omega
  have hsI : (s.size : Int) ≤ 100000000000 := by omega
  clear h h1 htu hbs
  go_enter Try.func37, Try.ntmps37
  go_wp2_with fail
  refine (gthere_calls b true _ c0).mono ?_
  rintro e w' ⟨rfl, rfl⟩
  go_wp2_with fail
  generalize hW1 : w.setCell ⟨b, 10, none⟩ (.int .i64 (n + s.size)) = W1 at *
  clear hW1 c0 c10 f10
  refine wp_region_heads [0, 1, 2, 3, 4, 5, 6, 7, 8, 9, 10, 11, 12, 13, 14, 15] 2 (fun w' => Blk w' b 82 (hcells true v (.slice A l.length cap) ((n : Int) + (s.size : Int)))) (by kernel_rfl) rfl (by kernel_rfl) (by kernel_rfl) (fun _ _ d _ _ h => by cases d <;> exact h) H1.out ?_
  iterate 16
    refine' Heads.step rfl (by rfl) ?_ ?_
    rotate_left
    · intro w' hSw
      have c9 := (hSw.cell 9).trans (hcells_9 _ HV.out _ _)
      go_simp
      try with_reducible rfl
    simp only [Act.put, List.setIfInBounds_toArray, List.set_cons_zero, List.set_cons_succ]
  refine Heads.done ?_
  refine wpAnyH_ready (rs := [16]) (by kernel_rfl) (by simp) (AllReadyH.cons rfl (fun K hK => ?_) AllReadyH.nil)
  rw [if_pos (by rfl)]
  refine bytes_app_op (.tmp 31) (.tmp 32) rfl (HBS.out.below (Below.refl _ _).drew).shut rfl s rfl (by omega) ?_
  intro u w2 hu2 hb2
  refine hK.out _ _ (Blk.below (w := W1.drew) H1.out hb2.out (Blk.lt H1.out)) (fun hHeld1 => ?_)
  clear hK K
  refine wpAnyH_ready (rs := [17]) (by kernel_rfl) (by simp) (AllReadyH.cons rfl (fun K hK => ?_) AllReadyH.nil)
  go_simp
  refine hK.out _ _ hHeld1 (fun hHeld2 => ?_)
  clear hK K
  refine wpAnyH_done (by kernel_rfl) ?_ _
  have HI0 : Hid (WLoop w b v (l ++ s.data.toList) ((n : Int) + (s.size : Int)) (.slice A l.length cap) v (l ++ s.data.toList) u w2) := hide ⟨HTU.out.drew.then_below hb2.out, hHeld1, HV.out, hu2.out, rfl⟩
  clear hb2 hu2 hHeld1 hHeld2 HBS HTU H1 HH
  generalize l ++ s.data.toList = l0 at *
  go_wp2_with fail
  go_loopw [4] (fun u wr => ∃ v' l', Hid (WLoop w b v l0 ((n : Int) + (s.size : Int)) (.slice A l.length cap) v' l' u wr)) (fun u _ => (match u with | .slice _ k _ => k | _ => 0))
  case atStart => exact ⟨_, _, HI0⟩
  case round =>
  clear HI0
  obtain ⟨v', l', hinv⟩ := hrel
  obtain ⟨A', cap', rfl, hcap', hA'⟩ := hinv.out.2.2.2.1.at_form
  by_cases hge : 64 ≤ l'.length
  · have hgeI : (64 : Int) ≤ (l'.length : Int) := by omega
    have hc64 : 64 ≤ cap' := by omega
    have hc64I : (64 : Int) ≤ (cap' : Int) := by omega
    have HT := hide (hinv.out.2.2.2.1.take 64 (by omega) hge)
    have HB2 := hide hinv.out.2.1
    have HV2 := hide hinv.out.2.2.1
    have HL64 : Hid ((l'.take 64).length = 64) := hide (by rw [List.length_take]; omega)
    have HNE : Hid ((Value.slice A' 64 cap').ownBlock ≠ some b) := hide (HT.out.ne hinv.out.2.1 (by decide))
    go_wp2_with fail
    refine wp_region_heads [0, 1, 2, 3, 5, 6, 7] 5 (fun w' => BytesAt w' (.slice A' 64 cap') (l'.take 64)) (by kernel_rfl) rfl (by kernel_rfl) (by kernel_rfl) (fun _ _ d _ _ h => by cases d <;> exact h) (HT.out.of_block fun _ _ => rfl) ?_
    iterate 7
      refine' Heads.step rfl (by rfl) ?_ ?_
      rotate_left
      · intro w' hSw
        have hcv := hSw.conv
        go_simp
        try with_reducible rfl
      simp only [Act.put, List.setIfInBounds_toArray, List.set_cons_zero, List.set_cons_succ]
    refine Heads.done ?_
    refine wpAnyH_ready (rs := [4]) (by kernel_rfl) (by simp) (AllReadyH.cons rfl (fun K hK => ?_) AllReadyH.nil)
    rw [if_pos (by rfl)]
    refine wp_load_state (.tmp 40) rfl rfl HB2.out HV2.out ?_
    refine hK.out _ _ (HT.out.of_block fun _ _ => rfl) (fun hHeld1 => ?_)
    clear hK K
    refine wpAnyH_ready (rs := [8]) (by kernel_rfl) (by simp) (AllReadyH.cons rfl (fun K hK => ?_) AllReadyH.nil)
    go_simp
    refine (gmix8 HV2.out (l'.take 64) HL64.out _).mono ?_
    rintro e w3 ⟨rfl, hb3⟩
    refine hK.out _ _ (hHeld1.below hb3) (fun hHeld2 => ?_)
    clear hK K
    refine wpAnyH_more [9, 10] 1 rfl (by kernel_rfl) (by kernel_rfl) (fun _ _ d _ _ h => by cases d <;> exact h) hHeld2 ?_
    iterate 2
      refine' Heads.step rfl (by rfl) ?_ ?_
      rotate_left
      · intro w' hSw
        have hcv := hSw.conv
        go_simp
        try with_reducible rfl
      simp only [Act.put, List.setIfInBounds_toArray, List.set_cons_zero, List.set_cons_succ]
    refine Heads.done ?_
    refine wpAnyH_ready (rs := [11]) (by kernel_rfl) (by simp) (AllReadyH.cons rfl (fun K hK => ?_) AllReadyH.nil)
    rw [if_pos (by rfl)]
    refine wp_store_state (.tmp 47) (.tmp 45) rfl rfl rfl (Blk.below (w := wr.drew) HB2.out hb3 (Blk.lt HB2.out)) HV2.out (mixW_length _ _) ?_
    refine hK.out _ _ (hHeld2.of_block fun g hg => setRow_other _ _ _ _ (fun e => HNE.out (by rw [← e]; exact hg))) (fun hHeld3 => ?_)
    clear hK K
    refine wpAnyH_done (by kernel_rfl) ?_ _
    have HD := hide (hinv.out.2.2.2.1.drop 64 (by omega) hge)
    have hT2 : Turned (· = b) w (w3.setRow b (hcells true (mixW v' (l'.take 64)) (.slice A l.length cap) ((n : Int) + (s.size : Int)))) :=
      (hinv.out.1.drew.then_below hb3).trans (G := (· = b)) ⟨rfl, rfl, rfl, by simp, fun k _ hk => setRow_other _ _ _ _ hk⟩ (fun _ h => .inl h)
    have HN : Hid (∀ A2, A2 = (if cap' = 64 then A' else A'.map (·.add 64)) → WLoop w b v l0 ((n : Int) + (s.size : Int)) (.slice A l.length cap) (mixW v' (l'.take 64)) (l'.drop 64) (.slice A2 (l'.length - 64) (cap' - 64)) (w3.setRow b (hcells true (mixW v' (l'.take 64)) (.slice A l.length cap) ((n : Int) + (s.size : Int))))) := hide fun A2 hA2 =>
      ⟨hT2, setRow_heap _ _ _ _ _ _ (Blk.below (w := wr.drew) HB2.out hb3 (Blk.lt HB2.out)), mixW_length _ _, (BytesAt.below (w := wr.drew) ((HD.out A2 hA2).of_block fun _ _ => rfl) hb3).of_block (fun g hg => setRow_other _ _ _ _ (fun e => by
        have h1 := (BytesAt.below (w := wr.drew) ((HD.out A2 hA2).of_block fun _ _ => rfl) hb3).ne (Blk.below (w := wr.drew) HB2.out hb3 (Blk.lt HB2.out)) (by decide)
        exact h1 (by rw [← e]; exact hg))), by rw [hinv.out.2.2.2.2, eatA_step hge]⟩
    clear hb3 hHeld1 hHeld2 hHeld3 hT2 HB2 HT HNE HD hinv
    generalize w3.setRow b (hcells true (mixW v' (l'.take 64)) (.slice A l.length cap) ((n : Int) + (s.size : Int))) = w4 at *
    have HGE := hide hge
    clear hgeI hc64 hc64I hge
    go_wp2_with ((with_reducible show wpList _ _ _ (⟨some 49, _, _, _, _, _⟩ :: _) _ _); refine wpList_drop64 rfl _ rfl rfl HGE.out ?_; intro A2 hA2; have HN2 := hide (HN.out A2 hA2); clear HN hA2)
    have hge := HGE.out
    go_roundw
    case rel => exact ⟨_, _, HN2⟩
    case measure => simp only; omega
  · have hltI : (l'.length : Int) < 64 := by omega
    have c9 : wr.cell? ⟨b, 9, none⟩ = some (.slice A l.length cap) := (hinv.out.2.1.cell 9).trans (hcells_9 _ hinv.out.2.2.1 _ _)
    have f9 : wr.frozen? ⟨b, 9, none⟩ = false := hinv.out.2.1.frozen 9
    have h9 := hinv.out.2.1.set_ 9 (.slice A' l'.length cap')
    rw [hcells_set9 _ hinv.out.2.2.1] at h9
    have h8 := hinv.out.1.setCell (p := ⟨b, 9, none⟩) (.inl rfl) (.slice A' l'.length cap')
    have HP : Hid (WPost w b (eatA v l0).1 (eatA v l0).2 ((n : Int) + (s.size : Int)) (.returned (.tuple #[])) (wr.setCell ⟨b, 9, none⟩ (.slice A' l'.length cap'))) := hide (by
      rw [hinv.out.2.2.2.2, eatA_stop (by omega)]
      refine ⟨rfl, h8, _, h9, hinv.out.2.2.1, hinv.out.2.2.2.1.of_block fun g hg => ?_⟩
      exact Below.heap_setCell _ _ _ _ (fun e => (hinv.out.2.2.2.1.ne hinv.out.2.1 (by decide)) (by rw [hg]; exact congrArg some e)))
    clear h9 h8 hinv
    go_wp2_with fail
    refine bodyPost_ret (results_none rfl _ _ _) rfl ?_
    exact HP.out
end Go.Proofs.Ytkipmbnmmbeeaaa

/- Chapter 2: New, Copy, Len, Sum, Of, walked. -/
namespace Go.Proofs.Ytkipmbnmmbeeaaa
open Go.RowKit Zb

/-- Block b is a Hash of the text s. -/
def HashOf (w : World) (b : Nat) (s : List UInt8) : Prop := ∃ rs, HashIn w b (eatA firstW s).1 (eatA firstW s).2 (s.length : Nat) rs
set_option maxRecDepth 20000 in
theorem firstW_length : firstW.length = 8 := rfl
section
variable {w w' : World} {b : Nat} {s : List UInt8}
set_option maxRecDepth 20000 in
theorem HashOf.below (h : HashOf w b s) (k : Below w.heap.size w w') : HashOf w' b s := by
  obtain ⟨rs, h⟩ := h
  exact ⟨rs, h.below k⟩
set_option maxRecDepth 20000 in
theorem HashOf.lt (h : HashOf w b s) : b < w.heap.size := by
  obtain ⟨rs, h⟩ := h
  exact h.hb.lt
/-- the rest's block is no Hash -/
theorem HashOf.turned {F : Nat → Prop} (h : HashOf w b s) (k : Turned F w w') (hF : ¬ F b) (hG : ∀ x, F x → ∃ t cs, Blk w x t cs ∧ t ≠ 5) : HashOf w' b s := by
  obtain ⟨rs, h⟩ := h
  refine ⟨rs, h.turned k hF fun g hg hx => ?_⟩
  obtain ⟨t, cs, hb, ht⟩ := hG g hx
  exact h.hs.ne hb (Ne.symm ht) hg
end
def HNewPost (w : World) (e : Ending) (w' : World) : Prop := ∃ b, e = .returned (.pointer (some ⟨b, 0, none⟩)) ∧ w.heap.size ≤ b ∧ HashOf w' b [] ∧ Below w.heap.size w w'
set_option maxRecDepth 20000 in
theorem gNew_calls (w : World) : Calls Try.prog 36 #[] w (HNewPost w) := by
  go_enter Try.func36, Try.ntmps36
  go_wp2_with fail
  refine (gfirst_calls _).mono ?_
  rintro e w1 ⟨rfl, hb1⟩
  have HB1 := hide hb1
  clear hb1
  go_wp2_with ((with_reducible show wpList _ _ _ (⟨some 2, _, _, _, _, _⟩ :: _) _ _); refine wpList_build rfl _ _ rfl (by kernel_rfl) ?_)
  rw [show (Try.prog.built 82 [(0, Value.bool true), (1, Value.agg (wcs firstW).toArray)]).getD #[] = hcells true firstW (.slice none 0 0) 0 by kernel_rfl]
  go_ret
  exact ⟨w1.heap.size, rfl, HB1.out.size, ⟨.slice none 0 0, by rw [eatA_stop (by decide)]; exact ⟨Blk.new w1 82 _, rfl, .inl ⟨rfl, rfl⟩⟩⟩, HB1.out.alloc HB1.out.size _⟩
set_option maxRecDepth 20000 in
theorem hcells_info (v : List Int) (hv : v.length = 8) (rs : Value) (n : Int) : (Try.prog.info? 82).map (·.size) = some (hcells true v rs n).size := by rw [hcells_size true hv]; kernel_rfl
set_option maxRecDepth 20000 in
theorem hcells_one (v : List Int) {rs : Value} (hrs : rs.oneCell' = true) (n : Int) : (hcells true v rs n).all (·.oneCell') = true := by
  unfold hcells
  simp only [List.all_toArray, List.all_cons, List.all_append, List.all_nil, Bool.and_true, Bool.and_eq_true, List.all_eq_true, hrs]
  refine ⟨by first | trivial | rfl, wcs_one v, by first | trivial | rfl | exact ⟨rfl, rfl⟩⟩
set_option maxRecDepth 20000 in
theorem BytesAt.one {w : World} {v : Value} {l : List UInt8} (h : BytesAt w v l) : v.oneCell' = true := by
  rcases h with ⟨rfl, _⟩ | ⟨g, off, cap, cs, rfl, _⟩ <;> rfl
def hzero : Array Value := #[.bool false, .int .u32 0, .int .u32 0, .int .u32 0, .int .u32 0, .int .u32 0, .int .u32 0, .int .u32 0, .int .u32 0, .slice none 0 0, .int .i64 0]
set_option maxRecDepth 20000 in
theorem copy_facts {w : World} {b : Nat} {s : List UInt8} (h : HashOf w b s) : ∃ cs, Blk w b 82 cs ∧ cs[0]? = some (.bool true) ∧ cs[10]? = some (.int .i64 (s.length : Nat)) ∧ (Try.prog.info? 82).map (·.size) = some cs.size ∧ hzero.size = cs.size ∧ cs.all (·.oneCell') = true ∧
    ∀ w' c, Below w.heap.size w w' → Blk w' c 82 cs → HashOf w' c s := by
  obtain ⟨rs, h⟩ := h
  refine ⟨_, h.hb, hcells_0 _ _ _ _, hcells_10 _ h.hv _ _, hcells_info _ h.hv _ _, by rw [hcells_size true h.hv]; rfl, hcells_one _ h.hs.one _, fun w' c hb hc => ⟨rs, hc, h.hv, h.hs.below hb⟩⟩
def HCopyPost (w : World) (s : List UInt8) (e : Ending) (w' : World) : Prop := ∃ c, e = .returned (.pointer (some ⟨c, 0, none⟩)) ∧ w.heap.size ≤ c ∧ HashOf w' c s ∧ Below w.heap.size w w'
/-- Write -/
def WritePost (w : World) (b : Nat) (s : List UInt8) (e : Ending) (w' : World) : Prop := e = .returned (.tuple #[]) ∧ Turned (· = b) w w' ∧ HashOf w' b s
set_option maxRecDepth 20000 in
theorem hWrite_calls {w : World} {b : Nat} {s : List UInt8} (h : HashOf w b s) (t : ByteArray) (hn : s.length + t.size ≤ 100000000000) : Calls Try.prog 37 #[.pointer (some ⟨b, 0, none⟩), .string t] w (WritePost w b (s ++ t.data.toList)) := by
  obtain ⟨rs, h⟩ := h
  refine (gWrite_calls h t (eatA_rest _ _ rfl) hn).mono ?_
  rintro e w' ⟨rfl, h2, r2, h3⟩
  refine ⟨rfl, h2, r2, ?_⟩
  rw [eatA_join'] at h3
  rw [List.length_append]
  exact h3
set_option maxRecDepth 20000 in
theorem HashOf.state {w : World} {b : Nat} {s : List UInt8} (h : HashOf w b s) : (loadVar 79 ⟨b, 1, none⟩).run Try.prog w = .ok (.agg (wcs (eatA firstW s).1).toArray) w := by
  obtain ⟨rs, h⟩ := h
  exact run_load_state h.hb h.hv
set_option maxRecDepth 20000 in
theorem wpList_load_hash {ops : Array Oper} {rest : List Oper} {o : Oper} {a : Act} {Q : Exit → Act → World → Prop} {w : World} (hgd : o.guard = none) (x : Operand) (ho : o.op = .load 79 x) {b : Nat} (hx : a.eval x = .pointer (some ⟨b, 1, none⟩)) {s : List UInt8} (hb : HashOf w b s)
    (h : wpList Try.prog ops Q rest (a.put o.dst (.agg (wcs (eatA firstW s).1).toArray)) w) : wpList Try.prog ops Q (o :: rest) a w := by
  refine wpList_plain hgd fun K hK => ?_
  unfold Oper.wp execOp
  simp only [ho, hx, Instr.loadAt, Instr.sureAddr, Sem.run_bind, Sem.run_pure, Result.andThen_ok, hb.state]
  exact hK _ _ h
def SumPost (w : World) (s : List UInt8) (e : Ending) (w' : World) : Prop := e = .returned (.string ⟨(digW s).toArray⟩) ∧ Below w.heap.size w w'
set_option maxRecDepth 20000 in
theorem gSum_calls {w : World} {b : Nat} {s : List UInt8} (h : HashOf w b s) (hlen : s.length ≤ 50000000000) : Calls Try.prog 38 #[.pointer (some ⟨b, 0, none⟩)] w (SumPost w s) := by
  obtain ⟨cs, hb, h0, h10, hi, hz, h1, hN⟩ := copy_facts h
  have c0 : w.cell? ⟨b, 0, none⟩ = some (.bool true) := (hb.cell 0).trans h0
  have HB := hide hb
  have HI := hide hi
  have HZ := hide hz
  have H1 := hide h1
  have HNB : Hid (Blk (w.alloc (.cells hzero 82)) w.heap.size 82 hzero) := hide (Blk.new w 82 _)
  have hb2 : Below w.heap.size w ((w.alloc (.cells hzero 82)).setRow w.heap.size cs) := below_setRow ((Below.refl _ _).alloc (Nat.le_refl _) _) (Nat.le_refl _) _
  have HC : Hid (HashOf ((w.alloc (.cells hzero 82)).setRow w.heap.size cs) w.heap.size s) := hide (hN _ _ hb2 (setRow_heap _ _ _ _ _ _ HNB.out))
  have HB2 := hide hb2
  have c10 : ((w.alloc (.cells hzero 82)).setRow w.heap.size cs).cell? ⟨b, 10, none⟩ = some (.int .i64 (s.length : Nat)) := (hb2.cell (p := ⟨b, 10, none⟩) hb.lt).trans ((hb.cell 10).trans h10)
  clear hb h0 h10 hi hz h1 hN h hb2
  go_enter Try.func38, Try.ntmps38
  go_wp2_with fail
  refine (gthere_calls b true _ c0).mono ?_
  rintro e w' ⟨rfl, rfl⟩
  go_wp2_with (first | ((with_reducible show wpList _ _ _ (⟨some 9, _, _, _, _, _⟩ :: _) _ _); refine wpList_load_row rfl _ _ rfl b rfl 82 _ (0, 0) _ HB.out Try.underlying82 rfl HI.out ?_) | ((with_reducible show wpList _ _ _ (⟨none, _, _, _, _, _⟩ :: _) _ _); refine wpList_store_row rfl _ _ _ rfl w.heap.size cs rfl rfl 82 _ HNB.out HI.out HZ.out H1.out ?_; change wpList _ _ _ _ _ (World.setRow (w.alloc (.cells hzero 82)) w.heap.size cs); generalize World.setRow (w.alloc (.cells hzero 82)) w.heap.size cs = W at *))
  refine (gending_calls s.length (by omega) _).mono ?_
  rintro e w2 ⟨v, rfl, hbuf⟩
  have hcv := hbuf.conv
  have HBF := hide hbuf
  have hpl := padW_length s.length
  have hzl := zerosN_le s.length
  have HPL := hide hpl
  clear hbuf hpl
  go_wp2_with fail
  refine (hWrite_calls (HC.out.below HBF.out.bel) ⟨(padW s.length).toArray⟩ (by
    show s.length + (padW s.length).toArray.size ≤ _
    rw [List.size_toArray, HPL.out]
    omega)).mono ?_
  rintro e w3 ⟨rfl, ht3, hh3⟩
  have HH3 : Hid (HashOf w3 w.heap.size (s ++ padW s.length)) := hide hh3
  have HT3 := hide ht3
  clear ht3 hh3 hcv
  go_wp2_with ((with_reducible show wpList _ _ _ (⟨some 18, _, _, _, _, _⟩ :: _) _ _); refine wpList_load_hash rfl (.tmp 17) rfl rfl HH3.out ?_)
  refine (gtext_calls _ (eatA_len _ _ rfl) _).mono ?_
  rintro e w4 ⟨rfl, hb4⟩
  have HB4 := hide hb4
  clear hb4
  go_wp2_with fail
  go_ret
  refine ⟨by rw [digW_eq]; rfl, ?_⟩
  have s2 := HB2.out.size
  have s3 := HBF.out.bel.size
  have s4 := HT3.out.size
  exact ((HB2.out.trans (HBF.out.bel.mono s2)).trans (HT3.out.below (by omega) (fun x hx => by rw [hx]; exact Nat.le_refl _))).trans (HB4.out.mono (by omega))
set_option maxRecDepth 20000 in
theorem gOf_calls (s : ByteArray) (hlen : s.size ≤ 50000000000) (w : World) : Calls Try.prog 22 #[.string s] w (SumPost w s.data.toList) := by
  go_enter Try.func22, Try.ntmps22
  go_wp2_with fail
  refine (gNew_calls _).mono ?_
  rintro e w1 ⟨b, rfl, hge, hh, hb1⟩
  have HH := hide hh
  have HB1 := hide hb1
  clear hh hb1
  go_wp2_with fail
  refine (hWrite_calls HH.out s (by show 0 + s.size ≤ _; omega)).mono ?_
  rintro e w2 ⟨rfl, ht2, hh2⟩
  have HT2 := hide ht2
  have HH2 : Hid (HashOf w2 b s.data.toList) := hide hh2
  clear ht2 hh2
  go_wp2_with fail
  refine (gSum_calls HH2.out (by show s.size ≤ _; omega)).mono ?_
  rintro e w3 ⟨rfl, hb3⟩
  have HB3 := hide hb3
  clear hb3
  go_wp2_with fail
  go_ret
  have s1 := HB1.out.size
  have s2 := HT2.out.size
  exact ⟨rfl, (HB1.out.trans (HT2.out.below s1 (fun x hx => by rw [hx]; exact hge))).trans (HB3.out.mono (by omega))⟩
end Go.Proofs.Ytkipmbnmmbeeaaa
