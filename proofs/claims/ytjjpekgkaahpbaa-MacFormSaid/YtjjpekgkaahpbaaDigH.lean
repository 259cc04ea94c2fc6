/- Chapter 2: a state's text, walked. -/
import Derived.Test.YtjjpekgkaahpbaaDigG
import Derived.Test.YtjjpekgkaahpbaaBuf
namespace Go.Proofs.Ytjjpekgkaahpbaa
open Go.RowKit Zb

theorem index_state (v : List Int) (k : Nat) (h : v.length = 8) (hk : k < 8) (w : World) : (Instr.index 43 (.agg (wcs v).toArray) (.int .i64 (k : Int))).run Try.prog w = .ok (.int .u32 (at0 v k)) w := by
  have hk2 : k < v.length := by omega
  obtain ⟨i, hi, _, hz1, _⟩ := info_parts (show (Try.prog.info? 41).map (fun i => (i.zero, i.size, i.bytes)) = some (some (.int .u32 0), 1, 4) by kernel_rfl)
  have hg := wcs_get v k hk2
  simp [Instr.index, run_underlying Try.underlying43, asIntOf, hk, sizeOf, typeInfo, hi, hz1, part, isAgg, run_underlying Try.underlying41, go_sem]
  simp at hg
  simp [hg]
def out1 (x : Int) : List UInt8 := [UInt8.ofNat (x / 2 ^ 24 % 256).toNat, UInt8.ofNat (x / 2 ^ 16 % 256).toNat, UInt8.ofNat (x / 2 ^ 8 % 256).toNat, UInt8.ofNat (x % 256).toNat]
def outN (v : List Int) (k : Nat) : List UInt8 := (List.range k).flatMap fun i => out1 (at0 v i)
theorem outN_succ (v : List Int) (k : Nat) : outN v (k + 1) = outN v k ++ out1 (at0 v k) := by simp [outN, List.range_succ]
theorem outN_length (v : List Int) : ∀ k, (outN v k).length = 4 * k
  | 0 => rfl
  | k + 1 => by rw [outN_succ, List.length_append, outN_length v k]; rfl
theorem outW_eq (v : List Int) : outW v = outN v 8 := rfl
theorem byte_of (z : Int) : ((UInt8.ofNat (z % 256).toNat).toNat : Int) = z % 256 := by
  rw [UInt8.toNat_ofNat']
  omega
theorem out1_vals (x : Int) : [Value.int .u8 (x / 16777216 % 256), .int .u8 (x / 65536 % 256), .int .u8 (x / 256 % 256), .int .u8 (x % 256)] = bytesVals (out1 x) := by
  unfold bytesVals out1
  simp only [List.map_cons, List.map_nil, byte_of]
  rfl
set_option maxRecDepth 20000 in
set_option maxHeartbeats 2000000 in
theorem gtext_calls (v : List Int) (hv : v.length = 8) (w : World) : Calls Try.prog 29 #[.agg (wcs v).toArray] w fun e w' => e = .returned (.string ⟨(outW v).toArray⟩) ∧ Below w.heap.size w w' := by
  have HV := hide hv
  have HB : Hid (Blk (w.alloc (.cells (wcs v).toArray 43)) w.heap.size 43 (wcs v).toArray) := hide (Blk.new w 43 _)
  have hsz : (wcs v).toArray.size = 8 := by rw [List.size_toArray, wcs_length, hv]
  have HSZ := hide hsz
  have HB0 := hide (Buf.made0 (Below.alloc (Below.refl w.heap.size w) (Nat.le_refl _) (.cells (wcs v).toArray 43)) 32 (by unfold maxLen; omega))
  have hmk : ∀ W : World, (Instr.makeSlice 30 (.int .i64 0) (.int .i64 32)).run Try.prog W = .ok (.slice (some ⟨W.heap.size, 0, none⟩) 0 32) (W.alloc (.cells (madeCells #[.int .u8 0] 32) 5)) := by
    intro W
    obtain ⟨i, hi, hz0, hz1, hz2⟩ := info_parts binfo_u8
    have h := run_make (P := Try.prog) W 30 5 i _ Try.underlying30 hi hz0 .i64 .i64 0 32 (by omega) (by omega) (by rw [hz2]; omega) (by omega)
    simpa [hz1, Value.cells] using h
  have HIX : Hid (∀ k : Nat, k < 8 → ∀ w, (Instr.index 43 (.agg (wcs v).toArray) (.int .i64 (k : Int))).run Try.prog w = .ok (.int .u32 (at0 v k)) w) := hide fun k hk w => index_state v k hv hk w
  have e1 : (w.alloc (.cells (wcs v).toArray 43)).heap.size = w.heap.size + 1 := by simp
  rw [e1] at HB0
  clear hv hsz e1
  go_enter Try.func29, Try.ntmps29
  go_wp2_with ((with_reducible show wpList _ _ _ (⟨some 7, _, _, _, _, _⟩ :: _) _ _); refine wpList_load_row rfl _ _ rfl w.heap.size rfl 43 _ (0, 0) _ (HB.out.alloc _) Try.underlying43 rfl (by rw [HSZ.out]; kernel_rfl) ?_)
  go_loopw [3, 8] (fun b i wr => ∃ k : Nat, k ≤ 8 ∧ i = .int .i64 k ∧ Hid (Buf w wr b (outN v k))) (fun _ i _ => 8 - (intOf i).toNat)
  case atStart => exact ⟨0, Nat.zero_le _, rfl, HB0⟩
  case round =>
  clear HB0
  obtain ⟨k, hk, rfl, hinv⟩ := hrel
  by_cases hlt : k < 8
  · have hix := HIX.out k hlt
    have HS := hide (outN_succ v k)
    have HO := hide (out1_vals (at0 v k))
    have HL := hide (outN_length v k)
    have HC : Hid ((out1 (at0 v k)).length = 4) := hide rfl
    generalize at0 v k = x at *
    go_wp2_with (at_builtin; refine buf_app rfl (.tmp 11) (.tmp 23) rfl hinv #[.int .u8 (x / 16777216 % 256), .int .u8 (x / 65536 % 256), .int .u8 (x / 256 % 256), .int .u8 (x % 256)] (out1 x) 4 rfl rfl HO.out (by rw [HL.out, HC.out]; omega) ?_; intro v' w' hb' hg'; rw [← HS.out] at hb'; clear hg')
    go_roundw
    case rel => exact ⟨k + 1, by omega, by go_num, ‹_›⟩
    case measure => simp [intOf]; omega
  · obtain rfl : k = 8 := by omega
    have hcv := hinv.out.conv
    go_wp2_with fail
    go_ret
    exact ⟨rfl, hinv.out.bel⟩
end Go.Proofs.Ytjjpekgkaahpbaa
