/- Chapter 1: octet's Hex and the document's. -/
import Derived.Test.YtjjpekgkaahpbaaOctD
import Derived.Test.YtjjpekgkaahpbaaHeld
namespace Go.Proofs.Ytjjpekgkaahpbaa
open Go.RowKit Zb

theorem hexL_take (s : ByteArray) (k : Nat) (h : k < s.size) : hexL (s.data.toList.take (k + 1)) = hexL (s.data.toList.take k) ++ [digU (s[k].toNat / 16), digU (s[k].toNat % 16)] := by
  have : s.data.toList.take (k + 1) = s.data.toList.take k ++ [s[k]] := by
    rw [List.take_succ_eq_append_getElem (by simpa using h)]; rfl
  rw [this, hexL_append]; rfl
theorem and_low (b : UInt8) : bits .and .u8 (b.toNat : Int) 15 = (b.toNat : Int) % 16 := by
  have h : ∀ n : Nat, n < 256 → bits .and .u8 (n : Int) 15 = (n : Int) % 16 := by decide +kernel
  exact h _ b.toNat_lt
def DIGB : ByteArray := ⟨#[48, 49, 50, 51, 52, 53, 54, 55, 56, 57, 97, 98, 99, 100, 101, 102]⟩
theorem DIGB_size : DIGB.size = 16 := by decide +kernel
theorem digU_val (n : Nat) (z : Int) (hz : z.toNat = n) (hn : n < 16) (h : z.toNat < DIGB.size) : digU n = DIGB[z.toNat] := by
  subst hz
  have h' : z.toNat < DIG.length := h
  unfold digU
  rw [List.getD_eq_getElem?_getD, List.getElem?_eq_getElem h']
  rfl
set_option maxRecDepth 100000 in
theorem oHex_calls (s : ByteArray) (hs : s.size ≤ 100000000000) (w : World) : Calls Try.prog 17 #[.string s] w fun e w' => e = .returned (.string ⟨(hexL s.data.toList).toArray⟩) ∧ Below w.heap.size w w' := by
  have hmk : ∀ W : World, (Instr.makeSlice 30 (.int .i64 0) (.int .i64 (2 * (s.size : Int)))).run Try.prog W = .ok (.slice (some ⟨W.heap.size, 0, none⟩) 0 (2 * s.size)) (W.alloc (.cells (madeCells #[.int .u8 0] (2 * s.size)) 5)) := fun W => by
    obtain ⟨i, hi, hz0, hz1, hz2⟩ := info_parts binfo_u8
    have h := run_make (P := Try.prog) W 30 5 i (.int .u8 0) Try.underlying30 hi hz0 .i64 .i64 0 (2 * (s.size : Int)) (by omega) (by omega) (by rw [hz2]; omega) (by omega)
    rw [hz1, show (2 * (s.size : Int)).toNat = 2 * s.size by omega, Nat.mul_one] at h
    exact h
  have HB0 := hide (Buf.made0 (Below.refl w.heap.size w) (2 * s.size) (by unfold maxLen; omega))
  have hsI : (s.size : Int) ≤ 100000000000 := by omega
  have HS := hide hs; clear hs
  go_enter Try.func17, Try.ntmps17
  go_wp2_with fail
  go_loopw [3, 11] (fun v i wr => ∃ k : Nat, k ≤ s.size ∧ i = .int .i64 k ∧ Hid (Buf w wr v (hexL (s.data.toList.take k)))) (fun _ i _ => s.size - (intOf i).toNat)
  case atStart => exact ⟨0, Nat.zero_le _, rfl, HB0⟩
  case round =>
    obtain ⟨k, hk, rfl, hinv⟩ := hrel
    by_cases hlt : k < s.size
    · have hd := hide (hexL_take s k hlt)
      have hltI : (k : Int) < (s.size : Int) := by omega
      have hb9 := s[k].toNat_lt
      have q0 : (0 : Int) ≤ (s[k].toNat : Int) / 16 := by omega
      have q1 : (s[k].toNat : Int) / 16 < 16 := by omega
      have q2 := and_low s[k]
      have q3 : (0 : Int) ≤ (s[k].toNat : Int) % 16 := by omega
      have q4 : (s[k].toNat : Int) % 16 < 16 := by omega
      have hll : (hexL (s.data.toList.take k)).length ≤ 2 * s.size := by rw [hexL_length, List.length_take]; omega
      go_wp2_with fail
      refine wp_region_heads [0, 1, 2, 3, 4, 5, 6, 7, 8, 9, 10] 3 (fun _ => True) (by kernel_rfl) rfl (by kernel_rfl) (by kernel_rfl) (fun _ _ d _ _ h => by cases d <;> exact h) trivial ?_
      iterate 11
        refine' Heads.step rfl (by rfl) ?_ ?_
        rotate_left
        · intro w1 _
          go_simp
          try with_reducible rfl
        simp only [Act.put, List.setIfInBounds_toArray, List.set_cons_zero, List.set_cons_succ]
      refine Heads.done ?_
      refine wpAnyH_ready (rs := [11]) (by kernel_rfl) (by simp) (AllReadyH.cons rfl (fun K hK => ?_) AllReadyH.nil)
      go_simp
      refine hK.out _ _ trivial (fun hHeld => ?_)
      clear hK K
      refine wpAnyH_ready (rs := [12]) (by kernel_rfl) (by simp) (AllReadyH.cons rfl (fun K hK => ?_) AllReadyH.nil)
      rw [if_pos (by rfl)]
      refine buf_app_op (.tmp 14) (.tmp 25) rfl (hide hinv.out.drew) _ [digU (s[k].toNat / 16), digU (s[k].toNat % 16)] 2 rfl rfl ?_ ?_ ?_
      · simp only [bytesVals, List.map_cons, List.map_nil]
        rw [digU_val _ _ (show ((s[k].toNat : Int) / 16).toNat = s[k].toNat / 16 by omega) (by omega) (by rw [DIGB_size]; omega), digU_val _ _ (show ((s[k].toNat : Int) % 16).toNat = s[k].toNat % 16 by omega) (by omega) (by rw [DIGB_size]; omega)]
        rfl
      · simp; omega
      · intro v' w' hb' _
        rw [← hd.out] at hb'
        refine hK.out _ _ trivial (fun hHeld => ?_)
        clear hK K
        refine wpAnyH_ready (rs := [13]) (by kernel_rfl) (by simp) (AllReadyH.cons rfl (fun K hK => ?_) AllReadyH.nil)
        go_simp
        refine hK.out _ _ trivial (fun hHeld => ?_)
        clear hK K
        refine wpAnyH_done (by kernel_rfl) ?_ _
        go_wp2_with fail
        go_roundw
        case rel => exact ⟨k + 1, by omega, by go_num, hb'⟩
        case measure => simp [intOf]; omega
    · obtain rfl : k = s.size := by omega
      have hcv := hinv.out.conv
      go_wp2_with fail
      go_ret
      refine ⟨?_, hinv.out.bel⟩
      rw [show s.data.toList.take s.size = s.data.toList from List.take_of_length_le (Nat.le_refl _)]
      rfl
end Go.Proofs.Ytjjpekgkaahpbaa
