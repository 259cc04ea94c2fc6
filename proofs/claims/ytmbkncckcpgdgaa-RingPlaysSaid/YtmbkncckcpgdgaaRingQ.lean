/- Chapter 5: Sum, a sum of one byte. -/
import Derived.Test.YtmbkncckcpgdgaaRingM
import Derived.Test.YtmbkncckcpgdgaaBuf
namespace Go.Proofs.Ytmbkncckcpgdgaa
open Go.RowKit Zb

def sumB (c : UInt8) : ByteArray := ⟨(List.replicate 32 c).toArray⟩
def sumAt (c : UInt8) (k : Nat) : List UInt8 := List.replicate k c ++ List.replicate (32 - k) 0
set_option maxRecDepth 20000 in
theorem sumAt_len (c : UInt8) {k : Nat} (h : k ≤ 32) : (sumAt c k).length = 32 := by simp [sumAt]; omega
set_option maxRecDepth 20000 in
theorem sumAt_set (c : UInt8) {k : Nat} (h : k < 32) : (sumAt c k).set k c = sumAt c (k + 1) := by
  unfold sumAt
  have e : 32 - k = (32 - (k + 1)) + 1 := by omega
  rw [e, List.replicate_succ, List.set_append_right _ _ (by simp), List.length_replicate, Nat.sub_self, List.set_cons_zero, List.replicate_succ' (n := k)]
  simp
set_option maxRecDepth 20000 in
theorem lSum5_calls (c : UInt8) (w : World) : Calls Try.prog 21 #[.int .u8 (c.toNat : Int)] w fun e w' => e = .returned (.string (sumB c)) ∧ Below w.heap.size w w' := by
  have hmk : ∀ W : World, (Instr.makeSlice 38 (.int .i64 32) (.int .i64 32)).run Try.prog W = .ok (.slice (some ⟨W.heap.size, 0, none⟩) 32 32) (W.alloc (.cells (madeCells #[.int .u8 0] 32) 5)) := fun W => make_row (P := Try.prog) 38 5 _ 1 Try.underlying38 binfo_u8 rfl .i64 .i64 32 (by omega) (by omega) W
  have HB0 : Hid (Buf w (w.alloc (.cells (madeCells #[.int .u8 0] 32) 5)) (.slice (some ⟨w.heap.size, 0, none⟩) 32 32) (sumAt c 0)) := hide (Buf.made (Below.refl _ _) 32 (by unfold maxLen; omega))
  go_enter Try.func21, Try.ntmps21
  go_wp2_with fail
  go_loopw [4] (fun i wr => ∃ (k : Nat), k ≤ 32 ∧ i = .int .i64 (k : Int) ∧ Hid (Buf w wr (.slice (some ⟨w.heap.size, 0, none⟩) 32 32) (sumAt c k))) (fun i _ => 32 - (intOf i).toNat)
  case atStart => exact ⟨0, by omega, rfl, HB0⟩
  case round =>
  obtain ⟨k, hk, rfl, HB⟩ := hrel
  by_cases hk32 : k < 32
  · have hkI : (k : Int) < 32 := by omega
    have hl := sumAt_len c hk
    have hb0 : Buf w wr (.slice (some ⟨w.heap.size, 0, none⟩) (sumAt c k).length 32) (sumAt c k) := by rw [hl]; exact HB.out
    have hc := hb0.cell k (by omega)
    have hf := hb0.frozen k rfl
    have HB1 : Hid (Buf w (wr.setCell ⟨w.heap.size, k, none⟩ (.int .u8 (c.toNat : Int))) (.slice (some ⟨w.heap.size, 0, none⟩) 32 32) (sumAt c (k + 1))) := hide (by
      have := hb0.set k c
      rw [sumAt_set c hk32, hl] at this
      exact this)
    generalize ((sumAt c k)[k]).toNat = u0 at hc
    clear hb0 hl
    go_wp2_with fail
    go_roundw
    case rel => exact ⟨k + 1, by omega, by go_num, HB1⟩
    case measure => simp [intOf]; omega
  · obtain rfl : k = 32 := by omega
    have hcv := HB.out
    have hconv : (convert 38 9 (.slice (some ⟨w.heap.size, 0, none⟩) 32 32)).run Try.prog wr = .ok (.string (sumB c)) wr := by
      have h1 := HB.out.conv
      rw [show sumAt c 32 = List.replicate 32 c by simp [sumAt]] at h1
      exact h1
    clear hcv hk32
    go_wp2_with fail
    go_ret
    exact ⟨rfl, HB.out.bel⟩
end Go.Proofs.Ytmbkncckcpgdgaa
