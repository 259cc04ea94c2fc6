/- Full, of the statements of layer 4: a block of one byte; and known, which comes to true. -/
import Derived.Test.YtfdikdacknfoeaaDiskE
namespace Go.Proofs.Ytfdikdacknfoeaa
open Go.RowKit Zb

def fullB (c : UInt8) : ByteArray := ⟨Array.replicate 64 c⟩
theorem fullB_size (c : UInt8) : (fullB c).size = 64 := by simp [fullB, ByteArray.size]

theorem fill_step (n k : Nat) (hk : k < n) (c : UInt8) : (bytesVals (List.replicate k c ++ List.replicate (n - k) 0)).set k (.int .u8 (c.toNat : Int)) = bytesVals (List.replicate (k + 1) c ++ List.replicate (n - (k + 1)) 0) := by
  rw [show n - k = (n - (k + 1)) + 1 by omega, List.replicate_succ, bytesVals_append, List.set_append_right _ _ (by simp [bytesVals])]
  simp [bytesVals, List.replicate_succ']

theorem lFull_calls (c : UInt8) (w : World) : Calls Try.prog 10 #[.int .u8 (c.toNat : Int)] w fun e w' => e = .returned (.string (fullB c)) ∧ Below w.heap.size w w' := by
  have hmk2 : ∀ W : World, (Instr.makeSlice 22 (.int .i64 64) (.int .i64 64)).run Try.prog W = .ok (.slice (some ⟨W.heap.size, 0, none⟩) 64 64) (W.alloc (.cells (madeCells #[.int .u8 0] 64) 5)) := fun W => make_row (P := Try.prog) 22 5 _ 1 Try.underlying22 info_u8 rfl .i64 .i64 64 (by omega) (by omega) W
  have Hs : Below w.heap.size w (w.alloc (.cells (madeCells #[.int .u8 0] 64) 5)) ∧ Row (w.alloc (.cells (madeCells #[.int .u8 0] 64) 5)) 5 1 (.slice (some ⟨w.heap.size, 0, none⟩) 64 64) 64 (bytesVals (List.replicate 0 c ++ List.replicate (64 - 0) 0)) := by
    refine ⟨(Below.refl _ _).alloc (Nat.le_refl _) _, ?_⟩
    have := row_made w 5 (.int .u8 0) 64 (by unfold maxLen; omega)
    simpa [bytesVals] using this
  have HS := hide Hs; clear Hs
  go_enter Try.func10, Try.ntmps10
  go_wp2_with fail
  go_loopw [4] (fun i wr => ∃ k : Nat, k ≤ 64 ∧ i = .int .i64 k ∧ Hid (Below w.heap.size w wr ∧ Row wr 5 1 (.slice (some ⟨w.heap.size, 0, none⟩) 64 64) 64 (bytesVals (List.replicate k c ++ List.replicate (64 - k) 0)))) (fun i _ => 64 - (intOf i).toNat)
  case atStart => exact ⟨0, Nat.zero_le _, rfl, HS⟩
  case round =>
    obtain ⟨k, hk, rfl, hinv⟩ := hrel
    generalize hs0 : w.heap.size = q at *
    by_cases hlt : k < 64
    · have hll : k < (List.replicate k c ++ List.replicate (64 - k) 0).length := by simp; omega
      have ck : wr.cell? ⟨q, k, none⟩ = some (.int .u8 ((List.replicate k c ++ List.replicate (64 - k) 0)[k].toNat : Int)) := (World.ownsRow.cellAt hinv.out.2 k (by omega)).trans (bytesVals_get _ k hll)
      have fk := World.ownsRow.frozenAt hinv.out.2 k
      generalize ((List.replicate k c ++ List.replicate (64 - k) 0)[k].toNat : Int) = xk at ck
      clear hll
      have hs : Hid (Below q w (wr.setCell ⟨q, k, none⟩ (.int .u8 (c.toNat : Int))) ∧ Row (wr.setCell ⟨q, k, none⟩ (.int .u8 (c.toNat : Int))) 5 1 (.slice (some ⟨q, 0, none⟩) 64 64) 64 (bytesVals (List.replicate (k + 1) c ++ List.replicate (64 - (k + 1)) 0))) := by
        refine hide ⟨hinv.out.1.setCell (Nat.le_refl _) _, ?_⟩
        rw [← fill_step 64 k hlt c]
        exact (World.ownsRow.stored hinv.out.2 k (.int .u8 (c.toNat : Int))).1
      go_wp2_with fail
      go_roundw
      case rel => exact ⟨k + 1, by omega, by go_num, hs⟩
      case measure => simp [intOf]; omega
    · obtain rfl : k = 64 := by omega
      have hcv : (convert 22 9 (.slice (some ⟨q, 0, none⟩) 64 64)).run Try.prog wr = .ok (.string (fullB c)) wr := by
        have := conv_bytes (P := Try.prog) wr 22 9 5 ⟨q, 0, none⟩ 64 (List.replicate 64 c) Try.underlying22 Try.underlying5 Try.underlying9 (fun j hj => by
          rw [add_plain]
          refine (World.ownsRow.cellAt hinv.out.2 j (by simpa using hj)).trans ?_
          simp)
        have e1 : (List.replicate 64 c).length = 64 := List.length_replicate
        have e2 : (⟨(List.replicate 64 c).toArray⟩ : ByteArray) = fullB c := by unfold fullB; rw [List.toArray_replicate]
        rw [e1, e2] at this
        exact this
      go_wp2_with fail
      go_ret
      exact ⟨rfl, by rw [hs0]; exact hinv.out.1⟩
/-- a block of a number's byte -/
def fullI (c : Int) : ByteArray := fullB (UInt8.ofNat c.toNat)
theorem fullI_size (c : Int) : (fullI c).size = 64 := fullB_size _
theorem lFull_int (c : Int) (h0 : 0 ≤ c) (h1 : c ≤ 255) (w : World) : Calls Try.prog 10 #[.int .u8 c] w fun e w' => e = .returned (.string (fullI c)) ∧ Below w.heap.size w w' := by
  have e : ((UInt8.ofNat c.toNat).toNat : Int) = c := by
    rw [UInt8.toNat_ofNat']
    omega
  have := lFull_calls (UInt8.ofNat c.toNat) w
  rw [e] at this
  exact this
end Go.Proofs.Ytfdikdacknfoeaa
