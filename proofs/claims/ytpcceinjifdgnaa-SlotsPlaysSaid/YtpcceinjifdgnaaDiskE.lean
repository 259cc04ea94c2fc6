/- New and Copy of the disk, walked. -/
import Derived.Test.YtpcceinjifdgnaaDiskD
import Derived.Deep.RegionHeld3
import Derived.Deep.DrawnRows
import Derived.Laws.MakeOwn
import Derived.Laws.OwnMore
import Derived.Laws.IdiomStrings
import Derived.Carry
namespace Go.Proofs.Ytpcceinjifdgnaa
open Go.RowKit Zb

theorem info_string : (Try.prog.info? 9).map (fun i => (i.zero, i.size, i.bytes)) = some (some (.string ⟨#[]⟩), 1, 16) := by kernel_rfl
theorem info_u8 : (Try.prog.info? 5).map (fun i => (i.zero, i.size, i.bytes)) = some (some (.int .u8 0), 1, 1) := by kernel_rfl

theorem replicate_step (n k : Nat) (hk : k < n) (z e : ByteArray) : (List.replicate k z ++ List.replicate (n - k) e).set k z = List.replicate (k + 1) z ++ List.replicate (n - (k + 1)) e := by
  rw [show n - k = (n - (k + 1)) + 1 by omega, List.replicate_succ, List.set_append_right _ _ (by simp)]
  simp [List.replicate_succ']

structure NewInv (w : World) (s0 sm b n : Nat) (k : Nat) (wr : World) : Prop where
  bel : Below w.heap.size w wr
  hb : Blk wr b 68 #[.slice (some ⟨s0, 0, none⟩) n n, .slice none 0 0, .map (some sm), .bool false, .int .i64 0, .bool false, .int .i64 0, .int .u64 0]
  hl : Row wr 9 1 (.slice (some ⟨s0, 0, none⟩) n n) n (strs (List.replicate k (zeros 64) ++ List.replicate (n - k) ⟨#[]⟩))
  hm : MapAt wr sm []

theorem dnew_bad (n : Int) (hn : n < 16 ∨ 512 < n) (w : World) : Calls Try.prog 11 #[.int .i64 n] w fun e w' => e = .returned (.tuple #[.pointer none, .int .i64 1]) ∧ w = w' := by
  rcases hn with h | h
  · go_enter Try.func11, Try.ntmps11
    go_wp2
    go_ret2
    exact ⟨rfl, rfl⟩
  · have h' : ¬ n < 16 := by omega
    go_enter Try.func11, Try.ntmps11
    go_wp2
    go_ret2
    exact ⟨rfl, rfl⟩

def NewPost (n : Nat) (w : World) (e : Ending) (w' : World) : Prop :=
  ∃ b F, e = .returned (.tuple #[.pointer (some ⟨b, 0, none⟩), .int .i64 0]) ∧ Below w.heap.size w w' ∧ (∀ x, F x → w.heap.size ≤ x) ∧ DiskAt w' b F (DiskM.new n)

set_option maxHeartbeats 1000000 in
theorem dnew_calls (n : Nat) (h0 : 16 ≤ n) (h1 : n ≤ 512) (w : World) : Calls Try.prog 11 #[.int .i64 n] w (NewPost n w) := by
  have hmk := fun W => make_row (P := Try.prog) 52 9 _ 16 Try.underlying52 info_string rfl .i64 .i64 n (by omega) (by omega) W
  have hmk2 : ∀ W : World, (Instr.makeSlice 35 (.int .i64 64) (.int .i64 64)).run Try.prog W = .ok (.slice (some ⟨W.heap.size, 0, none⟩) 64 64) (W.alloc (.cells (madeCells #[.int .u8 0] 64) 5)) := fun W => make_row (P := Try.prog) 35 5 _ 1 Try.underlying35 info_u8 rfl .i64 .i64 64 (by omega) (by omega) W
  have hcv : ∀ W : World, (convert 35 9 (.slice (some ⟨W.heap.size, 0, none⟩) 64 64)).run Try.prog (W.alloc (.cells (madeCells #[.int .u8 0] 64) 5)).drew = .ok (.string (zeros 64)) (W.alloc (.cells (madeCells #[.int .u8 0] 64) 5)).drew := fun W => by
    have hr := row_made W 5 (.int .u8 0) 64 (by unfold maxLen; omega)
    refine conv_bytes _ 35 9 5 _ 64 (List.replicate 64 0) Try.underlying35 Try.underlying5 Try.underlying9 ?_
    intro j hj
    rw [add_plain]
    refine (World.ownsRow.cellAt hr j (by simpa using hj)).trans ?_
    simp [bytesVals]
  have hmm := @run_makeMap Try.prog
  have hn0 : ¬ (n : Int) < 16 := by omega
  have hn1 : ¬ (n : Int) > 512 := by omega
  have Hs : NewInv w w.heap.size (w.heap.size + 1) (w.heap.size + 1 + 1) n 0 (((w.alloc (.cells (madeCells #[.string ⟨#[]⟩] n) 9)).alloc (.map #[] 0)).alloc (.cells #[.slice (some ⟨w.heap.size, 0, none⟩) n n, .slice none 0 0, .map (some (w.heap.size + 1)), .bool false, .int .i64 0, .bool false, .int .i64 0, .int .u64 0] 68)) := by
    refine ⟨(((Below.refl _ _).alloc (Nat.le_refl _) _).alloc (by simp) _).alloc (by simp; omega) _, ?_, ?_, ?_⟩
    · have := Blk.new ((w.alloc (.cells (madeCells #[.string ⟨#[]⟩] n) 9)).alloc (.map #[] 0)) 68 #[.slice (some ⟨w.heap.size, 0, none⟩) n n, .slice none 0 0, .map (some (w.heap.size + 1)), .bool false, .int .i64 0, .bool false, .int .i64 0, .int .u64 0]
      simpa using this
    · have := row_alloc (row_alloc (row_made w 9 (.string ⟨#[]⟩) n (by unfold maxLen; omega)) (.map #[] 0)) (.cells #[.slice (some ⟨w.heap.size, 0, none⟩) n n, .slice none 0 0, .map (some (w.heap.size + 1)), .bool false, .int .i64 0, .bool false, .int .i64 0, .int .u64 0] 68)
      simpa [strs] using this
    · have := MapAt.new (w.alloc (.cells (madeCells #[.string ⟨#[]⟩] n) 9))
      have h2 := this.of_block (Below.heap_alloc _ (.cells #[.slice (some ⟨w.heap.size, 0, none⟩) n n, .slice none 0 0, .map (some (w.heap.size + 1)), .bool false, .int .i64 0, .bool false, .int .i64 0, .int .u64 0] 68) _ this.lt)
      simpa using h2
  have HS := hide Hs; clear Hs
  have hq0 : w.heap.size + 1 + 1 ≠ w.heap.size := by omega
  go_enter Try.func11, Try.ntmps11
  go_wp2_with fail
  go_loopw [22] (fun i wr => ∃ k : Nat, k ≤ n ∧ i = .int .i64 k ∧ NewInv w w.heap.size (w.heap.size + 1) (w.heap.size + 1 + 1) n k wr) (fun i _ => n - (intOf i).toNat)
  case atStart => exact ⟨0, Nat.zero_le _, rfl, HS.out⟩
  case round =>
    obtain ⟨k, hk, rfl, hinv⟩ := hrel
    generalize hs0 : w.heap.size = q at *
    by_cases hlt : k < n
    · have c0 : wr.cell? ⟨q + 1 + 1, 0, none⟩ = some (.slice (some ⟨q, 0, none⟩) n n) := hinv.hb.cell 0
      have hlq := row_lt hinv.hl q rfl
      have hbq := hinv.hb.lt
      have hll : k < (List.replicate k (zeros 64) ++ List.replicate (n - k) (⟨#[]⟩ : ByteArray)).length := by simp; omega
      have ck : wr.cell? ⟨q, k, none⟩ = some (.string ((List.replicate k (zeros 64) ++ List.replicate (n - k) (⟨#[]⟩ : ByteArray)).getD k ⟨#[]⟩)) := (World.ownsRow.cellAt hinv.hl k (by omega)).trans (strs_get _ k hll)
      clear hll
      have fk := World.ownsRow.frozenAt hinv.hl k
      generalize (List.replicate k (zeros 64) ++ List.replicate (n - k) (⟨#[]⟩ : ByteArray)).getD k ⟨#[]⟩ = sk at ck
      have hne : q ≠ q + 1 + 1 := by omega
      go_wp2_with fail
      go_region_held (fun w' => w'.cell? ⟨q + 1 + 1, 0, none⟩ = some (.slice (some ⟨q, 0, none⟩) n n)) (go_keep) (fail)
      have hs : NewInv w q (q + 1) (q + 1 + 1) n (k + 1) (((wr.setCell ⟨q, k, none⟩ (.string (zeros 64))).alloc (.cells (madeCells #[.int .u8 0] 64) 5)).drew) := by
        have hsz : w.heap.size ≤ wr.heap.size := hinv.bel.size
        refine ⟨((hinv.bel.setCell (p := ⟨q, k, none⟩) (by rw [hs0]; exact Nat.le_refl _) _).alloc (by simpa [World.setCell] using hsz) _).drew, ?_, ?_, ?_⟩
        · exact (hinv.hb.far (p := ⟨q, k, none⟩) (Ne.symm hne) _).alloc _
        · rw [← replicate_step n k hlt, strs_set]
          exact row_alloc (World.ownsRow.stored hinv.hl k (.string (zeros 64))).1 _
        · have hm := hinv.hm.of_block (w' := wr.setCell ⟨q, k, none⟩ (.string (zeros 64))) (Below.heap_setCell _ _ _ _ (show q + 1 ≠ q by omega))
          exact hm.of_block (Below.heap_alloc _ _ _ hm.lt)
      have HS2 := hide hs; clear hs
      go_wp2_with fail
      go_roundw
      case rel => exact ⟨k + 1, by omega, by go_num, HS2.out⟩
      case measure => simp [intOf]; omega
    · obtain rfl : k = n := by omega
      have HI := hide hinv; clear hinv
      go_wp2_with fail
      go_ret2
      have hinv := HI.out
      have e : strs (List.replicate k (zeros 64) ++ List.replicate (k - k) ⟨#[]⟩) = strs (DiskM.new k).lasts := by simp [DiskM.new]
      have hl := hinv.hl
      rw [e] at hl
      have hlq := row_lt hinv.hl q rfl
      refine ⟨q + 1 + 1, fun x => x = q ∨ x = q + 1 ∨ x = q + 1 + 1, rfl, hinv.bel, ?_, _, _, q + 1, [], hinv.hb, ?_, row_nil _ _ _, hinv.hm, fun x => rfl, by simp, by simp, ?_, ?_, ?_, ?_⟩
      · rintro x (rfl | rfl | rfl) <;> omega
      · simpa [DiskM.new] using hl
      · intro g hg
        have : g = q := by simpa [Value.ownBlock] using hg.symm
        exact .inl this
      · intro g hg
        simp [Value.ownBlock] at hg
      · have := hinv.hb.lt
        rintro x (rfl | rfl | rfl) <;> omega
      · exact ⟨by simp [DiskM.new]; omega, by simp [DiskM.new]⟩
end Go.Proofs.Ytpcceinjifdgnaa
