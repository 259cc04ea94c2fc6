/- A disk that is not there: nil, or one that New did not give. Each operation says so. -/
import Derived.Test.YtfdikdacknfoeaaKnown4
import Derived.Test.YtfdikdacknfoeaaArgs
namespace Go.Proofs.Ytfdikdacknfoeaa
open Go.RowKit Zb

theorem ret_int {k : IntKind} {a b : Int} (h : a = b) : Ending.returned (.int k a) = Ending.returned (.int k b) := by rw [h]
def countM (n most : Int) : Int := (if n < 0 then -(n + 1) else n) % most
theorem wCount_calls (n most : Int) (h0 : -9223372036854775808 ≤ n) (h1 : n ≤ 9223372036854775807) (h2 : 0 < most) (h3 : most ≤ 1000000) (w : World) : Calls Try.prog 24 #[.int .i64 n, .int .i64 most] w fun e w' => e = .returned (.int .i64 (countM n most)) ∧ w = w' := by
  by_cases hn : n < 0
  · have e : countM n most = (-(n + 1)) % most := by unfold countM; rw [if_pos hn]
    have E := hide e; clear e
    go_enter Try.func24, Try.ntmps24
    go_wp2
    go_ret
    rw [E.out]
    refine ⟨ret_int ?_, rfl⟩
    first | exact Int.tmod_eq_emod_of_nonneg (by omega) | (rw [← Int.neg_tmod]; exact Int.tmod_eq_emod_of_nonneg (by omega))
  · have e : countM n most = n % most := by unfold countM; rw [if_neg hn]
    have E := hide e; clear e
    go_enter Try.func24, Try.ntmps24
    go_wp2
    go_ret
    rw [E.out]
    exact ⟨rfl, rfl⟩
theorem dwrong_nil (w : World) (i : Int) : Calls Try.prog 26 #[.pointer none, .int .i64 i] w fun e w' => e = .returned (.int .i64 16) ∧ w = w' := by
  go_enter Try.func26, Try.ntmps26
  go_wp2_with (go_at_call 30; refine (dthere_nil _).mono ?_; rintro e w' ⟨rfl, rfl⟩)
  go_ret
  exact ⟨rfl, rfl⟩
theorem dfail_nil (w : World) (m : Int) : Calls Try.prog 15 #[.pointer none, .int .u64 m] w fun e w' => e = .returned (.tuple #[]) ∧ Below w.heap.size w w' := by
  go_enter Try.func15, Try.ntmps15
  go_wp2_with (go_at_call 30; refine (dthere_nil _).mono ?_; rintro e w' ⟨rfl, rfl⟩)
  refine bodyPost_ret (results_none rfl _ _ _) rfl ?_
  exact ⟨rfl, (Below.refl _ _).alloc (Nat.le_refl _) _⟩
theorem dstart_nil (w : World) : Calls Try.prog 17 #[.pointer none] w fun e w' => e = .returned (.tuple #[]) ∧ w = w' := by
  go_enter Try.func17, Try.ntmps17
  go_wp2_with (go_at_call 30; refine (dthere_nil _).mono ?_; rintro e w' ⟨rfl, rfl⟩)
  go_end0
  exact ⟨rfl, rfl⟩
theorem dread_nil (w : World) (i : Int) : Calls Try.prog 14 #[.pointer none, .int .i64 i] w fun e w' => e = .returned (.tuple #[.string ⟨#[]⟩, .int .i64 16]) ∧ w = w' := by
  go_enter Try.func14, Try.ntmps14
  go_wp2_with (go_at_call 26; refine (dwrong_nil _ _).mono ?_; rintro e w' ⟨rfl, rfl⟩)
  go_ret2
  exact ⟨rfl, rfl⟩
theorem dwrite_nil (w : World) (i : Int) (s : ByteArray) : Calls Try.prog 11 #[.pointer none, .int .i64 i, .string s] w fun e w' => e = .returned (.int .i64 16) ∧ w = w' := by
  go_enter Try.func11, Try.ntmps11
  go_wp2_with (go_at_call 26; refine (dwrong_nil _ _).mono ?_; rintro e w' ⟨rfl, rfl⟩)
  go_ret
  exact ⟨rfl, rfl⟩
theorem dsync_nil (w : World) : Calls Try.prog 12 #[.pointer none] w fun e w' => e = .returned (.int .i64 16) ∧ w = w' := by
  go_enter Try.func12, Try.ntmps12
  go_wp2_with (go_at_call 26; refine (dwrong_nil _ _).mono ?_; rintro e w' ⟨rfl, rfl⟩)
  go_ret
  exact ⟨rfl, rfl⟩
theorem dplan_nil (w : World) (k m : Int) : Calls Try.prog 19 #[.pointer none, .int .i64 k, .int .u64 m] w fun e w' => e = .returned (.int .i64 16) ∧ w = w' := by
  go_enter Try.func19, Try.ntmps19
  go_wp2_with (go_at_call 30; refine (dthere_nil _).mono ?_; rintro e w' ⟨rfl, rfl⟩)
  go_ret
  exact ⟨rfl, rfl⟩
theorem don_nil (w : World) : Calls Try.prog 16 #[.pointer none] w fun e w' => e = .returned (.bool false) ∧ w = w' := by
  go_enter Try.func16, Try.ntmps16
  go_wp2_with (go_at_call 30; refine (dthere_nil _).mono ?_; rintro e w' ⟨rfl, rfl⟩)
  go_ret
  exact ⟨rfl, rfl⟩
theorem dops_nil (w : World) : Calls Try.prog 20 #[.pointer none] w fun e w' => e = .returned (.int .i64 0) ∧ w = w' := by
  go_enter Try.func20, Try.ntmps20
  go_wp2_with (go_at_call 30; refine (dthere_nil _).mono ?_; rintro e w' ⟨rfl, rfl⟩)
  go_ret
  exact ⟨rfl, rfl⟩
theorem dwaits_nil (w : World) : Calls Try.prog 13 #[.pointer none] w fun e w' => e = .returned (.int .i64 0) ∧ w = w' := by
  go_enter Try.func13, Try.ntmps13
  go_wp2_with (go_at_call 30; refine (dthere_nil _).mono ?_; rintro e w' ⟨rfl, rfl⟩)
  go_ret
  exact ⟨rfl, rfl⟩
theorem dblocks_nil (w : World) : Calls Try.prog 23 #[.pointer none] w fun e w' => e = .returned (.int .i64 0) ∧ w = w' := by
  go_enter Try.func23, Try.ntmps23
  go_wp2_with (go_at_call 30; refine (dthere_nil _).mono ?_; rintro e w' ⟨rfl, rfl⟩)
  go_ret
  exact ⟨rfl, rfl⟩
theorem dcopy_nil (w : World) : Calls Try.prog 25 #[.pointer none] w fun e w' => e = .returned (.pointer none) ∧ w = w' := by
  go_enter Try.func25, Try.ntmps25
  go_wp2_with (go_at_call 30; refine (dthere_nil _).mono ?_; rintro e w' ⟨rfl, rfl⟩)
  go_ret
  exact ⟨rfl, rfl⟩
theorem dwrong_zero (w : World) (z : Nat) (hz : w.cell? ⟨z, 2, none⟩ = some (.map none)) (i : Int) : Calls Try.prog 26 #[.pointer (some ⟨z, 0, none⟩), .int .i64 i] w fun e w' => e = .returned (.int .i64 16) ∧ w = w' := by
  go_enter Try.func26, Try.ntmps26
  go_wp2_with (go_at_call 30; refine (dthere_zero _ _ hz).mono ?_; rintro e w' ⟨rfl, rfl⟩)
  go_ret
  exact ⟨rfl, rfl⟩
theorem dfail_zero (w : World) (z : Nat) (hz : w.cell? ⟨z, 2, none⟩ = some (.map none)) (m : Int) : Calls Try.prog 15 #[.pointer (some ⟨z, 0, none⟩), .int .u64 m] w fun e w' => e = .returned (.tuple #[]) ∧ Below w.heap.size w w' := by
  have hz2 := hide hz
  have hlt := World.block_lt_of_cell? w _ hz
  have hz : ∀ o : Obj, (w.alloc o).cell? ⟨z, 2, none⟩ = some (.map none) := fun o => (World.cell?_alloc_lt w o _ hlt).trans hz2.out
  go_enter Try.func15, Try.ntmps15
  go_wp2_with (go_at_call 30; refine (dthere_zero _ _ (hz _)).mono ?_; rintro e w' ⟨rfl, rfl⟩)
  refine bodyPost_ret (results_none rfl _ _ _) rfl ?_
  exact ⟨rfl, (Below.refl _ _).alloc (Nat.le_refl _) _⟩
theorem dstart_zero (w : World) (z : Nat) (hz : w.cell? ⟨z, 2, none⟩ = some (.map none)) : Calls Try.prog 17 #[.pointer (some ⟨z, 0, none⟩)] w fun e w' => e = .returned (.tuple #[]) ∧ w = w' := by
  go_enter Try.func17, Try.ntmps17
  go_wp2_with (go_at_call 30; refine (dthere_zero _ _ hz).mono ?_; rintro e w' ⟨rfl, rfl⟩)
  go_end0
  exact ⟨rfl, rfl⟩
theorem dread_zero (w : World) (z : Nat) (hz : w.cell? ⟨z, 2, none⟩ = some (.map none)) (i : Int) : Calls Try.prog 14 #[.pointer (some ⟨z, 0, none⟩), .int .i64 i] w fun e w' => e = .returned (.tuple #[.string ⟨#[]⟩, .int .i64 16]) ∧ w = w' := by
  go_enter Try.func14, Try.ntmps14
  go_wp2_with (go_at_call 26; refine (dwrong_zero _ _ hz _).mono ?_; rintro e w' ⟨rfl, rfl⟩)
  go_ret2
  exact ⟨rfl, rfl⟩
theorem dwrite_zero (w : World) (z : Nat) (hz : w.cell? ⟨z, 2, none⟩ = some (.map none)) (i : Int) (s : ByteArray) : Calls Try.prog 11 #[.pointer (some ⟨z, 0, none⟩), .int .i64 i, .string s] w fun e w' => e = .returned (.int .i64 16) ∧ w = w' := by
  go_enter Try.func11, Try.ntmps11
  go_wp2_with (go_at_call 26; refine (dwrong_zero _ _ hz _).mono ?_; rintro e w' ⟨rfl, rfl⟩)
  go_ret
  exact ⟨rfl, rfl⟩
theorem dsync_zero (w : World) (z : Nat) (hz : w.cell? ⟨z, 2, none⟩ = some (.map none)) : Calls Try.prog 12 #[.pointer (some ⟨z, 0, none⟩)] w fun e w' => e = .returned (.int .i64 16) ∧ w = w' := by
  go_enter Try.func12, Try.ntmps12
  go_wp2_with (go_at_call 26; refine (dwrong_zero _ _ hz _).mono ?_; rintro e w' ⟨rfl, rfl⟩)
  go_ret
  exact ⟨rfl, rfl⟩
theorem dplan_zero (w : World) (z : Nat) (hz : w.cell? ⟨z, 2, none⟩ = some (.map none)) (k m : Int) : Calls Try.prog 19 #[.pointer (some ⟨z, 0, none⟩), .int .i64 k, .int .u64 m] w fun e w' => e = .returned (.int .i64 16) ∧ w = w' := by
  go_enter Try.func19, Try.ntmps19
  go_wp2_with (go_at_call 30; refine (dthere_zero _ _ hz).mono ?_; rintro e w' ⟨rfl, rfl⟩)
  go_ret
  exact ⟨rfl, rfl⟩
theorem don_zero (w : World) (z : Nat) (hz : w.cell? ⟨z, 2, none⟩ = some (.map none)) : Calls Try.prog 16 #[.pointer (some ⟨z, 0, none⟩)] w fun e w' => e = .returned (.bool false) ∧ w = w' := by
  go_enter Try.func16, Try.ntmps16
  go_wp2_with (go_at_call 30; refine (dthere_zero _ _ hz).mono ?_; rintro e w' ⟨rfl, rfl⟩)
  go_ret
  exact ⟨rfl, rfl⟩
theorem dops_zero (w : World) (z : Nat) (hz : w.cell? ⟨z, 2, none⟩ = some (.map none)) : Calls Try.prog 20 #[.pointer (some ⟨z, 0, none⟩)] w fun e w' => e = .returned (.int .i64 0) ∧ w = w' := by
  go_enter Try.func20, Try.ntmps20
  go_wp2_with (go_at_call 30; refine (dthere_zero _ _ hz).mono ?_; rintro e w' ⟨rfl, rfl⟩)
  go_ret
  exact ⟨rfl, rfl⟩
theorem dwaits_zero (w : World) (z : Nat) (hz : w.cell? ⟨z, 2, none⟩ = some (.map none)) : Calls Try.prog 13 #[.pointer (some ⟨z, 0, none⟩)] w fun e w' => e = .returned (.int .i64 0) ∧ w = w' := by
  go_enter Try.func13, Try.ntmps13
  go_wp2_with (go_at_call 30; refine (dthere_zero _ _ hz).mono ?_; rintro e w' ⟨rfl, rfl⟩)
  go_ret
  exact ⟨rfl, rfl⟩
theorem dblocks_zero (w : World) (z : Nat) (hz : w.cell? ⟨z, 2, none⟩ = some (.map none)) : Calls Try.prog 23 #[.pointer (some ⟨z, 0, none⟩)] w fun e w' => e = .returned (.int .i64 0) ∧ w = w' := by
  go_enter Try.func23, Try.ntmps23
  go_wp2_with (go_at_call 30; refine (dthere_zero _ _ hz).mono ?_; rintro e w' ⟨rfl, rfl⟩)
  go_ret
  exact ⟨rfl, rfl⟩
theorem dcopy_zero (w : World) (z : Nat) (hz : w.cell? ⟨z, 2, none⟩ = some (.map none)) : Calls Try.prog 25 #[.pointer (some ⟨z, 0, none⟩)] w fun e w' => e = .returned (.pointer none) ∧ w = w' := by
  go_enter Try.func25, Try.ntmps25
  go_wp2_with (go_at_call 30; refine (dthere_zero _ _ hz).mono ?_; rintro e w' ⟨rfl, rfl⟩)
  go_ret
  exact ⟨rfl, rfl⟩
end Go.Proofs.Ytfdikdacknfoeaa
