/- Chapter 5: right, put, get, walked. -/
import Derived.Test.YtmbkncckcpgdgaaRingP
import Derived.Test.YtmbkncckcpgdgaaHeld
import Derived.Test.YtmbkncckcpgdgaaDg3
namespace Go.Proofs.Ytmbkncckcpgdgaa
open Go.RowKit Zb

set_option maxRecDepth 20000 in
theorem ebetween_yes (n low high : Int) (h0 : low ≤ n) (h1 : n ≤ high) (w : World) : Calls Try.prog 55 #[.int .i64 n, .int .i64 low, .int .i64 high] w fun e w' => e = .returned (.bool true) ∧ w = w' := by
  go_enter Try.func55, Try.ntmps55
  go_wp2_with fail
  go_ret
  exact ⟨rfl, rfl⟩
set_option maxRecDepth 20000 in
theorem ebetween_lo (n low high : Int) (h0 : n < low) (w : World) : Calls Try.prog 55 #[.int .i64 n, .int .i64 low, .int .i64 high] w fun e w' => e = .returned (.bool false) ∧ w = w' := by
  have hd : decide (low ≤ n) = false := by simp; omega
  go_enter Try.func55, Try.ntmps55
  go_wp2_with fail
  go_ret
  exact ⟨rfl, rfl⟩
set_option maxRecDepth 20000 in
theorem ebetween_hi (n low high : Int) (h0 : low ≤ n) (h1 : high < n) (w : World) : Calls Try.prog 55 #[.int .i64 n, .int .i64 low, .int .i64 high] w fun e w' => e = .returned (.bool false) ∧ w = w' := by
  have hd : decide (n ≤ high) = false := by simp; omega
  go_enter Try.func55, Try.ntmps55
  go_wp2_with fail
  go_ret
  exact ⟨rfl, rfl⟩
set_option maxRecDepth 20000 in
theorem ebetween_no (n low high : Int) (h : ¬ (low ≤ n ∧ n ≤ high)) (w : World) : Calls Try.prog 55 #[.int .i64 n, .int .i64 low, .int .i64 high] w fun e w' => e = .returned (.bool false) ∧ w = w' := by
  by_cases h0 : low ≤ n
  · exact ebetween_hi n low high h0 (by omega) w
  · exact ebetween_lo n low high (by omega) w

def EntM.cells (e : EntM) : List Value := [.int .i64 e.kind, .int .i64 e.number, .int .i64 e.slot, .int .i64 e.size, .string e.sum]
set_option maxRecDepth 20000 in
theorem ent_all {w : World} {g : Nat} {t : TypeId} {e : EntM} (h : Blk w g t e.cells.toArray) : w.cell? ⟨g, 0, none⟩ = some (.int .i64 e.kind) ∧ w.cell? ⟨g, 1, none⟩ = some (.int .i64 e.number) ∧ w.cell? ⟨g, 2, none⟩ = some (.int .i64 e.slot) ∧ w.cell? ⟨g, 3, none⟩ = some (.int .i64 e.size) ∧ w.cell? ⟨g, 4, none⟩ = some (.string e.sum) :=
  ⟨h.cell 0, h.cell 1, h.cell 2, h.cell 3, h.cell 4⟩
set_option maxRecDepth 20000 in
theorem eright_yes (e : EntM) (h0 : 1 ≤ e.kind ∧ e.kind ≤ 3) (h1 : 1 ≤ e.number ∧ e.number ≤ 4294967295) (h2 : 0 ≤ e.slot ∧ e.slot ≤ 2) (h3 : 0 ≤ e.size ∧ e.size ≤ 4294967295) (h4 : e.sum.size = 32) (w : World) : Calls Try.prog 38 #[.agg #[.int .i64 e.kind, .int .i64 e.number, .int .i64 e.slot, .int .i64 e.size, .string e.sum]] w fun r w' => r = .returned (.bool true) ∧ Below w.heap.size w w' := by
  have H0 := hide (ebetween_yes e.kind 1 3 (by omega) (by omega))
  have H1 := hide (ebetween_yes e.number 1 4294967295 (by omega) (by omega))
  have H2 := hide (ebetween_yes e.slot 0 2 (by omega) (by omega))
  have H3 := hide (ebetween_yes e.size 0 4294967295 (by omega) (by omega))
  have hs : (e.sum.size : Int) = 32 := by omega
  clear h0 h1 h2 h3 h4
  go_enter Try.func38, Try.ntmps38
  go_wp2_with fail
  refine (H0.out _).mono ?_
  rintro e' w' ⟨rfl, rfl⟩
  go_wp2_with fail
  refine (H1.out _).mono ?_
  rintro e' w' ⟨rfl, rfl⟩
  go_wp2_with fail
  refine (H2.out _).mono ?_
  rintro e' w' ⟨rfl, rfl⟩
  go_wp2_with fail
  refine (H3.out _).mono ?_
  rintro e' w' ⟨rfl, rfl⟩
  go_wp2_with fail
  go_ret
  exact ⟨rfl, (Below.refl _ _).alloc (Nat.le_refl _) _⟩
set_option maxRecDepth 20000 in
theorem eright_n4 (e : EntM) (h0 : 1 ≤ e.kind ∧ e.kind ≤ 3) (h1 : 1 ≤ e.number ∧ e.number ≤ 4294967295) (h2 : 0 ≤ e.slot ∧ e.slot ≤ 2) (h3 : 0 ≤ e.size ∧ e.size ≤ 4294967295) (h4 : ¬ e.sum.size = 32) (w : World) : Calls Try.prog 38 #[.agg #[.int .i64 e.kind, .int .i64 e.number, .int .i64 e.slot, .int .i64 e.size, .string e.sum]] w fun r w' => r = .returned (.bool false) ∧ Below w.heap.size w w' := by
  have H0 := hide (ebetween_yes e.kind 1 3 (by omega) (by omega))
  have H1 := hide (ebetween_yes e.number 1 4294967295 (by omega) (by omega))
  have H2 := hide (ebetween_yes e.slot 0 2 (by omega) (by omega))
  have H3 := hide (ebetween_yes e.size 0 4294967295 (by omega) (by omega))
  have hs : ((e.sum.size : Int) == 32) = false := by rw [beq_eq_false_iff_ne]; omega
  clear h0 h1 h2 h3 h4
  go_enter Try.func38, Try.ntmps38
  go_wp2_with fail
  refine (H0.out _).mono ?_
  rintro e' w' ⟨rfl, rfl⟩
  go_wp2_with fail
  refine (H1.out _).mono ?_
  rintro e' w' ⟨rfl, rfl⟩
  go_wp2_with fail
  refine (H2.out _).mono ?_
  rintro e' w' ⟨rfl, rfl⟩
  go_wp2_with fail
  refine (H3.out _).mono ?_
  rintro e' w' ⟨rfl, rfl⟩
  go_wp2_with fail
  go_ret
  exact ⟨rfl, (Below.refl _ _).alloc (Nat.le_refl _) _⟩
set_option maxRecDepth 20000 in
theorem eright_n0 (e : EntM)  (h0 : ¬ (1 ≤ e.kind ∧ e.kind ≤ 3)) (w : World) : Calls Try.prog 38 #[.agg #[.int .i64 e.kind, .int .i64 e.number, .int .i64 e.slot, .int .i64 e.size, .string e.sum]] w fun r w' => r = .returned (.bool false) ∧ Below w.heap.size w w' := by
  have H0 := hide (ebetween_no e.kind 1 3 h0)
  clear h0
  go_enter Try.func38, Try.ntmps38
  go_wp2_with fail
  refine (H0.out _).mono ?_
  rintro e' w' ⟨rfl, rfl⟩
  go_wp2_with fail
  go_ret
  exact ⟨rfl, (Below.refl _ _).alloc (Nat.le_refl _) _⟩
set_option maxRecDepth 20000 in
theorem eright_n1 (e : EntM) (h0 : 1 ≤ e.kind ∧ e.kind ≤ 3) (h1 : ¬ (1 ≤ e.number ∧ e.number ≤ 4294967295)) (w : World) : Calls Try.prog 38 #[.agg #[.int .i64 e.kind, .int .i64 e.number, .int .i64 e.slot, .int .i64 e.size, .string e.sum]] w fun r w' => r = .returned (.bool false) ∧ Below w.heap.size w w' := by
  have H0 := hide (ebetween_yes e.kind 1 3 (by omega) (by omega))
  have H1 := hide (ebetween_no e.number 1 4294967295 h1)
  clear h0 h1
  go_enter Try.func38, Try.ntmps38
  go_wp2_with fail
  refine (H0.out _).mono ?_
  rintro e' w' ⟨rfl, rfl⟩
  go_wp2_with fail
  refine (H1.out _).mono ?_
  rintro e' w' ⟨rfl, rfl⟩
  go_wp2_with fail
  go_ret
  exact ⟨rfl, (Below.refl _ _).alloc (Nat.le_refl _) _⟩
set_option maxRecDepth 20000 in
theorem eright_n2 (e : EntM) (h0 : 1 ≤ e.kind ∧ e.kind ≤ 3) (h1 : 1 ≤ e.number ∧ e.number ≤ 4294967295) (h2 : ¬ (0 ≤ e.slot ∧ e.slot ≤ 2)) (w : World) : Calls Try.prog 38 #[.agg #[.int .i64 e.kind, .int .i64 e.number, .int .i64 e.slot, .int .i64 e.size, .string e.sum]] w fun r w' => r = .returned (.bool false) ∧ Below w.heap.size w w' := by
  have H0 := hide (ebetween_yes e.kind 1 3 (by omega) (by omega))
  have H1 := hide (ebetween_yes e.number 1 4294967295 (by omega) (by omega))
  have H2 := hide (ebetween_no e.slot 0 2 h2)
  clear h0 h1 h2
  go_enter Try.func38, Try.ntmps38
  go_wp2_with fail
  refine (H0.out _).mono ?_
  rintro e' w' ⟨rfl, rfl⟩
  go_wp2_with fail
  refine (H1.out _).mono ?_
  rintro e' w' ⟨rfl, rfl⟩
  go_wp2_with fail
  refine (H2.out _).mono ?_
  rintro e' w' ⟨rfl, rfl⟩
  go_wp2_with fail
  go_ret
  exact ⟨rfl, (Below.refl _ _).alloc (Nat.le_refl _) _⟩
set_option maxRecDepth 20000 in
theorem eright_n3 (e : EntM) (h0 : 1 ≤ e.kind ∧ e.kind ≤ 3) (h1 : 1 ≤ e.number ∧ e.number ≤ 4294967295) (h2 : 0 ≤ e.slot ∧ e.slot ≤ 2) (h3 : ¬ (0 ≤ e.size ∧ e.size ≤ 4294967295)) (w : World) : Calls Try.prog 38 #[.agg #[.int .i64 e.kind, .int .i64 e.number, .int .i64 e.slot, .int .i64 e.size, .string e.sum]] w fun r w' => r = .returned (.bool false) ∧ Below w.heap.size w w' := by
  have H0 := hide (ebetween_yes e.kind 1 3 (by omega) (by omega))
  have H1 := hide (ebetween_yes e.number 1 4294967295 (by omega) (by omega))
  have H2 := hide (ebetween_yes e.slot 0 2 (by omega) (by omega))
  have H3 := hide (ebetween_no e.size 0 4294967295 h3)
  clear h0 h1 h2 h3
  go_enter Try.func38, Try.ntmps38
  go_wp2_with fail
  refine (H0.out _).mono ?_
  rintro e' w' ⟨rfl, rfl⟩
  go_wp2_with fail
  refine (H1.out _).mono ?_
  rintro e' w' ⟨rfl, rfl⟩
  go_wp2_with fail
  refine (H2.out _).mono ?_
  rintro e' w' ⟨rfl, rfl⟩
  go_wp2_with fail
  refine (H3.out _).mono ?_
  rintro e' w' ⟨rfl, rfl⟩
  go_wp2_with fail
  go_ret
  exact ⟨rfl, (Below.refl _ _).alloc (Nat.le_refl _) _⟩
set_option maxRecDepth 20000 in
theorem eright_calls (e : EntM) (w : World) : Calls Try.prog 38 #[.agg #[.int .i64 e.kind, .int .i64 e.number, .int .i64 e.slot, .int .i64 e.size, .string e.sum]] w fun r w' => r = .returned (.bool e.right) ∧ Below w.heap.size w w' := by
  by_cases hr : RightE e
  · rw [(rightE_iff e).2 hr]
    exact eright_yes e ⟨hr.k0, hr.k1⟩ ⟨hr.n0, hr.n1⟩ ⟨hr.s0, hr.s1⟩ ⟨hr.z0, hr.z1⟩ hr.m w
  · have hf : e.right = false := by
      cases h : e.right
      · rfl
      · exact absurd ((rightE_iff e).1 h) hr
    rw [hf]
    by_cases h0 : 1 ≤ e.kind ∧ e.kind ≤ 3
    · by_cases h1 : 1 ≤ e.number ∧ e.number ≤ 4294967295
      · by_cases h2 : 0 ≤ e.slot ∧ e.slot ≤ 2
        · by_cases h3 : 0 ≤ e.size ∧ e.size ≤ 4294967295
          · by_cases h4 : e.sum.size = 32
            · exact absurd ⟨h0.1, h0.2, h1.1, h1.2, h2.1, h2.2, h3.1, h3.2, h4⟩ hr
            · exact eright_n4 e h0 h1 h2 h3 h4 w
          · exact eright_n3 e h0 h1 h2 h3 w
        · exact eright_n2 e h0 h1 h2 w
      · exact eright_n1 e h0 h1 w
    · exact eright_n0 e h0 w
set_option maxRecDepth 20000 in
theorem eget_calls (s : ByteArray) (hs : s.size ≤ 140737488351232) (at_ width : Int) (h0 : -9223372036854775808 ≤ at_) (h1 : at_ < 9223372036854775808) (w : World) : Calls Try.prog 44 #[.string s, .int .i64 at_, .int .i64 width] w fun e w' => e = .returned (.int .i64 (getN s at_ width)) ∧ w = w' := by
  have HG := hide (oGet_calls s hs at_ width h0 h1)
  clear h0 h1 hs
  go_enter Try.func44, Try.ntmps44
  go_wp2_with fail
  refine (HG.out _).mono ?_
  rintro e w' ⟨rfl, rfl⟩
  go_wp2_with fail
  go_ret
  exact ⟨rfl, rfl⟩
end Go.Proofs.Ytmbkncckcpgdgaa
