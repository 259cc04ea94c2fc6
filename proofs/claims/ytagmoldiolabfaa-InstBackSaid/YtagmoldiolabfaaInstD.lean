/- Chapter 13: whether an instruction can be; its wide number; its bytes. -/
import Derived.Test.YtagmoldiolabfaaInstC
import Derived.Deep.QuietTactic
import Derived.Deep.RegionWith
import Derived.BigQuiet
import Derived.Laws.Closers25
namespace Go.Proofs.Ytagmoldiolabfaa
open Go.RowKit Zb

/-- an instruction -/
abbrev instV (op a b c : Int) : Value := .agg #[.int .i64 op, .int .i64 a, .int .i64 b, .int .i64 c]

theorem below_alloc_drew (w : World) (o : Obj) (n : Nat) : Below w.heap.size w ((w.alloc o).drewN n) := (((Turned.refl (fun _ => False) w).alloc o).drewN n).below (Nat.le_refl _) (fun _ h => h.elim)

theorem ifits_lit {n c : Int} {v : Bool} (h : fitsB n c = v) (w : World) : Calls Try.prog 21 #[.int .i64 n, .int .u8 c] w fun e w' => e = .returned (.bool v) ∧ w' = w := by
  subst h
  exact ifits_calls n c w
theorem risms_lit {n c : Int} {v : Bool} (h : fitsB n c = v) (w : World) : Calls Try.prog 22 #[.int .i64 n, .int .u8 c] w fun e w' => e = .returned (.bool v) ∧ w' = w := by
  subst h
  exact risms_calls n c w
theorem isEmpty_of {s : ByteArray} (h : 0 < s.size) : s.toList.isEmpty = false := by
  rw [← decide_eq_emptyBytes]
  apply decide_eq_false
  intro e; subst e; simp at h
set_option maxHeartbeats 1000000 in
theorem iRight_calls (op a b c : Int) (w : World) : Calls Try.prog 10 #[instV op a b c] w fun e w' => e = .returned (.bool (rightB op a b c)) ∧ Below w.heap.size w w' := by
  have HS := hide (iShape_calls op)
  by_cases h : isOp op = true
  · obtain ⟨h1, h2, h3⟩ := shape_facts h
    have hr : rightB op a b c = (fitsB a (sL (shapeB op) 0) && fitsB b (sL (shapeB op) 1) && fitsB c (sL (shapeB op) ((shapeB op).size - 1))) := by simp [rightB, h]
    rw [hr]
    clear hr h3
    generalize shapeB op = s at *
    have hne := isEmpty_of (s := s) (by omega)
    have i0 : 0 < s.size := by omega
    have i1 : 1 < s.size := by omega
    have i2 : s.size - 1 < s.size := by omega
    have z0 : (0 : Int) < (s.size : Int) := by omega
    have z1 : (1 : Int) < (s.size : Int) := by omega
    rw [← sL_at s 0 i0, ← sL_at s 1 i1, ← sL_at s _ i2]
    obtain ⟨u, hA⟩ : ∃ u, fitsB a ((s[0]'i0).toNat : Int) = u := ⟨_, rfl⟩
    obtain ⟨v, hB⟩ : ∃ v, fitsB b ((s[1]'i1).toNat : Int) = v := ⟨_, rfl⟩
    rw [hA, hB]
    have HA := hide hA
    have HB := hide hB
    clear hA hB
    cases u
    case' true => cases v
    all_goals go_enter Try.func10, Try.ntmps10
    all_goals go_wp2_with fail
    all_goals refine (HS.out _).mono ?_
    all_goals rintro e w' ⟨rfl, rfl⟩
    all_goals go_wp2_with fail
    all_goals go_quiet ((go_at_call 21; first | (go_at_call_of 21 a; exact Calls.quiet_of_same (ifits_lit HA.out _)) | (go_at_call_of 21 b; exact Calls.quiet_of_same (ifits_lit HB.out _)) | exact Calls.quiet_of_same (ifits_calls _ _ _)))
    all_goals go_wp2_with fail
    all_goals go_ret
    all_goals exact ⟨rfl, below_alloc_drew _ _ _⟩
  · have h : isOp op = false := by simpa using h
    have hr : rightB op a b c = false := by simp [rightB, h]
    rw [hr]
    go_enter Try.func10, Try.ntmps10
    go_wp2_with fail
    refine (iShape_calls _ _).mono ?_
    rintro e w' ⟨rfl, rfl⟩
    rw [shapeB_out h]
    go_wp2_with fail
    go_ret
    exact ⟨rfl, below_alloc _ _⟩

theorem sL_append (s x : ByteArray) (i : Nat) (h : i < s.size) : sL (s ++ x) i = sL s i := by
  have h2 : i < (s ++ x).size := by rw [ByteArray.size_append]; omega
  rw [← sL_at _ i h2, ← sL_at _ i h, ByteArray.getElem_append_left h]
theorem sL_append_w (s : ByteArray) : sL (s ++ ⟨#[119]⟩) s.size = 119 := by
  have h2 : s.size < (s ++ ⟨#[119]⟩ : ByteArray).size := by rw [ByteArray.size_append]; show s.size < s.size + 1; omega
  rw [← sL_at _ _ h2, ByteArray.getElem_append_right (Nat.le_refl _)]
  simp
  rfl

theorem below_alloc_then {w w1 : World} {o : Obj} (h : Below (w.alloc o).heap.size (w.alloc o) w1) (n : Nat) : Below w.heap.size w (w1.drewN n) :=
  ((((Turned.refl (fun _ => False) w).alloc o).then_below h).drewN n).below (Nat.le_refl _) (fun _ h => h.elim)

set_option maxHeartbeats 1000000 in
theorem riRight_calls (op a b c : Int) (w : World) : Calls Try.prog 11 #[instV op a b c] w fun e w' => e = .returned (.bool (rightB op a b c)) ∧ Below w.heap.size w w' := by
  have HS := hide (riShape_calls op)
  by_cases h : isOp op = true
  · obtain ⟨h1, h2, h3⟩ := shape_facts h
    have hr : rightB op a b c = (fitsB a (sL (shapeB op) 0) && fitsB b (sL (shapeB op) 1) && fitsB c (sL (shapeB op) ((shapeB op).size - 1))) := by simp [rightB, h]
    rw [hr]
    clear hr
    generalize shapeB op = s at *
    have hne := isEmpty_of (s := s) (by omega)
    have i0 : 0 < s.size := by omega
    have i1 : 1 < s.size := by omega
    have z0 : (0 : Int) < (s.size : Int) := by omega
    have z1 : (1 : Int) < (s.size : Int) := by omega
    by_cases hs2 : s.size = 2
    · have h3 := h3 hs2
      have hw := sL_append_w s
      rw [hs2] at hw
      have q2 : ((s.size : Int) == 2) = true := by rw [hs2]; rfl
      have hq := sL_append s ⟨#[119]⟩ 0 i0
      have hq1 := sL_append s ⟨#[119]⟩ 1 i1
      have sz : (s ++ ⟨#[119]⟩ : ByteArray).size = 3 := by rw [ByteArray.size_append, hs2]; rfl
      have e : (fitsB a (sL s 0) && fitsB b (sL s 1) && fitsB c (sL s 1)) = (fitsB a (sL (s ++ ⟨#[119]⟩) 0) && fitsB b (sL (s ++ ⟨#[119]⟩) 1) && fitsB c (sL (s ++ ⟨#[119]⟩) 2)) := by rw [hq, hq1, hw, h3]
      rw [hs2, show 2 - 1 = 1 from rfl, e]
      obtain ⟨t, E⟩ : ∃ t, s ++ ⟨#[119]⟩ = t := ⟨_, rfl⟩
      rw [E] at sz ⊢
      clear e hq hq1 hw h3 h1 h2 z0 z1 i0 i1
      have j0 : 0 < t.size := by omega
      have j1 : 1 < t.size := by omega
      have j2 : 2 < t.size := by omega
      have z0 : (0 : Int) < (t.size : Int) := by omega
      have z1 : (1 : Int) < (t.size : Int) := by omega
      have z2 : (2 : Int) < (t.size : Int) := by omega
      rw [← sL_at _ 0 j0, ← sL_at _ 1 j1, ← sL_at _ 2 j2]
      obtain ⟨u, hA⟩ : ∃ u, fitsB a ((t[0]'j0).toNat : Int) = u := ⟨_, rfl⟩
      obtain ⟨v, hB⟩ : ∃ v, fitsB b ((t[1]'j1).toNat : Int) = v := ⟨_, rfl⟩
      rw [hA, hB]
      have HA := hide hA
      have HB := hide hB
      clear hA hB
      cases u
      case' true => cases v
      all_goals go_enter Try.func11, Try.ntmps11
      all_goals go_wp2_with fail
      all_goals refine (HS.out _).mono ?_
      all_goals rintro e w1 ⟨rfl, hbw⟩
      all_goals have K := (Blk.new w 23 #[.int .i64 op, .int .i64 a, .int .i64 b, .int .i64 c]).below hbw (by simp)
      all_goals have K1 := K.cell 1
      all_goals have K2 := K.cell 2
      all_goals have K3 := K.cell 3
      all_goals have HBW := hide hbw
      all_goals clear hbw K
      all_goals go_wp2_with fail
      all_goals go_quiet ((go_at_call 22; first | (go_at_call_of 22 a; exact Calls.quiet_of_same (risms_lit HA.out _)) | (go_at_call_of 22 b; exact Calls.quiet_of_same (risms_lit HB.out _)) | exact Calls.quiet_of_same (risms_calls _ _ _)))
      all_goals go_wp2_with fail
      all_goals go_ret
      all_goals exact ⟨rfl, below_alloc_then HBW.out _⟩
    · have hs3 : s.size = 3 := by omega
      have i2 : 2 < s.size := by omega
      have z2 : (2 : Int) < (s.size : Int) := by omega
      have q2 : ((s.size : Int) == 2) = false := by rw [hs3]; rfl
      rw [hs3, ← sL_at s 0 i0, ← sL_at s 1 i1, show 3 - 1 = 2 from rfl, ← sL_at s 2 i2]
      clear h1 h2 h3 hs2
      obtain ⟨u, hA⟩ : ∃ u, fitsB a ((s[0]'i0).toNat : Int) = u := ⟨_, rfl⟩
      obtain ⟨v, hB⟩ : ∃ v, fitsB b ((s[1]'i1).toNat : Int) = v := ⟨_, rfl⟩
      rw [hA, hB]
      have HA := hide hA
      have HB := hide hB
      clear hA hB
      cases u
      case' true => cases v
      all_goals go_enter Try.func11, Try.ntmps11
      all_goals go_wp2_with fail
      all_goals refine (HS.out _).mono ?_
      all_goals rintro e w1 ⟨rfl, hbw⟩
      all_goals have K := (Blk.new w 23 #[.int .i64 op, .int .i64 a, .int .i64 b, .int .i64 c]).below hbw (by simp)
      all_goals have K1 := K.cell 1
      all_goals have K2 := K.cell 2
      all_goals have K3 := K.cell 3
      all_goals have HBW := hide hbw
      all_goals clear hbw K
      all_goals go_wp2_with fail
      all_goals go_quiet ((go_at_call 22; first | (go_at_call_of 22 a; exact Calls.quiet_of_same (risms_lit HA.out _)) | (go_at_call_of 22 b; exact Calls.quiet_of_same (risms_lit HB.out _)) | exact Calls.quiet_of_same (risms_calls _ _ _)))
      all_goals go_wp2_with fail
      all_goals go_ret
      all_goals exact ⟨rfl, below_alloc_then HBW.out _⟩
  · have h : isOp op = false := by simpa using h
    have hr : rightB op a b c = false := by simp [rightB, h]
    rw [hr]
    go_enter Try.func11, Try.ntmps11
    go_wp2_with fail
    refine (riShape_calls _ _).mono ?_
    rintro e w1 ⟨rfl, hb⟩
    rw [shapeB_out h]
    have HB := hide hb
    clear hb
    go_wp2_with fail
    go_ret
    exact ⟨rfl, below_alloc_then HB.out 0⟩
end Go.Proofs.Ytagmoldiolabfaa
