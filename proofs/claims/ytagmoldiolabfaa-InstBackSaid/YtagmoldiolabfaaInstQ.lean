/- InstShapes, walked. -/
import Derived.Test.YtagmoldiolabfaaInstK
import Derived.OpenShut
namespace Go.Proofs.Ytagmoldiolabfaa
open Go.RowKit Zb

theorem bytes_ne {n m : ByteArray} (h : n ≠ m) : (¬ n.toList = m.toList) ∧ (n.toList == m.toList) = false := by
  have hn : ¬ n.toList = m.toList := by
    intro e
    rw [ByteArray.toList_eq, ByteArray.toList_eq] at e
    cases n with | mk x => cases m with | mk y =>
    have hxy : x = y := Array.toList_inj.1 e
    exact h (congrArg ByteArray.mk hxy)
  exact ⟨hn, beq_false_of_ne hn⟩
theorem name_facts_nat : ∀ o, o < 38 → 0 < (nameTab.getD o .empty).size := by decide +kernel
theorem name_inj_nat : ∀ o, o < 38 → ∀ p, p < 38 → nameTab.getD o .empty = nameTab.getD p .empty → o = p := by decide +kernel
theorem name_pos {op : Int} (h : isOp op = true) : 0 < (nameB op).size := by
  have h' := h
  simp [isOp] at h'
  simp only [nameB, h, if_true]
  exact name_facts_nat op.toNat (by omega)
theorem name_inj {a b : Int} (h : isOp a = true) (he : nameB a = nameB b) : a = b := by
  have h' := h
  simp [isOp] at h'
  cases hb : isOp b
  · have := name_pos h
    rw [he, nameB_out hb] at this
    exact absurd this (by decide)
  · have hb' := hb
    simp [isOp] at hb'
    simp only [nameB, h, hb, if_true] at he
    have := name_inj_nat a.toNat (by omega) b.toNat (by omega) he
    omega

set_option maxHeartbeats 1000000 in
theorem lInstShapes_calls (a b : Int) (w : World) (ha0 : -9223372036854775808 ≤ a) (ha1 : a < 9223372036854775808) (hb0 : -9223372036854775808 ≤ b) (hb1 : b < 9223372036854775808) : Calls Try.prog 6 #[.int .i64 a, .int .i64 b] w fun e w' => e = .returned (.bool true) ∧ Below w.heap.size w w' := by
  have HA := hide (iName_calls a ha0 ha1)
  have HB := hide (iName_calls b hb0 hb1)
  cases h : isOp a
  · go_enter Try.func6, Try.ntmps6
    go_wp2_with fail
    refine (iShape_calls _ _).mono ?_
    rintro e w' ⟨rfl, rfl⟩
    rw [shapeB_out h]
    go_wp2_with fail
    refine (HA.out _).mono ?_
    rintro e w' ⟨rfl, rfl⟩
    rw [nameB_out h]
    go_wp2_with fail
    refine (lknown13_calls _).mono ?_
    rintro e w3 ⟨rfl, hb⟩
    have H := hide hb
    clear hb
    go_wp2_with fail
    go_ret
    exact ⟨rfl, H.out⟩
  · have hinj : nameB a = nameB b → a = b := name_inj h
    have hp := name_pos h
    obtain ⟨h1, h2, h3⟩ := shape_facts h
    have e1 := isEmpty_of (s := shapeB a) (by omega)
    have e2 := isEmpty_of hp
    have HS := hide (iShape_calls a)
    obtain ⟨s, hs⟩ : ∃ s, shapeB a = s := ⟨_, rfl⟩
    obtain ⟨n, hn⟩ : ∃ n, nameB a = n := ⟨_, rfl⟩
    obtain ⟨m, hm⟩ : ∃ m, nameB b = m := ⟨_, rfl⟩
    rw [hs] at h1 h2 h3 e1 HS
    rw [hn] at e2 hinj HA
    rw [hm] at hinj HB
    obtain ⟨v, hv⟩ : ∃ v, (a == b) = v := ⟨_, rfl⟩
    have HI := hide (show v = false → n ≠ m from fun e he => by rw [hinj he] at hv; simp at hv; rw [e] at hv; cases hv)
    clear hs hn hm hinj hp h
    by_cases hsz : s.size = 2
    · have i1 : 1 < s.size := by omega
      have z1 : (1 : Int) < (s.size : Int) := by omega
      have h119 : ((s[1]'i1).toNat : Int) = 119 := by rw [sL_at s 1 i1]; exact h3 hsz
      have zs : (s.size : Int) = 2 := by omega
      obtain ⟨x1, hx1⟩ : ∃ x, s[1]'i1 = x := ⟨_, rfl⟩
      rw [hx1] at h119
      clear h1 h2 h3
      cases v
      case' false => have hnm := HI.out rfl; obtain ⟨hn1, hn2⟩ := bytes_ne hnm
      all_goals go_enter Try.func6, Try.ntmps6
      all_goals go_wp2_with fail
      all_goals refine (HS.out _).mono ?_
      all_goals rintro e w' ⟨rfl, rfl⟩
      all_goals go_wp2_with fail
      all_goals refine (HA.out _).mono ?_
      all_goals rintro e w' ⟨rfl, rfl⟩
      all_goals go_wp2_with fail
      all_goals try (refine (HB.out _).mono ?_; rintro e w' ⟨rfl, rfl⟩; go_wp2_with fail)
      all_goals refine (lknown13_calls _).mono ?_
      all_goals rintro e w3 ⟨rfl, hb⟩
      all_goals have H := hide hb
      all_goals clear hb
      all_goals go_wp2_with fail
      all_goals go_ret
      all_goals exact ⟨rfl, H.out⟩
    · have zs : (s.size : Int) = 3 := by omega
      clear h1 h2 h3 hsz
      cases v
      case' false => have hnm := HI.out rfl; obtain ⟨hn1, hn2⟩ := bytes_ne hnm
      all_goals go_enter Try.func6, Try.ntmps6
      all_goals go_wp2_with fail
      all_goals refine (HS.out _).mono ?_
      all_goals rintro e w' ⟨rfl, rfl⟩
      all_goals go_wp2_with fail
      all_goals refine (HA.out _).mono ?_
      all_goals rintro e w' ⟨rfl, rfl⟩
      all_goals go_wp2_with fail
      all_goals try (refine (HB.out _).mono ?_; rintro e w' ⟨rfl, rfl⟩; go_wp2_with fail)
      all_goals refine (lknown13_calls _).mono ?_
      all_goals rintro e w3 ⟨rfl, hb⟩
      all_goals have H := hide hb
      all_goals clear hb
      all_goals go_wp2_with fail
      all_goals go_ret
      all_goals exact ⟨rfl, H.out⟩

theorem InstShapes_walk (a b : Int) (w : World) (wa : (Lit.int .i64 a).wf = true) (wb : (Lit.int .i64 b).wf = true) : Calls Try.prog 6 #[.int .i64 a, .int .i64 b] w fun e w' => e = .returned (.bool true) ∧ Below w.heap.size w w' := by
  have ha := bounds_i64 wa
  have hb := bounds_i64 wb
  exact lInstShapes_calls a b w (by omega) (by omega) (by omega) (by omega)
end Go.Proofs.Ytagmoldiolabfaa
