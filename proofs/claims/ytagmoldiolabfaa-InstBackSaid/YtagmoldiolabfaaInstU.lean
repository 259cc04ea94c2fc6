/- InstBack, walked. -/
import Derived.Test.YtagmoldiolabfaaInstT
namespace Go.Proofs.Ytagmoldiolabfaa
open Go.RowKit Zb

set_option maxHeartbeats 1000000 in
theorem lInstBack_calls (op a b c : Int) (A B : ByteArray) (w : World) (hA : A.size ≤ 140737488351232) (hB : B.size ≤ 140737488351232) : Calls Try.prog 5 #[instV op a b c, .string A, .string B] w fun e w' => e = .returned (.bool true) ∧ Below w.heap.size w w' := by
  obtain ⟨⟨⟨y0, y1, y2, y3⟩, e0⟩, hp⟩ : ∃ r, parseB B 0 = r := ⟨_, rfl⟩
  have HPB := hide hp
  by_cases hl : (A.size : Int) ≤ 1000 ∧ (B.size : Int) ≤ 1000
  · obtain ⟨hl1, hl2⟩ := hl
    cases hR : rightB op a b c
    · have HE := hide (show buildE op a b c = 4 by simp [buildE, hR])
      have HS := hide (show buildB op a b c = ⟨#[]⟩ by simp [buildB, hR])
      clear hR
      go_enter Try.func5, Try.ntmps5
      go_wp2_with fail
      refine (iBuild_calls _ _ _ _ _).mono ?_
      rintro e w1 ⟨rfl, hb⟩
      have T := hide (((Turned.refl (fun _ => False) w).alloc _).then_below hb)
      rw [HE.out, HS.out]
      clear hb HE HS
      go_wp2_with fail
      refine (iParse_calls _ _ hB _).mono ?_
      rintro e w4 ⟨rfl, hb⟩
      rw [HPB.out]
      have T4 := hide (T.out.then_below hb)
      clear hb T HPB
      by_cases he : e0 = 0
      · subst he
        obtain ⟨hr, hz4, hu⟩ := build_back hp
        have hE2 : buildE y0 y1 y2 y3 = 0 := by simp only [buildE]; rw [if_pos hr]
        have hS2 : buildB y0 y1 y2 y3 = B.extract 0 4 := by simp only [buildB]; rw [if_pos hr]; exact hu
        obtain ⟨u, hu2⟩ : ∃ u, B.extract 0 4 = u := ⟨_, rfl⟩
        have hz5 : (4 : Int) ≤ (B.size : Int) := by omega
        rw [hu2] at hS2
        clear hr hu hp hz4
        have HE := hide hE2
        have HS := hide hS2
        clear hE2 hS2
        go_wp2_with fail
        refine (iBuild_calls _ _ _ _ _).mono ?_
        rintro e w5 ⟨rfl, hb⟩
        rw [HE.out, HS.out]
        have T5 := hide ((T4.out.alloc _).then_below hb)
        clear hb T4 HE HS
        go_wp2_with fail
        refine (lknown13_calls _).mono ?_
        rintro e w6 ⟨rfl, hb⟩
        have T6 := hide (T5.out.then_below hb)
        clear hb T5
        go_wp2_with fail
        go_ret
        exact ⟨rfl, T6.out.below (Nat.le_refl _) (fun _ h => h.elim)⟩
      · have he2 : (e0 == 0) = false := by simpa using he
        clear hp
        go_wp2_with fail
        refine (lknown13_calls _).mono ?_
        rintro e w6 ⟨rfl, hb⟩
        have T6 := hide ((T4.out.alloc _).then_below hb)
        clear hb T4
        go_wp2_with fail
        go_ret
        exact ⟨rfl, T6.out.below (Nat.le_refl _) (fun _ h => h.elim)⟩
    · have HP := hide (parse_back hR A B)
      have hE : buildE op a b c = 0 := by simp [buildE, hR]
      have hS : buildB op a b c = bytesI [op, a, b, c] := by simp [buildB, hR]
      obtain ⟨s, hs⟩ : ∃ s, bytesI [op, a, b, c] = s := ⟨_, rfl⟩
      have hs4 : s.size = 4 := by rw [← hs]; exact bytesI_size _
      have zs : (s.size : Int) = 4 := by omega
      rw [hs] at HP hS
      have HR := hide hR
      clear hR hs
      go_enter Try.func5, Try.ntmps5
      go_wp2_with fail
      refine (iBuild_calls _ _ _ _ _).mono ?_
      rintro e w1 ⟨rfl, hb⟩
      have Y := hide ((Blk.new w 23 #[.int .i64 op, .int .i64 a, .int .i64 b, .int .i64 c]).below hb (by simp))
      have T := hide (((Turned.refl (fun _ => False) w).alloc _).then_below hb)
      clear hb
      rw [hE, hS]
      clear hE hS
      obtain ⟨t1, E1⟩ : ∃ t, A ++ s = t := ⟨_, rfl⟩
      obtain ⟨t2, E2⟩ : ∃ t, t1 ++ B = t := ⟨_, rfl⟩
      rw [E1, E2] at HP
      have z1 : (t1.size : Int) = A.size + 4 := by rw [← E1, ByteArray.size_append]; omega
      have z2 : (t2.size : Int) = A.size + 4 + B.size := by rw [← E2, ByteArray.size_append]; omega
      have z3 : t2.size ≤ 140737488351232 := by omega
      go_wp2_with fail
      refine (iParse_calls _ _ z3 _).mono ?_
      rintro e w2 ⟨rfl, hb⟩
      rw [HP.out]
      have Y2 := hide (Y.out.below hb Y.out.lt)
      have T2 := hide (T.out.then_below hb)
      have Y3 := Y2.out.alloc (.cells #[.int .i64 op, .int .i64 a, .int .i64 b, .int .i64 c] 23)
      have a0 := Y3.cell 0
      have a1 := Y3.cell 1
      have a2 := Y3.cell 2
      have a3 := Y3.cell 3
      clear hb Y T HP Y3
      go_wp2_with fail
      refine (iRight_calls _ _ _ _ _).mono ?_
      rintro e w3 ⟨rfl, hb⟩
      rw [HR.out]
      have T3 := hide ((T2.out.alloc _).then_below hb)
      clear hb T2 a0 a1 a2 a3 Y2
      go_wp2_with fail
      refine (iParse_calls _ _ hB _).mono ?_
      rintro e w4 ⟨rfl, hb⟩
      rw [HPB.out]
      have T4 := hide (T3.out.then_below hb)
      clear hb T3 HPB
      by_cases he : e0 = 0
      · subst he
        obtain ⟨hr, hz4, hu⟩ := build_back hp
        have hE2 : buildE y0 y1 y2 y3 = 0 := by simp only [buildE]; rw [if_pos hr]
        have hS2 : buildB y0 y1 y2 y3 = B.extract 0 4 := by simp only [buildB]; rw [if_pos hr]; exact hu
        obtain ⟨u, hu2⟩ : ∃ u, B.extract 0 4 = u := ⟨_, rfl⟩
        have hz5 : (4 : Int) ≤ (B.size : Int) := by omega
        rw [hu2] at hS2
        clear hr hu hp hz4
        have HE := hide hE2
        have HS := hide hS2
        clear hE2 hS2
        go_wp2_with fail
        refine (iBuild_calls _ _ _ _ _).mono ?_
        rintro e w5 ⟨rfl, hb⟩
        rw [HE.out, HS.out]
        have T5 := hide ((T4.out.alloc _).then_below hb)
        clear hb T4 HE HS
        go_wp2_with fail
        refine (lknown13_calls _).mono ?_
        rintro e w6 ⟨rfl, hb⟩
        have T6 := hide (T5.out.then_below hb)
        clear hb T5
        go_wp2_with fail
        go_ret
        exact ⟨rfl, T6.out.below (Nat.le_refl _) (fun _ h => h.elim)⟩
      · have he2 : (e0 == 0) = false := by simpa using he
        clear hp
        go_wp2_with fail
        refine (lknown13_calls _).mono ?_
        rintro e w6 ⟨rfl, hb⟩
        have T6 := hide ((T4.out.alloc _).then_below hb)
        clear hb T4
        go_wp2_with fail
        go_ret
        exact ⟨rfl, T6.out.below (Nat.le_refl _) (fun _ h => h.elim)⟩
  · by_cases hl1 : (1000 : Int) < (A.size : Int)
    case' neg => have hl2 : (1000 : Int) < (B.size : Int) := by omega
    all_goals clear hl hp HPB
    all_goals go_enter Try.func5, Try.ntmps5
    all_goals go_wp2_with fail
    all_goals refine (lknown13_calls _).mono ?_
    all_goals rintro e w6 ⟨rfl, hb⟩
    all_goals have T6 := hide (((Turned.refl (fun _ => False) w).alloc _).then_below hb)
    all_goals clear hb
    all_goals go_wp2_with fail
    all_goals go_ret
    all_goals exact ⟨rfl, T6.out.below (Nat.le_refl _) (fun _ h => h.elim)⟩

theorem InstBack_walk (op a b c : Int) (A B : ByteArray) (w : World) (_ : (Lit.int .i64 op).wf = true) (hA : A.size ≤ 140737488351232) (hB : B.size ≤ 140737488351232) : Calls Try.prog 5 #[instV op a b c, .string A, .string B] w fun e w' => e = .returned (.bool true) ∧ Below w.heap.size w w' :=
  lInstBack_calls op a b c A B w hA hB
end Go.Proofs.Ytagmoldiolabfaa
