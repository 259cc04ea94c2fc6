/- Chapter 7: Prepare, walked. -/
import Derived.Test.YtacbnoagdlelgaaStBag
import Derived.Deep.CutRange
namespace Go.Proofs.Ytacbnoagdlelgaa
open Go.RowKit Zb

set_option maxRecDepth 20000 in
set_option maxHeartbeats 4000000 in
theorem tPrepare_kept {B : Nat} {w0 w : World} {b s : Nat} {D : DiskM} {S : StoreM} {L0 : List (Nat × TypeId × Array Value)} (h : BST B w0 w b D s S L0) (hL0 : Odd3 L0) (hl : D.lasts.length ≤ 512) (hW : D.waits.length ≤ 4294900000) (t : ByteArray) (ht : t.size ≤ 50000000000) :
    Calls Try.prog 10 #[.pointer (some ⟨s, 0, none⟩), .string t] w fun r w' => r = .returned (.int .i64 (prepareS S D t).2.2) ∧ Hid (BST B w0 w' b (prepareS S D t).2.1 s (prepareS S D t).1 L0) := by
  obtain ⟨wv, HB0⟩ : ∃ wv, Hid (Bag B w0 w b D s S wv L0) := by
    obtain ⟨wv, h⟩ := h.bag
    exact ⟨wv, hide h⟩
  clear h
  have HB1 : Hid (Bag B w0 (w.setCell ⟨s, 5, none⟩ (.pointer none)) b D s S.shut (.pointer none) L0) := hide (HB0.out.cell 5 _ rfl (fun p hp => (hL0 p hp).1))
  have HP : Hid (prepareS S D t = if (slotWrite D (otherS S) t).2 ≠ 0 then (S.shut, (slotWrite D (otherS S) t).1, (slotWrite D (otherS S) t).2)
    else if (appendM (slotWrite D (otherS S) t).1 (S.k.entry 1)).2.2 ≠ 0 then (S.shut, (appendM (slotWrite D (otherS S) t).1 (S.k.entry 1)).1, (appendM (slotWrite D (otherS S) t).1 (S.k.entry 1)).2.2)
    else (S.wait (nextK S t), (appendM (slotWrite D (otherS S) t).1 (S.k.entry 1)).1, 0)) := hide rfl
  have HWC := hide (fun (w1 : World) (F : Nat → Prop) (hF : DiskAt w1 b F D) => sWrite_calls hF (by omega) (otherS S) t)
  have hww := slot_waits D hl (otherS S) t
  obtain ⟨W, hWe⟩ : ∃ W, slotWrite D (otherS S) t = W := ⟨_, rfl⟩
  rw [hWe] at HP HWC hww
  have HAC := hide (fun (w1 : World) (F : Nat → Prop) (hF : DiskAt w1 b F W.1) => eAppend_calls hF (by omega) (S.k.entry 1))
  obtain ⟨A, hA⟩ : ∃ A, appendM W.1 (S.k.entry 1) = A := ⟨_, rfl⟩
  rw [hA] at HP HAC
  clear hWe hA hww
  have HDG := hide (gOf_calls t ht)
  unfold SumPost at HDG
  have HT := hide (tthere_calls (HB0.out.blk.cell 3))
  have f5 : w.frozen? ⟨s, 5, none⟩ = false := HB0.out.blk.frozen 5
  have c5 : w.cell? ⟨s, 5, none⟩ = some wv := HB0.out.blk.cell 5
  go_enter Try.func10, Try.ntmps10
  go_wp2_with fail
  refine HT.out.mono ?_
  rintro r _ ⟨rfl, rfl⟩
  go_wp2_with fail
  refine (tother_calls (S := S.shut) HB1.out.blk).mono ?_
  rintro r _ ⟨rfl, rfl⟩
  rw [show otherS S.shut = otherS S from rfl]
  go_wp2_with fail
  refine (HDG.out _).mono ?_
  rintro r w2 ⟨rfl, hb2⟩
  have HB2 := hide (HB1.out.below hb2)
  have HZ := hide (kvarW_new w2)
  have HB3 := hide (HB2.out.alloc 45 KeptM.zero.cells.toArray)
  have HB4 : Hid (Bag B w0 (kvarW w2 (nextK S t)) b D s S.shut (.pointer none) ((w2.heap.size, 45, (nextK S t).cells.toArray) :: L0)) := hide (HB3.out.rowK (by decide) (fun p hp => (hL0 p hp).2.1) _)
  clear hb2 HB2 HB3 HT f5 c5 HB0 HB1
  go_upto_region 5 with (first | ((with_reducible show wpList _ _ _ (⟨some 20, _, _, _, _, _⟩ :: _) _ _); refine wpList_build_as rfl _ _ (nextK S t).cells.toArray rfl (by kernel_rfl) ?_) | ((with_reducible show wpList _ _ _ (⟨none, _, _, _, _, _⟩ :: _) _ _); refine wpList_store_row rfl _ _ _ rfl w2.heap.size (nextK S t).cells.toArray rfl rfl 45 _ HZ.out (by kernel_rfl) rfl (by kernel_rfl) ?_; change wpList _ _ _ _ _ (kvarW w2 (nextK S t)); generalize kvarW w2 (nextK S t) = w4 at *))
  refine wp_region_heads [0, 1, 2, 3, 4, 5, 6] 2 (fun w' => Blk w' s 48 (scells S.shut (.pointer (some ⟨b, 0, none⟩)) (.pointer none)).toArray ∧ Blk w' w2.heap.size 45 (nextK S t).cells.toArray) (by kernel_rfl) rfl (by kernel_rfl) (by kernel_rfl) (fun _ _ d _ _ h => by cases d <;> exact h) ⟨HB4.out.blk, HB4.out.get (List.mem_cons_self ..)⟩ ?_
  iterate 7
    refine' Heads.step rfl (by rfl) ?_ ?_
    rotate_left
    · intro w' hSw
      obtain ⟨c0, c1, c2, c3, c4, c5⟩ := st_cells hSw.1; have k0 : w'.cell? ⟨w2.heap.size, 0, none⟩ = some (.int .i64 (otherS S)) := hSw.2.cell 0
      go_simp
      try with_reducible rfl
    simp only [Act.put, List.setIfInBounds_toArray, List.set_cons_zero, List.set_cons_succ]
  refine Heads.done ?_
  refine wpAnyH_ready (rs := [7]) (by kernel_rfl) (by simp) (AllReadyH.cons rfl (fun K hK => ?_) AllReadyH.nil)
  go_simp
  refine (HB4.out.drew.op (fun F hF => HWC.out _ _ hF)).mono ?_
  rintro r w5 ⟨rfl, HB5⟩
  refine hK.out _ _ ⟨HB5.out.blk, HB5.out.get (List.mem_cons_self ..)⟩ (fun hHeld1 => ?_)
  clear hK K
  refine wpAnyH_more [8] 0 rfl (by kernel_rfl) (by kernel_rfl) (fun _ _ d _ _ h => by cases d <;> exact h) hHeld1 ?_
  iterate 1
    refine' Heads.step rfl (by rfl) ?_ ?_
    rotate_left
    · intro w' hSw
      obtain ⟨c0, c1, c2, c3, c4, c5⟩ := st_cells hSw.1; have k0 : w'.cell? ⟨w2.heap.size, 0, none⟩ = some (.int .i64 (otherS S)) := hSw.2.cell 0
      go_simp
      try with_reducible rfl
    simp only [Act.put, List.setIfInBounds_toArray, List.set_cons_zero, List.set_cons_succ]
  refine Heads.done ?_
  refine wpAnyH_done (by kernel_rfl) ?_ _
  by_cases hf : W.2 = 0
  · rw [hf]
    have HF := hide hf
    clear hf
    go_upto_region 8 with (fail)
    go_cut [8] from 9 to 50 (fun s8 wx => s8 = .int .i64 A.2.2 ∧ Hid (Bag B w0 wx b A.1 s S.shut (.pointer none) ((w2.heap.size, 45, (nextK S t).cells.toArray) :: L0)))
    case first =>
      refine wp_region_heads [0, 1, 2, 3, 4, 5, 6, 7] 8 (fun w' => Blk w' s 48 (scells S.shut (.pointer (some ⟨b, 0, none⟩)) (.pointer none)).toArray) (by kernel_rfl) rfl (by kernel_rfl) (by kernel_rfl) (fun _ _ d _ _ h => by cases d <;> exact h) (hide HB5.out.drew).out.blk ?_
      refine' Heads.step rfl (by rfl) ?_ ?_
      rotate_left
      · intro w' hSw
        obtain ⟨c0, c1, c2, c3, c4, c5⟩ := st_cells hSw
        go_simp
        try with_reducible rfl
      simp only [Act.put, List.setIfInBounds_toArray, List.set_cons_zero, List.set_cons_succ]
      refine' Heads.step rfl (by rfl) ?_ ?_
      rotate_left
      · intro w' hSw
        obtain ⟨c0, c1, c2, c3, c4, c5⟩ := st_cells hSw
        go_simp
        try with_reducible rfl
      simp only [Act.put, List.setIfInBounds_toArray, List.set_cons_zero, List.set_cons_succ]
      refine' Heads.step rfl (by rfl) ?_ ?_
      rotate_left
      · intro w' hSw
        obtain ⟨c0, c1, c2, c3, c4, c5⟩ := st_cells hSw
        go_simp
        try with_reducible rfl
      simp only [Act.put, List.setIfInBounds_toArray, List.set_cons_zero, List.set_cons_succ]
      refine' Heads.step rfl (by rfl) ?_ ?_
      rotate_left
      · intro w' hSw
        obtain ⟨c0, c1, c2, c3, c4, c5⟩ := st_cells hSw
        go_simp
        try with_reducible rfl
      simp only [Act.put, List.setIfInBounds_toArray, List.set_cons_zero, List.set_cons_succ]
      refine' Heads.step rfl (by rfl) ?_ ?_
      rotate_left
      · intro w' hSw
        obtain ⟨c0, c1, c2, c3, c4, c5⟩ := st_cells hSw
        go_simp
        try with_reducible rfl
      simp only [Act.put, List.setIfInBounds_toArray, List.set_cons_zero, List.set_cons_succ]
      refine' Heads.step rfl (by rfl) ?_ ?_
      rotate_left
      · intro w' hSw
        obtain ⟨c0, c1, c2, c3, c4, c5⟩ := st_cells hSw
        go_simp
        try with_reducible rfl
      simp only [Act.put, List.setIfInBounds_toArray, List.set_cons_zero, List.set_cons_succ]
      refine' Heads.step rfl (by rfl) ?_ ?_
      rotate_left
      · intro w' hSw
        obtain ⟨c0, c1, c2, c3, c4, c5⟩ := st_cells hSw
        go_simp
        try with_reducible rfl
      simp only [Act.put, List.setIfInBounds_toArray, List.set_cons_zero, List.set_cons_succ]
      refine' Heads.step rfl (by rfl) ?_ ?_
      rotate_left
      · intro w' hSw
        obtain ⟨c0, c1, c2, c3, c4, c5⟩ := st_cells hSw
        go_simp
        try with_reducible rfl
      simp only [Act.put, List.setIfInBounds_toArray, List.set_cons_zero, List.set_cons_succ]
      refine Heads.done ?_
      have HBr1 := hide HB5.out.drew
      refine wpAnyH_ready (rs := [8, 13]) (by kernel_rfl) (by simp) (AllReadyH.cons rfl (fun K hK => ?_) (AllReadyH.cons rfl (fun K hK => ?_) AllReadyH.nil))
      rotate_left
      · skip
        go_simp
        have HBr2 := hide (HBr1.out.alloc 59 #[.int .i64 0, .int .i64 0, .int .i64 0, .int .i64 0, .string ⟨#[]⟩])
        refine hK.out _ _ HBr2.out.blk (fun _ => ?_)
        clear hK K
        refine wpAnyH_ready (rs := [8]) (by kernel_rfl) (by simp) (AllReadyH.cons rfl (fun K hK => ?_) AllReadyH.nil)
        go_simp
        refine (tentry_calls _ _ _).mono ?_
        rintro r _ ⟨rfl, hb5⟩
        have HBr3 := hide (HBr2.out.below hb5)
        clear hb5
        refine hK.out _ _ HBr3.out.blk (fun _ => ?_)
        clear hK K
        refine wpAnyH_ready (rs := [9]) (by kernel_rfl) (by simp) (AllReadyH.cons rfl (fun K hK => ?_) AllReadyH.nil)
        go_simp
        refine (HBr3.out.op (fun F hF => HAC.out _ _ hF)).mono ?_
        rintro r _ ⟨rfl, HBr4⟩
        refine hK.out _ _ HBr4.out.blk (fun _ => ?_)
        clear hK K
        refine wpAnyH_more [10, 11, 12] 2 rfl (by kernel_rfl) (by kernel_rfl) (fun _ _ d _ _ h => by cases d <;> exact h) HBr4.out.blk ?_
        refine' Heads.step rfl (by rfl) ?_ ?_
        rotate_left
        · intro w' hSw
          obtain ⟨c0, c1, c2, c3, c4, c5⟩ := st_cells hSw
          go_simp
          try with_reducible rfl
        simp only [Act.put, List.setIfInBounds_toArray, List.set_cons_zero, List.set_cons_succ]
        refine' Heads.step rfl (by rfl) ?_ ?_
        rotate_left
        · intro w' hSw
          obtain ⟨c0, c1, c2, c3, c4, c5⟩ := st_cells hSw
          go_simp
          try with_reducible rfl
        simp only [Act.put, List.setIfInBounds_toArray, List.set_cons_zero, List.set_cons_succ]
        refine' Heads.step rfl (by rfl) ?_ ?_
        rotate_left
        · intro w' hSw
          obtain ⟨c0, c1, c2, c3, c4, c5⟩ := st_cells hSw
          go_simp
          try with_reducible rfl
        simp only [Act.put, List.setIfInBounds_toArray, List.set_cons_zero, List.set_cons_succ]
        refine Heads.done ?_
        refine wpAnyH_ready (rs := [14]) (by kernel_rfl) (by simp) (AllReadyH.cons rfl (fun K hK => ?_) AllReadyH.nil)
        rw [if_pos (by rfl)]
        refine wp_store_row _ _ _ rfl _ (A.2.1).cells.toArray rfl (by kernel_rfl) 59 _ (HBr4.out.get (List.mem_cons_self ..)) (by kernel_rfl) rfl (by kernel_rfl) ?_
        have HBr5 := hide (HBr4.out.row (by decide) (kept_ne hL0) (A.2.1).cells.toArray)
        refine hK.out _ _ HBr5.out.blk (fun _ => ?_)
        clear hK K
        refine wpAnyH_more [15] 0 rfl (by kernel_rfl) (by kernel_rfl) (fun _ _ d _ _ h => by cases d <;> exact h) HBr5.out.blk ?_
        refine' Heads.step rfl (by rfl) ?_ ?_
        rotate_left
        · intro w' hSw
          obtain ⟨c0, c1, c2, c3, c4, c5⟩ := st_cells hSw
          go_simp
          try with_reducible rfl
        simp only [Act.put, List.setIfInBounds_toArray]
        refine Heads.done ?_
        refine wpAnyH_done (by kernel_rfl) ?_ _
        go_wp2_with fail
        go_meet
        case rel => exact ⟨rfl, HBr5⟩
      go_simp
      refine (tentry_calls _ _ _).mono ?_
      rintro r _ ⟨rfl, hb5⟩
      have HBr6 := hide (HBr1.out.below hb5)
      clear hb5
      refine hK.out _ _ HBr6.out.blk (fun _ => ?_)
      clear hK K
      refine wpAnyH_ready (rs := [9, 13]) (by kernel_rfl) (by simp) (AllReadyH.cons rfl (fun K hK => ?_) (AllReadyH.cons rfl (fun K hK => ?_) AllReadyH.nil))
      rotate_left
      · skip
        go_simp
        have HBr7 := hide (HBr6.out.alloc 59 #[.int .i64 0, .int .i64 0, .int .i64 0, .int .i64 0, .string ⟨#[]⟩])
        refine hK.out _ _ HBr7.out.blk (fun _ => ?_)
        clear hK K
        refine wpAnyH_ready (rs := [9]) (by kernel_rfl) (by simp) (AllReadyH.cons rfl (fun K hK => ?_) AllReadyH.nil)
        go_simp
        refine (HBr7.out.op (fun F hF => HAC.out _ _ hF)).mono ?_
        rintro r _ ⟨rfl, HBr8⟩
        refine hK.out _ _ HBr8.out.blk (fun _ => ?_)
        clear hK K
        refine wpAnyH_more [10, 11, 12] 2 rfl (by kernel_rfl) (by kernel_rfl) (fun _ _ d _ _ h => by cases d <;> exact h) HBr8.out.blk ?_
        refine' Heads.step rfl (by rfl) ?_ ?_
        rotate_left
        · intro w' hSw
          obtain ⟨c0, c1, c2, c3, c4, c5⟩ := st_cells hSw
          go_simp
          try with_reducible rfl
        simp only [Act.put, List.setIfInBounds_toArray, List.set_cons_zero, List.set_cons_succ]
        refine' Heads.step rfl (by rfl) ?_ ?_
        rotate_left
        · intro w' hSw
          obtain ⟨c0, c1, c2, c3, c4, c5⟩ := st_cells hSw
          go_simp
          try with_reducible rfl
        simp only [Act.put, List.setIfInBounds_toArray, List.set_cons_zero, List.set_cons_succ]
        refine' Heads.step rfl (by rfl) ?_ ?_
        rotate_left
        · intro w' hSw
          obtain ⟨c0, c1, c2, c3, c4, c5⟩ := st_cells hSw
          go_simp
          try with_reducible rfl
        simp only [Act.put, List.setIfInBounds_toArray, List.set_cons_zero, List.set_cons_succ]
        refine Heads.done ?_
        refine wpAnyH_ready (rs := [14]) (by kernel_rfl) (by simp) (AllReadyH.cons rfl (fun K hK => ?_) AllReadyH.nil)
        rw [if_pos (by rfl)]
        refine wp_store_row _ _ _ rfl _ (A.2.1).cells.toArray rfl (by kernel_rfl) 59 _ (HBr8.out.get (List.mem_cons_self ..)) (by kernel_rfl) rfl (by kernel_rfl) ?_
        have HBr9 := hide (HBr8.out.row (by decide) (kept_ne hL0) (A.2.1).cells.toArray)
        refine hK.out _ _ HBr9.out.blk (fun _ => ?_)
        clear hK K
        refine wpAnyH_more [15] 0 rfl (by kernel_rfl) (by kernel_rfl) (fun _ _ d _ _ h => by cases d <;> exact h) HBr9.out.blk ?_
        refine' Heads.step rfl (by rfl) ?_ ?_
        rotate_left
        · intro w' hSw
          obtain ⟨c0, c1, c2, c3, c4, c5⟩ := st_cells hSw
          go_simp
          try with_reducible rfl
        simp only [Act.put, List.setIfInBounds_toArray]
        refine Heads.done ?_
        refine wpAnyH_done (by kernel_rfl) ?_ _
        go_wp2_with fail
        go_meet
        case rel => exact ⟨rfl, HBr9⟩
      go_simp
      refine (HBr6.out.op (fun F hF => HAC.out _ _ hF)).mono ?_
      rintro r _ ⟨rfl, HBr10⟩
      refine hK.out _ _ HBr10.out.blk (fun _ => ?_)
      clear hK K
      refine wpAnyH_more [10, 11, 12] 3 rfl (by kernel_rfl) (by kernel_rfl) (fun _ _ d _ _ h => by cases d <;> exact h) HBr10.out.blk ?_
      refine' Heads.step rfl (by rfl) ?_ ?_
      rotate_left
      · intro w' hSw
        obtain ⟨c0, c1, c2, c3, c4, c5⟩ := st_cells hSw
        go_simp
        try with_reducible rfl
      simp only [Act.put, List.setIfInBounds_toArray, List.set_cons_zero, List.set_cons_succ]
      refine' Heads.step rfl (by rfl) ?_ ?_
      rotate_left
      · intro w' hSw
        obtain ⟨c0, c1, c2, c3, c4, c5⟩ := st_cells hSw
        go_simp
        try with_reducible rfl
      simp only [Act.put, List.setIfInBounds_toArray, List.set_cons_zero, List.set_cons_succ]
      refine' Heads.step rfl (by rfl) ?_ ?_
      rotate_left
      · intro w' hSw
        obtain ⟨c0, c1, c2, c3, c4, c5⟩ := st_cells hSw
        go_simp
        try with_reducible rfl
      simp only [Act.put, List.setIfInBounds_toArray, List.set_cons_zero, List.set_cons_succ]
      refine Heads.done ?_
      refine wpAnyH_ready (rs := [13]) (by kernel_rfl) (by simp) (AllReadyH.cons rfl (fun K hK => ?_) AllReadyH.nil)
      go_simp
      have HBr11 := hide (HBr10.out.alloc 59 #[.int .i64 0, .int .i64 0, .int .i64 0, .int .i64 0, .string ⟨#[]⟩])
      refine hK.out _ _ HBr11.out.blk (fun _ => ?_)
      clear hK K
      refine wpAnyH_ready (rs := [14]) (by kernel_rfl) (by simp) (AllReadyH.cons rfl (fun K hK => ?_) AllReadyH.nil)
      rw [if_pos (by rfl)]
      refine wp_store_row _ _ _ rfl _ (A.2.1).cells.toArray rfl (by kernel_rfl) 59 _ (HBr11.out.get (List.mem_cons_self ..)) (by kernel_rfl) rfl (by kernel_rfl) ?_
      have HBr12 := hide (HBr11.out.row (by decide) (kept_ne hL0) (A.2.1).cells.toArray)
      refine hK.out _ _ HBr12.out.blk (fun _ => ?_)
      clear hK K
      refine wpAnyH_more [15] 0 rfl (by kernel_rfl) (by kernel_rfl) (fun _ _ d _ _ h => by cases d <;> exact h) HBr12.out.blk ?_
      refine' Heads.step rfl (by rfl) ?_ ?_
      rotate_left
      · intro w' hSw
        obtain ⟨c0, c1, c2, c3, c4, c5⟩ := st_cells hSw
        go_simp
        try with_reducible rfl
      simp only [Act.put, List.setIfInBounds_toArray]
      refine Heads.done ?_
      refine wpAnyH_done (by kernel_rfl) ?_ _
      go_wp2_with fail
      go_meet
      case rel => exact ⟨rfl, HBr12⟩
    case rest =>
    obtain ⟨rfl, HB9⟩ := hcut
    by_cases ha : A.2.2 = 0
    · rw [ha]
      have HE : Hid (prepareS S D t = (S.wait (nextK S t), A.1, 0)) := hide (by rw [HP.out, if_neg (by simpa using HF.out), if_neg (by simpa using ha)])
      clear ha
      have f5 : wc.frozen? ⟨s, 5, none⟩ = false := HB9.out.blk.frozen 5
      have c5 : wc.cell? ⟨s, 5, none⟩ = some (.pointer none) := HB9.out.blk.cell 5
      go_wp2_with fail
      go_ret
      rw [HE.out]
      exact ⟨rfl, hide (.inr ⟨_, _, rfl, HB9.out.cell (S' := S.wait (nextK S t)) (wv' := .pointer (some ⟨w2.heap.size, 0, none⟩)) 5 _ rfl (kept_st hL0)⟩)⟩
    · have HE : Hid (prepareS S D t = (S.shut, A.1, A.2.2)) := hide (by rw [HP.out, if_neg (by simpa using HF.out), if_pos ha])
      have hab : (A.2.2 != 0) = true := by simp [ha]
      clear ha
      go_wp2_with fail
      go_ret
      rw [HE.out]
      exact ⟨rfl, hide (.inl ⟨rfl, HB9.out.less⟩)⟩
  · have HE : Hid (prepareS S D t = (S.shut, W.1, W.2)) := hide (by rw [HP.out, if_pos hf])
    have hfb : (W.2 != 0) = true := by simp [hf]
    clear hf
    go_wp2_with fail
    go_ret
    rw [HE.out]
    exact ⟨rfl, hide (.inl ⟨rfl, HB5.out.less⟩)⟩
set_option maxRecDepth 20000 in
theorem tPrepare_calls {B : Nat} {w0 w : World} {b s : Nat} {D : DiskM} {S : StoreM} (h : ST B w0 w b D s S) (hl : D.lasts.length ≤ 512) (hW : D.waits.length ≤ 4294900000) (t : ByteArray) (ht : t.size ≤ 50000000000) :
    Calls Try.prog 10 #[.pointer (some ⟨s, 0, none⟩), .string t] w fun r w' => r = .returned (.int .i64 (prepareS S D t).2.2) ∧ Hid (ST B w0 w' b (prepareS S D t).2.1 s (prepareS S D t).1) := by
  refine (tPrepare_kept (BST.of h) (fun p hp => by simp at hp) hl hW t ht).mono ?_
  rintro r w1 ⟨hr, hb⟩
  exact ⟨hr, hide hb.out.st⟩
end Go.Proofs.Ytacbnoagdlelgaa
