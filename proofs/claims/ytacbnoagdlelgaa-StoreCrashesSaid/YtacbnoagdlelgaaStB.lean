/- Chapter 7: read and Open, walked. -/
import Derived.Test.YtacbnoagdlelgaaStA
namespace Go.Proofs.Ytacbnoagdlelgaa
open Go.RowKit Zb

set_option maxRecDepth 20000 in
theorem slotRead_le (D : DiskM) (hl : D.lasts.length ≤ 512) (slot size : Int) : (slotRead D slot size).1.size ≤ 20000 := by
  unfold slotRead
  split
  · exact Nat.zero_le _
  · split
    · exact Nat.zero_le _
    · next h2 =>
      split
      · show ((readLoop D _ _ _).1.extract 0 size.toNat).size ≤ 20000
        rw [ByteArray.size_extract]
        have : slotN D ≤ 252 := by unfold slotN; omega
        omega
      · exact Nat.zero_le _
def ReadPost (w : World) (D : DiskM) (x : EntM) (r : Ending) (w' : World) : Prop := r = .returned (.tuple #[.agg (readK D x).1.cells.toArray, .bool (readK D x).2.1, .int .i64 (readK D x).2.2]) ∧ Below w.heap.size w w'
set_option maxRecDepth 20000 in
set_option maxHeartbeats 2000000 in
theorem tread_calls {w : World} {b : Nat} {F : Nat → Prop} {D : DiskM} (h : DiskAt w b F D) (hf : Full64 D) (hW : D.waits.length ≤ 4294967290) (x : EntM) : Calls Try.prog 23 #[.pointer (some ⟨b, 0, none⟩), .agg #[.int .i64 x.kind, .int .i64 x.number, .int .i64 x.slot, .int .i64 x.size, .string x.sum]] w (ReadPost w D x) := by
  have HB3 : Hid (Blk ((w.alloc (.cells #[.int .i64 x.kind, .int .i64 x.number, .int .i64 x.slot, .int .i64 x.size, .string x.sum] 59)).alloc (.cells #[.int .i64 0, .string ⟨#[]⟩, .string ⟨#[]⟩] 45)) w.heap.size 59 x.cells.toArray) := hide ((Blk.new w 59 _).alloc _)
  have HZ4 : Hid (Blk ((w.alloc (.cells #[.int .i64 x.kind, .int .i64 x.number, .int .i64 x.slot, .int .i64 x.size, .string x.sum] 59)).alloc (.cells #[.int .i64 0, .string ⟨#[]⟩, .string ⟨#[]⟩] 45)) (w.heap.size + 1) 45 KeptM.zero.cells.toArray) := hide (heap_alloc2_new w _ _)
  have HX0 : Hid (Below w.heap.size w ((w.alloc (.cells #[.int .i64 x.kind, .int .i64 x.number, .int .i64 x.slot, .int .i64 x.size, .string x.sum] 59)).alloc (.cells #[.int .i64 0, .string ⟨#[]⟩, .string ⟨#[]⟩] 45))) := hide (((Below.refl _ _).alloc (Nat.le_refl _) _).alloc (Nat.le_of_lt (Nat.lt_of_lt_of_eq (Nat.lt_succ_self _) (Array.size_push _).symm)) _)
  have HR := hide (sRead_calls (h.below HX0.out) hf hW x.slot x.size)
  have HLE := hide (slotRead_le D h.ok.len.2 x.slot x.size)
  have HK : Hid (readK D x = if (slotRead D x.slot x.size).2 = 7 then (KeptM.none, false, 7)
    else if (slotRead D x.slot x.size).2 ≠ 0 ∨ digB (slotRead D x.slot x.size).1 ≠ x.sum then (KeptM.none, false, 0)
    else (⟨x.slot, (slotRead D x.slot x.size).1, x.sum⟩, true, 0)) := hide rfl
  clear h hf hW
  unfold SRPost at HR
  obtain ⟨T, hT⟩ : ∃ T, slotRead D x.slot x.size = T := ⟨_, rfl⟩
  rw [hT] at HR HLE HK
  clear hT
  obtain ⟨t, f⟩ := T
  dsimp only at HR HLE HK
  go_enter Try.func23, Try.ntmps23
  generalize hw0 : ((w.alloc (.cells #[.int .i64 x.kind, .int .i64 x.number, .int .i64 x.slot, .int .i64 x.size, .string x.sum] 59)).alloc (.cells #[.int .i64 0, .string ⟨#[]⟩, .string ⟨#[]⟩] 45)) = w0 at *
  obtain ⟨x0, x1, x2, x3, x4⟩ := ent_all HB3.out
  go_wp2_with fail
  refine HR.out.mono ?_
  rintro r w1 ⟨rfl, hb1⟩
  have HB1 := hide (HB3.out.below hb1 HB3.out.lt)
  have HZ1 := hide (HZ4.out.below hb1 HZ4.out.lt)
  have HX1 := hide (HX0.out.trans (hb1.mono HX0.out.size))
  clear hb1 HB3 HZ4 HX0 x0 x1 x2 x3 x4 HR
  by_cases hf7 : f = 7
  · subst hf7
    have HE : Hid (readK D x = (KeptM.none, false, 7)) := hide (by rw [HK.out, if_pos rfl])
    go_wp2_with fail
    refine (tnone_calls _).mono ?_
    rintro r w2 ⟨rfl, hb2⟩
    have HZ2 := hide (HZ1.out.below hb2 HZ1.out.lt)
    have HX2 := hide (HX1.out.trans (hb2.mono HX1.out.size))
    clear hb2
    go_wp2_with ((with_reducible show wpList _ _ _ (⟨none, _, _, _, _, _⟩ :: _) _ _); refine wpList_store_row rfl _ _ _ rfl (w.heap.size + 1) KeptM.none.cells.toArray rfl rfl 45 _ HZ2.out (by kernel_rfl) rfl (by kernel_rfl) ?_)
    exact ret_cell2 rfl rfl rfl (setRow_heap _ _ _ _ _ _ HZ2.out) Try.underlying45 rfl (by kernel_rfl) (by unfold ReadPost; rw [HE.out]; exact ⟨rfl, below_setRow HX2.out (Nat.le_succ _) _⟩)
  have hf7b : (f == 7) = false := by simp [hf7]
  by_cases hf0 : f = 0
  · subst hf0
    have HD := hide (gOf_calls t (by have := HLE.out; omega))
    unfold SumPost at HD
    have hdg : (⟨(digW t.data.toList).toArray⟩ : ByteArray) = digB t := rfl
    rw [hdg] at HD
    by_cases hd : digB t = x.sum
    · have HE : Hid (readK D x = (⟨x.slot, t, x.sum⟩, true, 0)) := hide (by rw [HK.out, if_neg (by decide), if_neg (by rw [hd]; simp)])
      rw [hd] at HD
      clear hd hdg hf7 hf7b
      go_wp2_with fail
      refine wp_region_heads [0, 1, 2, 3, 5, 6] 3 (fun w' => Blk w' w.heap.size 59 x.cells.toArray) (by kernel_rfl) rfl (by kernel_rfl) (by kernel_rfl) (fun _ _ d _ _ h => by cases d <;> exact h) HB1.out ?_
      iterate 6
        first
        | refine' Heads.skip rfl (by rfl) ?_
        | (refine' Heads.step rfl (by rfl) ?_ ?_
           rotate_left
           · intro w' hSw
             obtain ⟨z0, z1, z2, z3, z4⟩ := ent_all hSw
             go_simp
             try with_reducible rfl)
        simp only [Act.put, List.setIfInBounds_toArray, List.set_cons_zero, List.set_cons_succ]
      refine Heads.done ?_
      refine wpAnyH_ready (rs := [4]) (by kernel_rfl) (by simp) (AllReadyH.cons rfl (fun K hK => ?_) AllReadyH.nil)
      go_simp
      refine (HD.out _).mono ?_
      rintro r w2 ⟨rfl, hb2⟩
      have HB2 := hide (HB1.out.below (w := w1.drew) hb2 HB1.out.lt)
      have HZ2 := hide (HZ1.out.below (w := w1.drew) hb2 HZ1.out.lt)
      have HX2 := hide (HX1.out.drew.trans (hb2.mono HX1.out.size))
      clear hb2
      refine hK.out _ _ HB2.out (fun hHeld1 => ?_)
      clear hK K
      refine wpAnyH_more [7, 8] 0 rfl (by kernel_rfl) (by kernel_rfl) (fun _ _ d _ _ h => by cases d <;> exact h) hHeld1 ?_
      iterate 2
        first
        | refine' Heads.skip rfl (by rfl) ?_
        | (refine' Heads.step rfl (by rfl) ?_ ?_
           rotate_left
           · intro w' hSw
             obtain ⟨z0, z1, z2, z3, z4⟩ := ent_all hSw
             go_simp
             try with_reducible rfl)
        simp only [Act.put, List.setIfInBounds_toArray, List.set_cons_zero, List.set_cons_succ]
      refine Heads.done ?_
      refine wpAnyH_done (by kernel_rfl) ?_ _
      have HK2 : Hid (Blk (w2.setRow (w.heap.size + 1) (⟨x.slot, t, x.sum⟩ : KeptM).cells.toArray) (w.heap.size + 1) 45 (⟨x.slot, t, x.sum⟩ : KeptM).cells.toArray) := hide (setRow_heap _ _ _ _ _ _ HZ2.out)
      obtain ⟨x0, x1, x2, x3, x4⟩ := ent_all HB2.out
      go_wp2_with (first | ((with_reducible show wpList _ _ _ (⟨some 37, _, _, _, _, _⟩ :: _) _ _); refine wpList_build_as rfl _ _ (⟨x.slot, t, x.sum⟩ : KeptM).cells.toArray rfl (by kernel_rfl) ?_) | ((with_reducible show wpList _ _ _ (⟨none, _, _, _, _, _⟩ :: _) _ _); refine wpList_store_row rfl _ _ _ rfl (w.heap.size + 1) (⟨x.slot, t, x.sum⟩ : KeptM).cells.toArray rfl rfl 45 _ HZ2.out (by kernel_rfl) rfl (by kernel_rfl) ?_))
      exact ret_cell2 rfl rfl rfl HK2.out Try.underlying45 rfl (by kernel_rfl) (by unfold ReadPost; rw [HE.out]; exact ⟨rfl, below_setRow HX2.out (Nat.le_succ _) _⟩)
    · have HE : Hid (readK D x = (KeptM.none, false, 0)) := hide (by rw [HK.out, if_neg (by decide), if_pos (.inr hd)])
      obtain ⟨d1, d2⟩ := rbytes_ne hd
      generalize digB t = u at *
      clear hd hdg hf7 hf7b
      go_wp2_with fail
      refine wp_region_heads [0, 1, 2, 3, 5, 6] 3 (fun w' => Blk w' w.heap.size 59 x.cells.toArray) (by kernel_rfl) rfl (by kernel_rfl) (by kernel_rfl) (fun _ _ d _ _ h => by cases d <;> exact h) HB1.out ?_
      iterate 6
        first
        | refine' Heads.skip rfl (by rfl) ?_
        | (refine' Heads.step rfl (by rfl) ?_ ?_
           rotate_left
           · intro w' hSw
             obtain ⟨z0, z1, z2, z3, z4⟩ := ent_all hSw
             go_simp
             try with_reducible rfl)
        simp only [Act.put, List.setIfInBounds_toArray, List.set_cons_zero, List.set_cons_succ]
      refine Heads.done ?_
      refine wpAnyH_ready (rs := [4]) (by kernel_rfl) (by simp) (AllReadyH.cons rfl (fun K hK => ?_) AllReadyH.nil)
      go_simp
      refine (HD.out _).mono ?_
      rintro r w2 ⟨rfl, hb2⟩
      have HB2 := hide (HB1.out.below (w := w1.drew) hb2 HB1.out.lt)
      have HZ2 := hide (HZ1.out.below (w := w1.drew) hb2 HZ1.out.lt)
      have HX2 := hide (HX1.out.drew.trans (hb2.mono HX1.out.size))
      clear hb2
      refine hK.out _ _ HB2.out (fun hHeld1 => ?_)
      clear hK K
      refine wpAnyH_more [7, 8] 0 rfl (by kernel_rfl) (by kernel_rfl) (fun _ _ d _ _ h => by cases d <;> exact h) hHeld1 ?_
      iterate 2
        first
        | refine' Heads.skip rfl (by rfl) ?_
        | (refine' Heads.step rfl (by rfl) ?_ ?_
           rotate_left
           · intro w' hSw
             obtain ⟨z0, z1, z2, z3, z4⟩ := ent_all hSw
             go_simp
             try with_reducible rfl)
        simp only [Act.put, List.setIfInBounds_toArray, List.set_cons_zero, List.set_cons_succ]
      refine Heads.done ?_
      refine wpAnyH_done (by kernel_rfl) ?_ _
      go_wp2_with fail
      refine (tnone_calls _).mono ?_
      rintro r w3 ⟨rfl, hb3⟩
      have HZ3 := hide (HZ2.out.below hb3 HZ2.out.lt)
      have HX3 := hide (HX2.out.trans (hb3.mono HX2.out.size))
      clear hb3
      go_wp2_with ((with_reducible show wpList _ _ _ (⟨none, _, _, _, _, _⟩ :: _) _ _); refine wpList_store_row rfl _ _ _ rfl (w.heap.size + 1) KeptM.none.cells.toArray rfl rfl 45 _ HZ3.out (by kernel_rfl) rfl (by kernel_rfl) ?_)
      exact ret_cell2 rfl rfl rfl (setRow_heap _ _ _ _ _ _ HZ3.out) Try.underlying45 rfl (by kernel_rfl) (by unfold ReadPost; rw [HE.out]; exact ⟨rfl, below_setRow HX3.out (Nat.le_succ _) _⟩)
  · have HE : Hid (readK D x = (KeptM.none, false, 0)) := hide (by rw [HK.out, if_neg hf7, if_pos (.inl hf0)])
    have hf0b : (f != 0) = true := by simp [hf0]
    clear hf7 hf0
    go_wp2_with fail
    refine wp_region_heads [0, 1, 2, 3, 4, 5, 6, 7, 8] 0 (fun _ => True) (by kernel_rfl) rfl (by kernel_rfl) (by kernel_rfl) (fun _ _ d _ _ h => by cases d <;> exact h) trivial ?_
    iterate 9
      first
      | refine' Heads.skip rfl (by rfl) ?_
      | (refine' Heads.step rfl (by rfl) ?_ ?_
         rotate_left
         · intro w' hSw
           go_simp
           try with_reducible rfl)
      simp only [Act.put, List.setIfInBounds_toArray, List.set_cons_zero, List.set_cons_succ]
    refine Heads.done ?_
    refine wpAnyH_done (by kernel_rfl) ?_ _
    go_wp2_with fail
    refine (tnone_calls _).mono ?_
    rintro r w3 ⟨rfl, hb3⟩
    have HZ3 := hide (HZ1.out.below (w := w1.drew) hb3 HZ1.out.lt)
    have HX3 := hide (HX1.out.drew.trans (hb3.mono HX1.out.size))
    clear hb3
    go_wp2_with ((with_reducible show wpList _ _ _ (⟨none, _, _, _, _, _⟩ :: _) _ _); refine wpList_store_row rfl _ _ _ rfl (w.heap.size + 1) KeptM.none.cells.toArray rfl rfl 45 _ HZ3.out (by kernel_rfl) rfl (by kernel_rfl) ?_)
    exact ret_cell2 rfl rfl rfl (setRow_heap _ _ _ _ _ _ HZ3.out) Try.underlying45 rfl (by kernel_rfl) (by unfold ReadPost; rw [HE.out]; exact ⟨rfl, below_setRow HX3.out (Nat.le_succ _) _⟩)
end Go.Proofs.Ytacbnoagdlelgaa
