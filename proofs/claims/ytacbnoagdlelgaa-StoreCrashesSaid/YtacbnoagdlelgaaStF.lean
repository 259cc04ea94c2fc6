/- Chapter 7: Commit and Drop, walked. -/
import Derived.Test.YtacbnoagdlelgaaStBag
import Derived.Deep.CutRange
namespace Go.Proofs.Ytacbnoagdlelgaa
open Go.RowKit Zb

set_option maxRecDepth 20000 in
theorem Bag.take {B : Nat} {w0 w w' : World} {b s : Nat} {D : DiskM} {S : StoreM} {wv : Value} {L0 : List (Nat × TypeId × Array Value)} (h : Bag B w0 w b D s S wv L0) (hL0 : Odd3 L0) (tu : Turned (fun x => x = s) w w') (hs : StAt w' s b S.shut) : Bag B w0 w' b D s S.shut (.pointer none) L0 := by
  obtain ⟨G, h1, h2⟩ := h
  obtain ⟨wv2, hb, hw⟩ := hs
  obtain rfl : wv2 = .pointer none := hw
  refine ⟨G, ⟨h1.own.turned (tu.mono fun x hx => .inl (by rw [hx]; exact h1.gs)), h1.gs, hb⟩, fun p hp => ⟨(h2 p hp).1, (tu.block p.1 (h2 p hp).2.lt (fun e => ?_)).trans (h2 p hp).2⟩⟩
  exact (h2 p hp).2.ne_ h1.blk (hL0 p hp).1 e
set_option maxRecDepth 20000 in
theorem Bag.commit {B : Nat} {w0 w : World} {b s : Nat} {D : DiskM} {S : StoreM} {L : List (Nat × TypeId × Array Value)} (h : Bag B w0 w b D s S.shut (.pointer none) L) (k : KeptM) (hL : ∀ p ∈ L, p.2.1 ≠ 48) :
    Bag B w0 ((((w.setCell ⟨s, 0, none⟩ (.int .i64 k.slot)).setCell ⟨s, 1, none⟩ (.string k.text)).setCell ⟨s, 2, none⟩ (.string k.sum)).setCell ⟨s, 4, none⟩ (.bool false)) b D s ⟨k, false, none⟩ (.pointer none) L :=
  (((h.cell (S' := ⟨⟨k.slot, S.k.text, S.k.sum⟩, S.odd, none⟩) (wv' := .pointer none) 0 _ rfl hL).cell (S' := ⟨⟨k.slot, k.text, S.k.sum⟩, S.odd, none⟩) (wv' := .pointer none) 1 _ rfl hL).cell (S' := ⟨⟨k.slot, k.text, k.sum⟩, S.odd, none⟩) (wv' := .pointer none) 2 _ rfl hL).cell (S' := ⟨k, false, none⟩) (wv' := .pointer none) 4 _ rfl hL
set_option maxRecDepth 20000 in
set_option maxHeartbeats 4000000 in
theorem tCommit_kept {B : Nat} {w0 w : World} {b s : Nat} {D : DiskM} {S : StoreM} {L0 : List (Nat × TypeId × Array Value)} (h : BST B w0 w b D s S L0) (hL0 : Odd3 L0) (hW : D.waits.length ≤ 4294900000) :
    Calls Try.prog 11 #[.pointer (some ⟨s, 0, none⟩)] w fun r w' => r = .returned (.int .i64 (commitS S D).2.2) ∧ Hid (BST B w0 w' b (commitS S D).2.1 s (commitS S D).1 L0) := by
  have HT := hide (ttake_calls h.st.st)
  unfold TakePost at HT
  have HST := hide h
  rcases h with ⟨ho, hB⟩ | ⟨k, g, ho, hB⟩
  · rw [ho] at HT
    have HE : Hid (commitS S D = (S, D, 8)) := hide (by unfold commitS; rw [ho])
    clear hB ho
    go_enter Try.func11, Try.ntmps11
    go_wp2_with fail
    refine HT.out.mono ?_
    rintro r w2 ⟨rfl, hb2⟩
    have HZ := hide (kvarW_new w2)
    have HX := hide ((HST.out.below hb2).below (kvarW_below w2 KeptM.zero))
    clear hb2
    go_wp2_with (((with_reducible show wpList _ _ _ (⟨none, _, _, _, _, _⟩ :: _) _ _); refine wpList_store_row rfl _ _ _ rfl w2.heap.size KeptM.zero.cells.toArray rfl rfl 45 _ HZ.out (by kernel_rfl) rfl (by kernel_rfl) ?_; change wpList _ _ _ _ _ (kvarW w2 KeptM.zero); generalize kvarW w2 KeptM.zero = w4 at *))
    go_ret
    rw [HE.out]
    exact ⟨rfl, HX⟩
  · rw [ho] at HT
    have HAC := hide (fun (w1 : World) (F : Nat → Prop) (hF : DiskAt w1 b F D) => eAppend_calls hF (by omega) (k.entry 2))
    have HP : Hid (commitS S D = if (appendM D (k.entry 2)).2.2 ≠ 0 then (S.shut, (appendM D (k.entry 2)).1, (appendM D (k.entry 2)).2.2) else (⟨k, false, none⟩, (appendM D (k.entry 2)).1, 0)) := hide (by unfold commitS; rw [ho])
    obtain ⟨A, hA⟩ : ∃ A, appendM D (k.entry 2) = A := ⟨_, rfl⟩
    rw [hA] at HP HAC
    have HB0 := hide hB.less
    clear hA hB ho
    go_enter Try.func11, Try.ntmps11
    go_wp2_with fail
    refine HT.out.mono ?_
    rintro r w2 ⟨rfl, tu2, hs2⟩
    have HB2 := hide (HB0.out.take hL0 tu2 hs2)
    have HZ := hide (kvarW_new w2)
    have HB3 := hide (HB2.out.alloc 45 KeptM.zero.cells.toArray)
    have HB4 : Hid (Bag B w0 (kvarW w2 k) b D s S.shut (.pointer none) ((w2.heap.size, 45, k.cells.toArray) :: L0)) := hide (HB3.out.rowK (by decide) (fun p hp => (hL0 p hp).2.1) _)
    clear tu2 hs2 HB2 HB3 HT HB0 HST
    go_upto_region 4 with (((with_reducible show wpList _ _ _ (⟨none, _, _, _, _, _⟩ :: _) _ _); refine wpList_store_row rfl _ _ _ rfl w2.heap.size k.cells.toArray rfl rfl 45 _ HZ.out (by kernel_rfl) rfl (by kernel_rfl) ?_; change wpList _ _ _ _ _ (kvarW w2 k); generalize kvarW w2 k = w4 at *))
    go_cut [6] from 7 to 34 (fun s6 wx => s6 = .int .i64 A.2.2 ∧ Hid (Bag B w0 wx b A.1 s S.shut (.pointer none) ((w2.heap.size, 45, k.cells.toArray) :: L0)))
    case first =>
      refine wp_region_heads [0, 1, 2, 3, 4] 8 (fun w' => Blk w' s 48 (scells S.shut (.pointer (some ⟨b, 0, none⟩)) (.pointer none)).toArray ∧ Blk w' w2.heap.size 45 k.cells.toArray) (by kernel_rfl) rfl (by kernel_rfl) (by kernel_rfl) (fun _ _ d _ _ h => by cases d <;> exact h) ⟨(hide HB4.out.drew).out.blk, (hide HB4.out.drew).out.get (by simp)⟩ ?_
      refine' Heads.step rfl (by rfl) ?_ ?_
      rotate_left
      · intro w' hSw
        obtain ⟨c0, c1, c2, c3, c4, c5⟩ := st_cells hSw.1
        go_simp
        try with_reducible rfl
      simp only [Act.put, List.setIfInBounds_toArray, List.set_cons_zero, List.set_cons_succ]
      refine' Heads.step rfl (by rfl) ?_ ?_
      rotate_left
      · intro w' hSw
        obtain ⟨c0, c1, c2, c3, c4, c5⟩ := st_cells hSw.1
        go_simp
        try with_reducible rfl
      simp only [Act.put, List.setIfInBounds_toArray, List.set_cons_zero, List.set_cons_succ]
      refine' Heads.step rfl (by rfl) ?_ ?_
      rotate_left
      · intro w' hSw
        obtain ⟨c0, c1, c2, c3, c4, c5⟩ := st_cells hSw.1
        go_simp
        try with_reducible rfl
      simp only [Act.put, List.setIfInBounds_toArray, List.set_cons_zero, List.set_cons_succ]
      refine' Heads.step rfl (by rfl) ?_ ?_
      rotate_left
      · intro w' hSw
        obtain ⟨c0, c1, c2, c3, c4, c5⟩ := st_cells hSw.1
        go_simp
        try with_reducible rfl
      simp only [Act.put, List.setIfInBounds_toArray, List.set_cons_zero, List.set_cons_succ]
      refine' Heads.step rfl (by rfl) ?_ ?_
      rotate_left
      · intro w' hSw
        exact exec_load_row _ _ rfl w2.heap.size rfl 45 _ (0, 0) _ hSw.2 Try.underlying45 rfl (by kernel_rfl)
      simp only [Act.put, List.setIfInBounds_toArray, List.set_cons_zero, List.set_cons_succ]
      refine Heads.done ?_
      have HBr1 := hide HB4.out.drew
      refine wpAnyH_ready (rs := [5, 10]) (by kernel_rfl) (by simp) (AllReadyH.cons rfl (fun K hK => ?_) (AllReadyH.cons rfl (fun K hK => ?_) AllReadyH.nil))
      rotate_left
      · skip
        go_simp
        have HBr2 := hide (HBr1.out.alloc 59 #[.int .i64 0, .int .i64 0, .int .i64 0, .int .i64 0, .string ⟨#[]⟩])
        refine hK.out _ _ ⟨HBr2.out.blk, HBr2.out.get (by simp)⟩ (fun _ => ?_)
        clear hK K
        refine wpAnyH_ready (rs := [5]) (by kernel_rfl) (by simp) (AllReadyH.cons rfl (fun K hK => ?_) AllReadyH.nil)
        go_simp
        refine (tentry_calls _ _ _).mono ?_
        rintro r _ ⟨rfl, hb5⟩
        have HBr3 := hide (HBr2.out.below hb5)
        clear hb5
        refine hK.out _ _ ⟨HBr3.out.blk, HBr3.out.get (by simp)⟩ (fun _ => ?_)
        clear hK K
        refine wpAnyH_ready (rs := [6]) (by kernel_rfl) (by simp) (AllReadyH.cons rfl (fun K hK => ?_) AllReadyH.nil)
        go_simp
        refine (HBr3.out.op (fun F hF => HAC.out _ _ hF)).mono ?_
        rintro r _ ⟨rfl, HBr4⟩
        refine hK.out _ _ ⟨HBr4.out.blk, HBr4.out.get (by simp)⟩ (fun _ => ?_)
        clear hK K
        refine wpAnyH_more [7, 8, 9] 2 rfl (by kernel_rfl) (by kernel_rfl) (fun _ _ d _ _ h => by cases d <;> exact h) ⟨HBr4.out.blk, HBr4.out.get (by simp)⟩ ?_
        refine' Heads.step rfl (by rfl) ?_ ?_
        rotate_left
        · intro w' hSw
          obtain ⟨c0, c1, c2, c3, c4, c5⟩ := st_cells hSw.1
          go_simp
          try with_reducible rfl
        simp only [Act.put, List.setIfInBounds_toArray, List.set_cons_zero, List.set_cons_succ]
        refine' Heads.step rfl (by rfl) ?_ ?_
        rotate_left
        · intro w' hSw
          obtain ⟨c0, c1, c2, c3, c4, c5⟩ := st_cells hSw.1
          go_simp
          try with_reducible rfl
        simp only [Act.put, List.setIfInBounds_toArray, List.set_cons_zero, List.set_cons_succ]
        refine' Heads.step rfl (by rfl) ?_ ?_
        rotate_left
        · intro w' hSw
          obtain ⟨c0, c1, c2, c3, c4, c5⟩ := st_cells hSw.1
          go_simp
          try with_reducible rfl
        simp only [Act.put, List.setIfInBounds_toArray, List.set_cons_zero, List.set_cons_succ]
        refine Heads.done ?_
        refine wpAnyH_ready (rs := [11]) (by kernel_rfl) (by simp) (AllReadyH.cons rfl (fun K hK => ?_) AllReadyH.nil)
        rw [if_pos (by rfl)]
        refine wp_store_row _ _ _ rfl _ (A.2.1).cells.toArray rfl (by kernel_rfl) 59 _ (HBr4.out.get (List.mem_cons_self ..)) (by kernel_rfl) rfl (by kernel_rfl) ?_
        have HBr5 := hide (HBr4.out.row (by decide) (kept_ne hL0) (A.2.1).cells.toArray)
        refine hK.out _ _ ⟨HBr5.out.blk, HBr5.out.get (by simp)⟩ (fun _ => ?_)
        clear hK K
        refine wpAnyH_more [12] 0 rfl (by kernel_rfl) (by kernel_rfl) (fun _ _ d _ _ h => by cases d <;> exact h) ⟨HBr5.out.blk, HBr5.out.get (by simp)⟩ ?_
        refine' Heads.step rfl (by rfl) ?_ ?_
        rotate_left
        · intro w' hSw
          obtain ⟨c0, c1, c2, c3, c4, c5⟩ := st_cells hSw.1
          go_simp
          try with_reducible rfl
        simp only [Act.put, List.setIfInBounds_toArray]
        refine Heads.done ?_
        refine wpAnyH_done (by kernel_rfl) ?_ _
        go_wp2_with fail
        go_meet
        case rel => exact ⟨rfl, HBr5⟩
      go_simp
      refine (tentry_calls _ _ _).mono ?_
      rintro r _ ⟨rfl, hb5⟩
      have HBr6 := hide (HBr1.out.below hb5)
      clear hb5
      refine hK.out _ _ ⟨HBr6.out.blk, HBr6.out.get (by simp)⟩ (fun _ => ?_)
      clear hK K
      refine wpAnyH_ready (rs := [6, 10]) (by kernel_rfl) (by simp) (AllReadyH.cons rfl (fun K hK => ?_) (AllReadyH.cons rfl (fun K hK => ?_) AllReadyH.nil))
      rotate_left
      · skip
        go_simp
        have HBr7 := hide (HBr6.out.alloc 59 #[.int .i64 0, .int .i64 0, .int .i64 0, .int .i64 0, .string ⟨#[]⟩])
        refine hK.out _ _ ⟨HBr7.out.blk, HBr7.out.get (by simp)⟩ (fun _ => ?_)
        clear hK K
        refine wpAnyH_ready (rs := [6]) (by kernel_rfl) (by simp) (AllReadyH.cons rfl (fun K hK => ?_) AllReadyH.nil)
        go_simp
        refine (HBr7.out.op (fun F hF => HAC.out _ _ hF)).mono ?_
        rintro r _ ⟨rfl, HBr8⟩
        refine hK.out _ _ ⟨HBr8.out.blk, HBr8.out.get (by simp)⟩ (fun _ => ?_)
        clear hK K
        refine wpAnyH_more [7, 8, 9] 2 rfl (by kernel_rfl) (by kernel_rfl) (fun _ _ d _ _ h => by cases d <;> exact h) ⟨HBr8.out.blk, HBr8.out.get (by simp)⟩ ?_
        refine' Heads.step rfl (by rfl) ?_ ?_
        rotate_left
        · intro w' hSw
          obtain ⟨c0, c1, c2, c3, c4, c5⟩ := st_cells hSw.1
          go_simp
          try with_reducible rfl
        simp only [Act.put, List.setIfInBounds_toArray, List.set_cons_zero, List.set_cons_succ]
        refine' Heads.step rfl (by rfl) ?_ ?_
        rotate_left
        · intro w' hSw
          obtain ⟨c0, c1, c2, c3, c4, c5⟩ := st_cells hSw.1
          go_simp
          try with_reducible rfl
        simp only [Act.put, List.setIfInBounds_toArray, List.set_cons_zero, List.set_cons_succ]
        refine' Heads.step rfl (by rfl) ?_ ?_
        rotate_left
        · intro w' hSw
          obtain ⟨c0, c1, c2, c3, c4, c5⟩ := st_cells hSw.1
          go_simp
          try with_reducible rfl
        simp only [Act.put, List.setIfInBounds_toArray, List.set_cons_zero, List.set_cons_succ]
        refine Heads.done ?_
        refine wpAnyH_ready (rs := [11]) (by kernel_rfl) (by simp) (AllReadyH.cons rfl (fun K hK => ?_) AllReadyH.nil)
        rw [if_pos (by rfl)]
        refine wp_store_row _ _ _ rfl _ (A.2.1).cells.toArray rfl (by kernel_rfl) 59 _ (HBr8.out.get (List.mem_cons_self ..)) (by kernel_rfl) rfl (by kernel_rfl) ?_
        have HBr9 := hide (HBr8.out.row (by decide) (kept_ne hL0) (A.2.1).cells.toArray)
        refine hK.out _ _ ⟨HBr9.out.blk, HBr9.out.get (by simp)⟩ (fun _ => ?_)
        clear hK K
        refine wpAnyH_more [12] 0 rfl (by kernel_rfl) (by kernel_rfl) (fun _ _ d _ _ h => by cases d <;> exact h) ⟨HBr9.out.blk, HBr9.out.get (by simp)⟩ ?_
        refine' Heads.step rfl (by rfl) ?_ ?_
        rotate_left
        · intro w' hSw
          obtain ⟨c0, c1, c2, c3, c4, c5⟩ := st_cells hSw.1
          go_simp
          try with_reducible rfl
        simp only [Act.put, List.setIfInBounds_toArray]
        refine Heads.done ?_
        refine wpAnyH_done (by kernel_rfl) ?_ _
        go_wp2_with fail
        go_meet
        case rel => exact ⟨rfl, HBr9⟩
      go_simp
      refine (HBr6.out.op (fun F hF => HAC.out _ _ hF)).mono ?_
      rintro r _ ⟨rfl, HBr10⟩
      refine hK.out _ _ ⟨HBr10.out.blk, HBr10.out.get (by simp)⟩ (fun _ => ?_)
      clear hK K
      refine wpAnyH_more [7, 8, 9] 3 rfl (by kernel_rfl) (by kernel_rfl) (fun _ _ d _ _ h => by cases d <;> exact h) ⟨HBr10.out.blk, HBr10.out.get (by simp)⟩ ?_
      refine' Heads.step rfl (by rfl) ?_ ?_
      rotate_left
      · intro w' hSw
        obtain ⟨c0, c1, c2, c3, c4, c5⟩ := st_cells hSw.1
        go_simp
        try with_reducible rfl
      simp only [Act.put, List.setIfInBounds_toArray, List.set_cons_zero, List.set_cons_succ]
      refine' Heads.step rfl (by rfl) ?_ ?_
      rotate_left
      · intro w' hSw
        obtain ⟨c0, c1, c2, c3, c4, c5⟩ := st_cells hSw.1
        go_simp
        try with_reducible rfl
      simp only [Act.put, List.setIfInBounds_toArray, List.set_cons_zero, List.set_cons_succ]
      refine' Heads.step rfl (by rfl) ?_ ?_
      rotate_left
      · intro w' hSw
        obtain ⟨c0, c1, c2, c3, c4, c5⟩ := st_cells hSw.1
        go_simp
        try with_reducible rfl
      simp only [Act.put, List.setIfInBounds_toArray, List.set_cons_zero, List.set_cons_succ]
      refine Heads.done ?_
      refine wpAnyH_ready (rs := [10]) (by kernel_rfl) (by simp) (AllReadyH.cons rfl (fun K hK => ?_) AllReadyH.nil)
      go_simp
      have HBr11 := hide (HBr10.out.alloc 59 #[.int .i64 0, .int .i64 0, .int .i64 0, .int .i64 0, .string ⟨#[]⟩])
      refine hK.out _ _ ⟨HBr11.out.blk, HBr11.out.get (by simp)⟩ (fun _ => ?_)
      clear hK K
      refine wpAnyH_ready (rs := [11]) (by kernel_rfl) (by simp) (AllReadyH.cons rfl (fun K hK => ?_) AllReadyH.nil)
      rw [if_pos (by rfl)]
      refine wp_store_row _ _ _ rfl _ (A.2.1).cells.toArray rfl (by kernel_rfl) 59 _ (HBr11.out.get (List.mem_cons_self ..)) (by kernel_rfl) rfl (by kernel_rfl) ?_
      have HBr12 := hide (HBr11.out.row (by decide) (kept_ne hL0) (A.2.1).cells.toArray)
      refine hK.out _ _ ⟨HBr12.out.blk, HBr12.out.get (by simp)⟩ (fun _ => ?_)
      clear hK K
      refine wpAnyH_more [12] 0 rfl (by kernel_rfl) (by kernel_rfl) (fun _ _ d _ _ h => by cases d <;> exact h) ⟨HBr12.out.blk, HBr12.out.get (by simp)⟩ ?_
      refine' Heads.step rfl (by rfl) ?_ ?_
      rotate_left
      · intro w' hSw
        obtain ⟨c0, c1, c2, c3, c4, c5⟩ := st_cells hSw.1
        go_simp
        try with_reducible rfl
      simp only [Act.put, List.setIfInBounds_toArray]
      refine Heads.done ?_
      refine wpAnyH_done (by kernel_rfl) ?_ _
      go_wp2_with fail
      go_meet
      case rel => exact ⟨rfl, HBr12⟩
    case rest =>
    obtain ⟨rfl, HB9⟩ := hcut
    by_cases ha : A.2.2 = 0
    · have HE : Hid (commitS S D = (⟨k, false, none⟩, A.1, 0)) := hide (by rw [HP.out, if_neg (by simpa using ha)])
      rw [ha]
      clear ha
      have hk := HB9.out.get (List.mem_cons_self ..)
      have k0 : wc.cell? ⟨w2.heap.size, 0, none⟩ = some (.int .i64 k.slot) := hk.cell 0
      have k1 : wc.cell? ⟨w2.heap.size, 1, none⟩ = some (.string k.text) := hk.cell 1
      have k2 : wc.cell? ⟨w2.heap.size, 2, none⟩ = some (.string k.sum) := hk.cell 2
      have f0 : wc.frozen? ⟨s, 0, none⟩ = false := HB9.out.blk.frozen 0
      have f1 : wc.frozen? ⟨s, 1, none⟩ = false := HB9.out.blk.frozen 1
      have f2 : wc.frozen? ⟨s, 2, none⟩ = false := HB9.out.blk.frozen 2
      have f4 : wc.frozen? ⟨s, 4, none⟩ = false := HB9.out.blk.frozen 4
      obtain ⟨c0, c1, c2, c3, c4, c5⟩ := st_cells HB9.out.blk
      clear hk
      go_wp2_with fail
      go_ret
      rw [HE.out]
      exact ⟨rfl, hide (.inl ⟨rfl, (HB9.out.commit k (kept_st hL0)).less⟩)⟩
    · have HE : Hid (commitS S D = (S.shut, A.1, A.2.2)) := hide (by rw [HP.out, if_pos ha])
      have hab : (A.2.2 != 0) = true := by simp [ha]
      clear ha
      go_wp2_with fail
      go_ret
      rw [HE.out]
      exact ⟨rfl, hide (.inl ⟨rfl, HB9.out.less⟩)⟩
set_option maxRecDepth 20000 in
set_option maxHeartbeats 4000000 in
theorem tDrop_kept {B : Nat} {w0 w : World} {b s : Nat} {D : DiskM} {S : StoreM} {L0 : List (Nat × TypeId × Array Value)} (h : BST B w0 w b D s S L0) (hL0 : Odd3 L0) (hW : D.waits.length ≤ 4294900000) :
    Calls Try.prog 14 #[.pointer (some ⟨s, 0, none⟩)] w fun r w' => r = .returned (.int .i64 (dropS S D).2.2) ∧ Hid (BST B w0 w' b (dropS S D).2.1 s (dropS S D).1 L0) := by
  have HT := hide (ttake_calls h.st.st)
  unfold TakePost at HT
  have HST := hide h
  rcases h with ⟨ho, hB⟩ | ⟨k, g, ho, hB⟩
  · rw [ho] at HT
    have HE : Hid (dropS S D = (S, D, 8)) := hide (by unfold dropS; rw [ho])
    clear hB ho
    go_enter Try.func14, Try.ntmps14
    go_wp2_with fail
    refine HT.out.mono ?_
    rintro r w2 ⟨rfl, hb2⟩
    have HZ := hide (kvarW_new w2)
    have HX := hide ((HST.out.below hb2).below (kvarW_below w2 KeptM.zero))
    clear hb2
    go_wp2_with (((with_reducible show wpList _ _ _ (⟨none, _, _, _, _, _⟩ :: _) _ _); refine wpList_store_row rfl _ _ _ rfl w2.heap.size KeptM.zero.cells.toArray rfl rfl 45 _ HZ.out (by kernel_rfl) rfl (by kernel_rfl) ?_; change wpList _ _ _ _ _ (kvarW w2 KeptM.zero); generalize kvarW w2 KeptM.zero = w4 at *))
    go_ret
    rw [HE.out]
    exact ⟨rfl, HX⟩
  · rw [ho] at HT
    have HAC := hide (fun (w1 : World) (F : Nat → Prop) (hF : DiskAt w1 b F D) => eAppend_calls hF (by omega) (S.k.entry 3))
    have HP : Hid (dropS S D = (S.shut, (appendM D (S.k.entry 3)).1, (appendM D (S.k.entry 3)).2.2)) := hide (by unfold dropS; rw [ho])
    obtain ⟨A, hA⟩ : ∃ A, appendM D (S.k.entry 3) = A := ⟨_, rfl⟩
    rw [hA] at HP HAC
    have HB0 := hide hB.less
    clear hA hB ho
    go_enter Try.func14, Try.ntmps14
    go_wp2_with fail
    refine HT.out.mono ?_
    rintro r w2 ⟨rfl, tu2, hs2⟩
    have HB2 := hide (HB0.out.take hL0 tu2 hs2)
    have HZ := hide (kvarW_new w2)
    have HB3 := hide (HB2.out.alloc 45 KeptM.zero.cells.toArray)
    have HB4 : Hid (Bag B w0 (kvarW w2 k) b D s S.shut (.pointer none) ((w2.heap.size, 45, k.cells.toArray) :: L0)) := hide (HB3.out.rowK (by decide) (fun p hp => (hL0 p hp).2.1) _)
    clear tu2 hs2 HB2 HB3 HT HB0 HST
    go_upto_region 4 with (((with_reducible show wpList _ _ _ (⟨none, _, _, _, _, _⟩ :: _) _ _); refine wpList_store_row rfl _ _ _ rfl w2.heap.size k.cells.toArray rfl rfl 45 _ HZ.out (by kernel_rfl) rfl (by kernel_rfl) ?_; change wpList _ _ _ _ _ (kvarW w2 k); generalize kvarW w2 k = w4 at *))
    go_cut [6] from 7 to 28 (fun s6 wx => s6 = .int .i64 A.2.2 ∧ Hid (Bag B w0 wx b A.1 s S.shut (.pointer none) ((w2.heap.size, 45, k.cells.toArray) :: L0)))
    case first =>
      refine wp_region_heads [0, 1, 2, 3, 4, 5, 6, 7] 8 (fun w' => Blk w' s 48 (scells S.shut (.pointer (some ⟨b, 0, none⟩)) (.pointer none)).toArray) (by kernel_rfl) rfl (by kernel_rfl) (by kernel_rfl) (fun _ _ d _ _ h => by cases d <;> exact h) (hide HB4.out.drew).out.blk ?_
      refine' Heads.step rfl (by rfl) ?_ ?_
      rotate_left
      · intro w' hSw
        obtain ⟨c0, c1, c2, c3, c4, c5⟩ := st_cells hSw
        go_simp
        try with_reducible rfl
      simp only [Act.put, List.setIfInBounds_toArray, List.set_cons_zero, List.set_cons_succ]
      refine' Heads.step rfl (by rfl) ?_ ?_
      rotate_left
      · intro w' hSw
        obtain ⟨c0, c1, c2, c3, c4, c5⟩ := st_cells hSw
        go_simp
        try with_reducible rfl
      simp only [Act.put, List.setIfInBounds_toArray, List.set_cons_zero, List.set_cons_succ]
      refine' Heads.step rfl (by rfl) ?_ ?_
      rotate_left
      · intro w' hSw
        obtain ⟨c0, c1, c2, c3, c4, c5⟩ := st_cells hSw
        go_simp
        try with_reducible rfl
      simp only [Act.put, List.setIfInBounds_toArray, List.set_cons_zero, List.set_cons_succ]
      refine' Heads.step rfl (by rfl) ?_ ?_
      rotate_left
      · intro w' hSw
        obtain ⟨c0, c1, c2, c3, c4, c5⟩ := st_cells hSw
        go_simp
        try with_reducible rfl
      simp only [Act.put, List.setIfInBounds_toArray, List.set_cons_zero, List.set_cons_succ]
      refine' Heads.step rfl (by rfl) ?_ ?_
      rotate_left
      · intro w' hSw
        obtain ⟨c0, c1, c2, c3, c4, c5⟩ := st_cells hSw
        go_simp
        try with_reducible rfl
      simp only [Act.put, List.setIfInBounds_toArray, List.set_cons_zero, List.set_cons_succ]
      refine' Heads.step rfl (by rfl) ?_ ?_
      rotate_left
      · intro w' hSw
        obtain ⟨c0, c1, c2, c3, c4, c5⟩ := st_cells hSw
        go_simp
        try with_reducible rfl
      simp only [Act.put, List.setIfInBounds_toArray, List.set_cons_zero, List.set_cons_succ]
      refine' Heads.step rfl (by rfl) ?_ ?_
      rotate_left
      · intro w' hSw
        obtain ⟨c0, c1, c2, c3, c4, c5⟩ := st_cells hSw
        go_simp
        try with_reducible rfl
      simp only [Act.put, List.setIfInBounds_toArray, List.set_cons_zero, List.set_cons_succ]
      refine' Heads.step rfl (by rfl) ?_ ?_
      rotate_left
      · intro w' hSw
        obtain ⟨c0, c1, c2, c3, c4, c5⟩ := st_cells hSw
        go_simp
        try with_reducible rfl
      simp only [Act.put, List.setIfInBounds_toArray, List.set_cons_zero, List.set_cons_succ]
      refine Heads.done ?_
      have HBr1 := hide HB4.out.drew
      refine wpAnyH_ready (rs := [8, 13]) (by kernel_rfl) (by simp) (AllReadyH.cons rfl (fun K hK => ?_) (AllReadyH.cons rfl (fun K hK => ?_) AllReadyH.nil))
      rotate_left
      · skip
        go_simp
        have HBr2 := hide (HBr1.out.alloc 59 #[.int .i64 0, .int .i64 0, .int .i64 0, .int .i64 0, .string ⟨#[]⟩])
        refine hK.out _ _ HBr2.out.blk (fun _ => ?_)
        clear hK K
        refine wpAnyH_ready (rs := [8]) (by kernel_rfl) (by simp) (AllReadyH.cons rfl (fun K hK => ?_) AllReadyH.nil)
        go_simp
        refine (tentry_calls _ _ _).mono ?_
        rintro r _ ⟨rfl, hb5⟩
        have HBr3 := hide (HBr2.out.below hb5)
        clear hb5
        refine hK.out _ _ HBr3.out.blk (fun _ => ?_)
        clear hK K
        refine wpAnyH_ready (rs := [9]) (by kernel_rfl) (by simp) (AllReadyH.cons rfl (fun K hK => ?_) AllReadyH.nil)
        go_simp
        refine (HBr3.out.op (fun F hF => HAC.out _ _ hF)).mono ?_
        rintro r _ ⟨rfl, HBr4⟩
        refine hK.out _ _ HBr4.out.blk (fun _ => ?_)
        clear hK K
        refine wpAnyH_more [10, 11, 12] 2 rfl (by kernel_rfl) (by kernel_rfl) (fun _ _ d _ _ h => by cases d <;> exact h) HBr4.out.blk ?_
        refine' Heads.step rfl (by rfl) ?_ ?_
        rotate_left
        · intro w' hSw
          obtain ⟨c0, c1, c2, c3, c4, c5⟩ := st_cells hSw
          go_simp
          try with_reducible rfl
        simp only [Act.put, List.setIfInBounds_toArray, List.set_cons_zero, List.set_cons_succ]
        refine' Heads.step rfl (by rfl) ?_ ?_
        rotate_left
        · intro w' hSw
          obtain ⟨c0, c1, c2, c3, c4, c5⟩ := st_cells hSw
          go_simp
          try with_reducible rfl
        simp only [Act.put, List.setIfInBounds_toArray, List.set_cons_zero, List.set_cons_succ]
        refine' Heads.step rfl (by rfl) ?_ ?_
        rotate_left
        · intro w' hSw
          obtain ⟨c0, c1, c2, c3, c4, c5⟩ := st_cells hSw
          go_simp
          try with_reducible rfl
        simp only [Act.put, List.setIfInBounds_toArray, List.set_cons_zero, List.set_cons_succ]
        refine Heads.done ?_
        refine wpAnyH_ready (rs := [14]) (by kernel_rfl) (by simp) (AllReadyH.cons rfl (fun K hK => ?_) AllReadyH.nil)
        rw [if_pos (by rfl)]
        refine wp_store_row _ _ _ rfl _ (A.2.1).cells.toArray rfl (by kernel_rfl) 59 _ (HBr4.out.get (List.mem_cons_self ..)) (by kernel_rfl) rfl (by kernel_rfl) ?_
        have HBr5 := hide (HBr4.out.row (by decide) (kept_ne hL0) (A.2.1).cells.toArray)
        refine hK.out _ _ HBr5.out.blk (fun _ => ?_)
        clear hK K
        refine wpAnyH_more [15] 0 rfl (by kernel_rfl) (by kernel_rfl) (fun _ _ d _ _ h => by cases d <;> exact h) HBr5.out.blk ?_
        refine' Heads.step rfl (by rfl) ?_ ?_
        rotate_left
        · intro w' hSw
          obtain ⟨c0, c1, c2, c3, c4, c5⟩ := st_cells hSw
          go_simp
          try with_reducible rfl
        simp only [Act.put, List.setIfInBounds_toArray]
        refine Heads.done ?_
        refine wpAnyH_done (by kernel_rfl) ?_ _
        go_wp2_with fail
        go_meet
        case rel => exact ⟨rfl, HBr5⟩
      go_simp
      refine (tentry_calls _ _ _).mono ?_
      rintro r _ ⟨rfl, hb5⟩
      have HBr6 := hide (HBr1.out.below hb5)
      clear hb5
      refine hK.out _ _ HBr6.out.blk (fun _ => ?_)
      clear hK K
      refine wpAnyH_ready (rs := [9, 13]) (by kernel_rfl) (by simp) (AllReadyH.cons rfl (fun K hK => ?_) (AllReadyH.cons rfl (fun K hK => ?_) AllReadyH.nil))
      rotate_left
      · skip
        go_simp
        have HBr7 := hide (HBr6.out.alloc 59 #[.int .i64 0, .int .i64 0, .int .i64 0, .int .i64 0, .string ⟨#[]⟩])
        refine hK.out _ _ HBr7.out.blk (fun _ => ?_)
        clear hK K
        refine wpAnyH_ready (rs := [9]) (by kernel_rfl) (by simp) (AllReadyH.cons rfl (fun K hK => ?_) AllReadyH.nil)
        go_simp
        refine (HBr7.out.op (fun F hF => HAC.out _ _ hF)).mono ?_
        rintro r _ ⟨rfl, HBr8⟩
        refine hK.out _ _ HBr8.out.blk (fun _ => ?_)
        clear hK K
        refine wpAnyH_more [10, 11, 12] 2 rfl (by kernel_rfl) (by kernel_rfl) (fun _ _ d _ _ h => by cases d <;> exact h) HBr8.out.blk ?_
        refine' Heads.step rfl (by rfl) ?_ ?_
        rotate_left
        · intro w' hSw
          obtain ⟨c0, c1, c2, c3, c4, c5⟩ := st_cells hSw
          go_simp
          try with_reducible rfl
        simp only [Act.put, List.setIfInBounds_toArray, List.set_cons_zero, List.set_cons_succ]
        refine' Heads.step rfl (by rfl) ?_ ?_
        rotate_left
        · intro w' hSw
          obtain ⟨c0, c1, c2, c3, c4, c5⟩ := st_cells hSw
          go_simp
          try with_reducible rfl
        simp only [Act.put, List.setIfInBounds_toArray, List.set_cons_zero, List.set_cons_succ]
        refine' Heads.step rfl (by rfl) ?_ ?_
        rotate_left
        · intro w' hSw
          obtain ⟨c0, c1, c2, c3, c4, c5⟩ := st_cells hSw
          go_simp
          try with_reducible rfl
        simp only [Act.put, List.setIfInBounds_toArray, List.set_cons_zero, List.set_cons_succ]
        refine Heads.done ?_
        refine wpAnyH_ready (rs := [14]) (by kernel_rfl) (by simp) (AllReadyH.cons rfl (fun K hK => ?_) AllReadyH.nil)
        rw [if_pos (by rfl)]
        refine wp_store_row _ _ _ rfl _ (A.2.1).cells.toArray rfl (by kernel_rfl) 59 _ (HBr8.out.get (List.mem_cons_self ..)) (by kernel_rfl) rfl (by kernel_rfl) ?_
        have HBr9 := hide (HBr8.out.row (by decide) (kept_ne hL0) (A.2.1).cells.toArray)
        refine hK.out _ _ HBr9.out.blk (fun _ => ?_)
        clear hK K
        refine wpAnyH_more [15] 0 rfl (by kernel_rfl) (by kernel_rfl) (fun _ _ d _ _ h => by cases d <;> exact h) HBr9.out.blk ?_
        refine' Heads.step rfl (by rfl) ?_ ?_
        rotate_left
        · intro w' hSw
          obtain ⟨c0, c1, c2, c3, c4, c5⟩ := st_cells hSw
          go_simp
          try with_reducible rfl
        simp only [Act.put, List.setIfInBounds_toArray]
        refine Heads.done ?_
        refine wpAnyH_done (by kernel_rfl) ?_ _
        go_wp2_with fail
        go_meet
        case rel => exact ⟨rfl, HBr9⟩
      go_simp
      refine (HBr6.out.op (fun F hF => HAC.out _ _ hF)).mono ?_
      rintro r _ ⟨rfl, HBr10⟩
      refine hK.out _ _ HBr10.out.blk (fun _ => ?_)
      clear hK K
      refine wpAnyH_more [10, 11, 12] 3 rfl (by kernel_rfl) (by kernel_rfl) (fun _ _ d _ _ h => by cases d <;> exact h) HBr10.out.blk ?_
      refine' Heads.step rfl (by rfl) ?_ ?_
      rotate_left
      · intro w' hSw
        obtain ⟨c0, c1, c2, c3, c4, c5⟩ := st_cells hSw
        go_simp
        try with_reducible rfl
      simp only [Act.put, List.setIfInBounds_toArray, List.set_cons_zero, List.set_cons_succ]
      refine' Heads.step rfl (by rfl) ?_ ?_
      rotate_left
      · intro w' hSw
        obtain ⟨c0, c1, c2, c3, c4, c5⟩ := st_cells hSw
        go_simp
        try with_reducible rfl
      simp only [Act.put, List.setIfInBounds_toArray, List.set_cons_zero, List.set_cons_succ]
      refine' Heads.step rfl (by rfl) ?_ ?_
      rotate_left
      · intro w' hSw
        obtain ⟨c0, c1, c2, c3, c4, c5⟩ := st_cells hSw
        go_simp
        try with_reducible rfl
      simp only [Act.put, List.setIfInBounds_toArray, List.set_cons_zero, List.set_cons_succ]
      refine Heads.done ?_
      refine wpAnyH_ready (rs := [13]) (by kernel_rfl) (by simp) (AllReadyH.cons rfl (fun K hK => ?_) AllReadyH.nil)
      go_simp
      have HBr11 := hide (HBr10.out.alloc 59 #[.int .i64 0, .int .i64 0, .int .i64 0, .int .i64 0, .string ⟨#[]⟩])
      refine hK.out _ _ HBr11.out.blk (fun _ => ?_)
      clear hK K
      refine wpAnyH_ready (rs := [14]) (by kernel_rfl) (by simp) (AllReadyH.cons rfl (fun K hK => ?_) AllReadyH.nil)
      rw [if_pos (by rfl)]
      refine wp_store_row _ _ _ rfl _ (A.2.1).cells.toArray rfl (by kernel_rfl) 59 _ (HBr11.out.get (List.mem_cons_self ..)) (by kernel_rfl) rfl (by kernel_rfl) ?_
      have HBr12 := hide (HBr11.out.row (by decide) (kept_ne hL0) (A.2.1).cells.toArray)
      refine hK.out _ _ HBr12.out.blk (fun _ => ?_)
      clear hK K
      refine wpAnyH_more [15] 0 rfl (by kernel_rfl) (by kernel_rfl) (fun _ _ d _ _ h => by cases d <;> exact h) HBr12.out.blk ?_
      refine' Heads.step rfl (by rfl) ?_ ?_
      rotate_left
      · intro w' hSw
        obtain ⟨c0, c1, c2, c3, c4, c5⟩ := st_cells hSw
        go_simp
        try with_reducible rfl
      simp only [Act.put, List.setIfInBounds_toArray]
      refine Heads.done ?_
      refine wpAnyH_done (by kernel_rfl) ?_ _
      go_wp2_with fail
      go_meet
      case rel => exact ⟨rfl, HBr12⟩
    case rest =>
    obtain ⟨rfl, HB9⟩ := hcut
    go_wp2_with fail
    go_ret
    rw [HP.out]
    exact ⟨rfl, hide (.inl ⟨rfl, HB9.out.less⟩)⟩
set_option maxRecDepth 20000 in
theorem tCommit_calls {B : Nat} {w0 w : World} {b s : Nat} {D : DiskM} {S : StoreM} (h : ST B w0 w b D s S) (hW : D.waits.length ≤ 4294900000) :
    Calls Try.prog 11 #[.pointer (some ⟨s, 0, none⟩)] w fun r w' => r = .returned (.int .i64 (commitS S D).2.2) ∧ Hid (ST B w0 w' b (commitS S D).2.1 s (commitS S D).1) := by
  refine (tCommit_kept (BST.of h) (fun p hp => by simp at hp) hW).mono ?_
  rintro r w1 ⟨hr, hb⟩
  exact ⟨hr, hide hb.out.st⟩
set_option maxRecDepth 20000 in
theorem tDrop_calls {B : Nat} {w0 w : World} {b s : Nat} {D : DiskM} {S : StoreM} (h : ST B w0 w b D s S) (hW : D.waits.length ≤ 4294900000) :
    Calls Try.prog 14 #[.pointer (some ⟨s, 0, none⟩)] w fun r w' => r = .returned (.int .i64 (dropS S D).2.2) ∧ Hid (ST B w0 w' b (dropS S D).2.1 s (dropS S D).1) := by
  refine (tDrop_kept (BST.of h) (fun p hp => by simp at hp) hW).mono ?_
  rintro r w1 ⟨hr, hb⟩
  exact ⟨hr, hide hb.out.st⟩
end Go.Proofs.Ytacbnoagdlelgaa
