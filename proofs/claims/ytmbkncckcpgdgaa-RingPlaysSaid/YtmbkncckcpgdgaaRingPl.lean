/- Chapter 5: RingPlays, walked. -/
import Derived.Test.YtmbkncckcpgdgaaRingSm
import Derived.Test.YtmbkncckcpgdgaaPD
import Derived.Test.YtmbkncckcpgdgaaRingL
import Derived.Test.YtmbkncckcpgdgaaArgs7
import Derived.Deep.CutBlock
namespace Go.Proofs.Ytmbkncckcpgdgaa
open Go.RowKit Zb

set_option maxRecDepth 20000 in
theorem cut_waits (D : DiskM) : D.cut.1.waits.length ≤ D.waits.length := by
  unfold DiskM.cut
  split
  · exact Nat.le_refl _
  · split
    · exact Nat.le_refl _
    · unfold DiskM.fail
      split <;> simp
set_option maxRecDepth 20000 in
theorem write_waits1 (D : DiskM) (i : Int) (s : ByteArray) : (D.write i s).1.waits.length ≤ D.waits.length + 1 := by
  unfold DiskM.write
  split
  · exact Nat.le_succ _
  · split
    · exact Nat.le_succ _
    · refine Nat.le_trans (cut_waits _) ?_
      simp
set_option maxRecDepth 20000 in
theorem sync_waits1 (D : DiskM) : D.sync.1.waits.length ≤ D.waits.length := by
  unfold DiskM.sync
  split
  · exact Nat.le_refl _
  · split
    · exact cut_waits D
    · simp
set_option maxRecDepth 20000 in
theorem append_waits (D : DiskM) (e : EntM) : (appendM D e).1.waits.length ≤ D.waits.length + 1 := by
  unfold appendM
  split
  · exact Nat.le_succ _
  · split
    · exact Nat.le_succ _
    · dsimp only
      split
      · exact Nat.le_succ _
      · split
        · exact write_waits1 _ _ _
        · split <;> exact Nat.le_trans (sync_waits1 _) (write_waits1 _ _ _)
set_option maxRecDepth 20000 in
theorem PD.begin5 {w w1 w2 : World} {b rb n : Nat} {F G : Nat → Prop} (hb1 : Below w.heap.size w w1) (hF : ∀ x, F x → w.heap.size ≤ x) (hd : DiskAt w1 b F (DiskM.new n)) (hb2 : Below w1.heap.size w1 w2) (hG : ∀ x, G x → w1.heap.size ≤ x) (hr : RAt w2 rb G (DiskM.new n)) :
    PD w w2 b rb (DiskM.new n) (DiskM.new n) (fun _ => False) := by
  have := hb1.size
  exact ⟨hb1.trans (hb2.mono hb1.size), fun _ h => h.elim, F, G, fun x hx => ⟨hF x hx, fun h => h⟩, fun x hx => ⟨by have := hG x hx; omega, fun h => h, fun hf => by have := hd.lt x hf; have := hG x hx; omega⟩, hd.below hb2, hr⟩
set_option maxRecDepth 20000 in
theorem PD.more2 {w0 w w' : World} {b rb : Nat} {D R : DiskM} {K K' : Nat → Prop} (h : PD w0 w b rb D R K) (k : Below w.heap.size w w') (hK : ∀ x, K' x → K x ∨ (w.heap.size ≤ x ∧ x < w'.heap.size)) : PD w0 w' b rb D R K' := by
  have h2 := h.below k
  obtain ⟨F, G, hF, hG, hd, hr⟩ := h.dk
  refine ⟨h2.bel, fun x hx => ?_, F, G, fun x hx => ⟨(hF x hx).1, fun e => ?_⟩, fun x hx => ⟨(hG x hx).1, fun e => ?_, (hG x hx).2.2⟩, hd.below k, hr.below k⟩
  · rcases hK x hx with h1 | h1
    · exact h2.own x h1
    · exact ⟨Nat.le_trans h.bel.size h1.1, h1.2⟩
  · rcases hK x e with h1 | h1
    · exact (hF x hx).2 h1
    · have := hd.lt x hx; omega
  · rcases hK x e with h1 | h1
    · exact (hG x hx).2.1 h1
    · have := hr.lt x hx; omega
set_option maxRecDepth 20000 in
theorem plan_waits (D : DiskM) (i m : Int) : (D.plan i m).1.waits = D.waits := by unfold DiskM.plan; split <;> rfl
set_option maxRecDepth 20000 in
theorem fail_waits (D : DiskM) (m : Int) : (D.fail m).waits.length ≤ D.waits.length := by
  unfold DiskM.fail
  split
  · exact Nat.le_refl _
  · exact Nat.zero_le _
set_option maxRecDepth 20000 in
theorem PD.scan {w0 w : World} {b rb : Nat} {D R : DiskM} {K : Nat → Prop} (h : PD w0 w b rb D R K) (hW : D.waits.length ≤ 4294967290) : Calls Try.prog 17 #[.pointer (some ⟨b, 0, none⟩)] w (ScanPost 28 w D) := by
  obtain ⟨F, G, hF, hG, hd, hr⟩ := h.dk
  exact eScan_calls hd hW
set_option maxRecDepth 20000 in
theorem PD.last {w0 w : World} {b rb : Nat} {D R : DiskM} {K : Nat → Prop} (h : PD w0 w b rb D R K) (hW : D.waits.length ≤ 4294967290) : Calls Try.prog 18 #[.pointer (some ⟨b, 0, none⟩)] w (LastPost w D) := by
  obtain ⟨F, G, hF, hG, hd, hr⟩ := h.dk
  exact eLast_calls hd hW
set_option maxRecDepth 20000 in
theorem PD.rscan {w0 w : World} {b rb : Nat} {D R : DiskM} {K : Nat → Prop} (h : PD w0 w b rb D R K) (hW : R.waits.length ≤ 4294967290) : Calls Try.prog 33 #[.pointer (some ⟨rb, 0, none⟩)] w (ScanPost 23 w R) := by
  obtain ⟨F, G, hF, hG, hd, hr⟩ := h.dk
  exact reScan_calls hr hW
set_option maxRecDepth 20000 in
theorem PD.rlast {w0 w : World} {b rb : Nat} {D R : DiskM} {K : Nat → Prop} (h : PD w0 w b rb D R K) (hW : R.waits.length ≤ 4294967290) : Calls Try.prog 34 #[.pointer (some ⟨rb, 0, none⟩)] w (LastPost w R) := by
  obtain ⟨F, G, hF, hG, hd, hr⟩ := h.dk
  exact reLast_calls hr hW
set_option maxRecDepth 20000 in
set_option maxHeartbeats 8000000 in
theorem RingPlays_walk (A : Option Addr) (cap : Nat) (l : List POp) (w : World) (_ : l.length ≤ 9223372036854775807) (hr : ReadsRows 9 POp.cells w A l) (hok : ∀ x ∈ l, x.Ok) : Calls Try.prog 7 #[.slice A l.length cap] w fun r w' => r = .returned (.bool true) ∧ Below w.heap.size w w' := by
  have HR := hide hr
  have HOK := hide hok
  have HN := hide (dnew_calls 16 (by omega) (by omega))
  have HRN := hide (rdnew_calls 16 (by omega) (by omega))
  clear hr hok
  go_enter Try.func7, Try.ntmps7
  go_wp2_with fail
  refine (HN.out _).mono ?_
  rintro e w1 ⟨b, F, rfl, hb1, hF, hd⟩
  have HB1 := hide hb1
  have HF := hide hF
  have HD := hide hd
  clear hb1 hF hd
  go_wp2_with fail
  refine (HRN.out _).mono ?_
  rintro e w2 ⟨rb, G, rfl, hb2, hG, hr⟩
  have HI0 : Hid (PD w w2 b rb (DiskM.new 16) (DiskM.new 16) (fun _ => False)) := hide (PD.begin5 HB1.out HF.out HD.out hb2 hG hr)
  clear hb2 hG hr HB1 HF HD HN HRN
  go_wp2_with fail
  go_loopw [7] (fun i wr => ∃ (k : Nat) (D : DiskM), k ≤ l.length ∧ k ≤ 40 ∧ i = .int .i64 (k : Int) ∧ D.waits.length ≤ k ∧ Hid (PD w wr b rb D D (fun _ => False))) (fun i _ => 40 - (intOf i).toNat)
  case atStart => exact ⟨0, _, by omega, by omega, rfl, Nat.le_refl _, HI0⟩
  case round =>
  clear HI0
  obtain ⟨k, D, hk, hk40, rfl, hDW, HP⟩ := hrel
  by_cases hlt : k < l.length ∧ k < 40
  · obtain ⟨hlt1, hlt2⟩ := hlt
    obtain ⟨x, hx⟩ : ∃ x, l[k]? = some x := ⟨_, List.getElem?_eq_getElem hlt1⟩
    have HX := hide (HOK.out x (List.mem_of_getElem? hx))
    obtain ⟨bb, off, hA, hblt, hc⟩ := HR.out.kept HP.out.bel hx
    subst hA
    have x0 : wr.cell? ⟨bb, off + k * 9, none⟩ = some (.int .i64 x.kind) := hc 0 _ rfl
    have x1 : wr.cell? ⟨bb, off + k * 9 + 1, none⟩ = some (.int .i64 x.e.kind) := hc 1 _ rfl
    have x2 : wr.cell? ⟨bb, off + k * 9 + 2, none⟩ = some (.int .i64 x.e.number) := hc 2 _ rfl
    have x3 : wr.cell? ⟨bb, off + k * 9 + 3, none⟩ = some (.int .i64 x.e.slot) := hc 3 _ rfl
    have x4 : wr.cell? ⟨bb, off + k * 9 + 4, none⟩ = some (.int .i64 x.e.size) := hc 4 _ rfl
    have x5 : wr.cell? ⟨bb, off + k * 9 + 5, none⟩ = some (.string x.e.sum) := hc 5 _ rfl
    have x6 : wr.cell? ⟨bb, off + k * 9 + 6, none⟩ = some (.int .i64 x.i) := hc 6 _ rfl
    have x7 : wr.cell? ⟨bb, off + k * 9 + 7, none⟩ = some (.string x.s) := hc 7 _ rfl
    have x8 : wr.cell? ⟨bb, off + k * 9 + 8, none⟩ = some (.int .u64 x.mask) := hc 8 _ rfl
    have hkI1 : (k : Int) < (l.length : Int) := by omega
    have hkI2 : (k : Int) < 40 := by omega
    have hHB8 : Hid (Blk (wr.alloc (.cells #[.int .i64 x.kind, .int .i64 x.e.kind, .int .i64 x.e.number, .int .i64 x.e.slot, .int .i64 x.e.size, .string x.e.sum, .int .i64 x.i, .string x.s, .int .u64 x.mask] 59)) wr.heap.size 59 x.cells.toArray) := hide (Blk.new wr 59 x.cells.toArray)
    have hP1 : Hid (PD w (wr.alloc (.cells #[.int .i64 x.kind, .int .i64 x.e.kind, .int .i64 x.e.number, .int .i64 x.e.slot, .int .i64 x.e.size, .string x.e.sum, .int .i64 x.i, .string x.s, .int .u64 x.mask] 59)) b rb D D (fun y => y = wr.heap.size)) := hide (HP.out.more (.cells #[.int .i64 x.kind, .int .i64 x.e.kind, .int .i64 x.e.number, .int .i64 x.e.slot, .int .i64 x.e.size, .string x.e.sum, .int .i64 x.i, .string x.s, .int .u64 x.mask] 59))
    clear hc hx
    by_cases h1 : 1000 < x.e.sum.size
    · have h1I : (1000 : Int) < (x.e.sum.size : Int) := by omega
      clear h1
      go_wp2_with fail
      refine ⟨⟨k + 1, D, by omega, by omega, by go_num, by omega, hide hP1.out.less⟩, ?_⟩
      simp [intOf]
      omega
    by_cases h2 : 1000 < x.s.size
    · have h1I : (x.e.sum.size : Int) ≤ 1000 := by omega
      have h2I : (1000 : Int) < (x.s.size : Int) := by omega
      clear h1 h2
      go_wp2_with fail
      refine ⟨⟨k + 1, D, by omega, by omega, by go_num, by omega, hide hP1.out.less⟩, ?_⟩
      simp [intOf]
      omega
    have h1I : (x.e.sum.size : Int) ≤ 1000 := by omega
    have h2I : (x.s.size : Int) ≤ 1000 := by omega
    clear h1 h2
    go_upto_block 2 with (fail)
    generalize hWA : wr.alloc (.cells #[.int .i64 x.kind, .int .i64 x.e.kind, .int .i64 x.e.number, .int .i64 x.e.slot, .int .i64 x.e.size, .string x.e.sum, .int .i64 x.i, .string x.s, .int .u64 x.mask] 59) = w3 at *
    generalize hg8 : wr.heap.size = g8 at *
    clear hWA hg8 x0 x1 x2 x3 x4 x5 x6 x7 x8 hblt
    obtain ⟨z0, z5, z6, z7, z8⟩ := pop_all hHB8.out
    have z1 : w3.cell? ⟨g8, 1, none⟩ = some (.int .i64 x.e.kind) := hHB8.out.cell 1
    have z2 : w3.cell? ⟨g8, 2, none⟩ = some (.int .i64 x.e.number) := hHB8.out.cell 2
    have z3 : w3.cell? ⟨g8, 3, none⟩ = some (.int .i64 x.e.slot) := hHB8.out.cell 3
    have z4 : w3.cell? ⟨g8, 4, none⟩ = some (.int .i64 x.e.size) := hHB8.out.cell 4
    go_cut [] from 37 to 190 (fun wx => ∃ D' : DiskM, D'.waits.length ≤ k + 1 ∧ Hid (PD w wx b rb D' D' (fun _ => False)))
    case first =>
      by_cases hk0 : x.kind = 0
      · have q0 : (x.kind == 0) = true := by simp [hk0]
        clear hk0
        obtain ⟨R, hR⟩ : ∃ R, appendM D x.e = R := ⟨_, rfl⟩
        have hw1 : R.1.waits.length ≤ k + 1 := by rw [← hR]; have := append_waits D x.e; omega
        go_wp2_with fail
        refine (lgiven5_calls x.e _).mono ?_
        rintro r w4 ⟨rfl, hb4⟩
        have HP4 := hide (hP1.out.below hb4)
        have HB4 := hide (hHB8.out.below hb4 hHB8.out.lt)
        have HA := hide (HP4.out.d (fun F hF => eAppend_calls hF (by omega) x.e))
        rw [hR] at HA
        clear hb4
        go_wp2_with fail
        refine HA.out.mono ?_
        rintro r w5 ⟨rfl, HP5, HK5⟩
        have HB5 := hide (HK5.out.blk HB4.out rfl)
        have HZ := hide (varW_new w5)
        have HY6 := hide (varW_blk w5 R.2.1)
        have HP6 : Hid (PD w (varW w5 R.2.1) b rb R.1 D (fun y => y = g8 ∨ y = w5.heap.size)) := hide (HP5.out.more2 (varW_below w5 R.2.1) (fun y hy => hy.elim (fun h => .inl h) (fun h => .inr ⟨Nat.le_of_eq h.symm, by rw [h]; exact HY6.out.lt⟩)))
        have HB6 := hide (HB5.out.below (varW_below w5 R.2.1) HB5.out.lt)
        have HA2 := hide (HP6.out.r (fun G hG => reAppend_calls hG (by omega) x.e))
        rw [hR] at HA2
        obtain ⟨D1, X, f⟩ := R
        dsimp only at hw1 HA HP5 HP6 HA2 HB6 HY6
        have y1 : (varW w5 X).cell? ⟨g8, 1, none⟩ = some (.int .i64 x.e.kind) := HB6.out.cell 1
        have y2 : (varW w5 X).cell? ⟨g8, 2, none⟩ = some (.int .i64 x.e.number) := HB6.out.cell 2
        have y3 : (varW w5 X).cell? ⟨g8, 3, none⟩ = some (.int .i64 x.e.slot) := HB6.out.cell 3
        have y4 : (varW w5 X).cell? ⟨g8, 4, none⟩ = some (.int .i64 x.e.size) := HB6.out.cell 4
        have y5 : (varW w5 X).cell? ⟨g8, 5, none⟩ = some (.string x.e.sum) := HB6.out.cell 5
        clear hR HA HP4 HB4 HP5 HK5 HB5 hP1 hHB8
        go_wp2_with (((with_reducible show wpList _ _ _ (⟨none, _, _, _, _, _⟩ :: _) _ _); refine wpList_store_row rfl _ _ _ rfl w5.heap.size X.cells.toArray rfl rfl 28 _ HZ.out (by kernel_rfl) rfl (by kernel_rfl) ?_; change wpList _ _ _ _ _ (varW w5 X); generalize varW w5 X = w6 at *))
        refine HA2.out.mono ?_
        rintro r w7 ⟨rfl, HP7, HK7⟩
        have HY7 := hide (HK7.out.blk HY6.out (.inr rfl))
        have HZ := hide (rvarW_new w7)
        have HV8 := hide (rvarW_blk w7 X)
        have HY8 := hide (HY7.out.below (rvarW_below w7 X) HY7.out.lt)
        have HP8 := hide (HP7.out.below (rvarW_below w7 X))
        clear y1 y2 y3 y4 y5 HA2 HP6 HB6 HY6 HK7 HY7 HP7
        go_wp2_with (((with_reducible show wpList _ _ _ (⟨none, _, _, _, _, _⟩ :: _) _ _); refine wpList_store_row rfl _ _ _ rfl w7.heap.size X.cells.toArray rfl rfl 23 _ HZ.out (by kernel_rfl) rfl (by kernel_rfl) ?_; change wpList _ _ _ _ _ (rvarW w7 X); generalize rvarW w7 X = w8 at *))
        refine wp_region_heads [0, 2] 7 (fun w' => Blk w' w5.heap.size 28 X.cells.toArray ∧ Blk w' w7.heap.size 23 X.cells.toArray) (by kernel_rfl) rfl (by kernel_rfl) (by kernel_rfl) (fun _ _ d _ _ h => by cases d <;> exact h) ⟨HY8.out, HV8.out⟩ ?_
        refine' Heads.step rfl (by rfl) ?_ ?_
        rotate_left
        · intro w' hSw
          exact exec_load_row _ _ rfl w5.heap.size rfl 28 _ (0, 0) _ hSw.1 Try.underlying28 rfl (by kernel_rfl)
        simp only [Act.put, List.setIfInBounds_toArray, List.set_cons_zero, List.set_cons_succ]
        refine' Heads.step rfl (by rfl) ?_ ?_
        rotate_left
        · intro w' hSw
          exact exec_load_row _ _ rfl w7.heap.size rfl 23 _ (0, 0) _ hSw.2 Try.underlying23 rfl (by kernel_rfl)
        simp only [Act.put, List.setIfInBounds_toArray, List.set_cons_zero, List.set_cons_succ]
        refine Heads.done ?_
        refine wpAnyH_ready (rs := [1]) (by kernel_rfl) (by simp) (AllReadyH.cons rfl (fun K hK => ?_) AllReadyH.nil)
        go_simp
        refine (ltaken5_calls X _).mono ?_
        rintro r w9 ⟨rfl, hb9⟩
        have HP9 := hide (HP8.out.drew.below hb9)
        have HY9 := hide (HY8.out.below (w := w8.drew) hb9 HY8.out.lt)
        have HV9 := hide (HV8.out.below (w := w8.drew) hb9 HV8.out.lt)
        refine hK.out _ _ ⟨HY9.out, HV9.out⟩ (fun hHeld1 => ?_)
        clear hK K
        refine wpAnyH_more [3, 4, 5, 6, 7, 8] 0 rfl (by kernel_rfl) (by kernel_rfl) (fun _ _ d _ _ h => by cases d <;> exact h) hHeld1 ?_
        refine' Heads.step rfl (by rfl) ?_ ?_
        rotate_left
        · intro w' hSw
          exact exec_rent_ne (p := X) (q := X) rfl rfl rfl
        simp only [Act.put, List.setIfInBounds_toArray, List.set_cons_zero, List.set_cons_succ]
        first
        | (refine' Heads.skip rfl (by rfl) ?_
           simp only [Act.put, List.setIfInBounds_toArray, List.set_cons_zero, List.set_cons_succ])
        | (refine' Heads.step rfl (by rfl) ?_ ?_
           rotate_left
           · intro w' hSw
             go_simp
             try with_reducible rfl
           simp only [Act.put, List.setIfInBounds_toArray, List.set_cons_zero, List.set_cons_succ])
        first
        | (refine' Heads.skip rfl (by rfl) ?_
           simp only [Act.put, List.setIfInBounds_toArray, List.set_cons_zero, List.set_cons_succ])
        | (refine' Heads.step rfl (by rfl) ?_ ?_
           rotate_left
           · intro w' hSw
             go_simp
             try with_reducible rfl
           simp only [Act.put, List.setIfInBounds_toArray, List.set_cons_zero, List.set_cons_succ])
        first
        | (refine' Heads.skip rfl (by rfl) ?_
           simp only [Act.put, List.setIfInBounds_toArray, List.set_cons_zero, List.set_cons_succ])
        | (refine' Heads.step rfl (by rfl) ?_ ?_
           rotate_left
           · intro w' hSw
             go_simp
             try with_reducible rfl
           simp only [Act.put, List.setIfInBounds_toArray, List.set_cons_zero, List.set_cons_succ])
        first
        | (refine' Heads.skip rfl (by rfl) ?_
           simp only [Act.put, List.setIfInBounds_toArray, List.set_cons_zero, List.set_cons_succ])
        | (refine' Heads.step rfl (by rfl) ?_ ?_
           rotate_left
           · intro w' hSw
             go_simp
             try with_reducible rfl
           simp only [Act.put, List.setIfInBounds_toArray, List.set_cons_zero, List.set_cons_succ])
        first
        | (refine' Heads.skip rfl (by rfl) ?_
           simp only [Act.put, List.setIfInBounds_toArray, List.set_cons_zero, List.set_cons_succ])
        | (refine' Heads.step rfl (by rfl) ?_ ?_
           rotate_left
           · intro w' hSw
             go_simp
             try with_reducible rfl
           simp only [Act.put, List.setIfInBounds_toArray, List.set_cons_zero, List.set_cons_succ])
        refine Heads.done ?_
        refine wpAnyH_done (by kernel_rfl) ?_ _
        go_wp2_with fail
        go_meet
        case rel => exact ⟨D1, hw1, hide HP9.out.less⟩
      by_cases hk1 : x.kind = 1
      · have q0 : (x.kind == 0) = false := by simp [hk1]
        have q1 : (x.kind == 1) = true := by simp [hk1]
        clear hk0 hk1
        obtain ⟨V, hV⟩ : ∃ V, D.write x.i x.s = V := ⟨_, rfl⟩
        have hw1 : V.1.waits.length ≤ k + 1 := by rw [← hV]; have := write_waits1 D x.i x.s; omega
        have HA := hide (hP1.out.drew.d (fun F hF => dwrite_calls hF (by omega) x.i x.s))
        rw [hV] at HA
        obtain ⟨D1, f1⟩ := V
        obtain ⟨S, hS⟩ : ∃ S, D1.sync = S := ⟨_, rfl⟩
        have hw2 : S.1.waits.length ≤ k + 1 := by rw [← hS]; have := sync_waits1 D1; dsimp only at hw1; omega
        obtain ⟨D2, f2⟩ := S
        dsimp only at HA hw1 hw2
        go_wp2_with fail
        refine wp_region_heads [0, 1, 2, 3, 4, 6, 7, 8, 9, 10] 10 (fun w' => Blk w' g8 59 x.cells.toArray) (by kernel_rfl) rfl (by kernel_rfl) (by kernel_rfl) (fun _ _ d _ _ h => by cases d <;> exact h) hHB8.out ?_
        iterate 10
          first
          | refine' Heads.skip rfl (by rfl) ?_
          | (refine' Heads.step rfl (by rfl) ?_ ?_
             rotate_left
             · intro w' hSw
               obtain ⟨z0, z5, z6, z7, z8⟩ := pop_all hSw
               go_simp
               try with_reducible rfl)
          simp only [Act.put, List.setIfInBounds_toArray, List.set_cons_zero, List.set_cons_succ]
        refine Heads.done ?_
        refine wpAnyH_ready (rs := [5]) (by kernel_rfl) (by simp) (AllReadyH.cons rfl (fun K hK => ?_) AllReadyH.nil)
        go_simp
        refine (HA.out).mono ?_
        rintro r w4 ⟨rfl, P4, hk4⟩
        have HB4 := hide (hk4.out.blk hHB8.out rfl)
        have HA2 := hide (P4.out.r (fun G hG => rdwrite_calls hG (by omega) x.i x.s))
        rw [hV] at HA2
        dsimp only at HA2
        refine hK.out _ _ HB4.out (fun hHeld1 => ?_)
        clear hK K
        refine wpAnyH_ready (rs := [11]) (by kernel_rfl) (by simp) (AllReadyH.cons rfl (fun K hK => ?_) AllReadyH.nil)
        go_simp
        refine (HA2.out).mono ?_
        rintro r w5 ⟨rfl, P5, hk5⟩
        have HB5 := hide (hk5.out.blk HB4.out rfl)
        have HA3 := hide (P5.out.d (fun F hF => dsync_calls hF (by omega)))
        rw [hS] at HA3
        dsimp only at HA3
        refine hK.out _ _ HB5.out (fun hHeld2 => ?_)
        clear hK K
        refine wpAnyH_more [12, 13, 14, 16] 4 rfl (by kernel_rfl) (by kernel_rfl) (fun _ _ d _ _ h => by cases d <;> exact h) hHeld2 ?_
        iterate 4
          first
          | refine' Heads.skip rfl (by rfl) ?_
          | (refine' Heads.step rfl (by rfl) ?_ ?_
             rotate_left
             · intro w' hSw
               obtain ⟨z0, z5, z6, z7, z8⟩ := pop_all hSw
               go_simp
               try with_reducible rfl)
          simp only [Act.put, List.setIfInBounds_toArray, List.set_cons_zero, List.set_cons_succ]
        refine Heads.done ?_
        refine wpAnyH_ready (rs := [15]) (by kernel_rfl) (by simp) (AllReadyH.cons rfl (fun K hK => ?_) AllReadyH.nil)
        go_simp
        refine (HA3.out).mono ?_
        rintro r w6 ⟨rfl, P6, hk6⟩
        have HB6 := hide (hk6.out.blk HB5.out rfl)
        have HA4 := hide (P6.out.r (fun G hG => rdsync_calls hG (by omega)))
        rw [hS] at HA4
        dsimp only at HA4
        refine hK.out _ _ HB6.out (fun hHeld3 => ?_)
        clear hK K
        refine wpAnyH_ready (rs := [17]) (by kernel_rfl) (by simp) (AllReadyH.cons rfl (fun K hK => ?_) AllReadyH.nil)
        go_simp
        refine (HA4.out).mono ?_
        rintro r w7 ⟨rfl, P7, hk7⟩
        refine hK.out _ _ (hk7.out.blk HB6.out rfl) (fun hHeld4 => ?_)
        clear hK K
        refine wpAnyH_more [18, 19] 0 rfl (by kernel_rfl) (by kernel_rfl) (fun _ _ d _ _ h => by cases d <;> exact h) hHeld4 ?_
        iterate 2
          first
          | refine' Heads.skip rfl (by rfl) ?_
          | (refine' Heads.step rfl (by rfl) ?_ ?_
             rotate_left
             · intro w' hSw
               obtain ⟨z0, z5, z6, z7, z8⟩ := pop_all hSw
               go_simp
               try with_reducible rfl)
          simp only [Act.put, List.setIfInBounds_toArray, List.set_cons_zero, List.set_cons_succ]
        refine Heads.done ?_
        refine wpAnyH_done (by kernel_rfl) ?_ _
        go_wp2_with fail
        go_meet
        case rel => exact ⟨D2, hw2, hide P7.out.less⟩
      by_cases hk2 : x.kind = 2
      · have q0 : (x.kind == 0) = false := by simp [hk2]
        have q1 : (x.kind == 1) = false := by simp [hk2]
        have q2 : (x.kind == 2) = true := by simp [hk2]
        clear hk0 hk1 hk2
        obtain ⟨V, hV⟩ : ∃ V, D.plan x.i x.mask = V := ⟨_, rfl⟩
        have hw1 : V.1.waits.length ≤ k + 1 := by rw [← hV, plan_waits]; omega
        have HA := hide (hP1.out.drew.d (fun F hF => dplan_calls hF x.i x.mask))
        rw [hV] at HA
        obtain ⟨D1, f1⟩ := V
        dsimp only at HA hw1
        go_wp2_with fail
        refine wp_region_heads [0, 1, 2, 3, 4, 6, 7, 8, 9, 10] 3 (fun w' => Blk w' g8 59 x.cells.toArray) (by kernel_rfl) rfl (by kernel_rfl) (by kernel_rfl) (fun _ _ d _ _ h => by cases d <;> exact h) hHB8.out ?_
        iterate 10
          first
          | refine' Heads.skip rfl (by rfl) ?_
          | (refine' Heads.step rfl (by rfl) ?_ ?_
             rotate_left
             · intro w' hSw
               obtain ⟨z0, z5, z6, z7, z8⟩ := pop_all hSw
               go_simp
               try with_reducible rfl)
          simp only [Act.put, List.setIfInBounds_toArray, List.set_cons_zero, List.set_cons_succ]
        refine Heads.done ?_
        refine wpAnyH_ready (rs := [5]) (by kernel_rfl) (by simp) (AllReadyH.cons rfl (fun K hK => ?_) AllReadyH.nil)
        go_simp
        refine (HA.out).mono ?_
        rintro r w4 ⟨rfl, P4, hk4⟩
        have HB4 := hide (hk4.out.blk hHB8.out rfl)
        have HA2 := hide (P4.out.r (fun G hG => rdplan_calls hG x.i x.mask HX.out.mask))
        rw [hV] at HA2
        dsimp only at HA2
        refine hK.out _ _ HB4.out (fun hHeld1 => ?_)
        clear hK K
        refine wpAnyH_ready (rs := [11]) (by kernel_rfl) (by simp) (AllReadyH.cons rfl (fun K hK => ?_) AllReadyH.nil)
        go_simp
        refine (HA2.out).mono ?_
        rintro r w5 ⟨rfl, P5, hk5⟩
        refine hK.out _ _ (hk5.out.blk HB4.out rfl) (fun hHeld2 => ?_)
        clear hK K
        refine wpAnyH_more [12] 0 rfl (by kernel_rfl) (by kernel_rfl) (fun _ _ d _ _ h => by cases d <;> exact h) hHeld2 ?_
        iterate 1
          first
          | refine' Heads.skip rfl (by rfl) ?_
          | (refine' Heads.step rfl (by rfl) ?_ ?_
             rotate_left
             · intro w' hSw
               obtain ⟨z0, z5, z6, z7, z8⟩ := pop_all hSw
               go_simp
               try with_reducible rfl)
          simp only [Act.put, List.setIfInBounds_toArray, List.set_cons_zero, List.set_cons_succ]
        refine Heads.done ?_
        refine wpAnyH_done (by kernel_rfl) ?_ _
        go_wp2_with fail
        go_meet
        case rel => exact ⟨D1, hw1, hide P5.out.less⟩
      by_cases hk3 : x.kind = 3
      · have q0 : (x.kind == 0) = false := by simp [hk3]
        have q1 : (x.kind == 1) = false := by simp [hk3]
        have q2 : (x.kind == 2) = false := by simp [hk3]
        have q3 : (x.kind == 3) = true := by simp [hk3]
        clear hk0 hk1 hk2 hk3
        have hw1 : (D.fail x.mask).waits.length ≤ k + 1 := by have := fail_waits D x.mask; omega
        have HA := hide (hP1.out.d (fun F hF => dfail_calls hF x.mask (by omega)))
        go_wp2_with fail
        refine HA.out.mono ?_
        rintro r w4 ⟨rfl, P4, hk4⟩
        have HB4 := hide (hk4.out.blk hHB8.out rfl)
        have HA2 := hide (P4.out.r (fun G hG => rdfail_calls hG x.mask HX.out.mask.1 HX.out.mask.2 (by omega)))
        obtain ⟨y0, y5, y6, y7, y8⟩ := pop_all HB4.out
        go_wp2_with fail
        refine HA2.out.mono ?_
        rintro r w5 ⟨rfl, P5, hk5⟩
        go_wp2_with fail
        go_meet
        case rel => exact ⟨_, hw1, hide P5.out.less⟩
      by_cases hk4 : x.kind = 4
      · have q0 : (x.kind == 0) = false := by simp [hk4]
        have q1 : (x.kind == 1) = false := by simp [hk4]
        have q2 : (x.kind == 2) = false := by simp [hk4]
        have q3 : (x.kind == 3) = false := by simp [hk4]
        have q4 : (x.kind == 4) = true := by simp [hk4]
        clear hk0 hk1 hk2 hk3 hk4
        have HA := hide (hP1.out.d (fun F hF => dstart_calls hF))
        go_wp2_with fail
        refine HA.out.mono ?_
        rintro r w4 ⟨rfl, P4, _⟩
        obtain ⟨F, G, hF, hG, hd, lv, wv, hr⟩ := P4.out.dk
        have x2 := hr.hb.cell 2
        have f2 := hr.hb.frozen 2
        simp only [List.getElem?_toArray, List.getElem?_cons_succ, List.getElem?_cons_zero] at x2
        have h2 := hr.put (D' := D.start) (i := 2) (u := .bool false) rfl rfl hr.msk rfl
        have tu : Turned G w4 (w4.setCell ⟨rb, 2, none⟩ (.bool false)) := (Turned.refl G w4).setCell (.inl hr.Fb) _
        have P5 : Hid (PD w (w4.setCell ⟨rb, 2, none⟩ (.bool false)) b rb D.start D.start (fun _ => False)) := by
          refine hide ⟨P4.out.bel.trans (tu.below P4.out.bel.size (fun x hx => (hG x hx).1)), fun _ h => h.elim, F, G, fun x hx => ⟨(hF x hx).1, fun h => h⟩, fun x hx => ⟨(hG x hx).1, fun h => h, (hG x hx).2.2⟩, hd.turned tu (fun x hx hg => (hG x hg).2.2 hx), h2.at_⟩
        clear h2 hr hd hF hG tu P4
        go_wp2_with fail
        go_meet
        case rel => exact ⟨D.start, by show D.waits.length ≤ k + 1; omega, P5⟩
      · have q0 : (x.kind == 0) = false := by simp [hk0]
        have q1 : (x.kind == 1) = false := by simp [hk1]
        have q2 : (x.kind == 2) = false := by simp [hk2]
        have q3 : (x.kind == 3) = false := by simp [hk3]
        have q4 : (x.kind == 4) = false := by simp [hk4]
        clear hk0 hk1 hk2 hk3 hk4
        go_wp2_with fail
        go_meet
        case rel => exact ⟨D, by omega, hide hP1.out.less⟩
    case rest =>
    obtain ⟨D', hDW', HP2⟩ := hcut
    clear hP1 hHB8 z0 z1 z2 z3 z4 z5 z6 z7 z8 h1I h2I
    have HSC := hide (HP2.out.scan (by omega))
    go_wp2_with fail
    refine HSC.out.mono ?_
    rintro r w5 ⟨va, rfl, hb5, hra, _⟩
    have HP5 := hide (HP2.out.below hb5)
    have HRS := hide (HP5.out.rscan (by omega))
    have HRA := hide hra
    clear hb5 hra HSC
    go_wp2_with fail
    refine HRS.out.mono ?_
    rintro r w6 ⟨vb, rfl, hb6, hrb, _⟩
    have HP6 := hide (HP5.out.below hb6)
    have HRA6 := hide (row_of HRA.out (fun g hg => hb6.block g (row_lt HRA.out g hg)))
    have HRB6 := hide hrb
    have HLA := hide (HP6.out.last (by omega))
    clear hb6 hrb HRS HRA HP5
    go_wp2_with fail
    refine HLA.out.mono ?_
    rintro r w7 ⟨rfl, hb7⟩
    obtain ⟨Y, hY⟩ : ∃ Y, lastM D' = Y := ⟨_, rfl⟩
    rw [hY]
    have HP7 := hide (HP6.out.below hb7)
    have HRA7 := hide (row_of HRA6.out (fun g hg => hb7.block g (row_lt HRA6.out g hg)))
    have HRB7 := hide (row_of HRB6.out (fun g hg => hb7.block g (row_lt HRB6.out g hg)))
    have HZ := hide (varW_new w7)
    have HY8 := hide (varW_blk w7 Y)
    have hb8 := varW_below w7 Y
    have HP8 := hide (HP7.out.below hb8)
    have HRA8 := hide (row_of HRA7.out (fun g hg => hb8.block g (row_lt HRA7.out g hg)))
    have HRB8 := hide (row_of HRB7.out (fun g hg => hb8.block g (row_lt HRB7.out g hg)))
    have HRL := hide (HP8.out.rlast (by omega))
    have HYE := hide hY
    clear hb7 hb8 hY HLA HP6 HP7 HRA6 HRA7 HRB6 HRB7
    go_wp2_with (((with_reducible show wpList _ _ _ (⟨none, _, _, _, _, _⟩ :: _) _ _); refine wpList_store_row rfl _ _ _ rfl w7.heap.size Y.cells.toArray rfl rfl 28 _ HZ.out (by kernel_rfl) rfl (by kernel_rfl) ?_; change wpList _ _ _ _ _ (varW w7 Y); generalize varW w7 Y = w8 at *))
    refine HRL.out.mono ?_
    rintro r w9 ⟨rfl, hb9⟩
    rw [HYE.out]
    have HP9 := hide (HP8.out.below hb9)
    have HRA9 := hide (row_of HRA8.out (fun g hg => hb9.block g (row_lt HRA8.out g hg)))
    have HRB9 := hide (row_of HRB8.out (fun g hg => hb9.block g (row_lt HRB8.out g hg)))
    have HY9 := hide (HY8.out.below hb9 HY8.out.lt)
    have HZ := hide (rvarW_new w9)
    have HV10 := hide (rvarW_blk w9 Y)
    have hb10 := rvarW_below w9 Y
    have HP10 := hide (HP9.out.below hb10)
    have HY10 := hide (HY9.out.below hb10 HY9.out.lt)
    have HRA10 := hide (row_of HRA9.out (fun g hg => hb10.block g (row_lt HRA9.out g hg)))
    have HRB10 := hide (row_of HRB9.out (fun g hg => hb10.block g (row_lt HRB9.out g hg)))
    have HL8 : Hid ((scanL D').length ≤ 1000) := hide (by
      unfold scanL
      split
      · exact Nat.le_trans (scanTo_len D' 8) (by decide)
      · exact Nat.zero_le _)
    clear hb9 hb10 HP8 HP9 HRA8 HRA9 HRB8 HRB9 HY8 HY9 HRL
    go_wp2_with (((with_reducible show wpList _ _ _ (⟨none, _, _, _, _, _⟩ :: _) _ _); refine wpList_store_row rfl _ _ _ rfl w9.heap.size Y.cells.toArray rfl rfl 23 _ HZ.out (by kernel_rfl) rfl (by kernel_rfl) ?_; change wpList _ _ _ _ _ (rvarW w9 Y); generalize rvarW w9 Y = w10 at *))
    refine wp_region_heads [0, 1] 23 (fun w' => Blk w' w7.heap.size 28 Y.cells.toArray ∧ Blk w' w9.heap.size 23 Y.cells.toArray) (by kernel_rfl) rfl (by kernel_rfl) (by kernel_rfl) (fun _ _ d _ _ h => by cases d <;> exact h) ⟨HY10.out, HV10.out⟩ ?_
    iterate 2
      first
      | refine' Heads.skip rfl (by rfl) ?_
      | (refine' Heads.step rfl (by rfl) ?_ ?_
         rotate_left
         · intro w' hSw
           go_simp
           try with_reducible rfl)
      simp only [Act.put, List.setIfInBounds_toArray, List.set_cons_zero, List.set_cons_succ]
    refine Heads.done ?_
    refine wpAnyH_ready (rs := [2]) (by kernel_rfl) (by simp) (AllReadyH.cons rfl (fun K hK => ?_) AllReadyH.nil)
    go_simp
    refine (lsame5_calls (w := w10.drew) (row_of HRA10.out fun _ _ => rfl) (row_of HRB10.out fun _ _ => rfl) HL8.out).mono ?_
    rintro r w11 ⟨rfl, hb11⟩
    have HP11 := hide (HP10.out.drew.below hb11)
    have HY11 := hide (HY10.out.below (w := w10.drew) hb11 HY10.out.lt)
    have HV11 := hide (HV10.out.below (w := w10.drew) hb11 HV10.out.lt)
    refine hK.out _ _ ⟨HY11.out, HV11.out⟩ (fun hHeld1 => ?_)
    clear hK K
    refine wpAnyH_more [3, 4, 5, 6, 7, 8, 9, 10, 12] 13 rfl (by kernel_rfl) (by kernel_rfl) (fun _ _ d _ _ h => by cases d <;> exact h) hHeld1 ?_
    first
    | (refine' Heads.skip rfl (by rfl) ?_
       simp only [Act.put, List.setIfInBounds_toArray, List.set_cons_zero, List.set_cons_succ])
    | (refine' Heads.step rfl (by rfl) ?_ ?_
       rotate_left
       · intro w' hSw
         go_simp
         try with_reducible rfl
       simp only [Act.put, List.setIfInBounds_toArray, List.set_cons_zero, List.set_cons_succ])
    first
    | (refine' Heads.skip rfl (by rfl) ?_
       simp only [Act.put, List.setIfInBounds_toArray, List.set_cons_zero, List.set_cons_succ])
    | (refine' Heads.step rfl (by rfl) ?_ ?_
       rotate_left
       · intro w' hSw
         go_simp
         try with_reducible rfl
       simp only [Act.put, List.setIfInBounds_toArray, List.set_cons_zero, List.set_cons_succ])
    first
    | (refine' Heads.skip rfl (by rfl) ?_
       simp only [Act.put, List.setIfInBounds_toArray, List.set_cons_zero, List.set_cons_succ])
    | (refine' Heads.step rfl (by rfl) ?_ ?_
       rotate_left
       · intro w' hSw
         go_simp
         try with_reducible rfl
       simp only [Act.put, List.setIfInBounds_toArray, List.set_cons_zero, List.set_cons_succ])
    first
    | (refine' Heads.skip rfl (by rfl) ?_
       simp only [Act.put, List.setIfInBounds_toArray, List.set_cons_zero, List.set_cons_succ])
    | (refine' Heads.step rfl (by rfl) ?_ ?_
       rotate_left
       · intro w' hSw
         go_simp
         try with_reducible rfl
       simp only [Act.put, List.setIfInBounds_toArray, List.set_cons_zero, List.set_cons_succ])
    first
    | (refine' Heads.skip rfl (by rfl) ?_
       simp only [Act.put, List.setIfInBounds_toArray, List.set_cons_zero, List.set_cons_succ])
    | (refine' Heads.step rfl (by rfl) ?_ ?_
       rotate_left
       · intro w' hSw
         go_simp
         try with_reducible rfl
       simp only [Act.put, List.setIfInBounds_toArray, List.set_cons_zero, List.set_cons_succ])
    first
    | (refine' Heads.skip rfl (by rfl) ?_
       simp only [Act.put, List.setIfInBounds_toArray, List.set_cons_zero, List.set_cons_succ])
    | (refine' Heads.step rfl (by rfl) ?_ ?_
       rotate_left
       · intro w' hSw
         go_simp
         try with_reducible rfl
       simp only [Act.put, List.setIfInBounds_toArray, List.set_cons_zero, List.set_cons_succ])
    first
    | (refine' Heads.skip rfl (by rfl) ?_
       simp only [Act.put, List.setIfInBounds_toArray, List.set_cons_zero, List.set_cons_succ])
    | (refine' Heads.step rfl (by rfl) ?_ ?_
       rotate_left
       · intro w' hSw
         go_simp
         try with_reducible rfl
       simp only [Act.put, List.setIfInBounds_toArray, List.set_cons_zero, List.set_cons_succ])
    refine' Heads.step rfl (by rfl) ?_ ?_
    rotate_left
    · intro w' hSw
      exact exec_load_row _ _ rfl w7.heap.size rfl 28 _ (0, 0) _ hSw.1 Try.underlying28 rfl (by kernel_rfl)
    simp only [Act.put, List.setIfInBounds_toArray, List.set_cons_zero, List.set_cons_succ]
    refine' Heads.step rfl (by rfl) ?_ ?_
    rotate_left
    · intro w' hSw
      exact exec_load_row _ _ rfl w9.heap.size rfl 23 _ (0, 0) _ hSw.2 Try.underlying23 rfl (by kernel_rfl)
    simp only [Act.put, List.setIfInBounds_toArray, List.set_cons_zero, List.set_cons_succ]
    refine Heads.done ?_
    refine wpAnyH_ready (rs := [11]) (by kernel_rfl) (by simp) (AllReadyH.cons rfl (fun K hK => ?_) AllReadyH.nil)
    go_simp
    refine (ltaken5_calls Y _).mono ?_
    rintro r w12 ⟨rfl, hb12⟩
    have HP12 := hide (HP11.out.below hb12)
    have HY12 := hide (HY11.out.below hb12 HY11.out.lt)
    have HV12 := hide (HV11.out.below hb12 HV11.out.lt)
    refine hK.out _ _ ⟨HY12.out, HV12.out⟩ (fun hHeld2 => ?_)
    clear hK K
    refine wpAnyH_more [13, 14, 15, 16, 17, 18, 19, 20, 21, 22, 23, 24] 0 rfl (by kernel_rfl) (by kernel_rfl) (fun _ _ d _ _ h => by cases d <;> exact h) hHeld2 ?_
    refine' Heads.step rfl (by rfl) ?_ ?_
    rotate_left
    · intro w' hSw
      exact exec_rent_ne (p := Y) (q := Y) rfl rfl rfl
    simp only [Act.put, List.setIfInBounds_toArray, List.set_cons_zero, List.set_cons_succ]
    first
    | (refine' Heads.skip rfl (by rfl) ?_
       simp only [Act.put, List.setIfInBounds_toArray, List.set_cons_zero, List.set_cons_succ])
    | (refine' Heads.step rfl (by rfl) ?_ ?_
       rotate_left
       · intro w' hSw
         go_simp
         try with_reducible rfl
       simp only [Act.put, List.setIfInBounds_toArray, List.set_cons_zero, List.set_cons_succ])
    first
    | (refine' Heads.skip rfl (by rfl) ?_
       simp only [Act.put, List.setIfInBounds_toArray, List.set_cons_zero, List.set_cons_succ])
    | (refine' Heads.step rfl (by rfl) ?_ ?_
       rotate_left
       · intro w' hSw
         go_simp
         try with_reducible rfl
       simp only [Act.put, List.setIfInBounds_toArray, List.set_cons_zero, List.set_cons_succ])
    first
    | (refine' Heads.skip rfl (by rfl) ?_
       simp only [Act.put, List.setIfInBounds_toArray, List.set_cons_zero, List.set_cons_succ])
    | (refine' Heads.step rfl (by rfl) ?_ ?_
       rotate_left
       · intro w' hSw
         go_simp
         try with_reducible rfl
       simp only [Act.put, List.setIfInBounds_toArray, List.set_cons_zero, List.set_cons_succ])
    first
    | (refine' Heads.skip rfl (by rfl) ?_
       simp only [Act.put, List.setIfInBounds_toArray, List.set_cons_zero, List.set_cons_succ])
    | (refine' Heads.step rfl (by rfl) ?_ ?_
       rotate_left
       · intro w' hSw
         go_simp
         try with_reducible rfl
       simp only [Act.put, List.setIfInBounds_toArray, List.set_cons_zero, List.set_cons_succ])
    first
    | (refine' Heads.skip rfl (by rfl) ?_
       simp only [Act.put, List.setIfInBounds_toArray, List.set_cons_zero, List.set_cons_succ])
    | (refine' Heads.step rfl (by rfl) ?_ ?_
       rotate_left
       · intro w' hSw
         go_simp
         try with_reducible rfl
       simp only [Act.put, List.setIfInBounds_toArray, List.set_cons_zero, List.set_cons_succ])
    first
    | (refine' Heads.skip rfl (by rfl) ?_
       simp only [Act.put, List.setIfInBounds_toArray, List.set_cons_zero, List.set_cons_succ])
    | (refine' Heads.step rfl (by rfl) ?_ ?_
       rotate_left
       · intro w' hSw
         go_simp
         try with_reducible rfl
       simp only [Act.put, List.setIfInBounds_toArray, List.set_cons_zero, List.set_cons_succ])
    first
    | (refine' Heads.skip rfl (by rfl) ?_
       simp only [Act.put, List.setIfInBounds_toArray, List.set_cons_zero, List.set_cons_succ])
    | (refine' Heads.step rfl (by rfl) ?_ ?_
       rotate_left
       · intro w' hSw
         go_simp
         try with_reducible rfl
       simp only [Act.put, List.setIfInBounds_toArray, List.set_cons_zero, List.set_cons_succ])
    first
    | (refine' Heads.skip rfl (by rfl) ?_
       simp only [Act.put, List.setIfInBounds_toArray, List.set_cons_zero, List.set_cons_succ])
    | (refine' Heads.step rfl (by rfl) ?_ ?_
       rotate_left
       · intro w' hSw
         go_simp
         try with_reducible rfl
       simp only [Act.put, List.setIfInBounds_toArray, List.set_cons_zero, List.set_cons_succ])
    first
    | (refine' Heads.skip rfl (by rfl) ?_
       simp only [Act.put, List.setIfInBounds_toArray, List.set_cons_zero, List.set_cons_succ])
    | (refine' Heads.step rfl (by rfl) ?_ ?_
       rotate_left
       · intro w' hSw
         go_simp
         try with_reducible rfl
       simp only [Act.put, List.setIfInBounds_toArray, List.set_cons_zero, List.set_cons_succ])
    first
    | (refine' Heads.skip rfl (by rfl) ?_
       simp only [Act.put, List.setIfInBounds_toArray, List.set_cons_zero, List.set_cons_succ])
    | (refine' Heads.step rfl (by rfl) ?_ ?_
       rotate_left
       · intro w' hSw
         go_simp
         try with_reducible rfl
       simp only [Act.put, List.setIfInBounds_toArray, List.set_cons_zero, List.set_cons_succ])
    first
    | (refine' Heads.skip rfl (by rfl) ?_
       simp only [Act.put, List.setIfInBounds_toArray, List.set_cons_zero, List.set_cons_succ])
    | (refine' Heads.step rfl (by rfl) ?_ ?_
       rotate_left
       · intro w' hSw
         go_simp
         try with_reducible rfl
       simp only [Act.put, List.setIfInBounds_toArray, List.set_cons_zero, List.set_cons_succ])
    refine Heads.done ?_
    refine wpAnyH_done (by kernel_rfl) ?_ _
    go_wp2_with fail
    refine ⟨⟨k + 1, D', by omega, by omega, by go_num, hDW', HP12⟩, ?_⟩
    simp [intOf]
    omega
  · by_cases hl1 : k < l.length
    · have hkI1 : (k : Int) < (l.length : Int) := by omega
      have hkI2 : ¬ ((k : Int) < 40) := by omega
      clear hlt hk hk40 hl1
      go_wp2_with fail
      refine (lknown5_calls _).mono ?_
      rintro r wk ⟨rfl, hbk⟩
      go_wp2_with fail
      go_ret
      exact ⟨rfl, HP.out.bel.trans (hbk.mono HP.out.bel.size)⟩
    · have hkI1 : ¬ ((k : Int) < (l.length : Int)) := by omega
      clear hlt hk hk40 hl1
      go_wp2_with fail
      refine (lknown5_calls _).mono ?_
      rintro r wk ⟨rfl, hbk⟩
      go_wp2_with fail
      go_ret
      exact ⟨rfl, HP.out.bel.trans (hbk.mono HP.out.bel.size)⟩
end Go.Proofs.Ytmbkncckcpgdgaa
