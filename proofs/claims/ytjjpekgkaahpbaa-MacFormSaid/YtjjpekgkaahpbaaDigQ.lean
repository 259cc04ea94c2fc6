/- Chapter 2: the document's words of a block, walked. -/
import Derived.Test.YtjjpekgkaahpbaaDigO
namespace Go.Proofs.Ytjjpekgkaahpbaa
open Go.RowKit Zb

theorem rr7 (x : Int) (w : World) : Calls Try.prog 37 #[.int .u32 x, .int .i64 7] w fun e w' => e = .returned (.int .u32 (rotW x 7)) ∧ w = w' := rrotr_calls x 7 (by omega) (by omega) w
theorem rr18 (x : Int) (w : World) : Calls Try.prog 37 #[.int .u32 x, .int .i64 18] w fun e w' => e = .returned (.int .u32 (rotW x 18)) ∧ w = w' := rrotr_calls x 18 (by omega) (by omega) w
theorem rr17 (x : Int) (w : World) : Calls Try.prog 37 #[.int .u32 x, .int .i64 17] w fun e w' => e = .returned (.int .u32 (rotW x 17)) ∧ w = w' := rrotr_calls x 17 (by omega) (by omega) w
theorem rr19 (x : Int) (w : World) : Calls Try.prog 37 #[.int .u32 x, .int .i64 19] w fun e w' => e = .returned (.int .u32 (rotW x 19)) ∧ w = w' := rrotr_calls x 19 (by omega) (by omega) w

/-- a byte of a slice that is read -/
theorem BytesAt.at {w : World} {g off c n : Nat} {l : List UInt8} (h : BytesAt w (.slice (some ⟨g, off, none⟩) n c) l) (j : Nat) (hj : j < l.length) : w.cell? ⟨g, off + j, none⟩ = some (.int .u8 (byteI l j)) := by
  rcases h with ⟨hv, _⟩ | ⟨g', off', cap, cs, hv, h1, h2, h3, h4, h5⟩
  · simp at hv
  · obtain ⟨⟨rfl, rfl⟩, _⟩ : (g = g' ∧ off = off') ∧ _ := by simpa using hv
    rw [h3.cell, h5 j hj, bytesVals_get l j hj]
    unfold byteI
    rw [List.getD, List.getElem?_eq_getElem hj]
    rfl
structure Cells4 (l : List UInt8) (k q0 q1 q2 q3 : Nat) (b0 b1 b2 b3 : Int) : Prop where
  hl : l.length = 64
  hk : k < 16
  e0 : 4 * k = q0
  e1 : 4 * k + 1 = q1
  e2 : 4 * k + 2 = q2
  e3 : 4 * k + 3 = q3
  h0 : byteI l (4 * k) = b0
  h1 : byteI l (4 * k + 1) = b1
  h2 : byteI l (4 * k + 2) = b2
  h3 : byteI l (4 * k + 3) = b3
theorem cells4 {w : World} {g off c : Nat} {l : List UInt8} {k q0 q1 q2 q3 : Nat} {b0 b1 b2 b3 : Int} (h : BytesAt w (.slice (some ⟨g, off, none⟩) 64 c) l) (C : Hid (Cells4 l k q0 q1 q2 q3 b0 b1 b2 b3)) :
    w.cell? ⟨g, off + q0, none⟩ = some (.int .u8 b0) ∧ w.cell? ⟨g, off + q1, none⟩ = some (.int .u8 b1) ∧ w.cell? ⟨g, off + q2, none⟩ = some (.int .u8 b2) ∧ w.cell? ⟨g, off + q3, none⟩ = some (.int .u8 b3) := by
  obtain ⟨hl, hk, rfl, rfl, rfl, rfl, rfl, rfl, rfl, rfl⟩ := C.out
  exact ⟨h.at _ (by omega), h.at _ (by omega), h.at _ (by omega), h.at _ (by omega)⟩
theorem byteI_lt (l : List UInt8) (j : Nat) : 0 ≤ byteI l j ∧ byteI l j < 256 := by
  unfold byteI
  have := (l.getD j 0).toNat_lt
  omega
def WdR (w wr : World) (v : Value) (u : Value) (l : List UInt8) (k : Nat) : Prop := WBuf w wr v (wordsW l k) ∧ BytesAt wr u l
theorem word_of4 {l : List UInt8} {k q0 q1 q2 q3 : Nat} {b0 b1 b2 b3 : Int} (C : Hid (Cells4 l k q0 q1 q2 q3 b0 b1 b2 b3)) :
    wordW l k = orW (orW (orW (b0 * 16777216 % 4294967296) (b1 * 65536 % 4294967296)) (b2 * 256 % 4294967296)) b3 := by
  obtain ⟨hl, hk, rfl, rfl, rfl, rfl, rfl, rfl, rfl, rfl⟩ := C.out
  rfl

set_option maxRecDepth 100000 in
set_option maxHeartbeats 8000000 in
theorem rgwords_calls {w : World} {u : Value} {l : List UInt8} (h : BytesAt w u l) (hl : l.length = 64) : Calls Try.prog 32 #[u] w fun e w' => ∃ v, e = .returned v ∧ WBuf w w' v (wordsW l 64) := by
  obtain ⟨A, c, rfl, hc, hA⟩ := h.at_form
  obtain ⟨g, off, rfl⟩ : ∃ g off, A = some ⟨g, off, none⟩ := by
    rcases h with ⟨hv, rfl⟩ | ⟨g, off, cap, cs, hv, _⟩
    · simp at hl
    · exact ⟨g, off, by simpa using (by simpa using hv : A = some ⟨g, off, none⟩ ∧ c = cap).1⟩
  rw [hl] at h ⊢
  have HLL := hide hl
  have HI0 : Hid (WdR w w (.slice none 0 0) (.slice (some ⟨g, off, none⟩) 64 c) l 0) := hide ⟨WBuf.nil (Below.refl _ _), h⟩
  clear hl h hc hA
  go_enter Try.func32, Try.ntmps32
  go_wp2_with fail
  go_loopw [3, 4] (fun v i wr => ∃ k : Nat, k ≤ 16 ∧ i = .int .i64 k ∧ Hid (WdR w wr v (.slice (some ⟨g, off, none⟩) 64 c) l k)) (fun _ i _ => 16 - (intOf i).toNat)
  case atStart => exact ⟨0, Nat.zero_le _, rfl, HI0⟩
  case round =>
  clear HI0
  obtain ⟨k, hk, rfl, hinv⟩ := hrel
  by_cases hlo : k < 16
  · obtain ⟨q0, hq0⟩ : ∃ q, 4 * k = q := ⟨_, rfl⟩
    obtain ⟨q1, hq1⟩ : ∃ q, 4 * k + 1 = q := ⟨_, rfl⟩
    obtain ⟨q2, hq2⟩ : ∃ q, 4 * k + 2 = q := ⟨_, rfl⟩
    obtain ⟨q3, hq3⟩ : ∃ q, 4 * k + 3 = q := ⟨_, rfl⟩
    obtain ⟨b0, hb0⟩ : ∃ b, byteI l (4 * k) = b := ⟨_, rfl⟩
    obtain ⟨b1, hb1⟩ : ∃ b, byteI l (4 * k + 1) = b := ⟨_, rfl⟩
    obtain ⟨b2, hb2⟩ : ∃ b, byteI l (4 * k + 2) = b := ⟨_, rfl⟩
    obtain ⟨b3, hb3⟩ : ∃ b, byteI l (4 * k + 3) = b := ⟨_, rfl⟩
    have HC4 : Hid (Cells4 l k q0 q1 q2 q3 b0 b1 b2 b3) := hide ⟨HLL.out, hlo, hq0, hq1, hq2, hq3, hb0, hb1, hb2, hb3⟩
    have d0 := byteI_lt l (4 * k)
    have d1 := byteI_lt l (4 * k + 1)
    have d2 := byteI_lt l (4 * k + 2)
    have d3 := byteI_lt l (4 * k + 3)
    rw [hb0] at d0
    rw [hb1] at d1
    rw [hb2] at d2
    rw [hb3] at d3
    have t0 : IntKind.u32.wrap b0 = b0 := by show b0 % 4294967296 = _; omega
    have t1 : IntKind.u32.wrap b1 = b1 := by show b1 % 4294967296 = _; omega
    have t2 : IntKind.u32.wrap b2 = b2 := by show b2 % 4294967296 = _; omega
    have t3 : IntKind.u32.wrap b3 = b3 := by show b3 % 4294967296 = _; omega
    have s0 : IntKind.i64.wrap (4 * (k : Int)) = (q0 : Int) := by rw [IntWalk.i64_in _ (by omega)]; omega
    have s1 : IntKind.i64.wrap ((q0 : Int) + 1) = (q1 : Int) := by rw [IntWalk.i64_in _ (by omega)]; omega
    have s2 : IntKind.i64.wrap ((q0 : Int) + 2) = (q2 : Int) := by rw [IntWalk.i64_in _ (by omega)]; omega
    have s3 : IntKind.i64.wrap ((q0 : Int) + 3) = (q3 : Int) := by rw [IntWalk.i64_in _ (by omega)]; omega
    have i0 : q0 < 64 := by omega
    have i1 : q1 < 64 := by omega
    have i2 : q2 < 64 := by omega
    have i3 : q3 < 64 := by omega
    have j0 : (q0 : Int) < 64 := by omega
    have j1 : (q1 : Int) < 64 := by omega
    have j2 : (q2 : Int) < 64 := by omega
    have j3 : (q3 : Int) < 64 := by omega
    have hkI : (k : Int) < 16 := by omega
    have HBA := hide hinv.out.2
    have HWL := hide (wordsW_length l k)
    clear hq0 hq1 hq2 hq3 hb0 hb1 hb2 hb3 d0 d1 d2 d3
    go_wp2_with fail
    refine wp_region_heads [0, 1, 2, 3, 4, 5, 6, 7, 8, 9, 10, 11, 12, 13, 14, 15, 16, 17, 18, 19, 20, 21, 22, 23, 24, 25, 26, 27, 28, 29, 30, 31, 32, 33] 3 (fun w' => BytesAt w' (.slice (some ⟨g, off, none⟩) 64 c) l) (by kernel_rfl) rfl (by kernel_rfl) (by kernel_rfl) (fun _ _ d _ _ h => by cases d <;> exact h) (HBA.out.of_block fun _ _ => rfl) ?_
    iterate 34
      refine' Heads.step rfl (by rfl) ?_ ?_
      rotate_left
      · intro w' hSw
        obtain ⟨z0, z1, z2, z3⟩ := cells4 hSw HC4
        go_simp
        try with_reducible rfl
      simp only [Act.put, List.setIfInBounds_toArray, List.set_cons_zero, List.set_cons_succ]
    refine Heads.done ?_
    refine wpAnyH_ready (rs := [34]) (by kernel_rfl) (by simp) (AllReadyH.cons rfl (fun K hK => ?_) AllReadyH.nil)
    go_simp
    refine hK.out _ _ ((HBA.out.of_block fun _ _ => rfl : BytesAt wr.drew _ l).below ((Below.refl _ _).alloc (Nat.le_refl _) _)) (fun hHeld1 => ?_)
    clear hK K
    refine wpAnyH_ready (rs := [35]) (by kernel_rfl) (by simp) (AllReadyH.cons rfl (fun K hK => ?_) AllReadyH.nil)
    rw [if_pos (by rfl)]
    refine wbuf_app_op (.tmp 14) (.tmp 48) rfl (hide hinv.out.1.drew) _ rfl rfl (by rw [HWL.out]; omega) ?_
    intro v' w' hb' hg'
    refine hK.out _ _ ((HBA.out.of_block fun _ _ => rfl : BytesAt wr.drew _ l).beside hinv.out.1.drew hg'.out) (fun hHeld2 => ?_)
    clear hK K
    refine wpAnyH_ready (rs := [36]) (by kernel_rfl) (by simp) (AllReadyH.cons rfl (fun K hK => ?_) AllReadyH.nil)
    go_simp
    refine hK.out _ _ hHeld2 (fun hHeld3 => ?_)
    clear hK K
    refine wpAnyH_done (by kernel_rfl) ?_ _
    have HN : Hid (WdR w w' v' (.slice (some ⟨g, off, none⟩) 64 c) l (k + 1)) := hide ⟨by rw [wordsW_lo _ _ hlo, word_of4 HC4]; exact hb'.out, hHeld3⟩
    clear hHeld1 hHeld2 hHeld3 hb' hg' s0 s1 s2 s3 t0 t1 t2 t3 i0 i1 i2 i3 j0 j1 j2 j3
    go_wp2_with fail
    go_roundw
    case rel => exact ⟨k + 1, by omega, by go_num, HN⟩
    case measure => simp [intOf]; omega
  · rw [show ((k : Nat) : Int) = 16 by omega]
    obtain rfl : k = 16 := by omega
    go_wp2_with fail
    clear hk hlo
    go_loopw [3, 5] (fun v i wr => ∃ k : Nat, 16 ≤ k ∧ k ≤ 64 ∧ i = .int .i64 k ∧ Hid (WdR w wr v (.slice (some ⟨g, off, none⟩) 64 c) l k)) (fun _ i _ => 64 - (intOf i).toNat)
    case atStart => exact ⟨16, Nat.le_refl _, by omega, rfl, hinv⟩
    case round =>
    clear hinv
    obtain ⟨k, hk16, hk, rfl, hinv⟩ := hrel
    by_cases hlt : k < 64
    · have hl := wordsW_length l k
      obtain ⟨gw, cw, rfl, hgw, hcw⟩ := hinv.out.1.form (by omega)
      obtain ⟨p15, hp15⟩ : ∃ p, p + 15 = k := ⟨k - 15, by omega⟩
      obtain ⟨p2, hp2⟩ : ∃ p, p + 2 = k := ⟨k - 2, by omega⟩
      obtain ⟨p16, hp16⟩ : ∃ p, p + 16 = k := ⟨k - 16, by omega⟩
      obtain ⟨p7, hp7⟩ : ∃ p, p + 7 = k := ⟨k - 7, by omega⟩
      have y15 := hcw p15 (by omega)
      have y2 := hcw p2 (by omega)
      have y16 := hcw p16 (by omega)
      have y7 := hcw p7 (by omega)
      have hw := wordsW_hi l k (by omega)
      unfold nextW at hw
      rw [hl, show k - 15 = p15 by omega, show k - 2 = p2 by omega, show k - 16 = p16 by omega, show k - 7 = p7 by omega] at hw
      rw [hl] at hinv ⊢
      have i15 : p15 < k := by omega
      have i2 : p2 < k := by omega
      have i16 : p16 < k := by omega
      have i7 : p7 < k := by omega
      have j15 : (p15 : Int) < k := by omega
      have j2 : (p2 : Int) < k := by omega
      have j16 : (p16 : Int) < k := by omega
      have j7 : (p7 : Int) < k := by omega
      have s15 : (k : Int) - 15 = (p15 : Int) := by omega
      have s2 : (k : Int) - 2 = (p2 : Int) := by omega
      have s16 : IntKind.i64.wrap ((k : Int) - 16) = (p16 : Int) := by rw [IntWalk.i64_in _ (by omega)]; omega
      have s7 : IntKind.i64.wrap ((k : Int) - 7) = (p7 : Int) := by rw [IntWalk.i64_in _ (by omega)]; omega
      generalize at0 (wordsW l k) p15 = x15 at *
      generalize at0 (wordsW l k) p2 = x2 at *
      generalize at0 (wordsW l k) p16 = x16 at *
      generalize at0 (wordsW l k) p7 = x7 at *
      have HW := hide hw
      have HL := hide hl
      have HCW := hide hcw
      clear hw hl hp15 hp2 hp16 hp7 hcw
      go_wp2_with fail
      refine (rr7 x15 _).mono ?_
      rintro e w' ⟨rfl, rfl⟩
      go_wp2_with fail
      refine (rr18 x15 _).mono ?_
      rintro e w' ⟨rfl, rfl⟩
      go_wp2_with fail
      refine (rr17 x2 _).mono ?_
      rintro e w' ⟨rfl, rfl⟩
      go_wp2_with fail
      refine (rr19 x2 _).mono ?_
      rintro e w' ⟨rfl, rfl⟩
      go_wp2_with fail
      rw [s0_of, s1_of]
      clear s15 s2
      have HBA := hide hinv.out.2
      have hHeld0 : BytesAt wr.drew (.slice (some ⟨g, off, none⟩) 64 c) l := HBA.out.of_block fun _ _ => rfl
      refine wp_region_heads [0, 1, 2, 3, 4, 6, 8, 9, 10, 11, 14] 8 (fun w' => BytesAt w' (.slice (some ⟨g, off, none⟩) 64 c) l) (by kernel_rfl) rfl (by kernel_rfl) (by kernel_rfl) (fun _ _ d _ _ h => by cases d <;> exact h) (HBA.out.of_block fun _ _ => rfl) ?_
      iterate 11
        refine' Heads.step rfl (by rfl) ?_ ?_
        rotate_left
        · intro w' hSw
          go_simp
          try with_reducible rfl
        simp only [Act.put, List.setIfInBounds_toArray, List.set_cons_zero, List.set_cons_succ]
      refine Heads.done ?_
      refine wpAnyH_ready (rs := [5, 12]) (by kernel_rfl) (by simp) (AllReadyH.cons rfl (fun K hK => ?_) (AllReadyH.cons rfl (fun K hK => ?_) AllReadyH.nil))
      · go_simp
        refine hK.out _ _ hHeld0 (fun hq1 => ?_)
        clear hK K
        refine wpAnyH_more [7] 6 rfl (by kernel_rfl) (by kernel_rfl) (fun _ _ d _ _ h => by cases d <;> exact h) hq1 ?_
        iterate 1
          refine' Heads.step rfl (by rfl) ?_ ?_
          rotate_left
          · intro w' hSw
            go_simp
            try with_reducible rfl
          simp only [Act.put, List.setIfInBounds_toArray, List.set_cons_zero, List.set_cons_succ]
        refine Heads.done ?_
        refine wpAnyH_ready (rs := [12]) (by kernel_rfl) (by simp) (AllReadyH.cons rfl (fun K hK => ?_) AllReadyH.nil)
        go_simp
        refine hK.out _ _ hq1 (fun hHeld1 => ?_)
        clear hK K
        refine wpAnyH_more [13, 15] 3 rfl (by kernel_rfl) (by kernel_rfl) (fun _ _ d _ _ h => by cases d <;> exact h) hHeld1 ?_
        iterate 2
          refine' Heads.step rfl (by rfl) ?_ ?_
          rotate_left
          · intro w' hSw
            go_simp
            try with_reducible rfl
          simp only [Act.put, List.setIfInBounds_toArray, List.set_cons_zero, List.set_cons_succ]
        refine Heads.done ?_
        refine wpAnyH_ready (rs := [16]) (by kernel_rfl) (by simp) (AllReadyH.cons rfl (fun K hK => ?_) AllReadyH.nil)
        go_simp
        refine hK.out _ _ (BytesAt.below (w := wr.drew) hq1 ((Below.refl _ _).alloc (Nat.le_refl _) _)) (fun hHeld2 => ?_)
        clear hK K
        refine wpAnyH_ready (rs := [17]) (by kernel_rfl) (by simp) (AllReadyH.cons rfl (fun K hK => ?_) AllReadyH.nil)
        rw [if_pos (by rfl)]
        refine wbuf_app_op (.tmp 80) (.tmp 96) rfl (hide hinv.out.1.drew) _ rfl rfl (by rw [HL.out]; omega) ?_
        intro v' w' hb' hg'
        refine hK.out _ _ (BytesAt.beside (w := wr.drew) hq1 hinv.out.1.drew hg'.out) (fun hHeld3 => ?_)
        clear hK K
        refine wpAnyH_ready (rs := [18]) (by kernel_rfl) (by simp) (AllReadyH.cons rfl (fun K hK => ?_) AllReadyH.nil)
        go_simp
        refine hK.out _ _ hHeld3 (fun hHeld4 => ?_)
        clear hK K
        refine wpAnyH_done (by kernel_rfl) ?_ _
        have HN : Hid (WdR w w' v' (.slice (some ⟨g, off, none⟩) 64 c) l (k + 1)) := hide ⟨by rw [HW.out]; exact hb'.out, hHeld4⟩
        clear hq1 hb' hg' s16 s7 HCW
        go_wp2_with fail
        go_roundw
        case rel => exact ⟨k + 1, by omega, by omega, by go_num, HN⟩
        case measure => simp [intOf]; omega
      · go_simp
        refine hK.out _ _ hHeld0 (fun hq1 => ?_)
        clear hK K
        refine wpAnyH_ready (rs := [5]) (by kernel_rfl) (by simp) (AllReadyH.cons rfl (fun K hK => ?_) AllReadyH.nil)
        go_simp
        refine hK.out _ _ hq1 (fun hHeld1 => ?_)
        clear hK K
        refine wpAnyH_more [7, 13, 15] 3 rfl (by kernel_rfl) (by kernel_rfl) (fun _ _ d _ _ h => by cases d <;> exact h) hHeld1 ?_
        iterate 3
          refine' Heads.step rfl (by rfl) ?_ ?_
          rotate_left
          · intro w' hSw
            go_simp
            try with_reducible rfl
          simp only [Act.put, List.setIfInBounds_toArray, List.set_cons_zero, List.set_cons_succ]
        refine Heads.done ?_
        refine wpAnyH_ready (rs := [16]) (by kernel_rfl) (by simp) (AllReadyH.cons rfl (fun K hK => ?_) AllReadyH.nil)
        go_simp
        refine hK.out _ _ (BytesAt.below (w := wr.drew) hq1 ((Below.refl _ _).alloc (Nat.le_refl _) _)) (fun hHeld2 => ?_)
        clear hK K
        refine wpAnyH_ready (rs := [17]) (by kernel_rfl) (by simp) (AllReadyH.cons rfl (fun K hK => ?_) AllReadyH.nil)
        rw [if_pos (by rfl)]
        refine wbuf_app_op (.tmp 80) (.tmp 96) rfl (hide hinv.out.1.drew) _ rfl rfl (by rw [HL.out]; omega) ?_
        intro v' w' hb' hg'
        refine hK.out _ _ (BytesAt.beside (w := wr.drew) hq1 hinv.out.1.drew hg'.out) (fun hHeld3 => ?_)
        clear hK K
        refine wpAnyH_ready (rs := [18]) (by kernel_rfl) (by simp) (AllReadyH.cons rfl (fun K hK => ?_) AllReadyH.nil)
        go_simp
        refine hK.out _ _ hHeld3 (fun hHeld4 => ?_)
        clear hK K
        refine wpAnyH_done (by kernel_rfl) ?_ _
        have HN : Hid (WdR w w' v' (.slice (some ⟨g, off, none⟩) 64 c) l (k + 1)) := hide ⟨by rw [HW.out]; exact hb'.out, hHeld4⟩
        clear hq1 hb' hg' s16 s7 HCW
        go_wp2_with fail
        go_roundw
        case rel => exact ⟨k + 1, by omega, by omega, by go_num, HN⟩
        case measure => simp [intOf]; omega
    · obtain rfl : k = 64 := by omega
      go_wp2_with fail
      go_ret
      exact ⟨_, rfl, hinv.out.1⟩
end Go.Proofs.Ytjjpekgkaahpbaa
