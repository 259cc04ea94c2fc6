/- Chapter 5: put and Build, walked. -/
import Derived.Test.YtmbkncckcpgdgaaRingA
import Derived.Test.YtmbkncckcpgdgaaDigUx
namespace Go.Proofs.Ytmbkncckcpgdgaa
open Go.RowKit Zb

set_option maxRecDepth 20000 in
theorem bytes_assoc (a b c : ByteArray) : a ++ b ++ c = a ++ (b ++ c) := ByteArray.append_assoc
def putsB : List (Int × Int) → ByteArray
  | [] => ⟨#[]⟩
  | p :: l => putB p.2 p.1 ++ putsB l
set_option maxRecDepth 20000 in
theorem putsB_snoc (p : Int × Int) : ∀ l, putsB (l ++ [p]) = putsB l ++ putB p.2 p.1
  | [] => by
    show putB p.2 p.1 ++ ⟨#[]⟩ = ⟨#[]⟩ ++ putB p.2 p.1
    rw [show (⟨#[]⟩ : ByteArray) = ByteArray.empty from rfl, ByteArray.append_empty, ByteArray.empty_append]
  | q :: l => by
    simp only [List.cons_append, putsB]
    rw [putsB_snoc p l, bytes_assoc]
set_option maxRecDepth 20000 in
theorem putB_le (n width : Int) : (putB n width).size ≤ 8 := by
  unfold putB
  by_cases h : putOk n width = true
  · rw [if_pos h]
    have hw : wideB width = true := by simp [putOk] at h; exact h.1
    obtain ⟨k, rfl, hk⟩ := wideB_nat hw
    show (leL n _).toArray.size ≤ 8
    rw [List.size_toArray, leL_length]
    omega
  · rw [if_neg h]
    exact Nat.zero_le _
set_option maxRecDepth 20000 in
theorem putsB_le : ∀ l, (putsB l).size ≤ 8 * l.length
  | [] => Nat.le_of_eq rfl
  | p :: l => by
    have h1 := putB_le p.2 p.1
    have h2 := putsB_le l
    simp only [putsB, ByteArray.size_append, List.length_cons]
    omega
def pcells (l : List (Int × Int)) : List Value := l.flatMap fun p => [.int .i64 p.1, .int .i64 p.2]
set_option maxRecDepth 20000 in
theorem pcells_get : ∀ (l : List (Int × Int)) (k : Nat) (p : Int × Int), l[k]? = some p → (pcells l)[2 * k]? = some (.int .i64 p.1) ∧ (pcells l)[2 * k + 1]? = some (.int .i64 p.2)
  | [], k, p, h => by simp at h
  | q :: r, 0, p, h => by simp at h; subst h; simp [pcells]
  | q :: r, k + 1, p, h => by
    have := pcells_get r k p (by simpa using h)
    have e1 : 2 * (k + 1) = 2 * k + 2 := by omega
    have e2 : 2 * (k + 1) + 1 = 2 * k + 1 + 2 := by omega
    rw [e2, e1]
    simpa [pcells] using this
set_option maxRecDepth 20000 in
set_option maxHeartbeats 2000000 in
theorem eput_calls (l : List (Int × Int)) (hl : ∀ p ∈ l, -9223372036854775808 ≤ p.2 ∧ p.2 < 9223372036854775808) (hn : l.length ≤ 100) {w : World} {g : Nat} (hb : Blk w g 3 (pcells l).toArray) : Calls Try.prog 39 #[.slice (some ⟨g, 0, none⟩) (2 * l.length) (2 * l.length)] w fun e w' => e = .returned (.string (putsB l)) ∧ Below w.heap.size w w' := by
  obtain ⟨n, hnn⟩ : ∃ n, l.length = n := ⟨_, rfl⟩
  have HL := hide hl
  have HN := hide hnn
  have HG := hide hb
  rw [hnn] at hn ⊢
  have hnI : (n : Int) ≤ 100 := by omega
  have hlt := hb.lt
  clear hl hnn hb hn
  go_enter Try.func39, Try.ntmps39
  go_wp2_with fail
  go_loopw [3, 4] (fun s i wr => ∃ (k : Nat) (T : ByteArray), k ≤ n ∧ i = .int .i64 (2 * (k : Int)) ∧ s = .string T ∧ Hid (T = putsB (l.take k)) ∧ Hid (Below w.heap.size w wr)) (fun _ i _ => 2 * n - (intOf i).toNat)
  case atStart => exact ⟨0, ⟨#[]⟩, Nat.zero_le _, rfl, rfl, hide rfl, hide (Below.refl _ _)⟩
  case round =>
  obtain ⟨k, T, hk, rfl, rfl, hT, HB⟩ := hrel
  by_cases hltk : k < n
  · have hkI : (k : Int) < (n : Int) := by omega
    have hkl : k < l.length := by rw [HN.out]; exact hltk
    obtain ⟨p, hp⟩ : ∃ p, l[k]? = some p := ⟨_, List.getElem?_eq_getElem hkl⟩
    obtain ⟨c0, c1⟩ := pcells_get l k p hp
    have HTK : Hid (putsB (l.take (k + 1)) = putsB (l.take k) ++ putB p.2 p.1) := hide (by rw [List.take_add_one, hp]; exact putsB_snoc p _)
    have HVB := hide (HL.out p (List.mem_of_getElem? hp))
    obtain ⟨wd, vl⟩ := p
    obtain ⟨p0, hp0⟩ : ∃ q, 2 * k = q := ⟨_, rfl⟩
    obtain ⟨p1, hp1⟩ : ∃ q, 2 * k + 1 = q := ⟨_, rfl⟩
    have hBw := HG.out.below HB.out HG.out.lt
    have y0 : wr.cell? ⟨g, p0, none⟩ = some (.int .i64 wd) := by rw [← hp0, hBw.cell]; simpa using c0
    have y1 : wr.cell? ⟨g, p1, none⟩ = some (.int .i64 vl) := by rw [← hp1, hBw.cell]; simpa using c1
    have e0 : 2 * (k : Int) = (p0 : Int) := by omega
    have e1 : IntKind.i64.wrap ((p0 : Int) + 1) = (p1 : Int) := by rw [IntWalk.i64_in _ (by omega)]; omega
    have l0 : p0 < 2 * n := by omega
    have l1 : p1 < 2 * n := by omega
    have m0 : (p0 : Int) < 2 * (n : Int) := by omega
    have m1 : (p1 : Int) < 2 * (n : Int) := by omega
    have m2 : (p0 : Int) + 1 < 2 * (n : Int) := by omega
    have hTs : T.size ≤ 800 := by
      have h1 := putsB_le (l.take k)
      have h2 : (l.take k).length ≤ k := List.length_take_le _ _
      rw [hT.out]
      omega
    have hQs := putB_le vl wd
    rw [e0]
    have HE0 := hide e0
    have HP0 := hide hp0
    clear c0 c1 hBw e0 hp0 hp1 hp
    go_wp2_with fail
    refine wp_region_heads [0, 1, 2, 3, 4, 5, 6, 7, 8] 6 (fun w' => w'.cell? ⟨g, p0, none⟩ = some (.int .i64 wd) ∧ w'.cell? ⟨g, p1, none⟩ = some (.int .i64 vl)) (by kernel_rfl) rfl (by kernel_rfl) (by kernel_rfl) (fun _ _ d _ _ h => by cases d <;> exact h) ⟨y0, y1⟩ ?_
    iterate 9
      refine' Heads.step rfl (by rfl) ?_ ?_
      rotate_left
      · intro w' hSw
        obtain ⟨z0, z1⟩ := hSw
        go_simp
        try with_reducible rfl
      simp only [Act.put, List.setIfInBounds_toArray, List.set_cons_zero, List.set_cons_succ]
    refine Heads.done ?_
    refine wpAnyH_ready (rs := [9]) (by kernel_rfl) (by simp) (AllReadyH.cons rfl (fun K hK => ?_) AllReadyH.nil)
    go_simp
    refine (oPut_calls vl HVB.out.1 HVB.out.2 wd _).mono ?_
    rintro e w' ⟨rfl, hb'⟩
    have HB2 := hide (HB.out.drew.trans (hb'.mono HB.out.size))
    refine hK.out _ _ ⟨(hb'.cell (p := ⟨g, p0, none⟩) (lt_of_cell y0)).trans y0, (hb'.cell (p := ⟨g, p1, none⟩) (lt_of_cell y1)).trans y1⟩ (fun hHeld1 => ?_)
    clear hK K
    refine wpAnyH_more [10, 11, 12, 13, 14] 0 rfl (by kernel_rfl) (by kernel_rfl) (fun _ _ d _ _ h => by cases d <;> exact h) hHeld1 ?_
    iterate 5
      refine' Heads.step rfl (by rfl) ?_ ?_
      rotate_left
      · intro w' hSw
        obtain ⟨z0, z1⟩ := hSw
        go_simp
        try with_reducible rfl
      simp only [Act.put, List.setIfInBounds_toArray, List.set_cons_zero, List.set_cons_succ]
    refine Heads.done ?_
    refine wpAnyH_done (by kernel_rfl) ?_ _
    have HX : Hid (T ++ putB vl wd = putsB (l.take (k + 1))) := hide (by rw [HTK.out, hT.out])
    clear hHeld1 hb' y0 y1 HB
    generalize putB vl wd = Q at *
    go_wp2_with fail
    have hp0 := HP0.out
    go_roundw
    case rel => exact ⟨k + 1, T ++ Q, by omega, by rw [← HE0.out]; go_num, rfl, HX, HB2⟩
    case measure => simp [intOf]; omega
  · obtain rfl : k = n := by omega
    have hTT : T = putsB l := by rw [hT.out, List.take_of_length_le (Nat.le_of_eq HN.out)]
    have HTT := hide hTT
    have hd : decide (2 * (k : Int) + 1 < 2 * (k : Int)) = false := by rw [decide_eq_false_iff_not]; omega
    clear hTT hltk
    go_wp2_with fail
    go_ret
    exact ⟨by rw [HTT.out]; rfl, HB.out⟩
set_option maxRecDepth 20000 in
theorem hputs (e : EntM) : putsB [(1, e.kind), (1, e.slot), (4, e.number), (4, e.size)] = putB e.kind 1 ++ putB e.slot 1 ++ putB e.number 4 ++ putB e.size 4 := by
  have hz : ∀ a : ByteArray, a ++ ⟨#[]⟩ = a := fun a => ByteArray.append_empty
  simp only [putsB, hz, bytes_assoc]
def BuildPost (w : World) (e : EntM) (r : Ending) (w' : World) : Prop := r = .returned (.tuple #[.string (buildB e), .int .i64 (buildE e)]) ∧ Below w.heap.size w w'
set_option maxRecDepth 20000 in
set_option maxHeartbeats 2000000 in
theorem eBuild_calls (e : EntM) (w : World) : Calls Try.prog 10 #[.agg #[.int .i64 e.kind, .int .i64 e.number, .int .i64 e.slot, .int .i64 e.size, .string e.sum]] w (BuildPost w e) := by
  have HR := hide (eright_calls e)
  have HBLK : Hid (Blk (w.alloc (.cells #[.int .i64 e.kind, .int .i64 e.number, .int .i64 e.slot, .int .i64 e.size, .string e.sum] 28)) w.heap.size 28 e.cells.toArray) := hide (Blk.new w 28 e.cells.toArray)
  have HB0 := hide ((Below.refl w.heap.size w).alloc (Nat.le_refl _) (.cells #[.int .i64 e.kind, .int .i64 e.number, .int .i64 e.slot, .int .i64 e.size, .string e.sum] 28))
  by_cases hr : RightE e
  · have hrt := (rightE_iff e).2 hr
    rw [hrt] at HR
    have HPOST : Hid (buildB e = e.block ∧ buildE e = 0) := hide ⟨by unfold buildB; rw [hrt]; rfl, by unfold buildE; rw [hrt]; rfl⟩
    have HPUT := hide (hputs e)
    have hqs : (putsB [(1, e.kind), (1, e.slot), (4, e.number), (4, e.size)]).size ≤ 32 := putsB_le _
    have HBDS : Hid (∀ p ∈ [((1 : Int), e.kind), (1, e.slot), (4, e.number), (4, e.size)], -9223372036854775808 ≤ p.2 ∧ p.2 < 9223372036854775808) := hide (by
      intro p hp
      have h1 := hr.k0; have h2 := hr.k1; have h3 := hr.n0; have h4 := hr.n1; have h5 := hr.s0; have h6 := hr.s1; have h7 := hr.z0; have h8 := hr.z1
      simp only [List.mem_cons, List.not_mem_nil, or_false] at hp
      rcases hp with rfl | rfl | rfl | rfl <;> simp only <;> omega)
    have HBS := hide (body_size hr)
    have HSM := hide hr.m
    have hsm : e.sum.size ≤ 32 := by rw [hr.m]; omega
    clear hrt
    generalize hw0 : w.alloc (.cells #[.int .i64 e.kind, .int .i64 e.number, .int .i64 e.slot, .int .i64 e.size, .string e.sum] 28) = w0 at HBLK HB0
    have HW0 := hide hw0
    obtain ⟨g0, hg0⟩ : ∃ g0, w.heap.size = g0 := ⟨_, rfl⟩
    rw [hg0] at HBLK
    have HG0 := hide hg0
    clear hw0
    go_enter Try.func10, Try.ntmps10
    go_wp2_with fail
    refine (HR.out _).mono ?_
    rintro r w1 ⟨rfl, hb1⟩
    rw [HW0.out] at hb1
    have HB1 := hide (HB0.out.trans (hb1.mono HB0.out.size))
    have HBLK1 := hide (HBLK.out.below hb1 HBLK.out.lt)
    clear hb1 HB0 HBLK HW0
    go_wp2_with fail
    refine wp_region_heads [0, 1, 2, 3, 4, 5, 6, 7, 11, 12] 5 (fun w' => Blk w' g0 28 e.cells.toArray) (by kernel_rfl) rfl (by kernel_rfl) (by kernel_rfl) (fun _ _ d _ _ h => by cases d <;> exact h) HBLK1.out ?_
    iterate 10
      refine' Heads.step rfl (by rfl) ?_ ?_
      rotate_left
      · intro w' hSw
        obtain ⟨z0, z1, z2, z3, z4⟩ := ent_all hSw
        go_simp
        try with_reducible rfl
      simp only [Act.put, List.setIfInBounds_toArray, List.set_cons_zero, List.set_cons_succ]
    refine Heads.done ?_
    refine wpAnyH_ready (rs := [8]) (by kernel_rfl) (by simp) (AllReadyH.cons rfl (fun K hK => ?_) AllReadyH.nil)
    go_simp
    refine hK.out _ _ (Blk.alloc (w := w1.drew) HBLK1.out _) (fun hHeld1 => ?_)
    clear hK K
    refine wpAnyH_ready (rs := [9]) (by kernel_rfl) (by simp) (AllReadyH.cons rfl (fun K hK => ?_) AllReadyH.nil)
    go_simp
    refine (eput_calls [(1, e.kind), (1, e.slot), (4, e.number), (4, e.size)] HBDS.out (by simp) (Blk.new w1.drew 3 _)).mono ?_
    rintro r w2 ⟨rfl, hb2⟩
    have HBLK2 := hide (hHeld1.below hb2 hHeld1.lt)
    have HB2 := hide ((HB1.out.drew.alloc HB1.out.size _).trans (hb2.mono (Nat.le_trans HB1.out.size (by simp))))
    clear hb2
    generalize putsB [(1, e.kind), (1, e.slot), (4, e.number), (4, e.size)] = Q at *
    have hq1 : ¬ 9223372036854775807 < 2 + Q.size := by omega
    have hq2 : ¬ 9223372036854775807 < 2 + Q.size + e.sum.size := by omega
    refine hK.out _ _ HBLK2.out (fun hHeld2 => ?_)
    clear hK K
    refine wpAnyH_more [10, 13, 14] 0 rfl (by kernel_rfl) (by kernel_rfl) (fun _ _ d _ _ h => by cases d <;> exact h) hHeld2 ?_
    iterate 3
      refine' Heads.step rfl (by rfl) ?_ ?_
      rotate_left
      · intro w' hSw
        obtain ⟨z0, z1, z2, z3, z4⟩ := ent_all hSw
        go_simp
        try with_reducible rfl
      simp only [Act.put, List.setIfInBounds_toArray, List.set_cons_zero, List.set_cons_succ]
    refine Heads.done ?_
    refine wpAnyH_done (by kernel_rfl) ?_ _
    obtain ⟨B, hB⟩ : ∃ B : ByteArray, (⟨#[67, 74]⟩ : ByteArray) ++ Q ++ e.sum = B := ⟨_, rfl⟩
    have HBB : Hid (e.body = B) := hide (by rw [← hB, HPUT.out]; rfl)
    have hBs : B.size = 44 := by rw [← HBB.out]; exact HBS.out
    have HBsz := hide hBs
    rw [hB]
    clear hB hq1 hq2 hqs hsm HPUT HBDS hHeld1 hHeld2 HBLK2 HBLK1 HB1 hBs
    have HO := hide (gOf_calls B (by rw [HBsz.out]; omega))
    obtain ⟨D, hD⟩ : ∃ D : ByteArray, (⟨(digW B.data.toList).toArray⟩ : ByteArray) = D := ⟨_, rfl⟩
    have hDs : D.size = 32 := by
      rw [← hD]
      show (digW B.data.toList).toArray.size = 32
      rw [List.size_toArray, digW_length]
    have HD := hide hD
    have HDS := hide hDs
    clear hD hDs
    go_wp2_with fail
    refine (HO.out _).mono ?_
    rintro r w3 ⟨rfl, hb3⟩
    rw [HD.out]
    have HB3 := hide (HB2.out.trans (hb3.mono HB2.out.size))
    clear hb3 HB2 HO
    have hDI : (8 : Int) ≤ (D.size : Int) := by rw [HDS.out]; decide
    have hDN : 8 ≤ D.size := by rw [HDS.out]; omega
    obtain ⟨X, hX⟩ : ∃ X : ByteArray, B ++ D.extract 0 8 = X := ⟨_, rfl⟩
    have HX : Hid (e.block = X ++ zeros 12) := hide (by rw [← hX, ← HD.out, ← HBB.out]; rfl)
    have hXs : X.size = 52 := by rw [← hX, ByteArray.size_append, ByteArray.size_extract, HBsz.out, HDS.out]; rfl
    have hBs : B.size ≤ 44 := by rw [HBsz.out]; omega
    have hEs : (D.extract 0 8).size ≤ 8 := by rw [ByteArray.size_extract]; omega
    have hXI : (X.size : Int) = 52 := by rw [hXs]; rfl
    have hXN : X.size ≤ 52 := by omega
    have hmk : ∀ W : World, (Instr.makeSlice 38 (.int .i64 12) (.int .i64 12)).run Try.prog W = .ok (.slice (some ⟨W.heap.size, 0, none⟩) 12 12) (W.alloc (.cells (madeCells #[.int .u8 0] 12) 5)) := fun W => make_row (P := Try.prog) 38 5 _ 1 Try.underlying38 binfo_u8 rfl .i64 .i64 12 (by omega) (by omega) W
    have hcv : (convert 38 9 (.slice (some ⟨w3.heap.size, 0, none⟩) 12 12)).run Try.prog (w3.alloc (.cells (madeCells #[.int .u8 0] 12) 5)) = .ok (.string (zeros 12)) (w3.alloc (.cells (madeCells #[.int .u8 0] 12) 5)) := by
      have h1 := (Buf.made (Below.refl w3.heap.size w3) 12 (by unfold maxLen; omega)).conv
      rw [h1]
      rfl
    have hzs := zeros_sz 12
    have HZS := hide hzs
    have hz12 : (zeros 12).size ≤ 12 := by rw [hzs]; omega
    clear hzs hXs
    go_wp2_with fail
    go_ret2
    unfold BuildPost
    rw [HPOST.out.1, HPOST.out.2, HX.out]
    exact ⟨rfl, HB3.out.alloc HB3.out.size _⟩
  · have hrf : e.right = false := by
      cases h : e.right
      · rfl
      · exact absurd ((rightE_iff e).1 h) hr
    rw [hrf] at HR
    have HPOST : Hid (buildB e = ⟨#[]⟩ ∧ buildE e = 1) := hide ⟨by unfold buildB; rw [hrf]; rfl, by unfold buildE; rw [hrf]; rfl⟩
    clear hr hrf
    generalize hw0 : w.alloc (.cells #[.int .i64 e.kind, .int .i64 e.number, .int .i64 e.slot, .int .i64 e.size, .string e.sum] 28) = w0 at HBLK HB0
    have HW0 := hide hw0
    clear hw0
    go_enter Try.func10, Try.ntmps10
    go_wp2_with fail
    refine (HR.out _).mono ?_
    rintro r w1 ⟨rfl, hb1⟩
    rw [HW0.out] at hb1
    have HB1 := hide (HB0.out.trans (hb1.mono HB0.out.size))
    clear hb1
    go_wp2_with fail
    go_ret2
    unfold BuildPost
    rw [HPOST.out.1, HPOST.out.2]
    exact ⟨rfl, HB1.out⟩
end Go.Proofs.Ytmbkncckcpgdgaa
