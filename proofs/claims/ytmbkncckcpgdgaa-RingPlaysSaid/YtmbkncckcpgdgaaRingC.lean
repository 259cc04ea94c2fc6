/- Chapter 5: the document's Build, walked. -/
import Derived.Test.YtmbkncckcpgdgaaRingB
import Derived.Test.YtmbkncckcpgdgaaRd1
namespace Go.Proofs.Ytmbkncckcpgdgaa
open Go.RowKit Zb

set_option maxRecDepth 100000 in
set_option maxHeartbeats 2000000 in
theorem reBuild_n0 (e : EntM)  (h0 : e.kind < 1) (w : World) : Calls Try.prog 12 #[.agg #[.int .i64 e.kind, .int .i64 e.number, .int .i64 e.slot, .int .i64 e.size, .string e.sum]] w fun r w' => r = .returned (.tuple #[.string ⟨#[]⟩, .int .i64 1]) ∧ Below w.heap.size w w' := by
  go_enter Try.func12, Try.ntmps12
  go_wp2_with fail
  go_ret2
  exact ⟨rfl, (Below.refl _ _).alloc (Nat.le_refl _) _⟩
set_option maxRecDepth 100000 in
set_option maxHeartbeats 2000000 in
theorem reBuild_n1 (e : EntM) (h0 : 1 ≤ e.kind) (h1 : 3 < e.kind) (w : World) : Calls Try.prog 12 #[.agg #[.int .i64 e.kind, .int .i64 e.number, .int .i64 e.slot, .int .i64 e.size, .string e.sum]] w fun r w' => r = .returned (.tuple #[.string ⟨#[]⟩, .int .i64 1]) ∧ Below w.heap.size w w' := by
  go_enter Try.func12, Try.ntmps12
  go_wp2_with fail
  go_ret2
  exact ⟨rfl, (Below.refl _ _).alloc (Nat.le_refl _) _⟩
set_option maxRecDepth 100000 in
set_option maxHeartbeats 2000000 in
theorem reBuild_n2 (e : EntM) (h0 : 1 ≤ e.kind) (h1 : e.kind ≤ 3) (h2 : e.number < 1) (w : World) : Calls Try.prog 12 #[.agg #[.int .i64 e.kind, .int .i64 e.number, .int .i64 e.slot, .int .i64 e.size, .string e.sum]] w fun r w' => r = .returned (.tuple #[.string ⟨#[]⟩, .int .i64 1]) ∧ Below w.heap.size w w' := by
  go_enter Try.func12, Try.ntmps12
  go_wp2_with fail
  go_ret2
  exact ⟨rfl, (Below.refl _ _).alloc (Nat.le_refl _) _⟩
set_option maxRecDepth 100000 in
set_option maxHeartbeats 2000000 in
theorem reBuild_n3 (e : EntM) (h0 : 1 ≤ e.kind) (h1 : e.kind ≤ 3) (h2 : 1 ≤ e.number) (h3 : 4294967295 < e.number) (w : World) : Calls Try.prog 12 #[.agg #[.int .i64 e.kind, .int .i64 e.number, .int .i64 e.slot, .int .i64 e.size, .string e.sum]] w fun r w' => r = .returned (.tuple #[.string ⟨#[]⟩, .int .i64 1]) ∧ Below w.heap.size w w' := by
  go_enter Try.func12, Try.ntmps12
  go_wp2_with fail
  go_ret2
  exact ⟨rfl, (Below.refl _ _).alloc (Nat.le_refl _) _⟩
set_option maxRecDepth 100000 in
set_option maxHeartbeats 2000000 in
theorem reBuild_n4 (e : EntM) (h0 : 1 ≤ e.kind) (h1 : e.kind ≤ 3) (h2 : 1 ≤ e.number) (h3 : e.number ≤ 4294967295) (h4 : e.slot < 0) (w : World) : Calls Try.prog 12 #[.agg #[.int .i64 e.kind, .int .i64 e.number, .int .i64 e.slot, .int .i64 e.size, .string e.sum]] w fun r w' => r = .returned (.tuple #[.string ⟨#[]⟩, .int .i64 1]) ∧ Below w.heap.size w w' := by
  go_enter Try.func12, Try.ntmps12
  go_wp2_with fail
  go_ret2
  exact ⟨rfl, (Below.refl _ _).alloc (Nat.le_refl _) _⟩
set_option maxRecDepth 100000 in
set_option maxHeartbeats 2000000 in
theorem reBuild_n5 (e : EntM) (h0 : 1 ≤ e.kind) (h1 : e.kind ≤ 3) (h2 : 1 ≤ e.number) (h3 : e.number ≤ 4294967295) (h4 : 0 ≤ e.slot) (h5 : 2 < e.slot) (w : World) : Calls Try.prog 12 #[.agg #[.int .i64 e.kind, .int .i64 e.number, .int .i64 e.slot, .int .i64 e.size, .string e.sum]] w fun r w' => r = .returned (.tuple #[.string ⟨#[]⟩, .int .i64 1]) ∧ Below w.heap.size w w' := by
  go_enter Try.func12, Try.ntmps12
  go_wp2_with fail
  go_ret2
  exact ⟨rfl, (Below.refl _ _).alloc (Nat.le_refl _) _⟩
set_option maxRecDepth 100000 in
set_option maxHeartbeats 2000000 in
theorem reBuild_n6 (e : EntM) (h0 : 1 ≤ e.kind) (h1 : e.kind ≤ 3) (h2 : 1 ≤ e.number) (h3 : e.number ≤ 4294967295) (h4 : 0 ≤ e.slot) (h5 : e.slot ≤ 2) (h6 : e.size < 0) (w : World) : Calls Try.prog 12 #[.agg #[.int .i64 e.kind, .int .i64 e.number, .int .i64 e.slot, .int .i64 e.size, .string e.sum]] w fun r w' => r = .returned (.tuple #[.string ⟨#[]⟩, .int .i64 1]) ∧ Below w.heap.size w w' := by
  go_enter Try.func12, Try.ntmps12
  go_wp2_with fail
  go_ret2
  exact ⟨rfl, (Below.refl _ _).alloc (Nat.le_refl _) _⟩
set_option maxRecDepth 100000 in
set_option maxHeartbeats 2000000 in
theorem reBuild_n7 (e : EntM) (h0 : 1 ≤ e.kind) (h1 : e.kind ≤ 3) (h2 : 1 ≤ e.number) (h3 : e.number ≤ 4294967295) (h4 : 0 ≤ e.slot) (h5 : e.slot ≤ 2) (h6 : 0 ≤ e.size) (h7 : 4294967295 < e.size) (w : World) : Calls Try.prog 12 #[.agg #[.int .i64 e.kind, .int .i64 e.number, .int .i64 e.slot, .int .i64 e.size, .string e.sum]] w fun r w' => r = .returned (.tuple #[.string ⟨#[]⟩, .int .i64 1]) ∧ Below w.heap.size w w' := by
  go_enter Try.func12, Try.ntmps12
  go_wp2_with fail
  go_ret2
  exact ⟨rfl, (Below.refl _ _).alloc (Nat.le_refl _) _⟩
set_option maxRecDepth 100000 in
set_option maxHeartbeats 2000000 in
theorem reBuild_n8 (e : EntM) (h0 : 1 ≤ e.kind) (h1 : e.kind ≤ 3) (h2 : 1 ≤ e.number) (h3 : e.number ≤ 4294967295) (h4 : 0 ≤ e.slot) (h5 : e.slot ≤ 2) (h6 : 0 ≤ e.size) (h7 : e.size ≤ 4294967295) (h8 : ¬ e.sum.size = 32) (w : World) : Calls Try.prog 12 #[.agg #[.int .i64 e.kind, .int .i64 e.number, .int .i64 e.slot, .int .i64 e.size, .string e.sum]] w fun r w' => r = .returned (.tuple #[.string ⟨#[]⟩, .int .i64 1]) ∧ Below w.heap.size w w' := by
  have hs : ((e.sum.size : Int) != 32) = true := by rw [bne_iff_ne]; omega
  clear h8
  go_enter Try.func12, Try.ntmps12
  go_wp2_with fail
  go_ret2
  exact ⟨rfl, (Below.refl _ _).alloc (Nat.le_refl _) _⟩
set_option maxRecDepth 20000 in
theorem zeros_tail (a b : Nat) (h : a ≤ b) : (zeros b).extract a b = zeros (b - a) := by
  unfold zeros
  apply ByteArray.ext
  rw [ByteArray.data_extract]
  simp only [Array.extract_replicate]
  congr 1
  omega
set_option maxRecDepth 100000 in
set_option maxHeartbeats 4000000 in
theorem reBuild_yes (e : EntM) (hr : RightE e) (w : World) : Calls Try.prog 12 #[.agg #[.int .i64 e.kind, .int .i64 e.number, .int .i64 e.slot, .int .i64 e.size, .string e.sum]] w (BuildPost w e) := by
  have hrt := (rightE_iff e).2 hr
  have HPOST : Hid (buildB e = e.block ∧ buildE e = 0) := hide ⟨by unfold buildB; rw [hrt]; rfl, by unfold buildE; rw [hrt]; rfl⟩
  have HR := hide hr
  have HBS := hide (body_size hr)
  have HP := hide (hputs e)
  have c0 := hr.k0
  have c1 := hr.k1
  have c2 := hr.n0
  have c3 := hr.n1
  have c4 := hr.s0
  have c5 := hr.s1
  have c6 := hr.z0
  have c7 := hr.z1
  have hs1 : ((e.sum.size : Int) != 32) = false := by rw [hr.m]; rfl
  have hsm : e.sum.size ≤ 32 := by rw [hr.m]; omega
  have HK0 : Hid (Blk (w.alloc (.cells #[.int .i64 e.kind, .int .i64 e.number, .int .i64 e.slot, .int .i64 e.size, .string e.sum] 23)) w.heap.size 23 e.cells.toArray) := hide (Blk.new w 23 e.cells.toArray)
  have HB0 := hide ((Below.refl w.heap.size w).alloc (Nat.le_refl _) (.cells #[.int .i64 e.kind, .int .i64 e.number, .int .i64 e.slot, .int .i64 e.size, .string e.sum] 23))
  have hq1 := putB_le e.kind 1
  have hq2 := putB_le e.slot 1
  have hq3 := putB_le e.number 4
  have hq4 := putB_le e.size 4
  clear hr hrt
  generalize hw0 : w.alloc (.cells #[.int .i64 e.kind, .int .i64 e.number, .int .i64 e.slot, .int .i64 e.size, .string e.sum] 23) = w0 at HK0 HB0
  have HW0 := hide hw0
  clear hw0
  go_enter Try.func12, Try.ntmps12
  go_wp2_with fail
  refine (roPut_calls e.kind (by omega) (by omega) 1 _).mono ?_
  rintro r w1 ⟨rfl, hb1⟩
  rw [HW0.out] at hb1
  have HB1 := hide (HB0.out.trans (hb1.mono HB0.out.size))
  have HK1 := hide (HK0.out.below hb1 HK0.out.lt)
  clear hb1 HB0 HK0 HW0
  obtain ⟨z0, z1, z2, z3, z4⟩ := ent_all HK1.out
  go_wp2_with fail
  refine (roPut_calls e.slot (by have h1 := HR.out; have h2 := h1.s0; omega) (by have h1 := HR.out; have h2 := h1.s1; omega) 1 _).mono ?_
  rintro r w2 ⟨rfl, hb2⟩
  have HB2 := hide (HB1.out.trans (hb2.mono HB1.out.size))
  have HK2 := hide (HK1.out.below hb2 HK1.out.lt)
  clear hb2 HB1 HK1 z0 z1 z2 z3 z4
  obtain ⟨z0, z1, z2, z3, z4⟩ := ent_all HK2.out
  go_wp2_with fail
  refine (roPut_calls e.number (by have h1 := HR.out; have h2 := h1.n0; omega) (by have h1 := HR.out; have h2 := h1.n1; omega) 4 _).mono ?_
  rintro r w3 ⟨rfl, hb3⟩
  have HB3 := hide (HB2.out.trans (hb3.mono HB2.out.size))
  have HK3 := hide (HK2.out.below hb3 HK2.out.lt)
  clear hb3 HB2 HK2 z0 z1 z2 z3 z4
  obtain ⟨z0, z1, z2, z3, z4⟩ := ent_all HK3.out
  go_wp2_with fail
  refine (roPut_calls e.size (by have h1 := HR.out; have h2 := h1.z0; omega) (by have h1 := HR.out; have h2 := h1.z1; omega) 4 _).mono ?_
  rintro r w4 ⟨rfl, hb4⟩
  have HB4 := hide (HB3.out.trans (hb4.mono HB3.out.size))
  have HK4 := hide (HK3.out.below hb4 HK3.out.lt)
  clear hb4 HB3 HK3 z0 z1 z2 z3 z4
  obtain ⟨z0, z1, z2, z3, z4⟩ := ent_all HK4.out
  clear z0 z1 z2 z3
  have HBD : Hid (e.body = ⟨#[67, 74]⟩ ++ putB e.kind 1 ++ putB e.slot 1 ++ putB e.number 4 ++ putB e.size 4 ++ e.sum) := hide (by simp only [EntM.body, bytes_assoc])
  generalize putB e.kind 1 = P1 at *
  generalize putB e.slot 1 = P2 at *
  generalize putB e.number 4 = P3 at *
  generalize putB e.size 4 = P4 at *
  obtain ⟨B, hB⟩ : ∃ B : ByteArray, (⟨#[67, 74]⟩ : ByteArray) ++ P1 ++ P2 ++ P3 ++ P4 ++ e.sum = B := ⟨_, rfl⟩
  rw [hB] at HBD
  have HBsz : Hid (B.size = 44) := hide (by rw [← HBD.out]; exact HBS.out)
  have HO := hide (rgOf_calls B (by rw [HBsz.out]; omega))
  obtain ⟨D, hD⟩ : ∃ D : ByteArray, (⟨(digW B.data.toList).toArray⟩ : ByteArray) = D := ⟨_, rfl⟩
  have hDs : D.size = 32 := by
    rw [← hD]
    show (digW B.data.toList).toArray.size = 32
    rw [List.size_toArray, digW_length]
  have HD := hide hD
  have HDS := hide hDs
  clear hD hDs
  go_wp2_with fail
  refine (HO.out _).mono ?_
  rintro r w5 ⟨rfl, hb5⟩
  rw [HD.out]
  have HB5 := hide (HB4.out.trans (hb5.mono HB4.out.size))
  clear hb5 HB4 HO hB z4 HK4 hq1 hq2 hq3 hq4 hsm
  have hDI : (8 : Int) ≤ (D.size : Int) := by rw [HDS.out]; decide
  have hDN : 8 ≤ D.size := by rw [HDS.out]; omega
  obtain ⟨X, hX⟩ : ∃ X : ByteArray, B ++ D.extract 0 8 = X := ⟨_, rfl⟩
  have HX : Hid (e.block = X ++ zeros 12) := hide (by rw [← hX, ← HD.out, ← HBD.out]; rfl)
  have hXs : X.size = 52 := by rw [← hX, ByteArray.size_append, ByteArray.size_extract, HBsz.out, HDS.out]; rfl
  have hBs : B.size ≤ 44 := by rw [HBsz.out]; omega
  have hEs : (D.extract 0 8).size ≤ 8 := by rw [ByteArray.size_extract]; omega
  have hXI : (X.size : Int) = 52 := by rw [hXs]; rfl
  have hXN : X.size ≤ 52 := by omega
  clear hXs
  go_wp2_with fail
  refine (rdzero_calls _).mono ?_
  rintro r w6 ⟨rfl, hb6⟩
  have HB6 := hide (HB5.out.trans (hb6.mono HB5.out.size))
  clear hb6 HB5
  have hz64 : ((zeros 64).size : Int) = 64 := by rw [zeros_sz]; rfl
  have hz64N : (zeros 64).size = 64 := zeros_sz 64
  have hzt : (zeros 64).extract 52 64 = zeros 12 := zeros_tail 52 64 (by omega)
  have hz12 : (zeros 12).size ≤ 12 := by rw [zeros_sz]; omega
  go_wp2_with fail
  go_ret2
  unfold BuildPost
  rw [HPOST.out.1, HPOST.out.2, HX.out]
  exact ⟨rfl, HB6.out⟩
set_option maxRecDepth 20000 in
theorem reBuild_calls (e : EntM) (w : World) : Calls Try.prog 12 #[.agg #[.int .i64 e.kind, .int .i64 e.number, .int .i64 e.slot, .int .i64 e.size, .string e.sum]] w (BuildPost w e) := by
  by_cases hr : RightE e
  · exact reBuild_yes e hr w
  · have hrf : e.right = false := by
      cases h : e.right
      · rfl
      · exact absurd ((rightE_iff e).1 h) hr
    unfold BuildPost buildB buildE
    rw [hrf]
    by_cases h0 : e.kind < 1
    · exact reBuild_n0 e (by omega) w
    by_cases h1 : 3 < e.kind
    · exact reBuild_n1 e (by omega) (by omega) w
    by_cases h2 : e.number < 1
    · exact reBuild_n2 e (by omega) (by omega) (by omega) w
    by_cases h3 : 4294967295 < e.number
    · exact reBuild_n3 e (by omega) (by omega) (by omega) (by omega) w
    by_cases h4 : e.slot < 0
    · exact reBuild_n4 e (by omega) (by omega) (by omega) (by omega) (by omega) w
    by_cases h5 : 2 < e.slot
    · exact reBuild_n5 e (by omega) (by omega) (by omega) (by omega) (by omega) (by omega) w
    by_cases h6 : e.size < 0
    · exact reBuild_n6 e (by omega) (by omega) (by omega) (by omega) (by omega) (by omega) (by omega) w
    by_cases h7 : 4294967295 < e.size
    · exact reBuild_n7 e (by omega) (by omega) (by omega) (by omega) (by omega) (by omega) (by omega) (by omega) w
    refine reBuild_n8 e (by omega) (by omega) (by omega) (by omega) (by omega) (by omega) (by omega) (by omega) ?_ w
    intro h8
    exact hr ⟨by omega, by omega, by omega, by omega, by omega, by omega, by omega, by omega, h8⟩
end Go.Proofs.Ytmbkncckcpgdgaa
