/- Chapter 25: BundleTags comes to true. -/
import Derived.Test.YtkipmbnmmbeeaaaBunN
import Derived.Test.YtkipmbnmmbeeaaaArgs9
import Derived.Test.YtkipmbnmmbeeaaaCount
namespace Go.Proofs.Ytkipmbnmmbeeaaa
open Go.RowKit Zb Go.ChangeShapes

set_option maxRecDepth 20000 in
theorem four {t0 t1 t2 t3 : ByteArray} {j : Nat} (h : j < 4) : ∃ y, (#[Value.string t0, .string t1, .string t2, .string t3] : Array Value)[j]? = some (.string y) ∧ (y = t0 ∨ y = t1 ∨ y = t2 ∨ y = t3) := by
  rcases (by omega : j = 0 ∨ j = 1 ∨ j = 2 ∨ j = 3) with rfl | rfl | rfl | rfl
  · exact ⟨t0, rfl, .inl rfl⟩
  · exact ⟨t1, rfl, .inr (.inl rfl)⟩
  · exact ⟨t2, rfl, .inr (.inr (.inl rfl))⟩
  · exact ⟨t3, rfl, .inr (.inr (.inr rfl))⟩
set_option maxRecDepth 100000 in
set_option maxHeartbeats 4000000 in
theorem BundleTags_walk (k : ByteArray) (A : Option Addr) (cap : Nat) (l : List PartM) (pos c : Int) (q : ByteArray) (w : World) (_ : k.size ≤ maxLen) (_ : l.length ≤ 9223372036854775807) (hr : ReadsRows 4 PartM.cells w A l) (hok : ∀ p ∈ l, p.Ok) (hpos : (Lit.int .i64 pos).wf = true) (hcw : (Lit.int .u8 c).wf = true) (_ : q.size ≤ maxLen) : Calls Try.prog 6 #[.agg #[.string k, .slice A l.length cap, .int .i64 pos, .int .u8 c, .string q]] w fun e w' => e = .returned (.bool true) ∧ Below w.heap.size w w' := by
  have hp := bounds_i64 hpos
  have hcb := bounds_u8 hcw
  obtain ⟨b, rfl⟩ : ∃ b : UInt8, c = (b.toNat : Int) := ⟨UInt8.ofNat c.toNat, by rw [UInt8.toNat_ofNat_of_lt' (by show c.toNat < 256; omega)]; omega⟩
  clear hpos hcw hcb
  have HC0 := hide (Blk.new w 38 #[.string k, .slice A l.length cap, .int .i64 pos, .int .u8 (b.toNat : Int), .string q])
  have HB0 := hide ((Below.refl w.heap.size w).alloc (Nat.le_refl _) (.cells #[.string k, .slice A l.length cap, .int .i64 pos, .int .u8 (b.toNat : Int), .string q] 38))
  have HR_0 := hide (hr.below HB0.out)
  have HOK := hide hok
  clear hr hok
  obtain ⟨w0, hw0⟩ : ∃ w0, Hid (w.alloc (.cells #[.string k, .slice A l.length cap, .int .i64 pos, .int .u8 (b.toNat : Int), .string q] 38) = w0) := ⟨_, hide rfl⟩
  obtain ⟨gc, hgc⟩ : ∃ gc, Hid (w.heap.size = gc) := ⟨_, hide rfl⟩
  rw [hw0.out] at HC0 HB0 HR_0
  rw [hgc.out] at HC0
  have z0 : w0.cell? ⟨gc, 0, none⟩ = some (.string k) := HC0.out.cell 0
  have z1 : w0.cell? ⟨gc, 1, none⟩ = some (.slice A l.length cap) := HC0.out.cell 1
  have z2 : w0.cell? ⟨gc, 2, none⟩ = some (.int .i64 pos) := HC0.out.cell 2
  have z4 : w0.cell? ⟨gc, 4, none⟩ = some (.string q) := HC0.out.cell 4
  rw [← hw0.out, ← hgc.out] at z0 z1 z2 z4
  by_cases g1 : (300 : Int) < (k.size : Int)
  · go_enter Try.func6, Try.ntmps6
    go_wp2_with fail
    rw [hw0.out]
    refine (lknown25_calls _).mono ?_
    rintro e w1 ⟨rfl, hb1⟩
    have HB1 := hide (HB0.out.trans (hb1.mono HB0.out.size))
    clear hb1 
    go_wp2_with fail
    go_ret
    exact ⟨rfl, HB1.out⟩
  have g1b := decide_eq_false g1
  have hk : k.size ≤ 300 := by omega
  have HLI := hide (rbLight_calls cap HR_0.out)
  rw [← hw0.out] at HLI
  obtain ⟨li, hli⟩ : ∃ b, lightM l = b := ⟨_, rfl⟩
  have HLI2 := hide hli
  rw [hli] at HLI
  clear hli
  cases li
  · go_enter Try.func6, Try.ntmps6
    go_wp2_with fail
    refine HLI.out.mono ?_
    rintro e w' ⟨rfl, rfl⟩
    go_wp2_with fail
    rw [hw0.out]
    refine (lknown25_calls _).mono ?_
    rintro e w1 ⟨rfl, hb1⟩
    have HB1 := hide (HB0.out.trans (hb1.mono HB0.out.size))
    clear hb1 
    go_wp2_with fail
    go_ret
    exact ⟨rfl, HB1.out⟩
  by_cases g2 : (300 : Int) < (q.size : Int)
  · go_enter Try.func6, Try.ntmps6
    go_wp2_with fail
    refine HLI.out.mono ?_
    rintro e w' ⟨rfl, rfl⟩
    go_wp2_with fail
    rw [hw0.out]
    refine (lknown25_calls _).mono ?_
    rintro e w1 ⟨rfl, hb1⟩
    have HB1 := hide (HB0.out.trans (hb1.mono HB0.out.size))
    clear hb1 
    go_wp2_with fail
    go_ret
    exact ⟨rfl, HB1.out⟩
  have g2b := decide_eq_false g2
  have hq : q.size ≤ 300 := by omega
  have HM := hide (mid_of HLI2.out HOK.out).1
  have HC1 := hide (fun w h => bBuild_calls (w := w) (A := A) k (by omega) cap h HM.out)
  obtain ⟨g, hg⟩ : ∃ g, rightM l = g := ⟨_, rfl⟩
  cases g
  · have HCB := hide (fun w h => build_post (build_no hg k) (HC1.out w h))
    clear hg HC1
    go_enter Try.func6, Try.ntmps6
    go_wp2_with fail
    refine HLI.out.mono ?_
    rintro e w' ⟨rfl, rfl⟩
    go_wp2_with fail
    rw [hw0.out]
    refine (HCB.out _ HR_0.out).mono ?_
    rintro e w1 ⟨rfl, hb1⟩
    have HB1 := hide (HB0.out.trans (hb1.mono HB0.out.size))
    clear hb1 
    go_wp2_with fail
    refine (lknown25_calls _).mono ?_
    rintro e w2 ⟨rfl, hb2⟩
    have HB2 := hide (HB1.out.trans (hb2.mono HB1.out.size))
    clear hb2 
    go_wp2_with fail
    go_ret
    exact ⟨rfl, HB2.out⟩
  obtain ⟨S, hS⟩ : ∃ S : ByteArray, (buildM k l).1 = S := ⟨_, rfl⟩
  have hbs : buildM k l = (S, 0) := by rw [← hS, build_yes hg]
  have hsl : S.size ≤ 300000 := by rw [← hS]; exact build_len hg k
  have hsg : 38 ≤ S.size := by rw [← hS, build_size hg k]; omega
  have HCB := hide (fun w h => build_post hbs (HC1.out w h))
  have h38 : decide ((S.size : Int) < 38) = false := decide_eq_false (by omega)
  have HCT := hide (fun w => wCount_calls pos S.size (by omega) (by omega) (by omega) (by omega) w)
  obtain ⟨kk, hkk⟩ : ∃ kk : Nat, countM pos S.size = kk := ⟨(countM pos S.size).toNat, by
    have := Int.emod_nonneg (if pos < 0 then -(pos + 1) else pos) (by omega : (S.size : Int) ≠ 0)
    unfold countM
    omega⟩
  have hkl : kk < S.size := by
    have h1 := Int.emod_lt_of_pos (if pos < 0 then -(pos + 1) else pos) (by omega : 0 < (S.size : Int))
    unfold countM at hkk
    omega
  rw [hkk] at HCT
  clear hS hbs HC1 hg hkk
  go_enter Try.func6, Try.ntmps6
  go_wp2_with fail
  refine HLI.out.mono ?_
  rintro e w' ⟨rfl, rfl⟩
  go_wp2_with fail
  rw [hw0.out]
  refine (HCB.out _ HR_0.out).mono ?_
  rintro e w1 ⟨rfl, hb1⟩
  rw [hgc.out]
  have HC1 := hide (HC0.out.below hb1 HC0.out.lt)
  have HB1 := hide (HB0.out.trans (hb1.mono HB0.out.size))
  clear hb1 z0 z1 z2 z4 HC0 HB0 HR_0 HCB HLI
  have z2 : w1.cell? ⟨gc, 2, none⟩ = some (.int .i64 pos) := HC1.out.cell 2
  go_wp2_with fail
  refine (HCT.out _).mono ?_
  rintro e w2 ⟨rfl, rfl⟩
  have HCD : Hid (Blk w1.drew gc 38 #[.string k, .slice A l.length cap, .int .i64 pos, .int .u8 (b.toNat : Int), .string q]) := hide HC1.out
  have HBD := hide HB1.out.drew
  clear z2 HC1 HB1 HCT h38
  go_wp2_with fail
  have hk0 : (0 : Int) ≤ (kk : Int) := by omega
  have hk1 : (kk : Int) ≤ (S.size : Int) := by omega
  have hk2 : (0 : Int) ≤ (kk : Int) + 1 := by omega
  have hk3 : (kk : Int) + 1 ≤ (S.size : Int) := by omega
  have hk4 : IntKind.i64.wrap ((kk : Int) + 1) = (kk : Int) + 1 := IntWalk.i64_in _ (by omega)
  have hk5 : ((kk : Int) + 1).toNat = kk + 1 := by omega
  obtain ⟨sp, hsp⟩ : ∃ p, S.extract 0 kk = p := ⟨_, rfl⟩
  obtain ⟨se, hse⟩ : ∃ p, S.extract (kk + 1) S.size = p := ⟨_, rfl⟩
  have hsp2 : sp.size ≤ 300000 := by rw [← hsp, ByteArray.size_extract]; omega
  have hse2 : se.size ≤ 300000 := by rw [← hse, ByteArray.size_extract]; omega
  have HSP := hide hsp
  have HSE := hide hse
  have hb1 : (⟨#[b]⟩ : ByteArray).size = 1 := rfl
  have e1 : ¬ 9223372036854775807 < sp.size + 1 := by omega
  have e2 : ¬ 9223372036854775807 < sp.size + 1 + se.size := by omega
  clear hsp hse
  refine wp_region_heads [0, 1, 2, 3, 4, 8, 9, 10, 11] 5 (fun w' => Blk w' gc 38 #[.string k, .slice A l.length cap, .int .i64 pos, .int .u8 (b.toNat : Int), .string q]) (by kernel_rfl) rfl (by kernel_rfl) (by kernel_rfl) (fun _ _ d _ _ h => by cases d <;> exact h) HCD.out ?_
  iterate 9
    refine' Heads.step rfl (by rfl) ?_ ?_
    rotate_left
    · intro w' hSw
      have q0 : w'.cell? ⟨gc, 0, none⟩ = some (.string k) := Blk.cell hSw 0; have q3 : w'.cell? ⟨gc, 3, none⟩ = some (.int .u8 (b.toNat : Int)) := Blk.cell hSw 3; have q4 : w'.cell? ⟨gc, 4, none⟩ = some (.string q) := Blk.cell hSw 4
      go_simp
      try with_reducible rfl
    simp only [Act.put, List.setIfInBounds_toArray, List.set_cons_zero, List.set_cons_succ]
  refine Heads.done ?_
  obtain ⟨wx, hwx⟩ : ∃ wx, Hid (w1.drew = wx) := ⟨_, hide rfl⟩
  rw [hwx.out]
  rw [hwx.out] at HCD HBD
  have HCE := hide (HCD.out.alloc (.cells #[.int .u8 (b.toNat : Int)] 5))
  have HBE := hide (HBD.out.alloc HBD.out.size (.cells #[.int .u8 (b.toNat : Int)] 5))
  have hcv := conv_bytes (P := Try.prog) (wx.alloc (.cells #[.int .u8 (b.toNat : Int)] 5)) 40 9 5 ⟨wx.heap.size, 0, none⟩ 1 [b] Try.underlying40 Try.underlying5 Try.underlying9 (fun j hj => by obtain rfl : j = 0 := (by simpa using hj); rw [add_plain, Blk.cell (Blk.new wx 5 #[.int .u8 (b.toNat : Int)]) 0]; rfl)
  simp only [List.length_singleton] at hcv
  rw [HSP.out, HSE.out]
  refine wpAnyH_ready (rs := [5]) (by kernel_rfl) (by simp) (AllReadyH.cons rfl (fun K hK => ?_) AllReadyH.nil)
  go_simp
  refine hK.out _ _ HCE.out (fun hHeld1 => ?_)
  clear hK K
  refine wpAnyH_ready (rs := [6]) (by kernel_rfl) (by simp) (AllReadyH.cons rfl (fun K hK => ?_) AllReadyH.nil)
  go_simp
  refine hK.out _ _ HCE.out (fun hHeld2 => ?_)
  clear hK K
  refine wpAnyH_more [7, 12, 13] 0 rfl (by kernel_rfl) (by kernel_rfl) (fun _ _ d _ _ h => by cases d <;> exact h) HCE.out ?_
  iterate 3
    refine' Heads.step rfl (by rfl) ?_ ?_
    rotate_left
    · intro w' hSw
      have q0 : w'.cell? ⟨gc, 0, none⟩ = some (.string k) := Blk.cell hSw 0; have q3 : w'.cell? ⟨gc, 3, none⟩ = some (.int .u8 (b.toNat : Int)) := Blk.cell hSw 3; have q4 : w'.cell? ⟨gc, 4, none⟩ = some (.string q) := Blk.cell hSw 4
      go_simp
      try with_reducible rfl
    simp only [Act.put, List.setIfInBounds_toArray, List.set_cons_zero, List.set_cons_succ]
  refine Heads.done ?_
  refine wpAnyH_done (by kernel_rfl) ?_ _
  obtain ⟨t0, ht0⟩ : ∃ t, sp ++ ⟨#[b]⟩ ++ se = t := ⟨_, rfl⟩
  have hts0 : t0.size ≤ 600001 := by rw [← ht0, ByteArray.size_append, ByteArray.size_append, hb1]; omega
  rw [ht0]
  clear ht0 e1 e2 hcv hb1
  generalize (wx.alloc (.cells #[.int .u8 (b.toNat : Int)] 5)) = w3 at *
  go_wp2_with fail
  have e3 : ¬ 9223372036854775807 < S.size + q.size := by omega
  have e4 : ¬ 9223372036854775807 < t0.size + q.size := by omega
  have HCF : Hid (Blk w3.drew gc 38 #[.string k, .slice A l.length cap, .int .i64 pos, .int .u8 (b.toNat : Int), .string q]) := hide HCE.out
  have HBF := hide HBE.out.drew
  refine wp_region_heads [0, 1, 2, 3, 4, 5, 6, 7, 8, 9, 10, 11] 2 (fun w' => Blk w' gc 38 #[.string k, .slice A l.length cap, .int .i64 pos, .int .u8 (b.toNat : Int), .string q]) (by kernel_rfl) rfl (by kernel_rfl) (by kernel_rfl) (fun _ _ d _ _ h => by cases d <;> exact h) HCF.out ?_
  iterate 12
    refine' Heads.step rfl (by rfl) ?_ ?_
    rotate_left
    · intro w' hSw
      have q0 : w'.cell? ⟨gc, 0, none⟩ = some (.string k) := Blk.cell hSw 0; have q3 : w'.cell? ⟨gc, 3, none⟩ = some (.int .u8 (b.toNat : Int)) := Blk.cell hSw 3; have q4 : w'.cell? ⟨gc, 4, none⟩ = some (.string q) := Blk.cell hSw 4
      go_simp
      try with_reducible rfl
    simp only [Act.put, List.setIfInBounds_toArray, List.set_cons_zero, List.set_cons_succ]
  refine Heads.done ?_
  obtain ⟨t2, ht2⟩ : ∃ t, S ++ q = t := ⟨_, rfl⟩
  have hts2 : t2.size ≤ 600001 := by rw [← ht2, ByteArray.size_append]; omega
  obtain ⟨t3, ht3⟩ : ∃ t, t0 ++ q = t := ⟨_, rfl⟩
  have hts3 : t3.size ≤ 900001 := by rw [← ht3, ByteArray.size_append]; omega
  rw [ht2, ht3, HSP.out]
  clear ht2 ht3 e3 e4
  obtain ⟨wy, hwy⟩ : ∃ wy, Hid (w3.drew = wy) := ⟨_, hide rfl⟩
  rw [hwy.out] at HCF HBF ⊢
  have HCG := hide (HCF.out.alloc (.cells #[.string t0, .string sp, .string t2, .string t3] 9))
  have HBG := hide (HBF.out.alloc HBF.out.size (.cells #[.string t0, .string sp, .string t2, .string t3] 9))
  have HL0 := hide (Blk.new wy 9 #[.string t0, .string sp, .string t2, .string t3])
  refine wpAnyH_ready (rs := [12]) (by kernel_rfl) (by simp) (AllReadyH.cons rfl (fun K hK => ?_) AllReadyH.nil)
  go_simp
  refine hK.out _ _ HCG.out (fun hHeld1 => ?_)
  clear hK K
  refine wpAnyH_more [13] 0 rfl (by kernel_rfl) (by kernel_rfl) (fun _ _ d _ _ h => by cases d <;> exact h) HCG.out ?_
  iterate 1
    refine' Heads.step rfl (by rfl) ?_ ?_
    rotate_left
    · intro w' hSw
      have q0 : w'.cell? ⟨gc, 0, none⟩ = some (.string k) := Blk.cell hSw 0; have q3 : w'.cell? ⟨gc, 3, none⟩ = some (.int .u8 (b.toNat : Int)) := Blk.cell hSw 3; have q4 : w'.cell? ⟨gc, 4, none⟩ = some (.string q) := Blk.cell hSw 4
      go_simp
      try with_reducible rfl
    simp only [Act.put, List.setIfInBounds_toArray, List.set_cons_zero, List.set_cons_succ]
  refine Heads.done ?_
  refine wpAnyH_done (by kernel_rfl) ?_ _
  obtain ⟨gl, hgl⟩ : ∃ g, Hid (wy.heap.size = g) := ⟨_, hide rfl⟩
  rw [hgl.out] at HL0 ⊢
  generalize (wy.alloc (.cells #[.string t0, .string sp, .string t2, .string t3] 9)) = w4 at *
  clear hwy hgl HCF HBF HCE HBE hwx HCD HBD
  go_wp2_with fail
  go_loopw [8] (fun i wr => ∃ j : Nat, j ≤ 4 ∧ i = .int .i64 (j : Int) ∧ Hid (Below w.heap.size w wr) ∧ Hid (Blk wr gc 38 #[.string k, .slice A l.length cap, .int .i64 pos, .int .u8 (b.toNat : Int), .string q]) ∧ Hid (Blk wr gl 9 #[.string t0, .string sp, .string t2, .string t3])) (fun i _ => 4 - (intOf i).toNat)
  case atStart => exact ⟨0, by omega, rfl, HBG, HCG, HL0⟩
  case round =>
    clear HBG HCG HL0
    obtain ⟨j, hj, rfl, HBW, HCW, HLW⟩ := hrel
    by_cases hlt : j < 4
    · have hjI : (j : Int) < 4 := by omega
      have hj0 : (0 : Int) ≤ (j : Int) := by omega
      obtain ⟨y, hy, hy4⟩ := four (t0 := t0) (t1 := sp) (t2 := t2) (t3 := t3) hlt
      have HJ := hide hy
      have hys : y.size ≤ 900001 := by rcases hy4 with rfl | rfl | rfl | rfl <;> omega
      clear hy4 hy
      obtain ⟨lx, cx, hpx⟩ : ∃ lx cx, parseM k y = (lx, cx) := ⟨_, _, rfl⟩
      have HPY := hide (fun w => parse_post hpx (bParse_calls k y (Nat.le_trans hk (by decide)) (by omega) w))
      go_wp2_with fail
      refine wp_region_heads [0, 1, 2, 3, 4, 5] 6 (fun w' => Blk w' gc 38 #[.string k, .slice A l.length cap, .int .i64 pos, .int .u8 (b.toNat : Int), .string q] ∧ Blk w' gl 9 #[.string t0, .string sp, .string t2, .string t3]) (by kernel_rfl) rfl (by kernel_rfl) (by kernel_rfl) (fun _ _ d _ _ h => by cases d <;> exact h) ⟨HCW.out, HLW.out⟩ ?_
      iterate 6
        refine' Heads.step rfl (by rfl) ?_ ?_
        rotate_left
        · intro w' hSw
          obtain ⟨hSa, hSb⟩ := hSw; have q0 : w'.cell? ⟨gc, 0, none⟩ = some (.string k) := Blk.cell hSa 0; have q1 : w'.cell? ⟨gl, j, none⟩ = some (.string y) := (Blk.cell hSb j).trans HJ.out
          go_simp
          try with_reducible rfl
        simp only [Act.put, List.setIfInBounds_toArray, List.set_cons_zero, List.set_cons_succ]
      refine Heads.done ?_
      refine wpAnyH_ready (rs := [6]) (by kernel_rfl) (by simp) (AllReadyH.cons rfl (fun K hK => ?_) AllReadyH.nil)
      go_simp
      refine (HPY.out _).mono ?_
      rintro e w5 ⟨A5, c5, rfl, _, hb5⟩
      have HCX := hide (Blk.below (w := wr.drew) HCW.out hb5 HCW.out.lt)
      have HLX := hide (Blk.below (w := wr.drew) HLW.out hb5 HLW.out.lt)
      have HBX := hide (HBW.out.drew.trans (hb5.mono HBW.out.size))
      clear hb5
      refine hK.out _ _ ⟨HCX.out, HLX.out⟩ (fun hHeld1 => ?_)
      clear hK K
      refine wpAnyH_more [7, 8, 9, 10, 11] 0 rfl (by kernel_rfl) (by kernel_rfl) (fun _ _ d _ _ h => by cases d <;> exact h) hHeld1 ?_
      iterate 5
        refine' Heads.step rfl (by rfl) ?_ ?_
        rotate_left
        · intro w' hSw
          obtain ⟨hSa, hSb⟩ := hSw; have q0 : w'.cell? ⟨gc, 0, none⟩ = some (.string k) := Blk.cell hSa 0; have q1 : w'.cell? ⟨gl, j, none⟩ = some (.string y) := (Blk.cell hSb j).trans HJ.out
          go_simp
          try with_reducible rfl
        simp only [Act.put, List.setIfInBounds_toArray, List.set_cons_zero, List.set_cons_succ]
      refine Heads.done ?_
      refine wpAnyH_done (by kernel_rfl) ?_ _
      have y1 : w5.cell? ⟨gl, j, none⟩ = some (.string y) := (HLX.out.cell j).trans HJ.out
      by_cases hn : (y.size : Int) - 32 < 6
      · have hcx : cx = 2 := by
          have h1 := (parse_short_iff k y).2 (by omega)
          rw [hpx] at h1
          exact h1
        subst hcx
        have hn2 : decide (6 ≤ (y.size : Int) - 32) = false := decide_eq_false (by omega)
        clear hpx
        go_wp2_with fail
        clear y1
        refine wp_region_heads [0, 1, 2, 3, 4, 5, 6, 7, 8, 9, 10, 11, 12, 13, 14, 15, 16, 17, 18, 19, 20] 0 (fun w' => Blk w' gc 38 #[.string k, .slice A l.length cap, .int .i64 pos, .int .u8 (b.toNat : Int), .string q] ∧ Blk w' gl 9 #[.string t0, .string sp, .string t2, .string t3]) (by kernel_rfl) rfl (by kernel_rfl) (by kernel_rfl) (fun _ _ d _ _ h => by cases d <;> exact h) ⟨HCX.out, HLX.out⟩ ?_
        iterate 21
          first
          | refine' Heads.skip rfl (by rfl) ?_
          | (refine' Heads.step rfl (by rfl) ?_ ?_
             rotate_left
             · intro w' hSw
               obtain ⟨hSa, hSb⟩ := hSw; have q0 : w'.cell? ⟨gc, 0, none⟩ = some (.string k) := Blk.cell hSa 0; have q1 : w'.cell? ⟨gl, j, none⟩ = some (.string y) := (Blk.cell hSb j).trans HJ.out
               go_simp
               try with_reducible rfl)
          simp only [Act.put, List.setIfInBounds_toArray, List.set_cons_zero, List.set_cons_succ]
        refine Heads.done ?_
        refine wpAnyH_done (by kernel_rfl) ?_ _
        go_wp2_with fail
        refine ⟨⟨j + 1, by omega, by go_num, hide HBX.out.drew, hide HCX.out, hide HLX.out⟩, ?_⟩
        simp [intOf]
        omega
      obtain ⟨n, hyn⟩ : ∃ n : Nat, y.size = n + 32 := ⟨y.size - 32, by omega⟩
      have hnI : (y.size : Int) - 32 = (n : Int) := by omega
      have hn6 : 6 ≤ n := by omega
      have hn3 : ¬ (n : Int) < 6 := by omega
      have hn4 : (6 : Int) ≤ (n : Int) := by omega
      have hn0 : (0 : Int) ≤ (n : Int) := by omega
      have hns : (n : Int) ≤ (y.size : Int) := by omega
      have hn5 := decide_eq_true hn4
      have hn7 := decide_eq_false hn3
      obtain ⟨yp, hyp⟩ : ∃ p, y.extract 0 n = p := ⟨_, rfl⟩
      obtain ⟨yt, hyt⟩ : ∃ p, y.extract n (n + 32) = p := ⟨_, rfl⟩
      have hyps : yp.size ≤ 900001 := by rw [← hyp, ByteArray.size_extract]; omega
      have HTAG : Hid (cx = 17 ↔ ¬ yt = macB k yp) := hide (by
        have h1 := parse_tag (key := k) hyn hn6
        rw [hpx, hyp, hyt] at h1
        exact h1)
      have HNS : Hid (¬ cx = 2) := hide (fun e => by
        have h1 := (parse_short_iff k y).1 (by rw [hpx]; exact e)
        omega)
      have HYP := hide hyp
      have HYT : Hid (y.extract n y.size = yt) := hide (by rw [hyn]; exact hyt)
      have HMY := hide (rmOf_calls k yp (Nat.le_trans hk (by decide)) (by omega))
      obtain ⟨ym, hym⟩ : ∃ m, macB k yp = m := ⟨_, rfl⟩
      rw [hym] at HMY HTAG
      clear hym hyp hyt hpx hn hyn hn6
      go_wp2_with fail
      clear y1
      refine wp_region_heads [0, 1, 2, 3, 4, 5, 6, 7, 8, 9, 10, 11, 12, 13, 14, 15, 16] 4 (fun w' => Blk w' gc 38 #[.string k, .slice A l.length cap, .int .i64 pos, .int .u8 (b.toNat : Int), .string q] ∧ Blk w' gl 9 #[.string t0, .string sp, .string t2, .string t3]) (by kernel_rfl) rfl (by kernel_rfl) (by kernel_rfl) (fun _ _ d _ _ h => by cases d <;> exact h) ⟨HCX.out, HLX.out⟩ ?_
      iterate 17
        first
        | refine' Heads.skip rfl (by rfl) ?_
        | (refine' Heads.step rfl (by rfl) ?_ ?_
           rotate_left
           · intro w' hSw
             obtain ⟨hSa, hSb⟩ := hSw; have q0 : w'.cell? ⟨gc, 0, none⟩ = some (.string k) := Blk.cell hSa 0; have q1 : w'.cell? ⟨gl, j, none⟩ = some (.string y) := (Blk.cell hSb j).trans HJ.out
             go_simp
             try with_reducible rfl)
        simp only [Act.put, List.setIfInBounds_toArray, List.set_cons_zero, List.set_cons_succ]
      refine Heads.done ?_
      rw [HYP.out, HYT.out]
      refine wpAnyH_ready (rs := [17]) (by kernel_rfl) (by simp) (AllReadyH.cons rfl (fun K hK => ?_) AllReadyH.nil)
      go_simp
      refine (HMY.out _).mono ?_
      rintro e w6 ⟨rfl, hb6⟩
      have HC6 := hide (Blk.below (w := w5.drew) HCX.out hb6 HCX.out.lt)
      have HL6 := hide (Blk.below (w := w5.drew) HLX.out hb6 HLX.out.lt)
      have HB6 := hide (HBX.out.drew.trans (hb6.mono HBX.out.size))
      clear hb6
      refine hK.out _ _ ⟨HC6.out, HL6.out⟩ (fun hHeld1 => ?_)
      clear hK K
      refine wpAnyH_more [18, 19, 20] 0 rfl (by kernel_rfl) (by kernel_rfl) (fun _ _ d _ _ h => by cases d <;> exact h) hHeld1 ?_
      iterate 3
        first
        | refine' Heads.skip rfl (by rfl) ?_
        | (refine' Heads.step rfl (by rfl) ?_ ?_
           rotate_left
           · intro w' hSw
             obtain ⟨hSa, hSb⟩ := hSw; have q0 : w'.cell? ⟨gc, 0, none⟩ = some (.string k) := Blk.cell hSa 0; have q1 : w'.cell? ⟨gl, j, none⟩ = some (.string y) := (Blk.cell hSb j).trans HJ.out
             go_simp
             try with_reducible rfl)
        simp only [Act.put, List.setIfInBounds_toArray, List.set_cons_zero, List.set_cons_succ]
      refine Heads.done ?_
      refine wpAnyH_done (by kernel_rfl) ?_ _
      rw [lbeq]
      by_cases ht : yt = ym
      · have h17 : ¬ cx = 17 := fun e => HTAG.out.1 e ht
        have h2 := HNS.out
        rw [decide_eq_true ht]
        clear ht
        by_cases h0 : cx = 0
        · subst h0
          go_wp2_with fail
          refine ⟨⟨j + 1, by omega, by go_num, HB6, HC6, HL6⟩, ?_⟩
          simp [intOf]
          omega
        · have d0 : decide (cx = 0) = false := decide_eq_false h0
          have d17 : decide (cx = 17) = false := decide_eq_false h17
          have d2 : decide (cx = 2) = false := decide_eq_false h2
          have f0 : (cx == 0) = false := by simpa using h0
          have f17 : (cx == 17) = false := by simpa using h17
          have f2 : (cx == 2) = false := by simpa using h2
          go_wp2_with fail
          refine ⟨⟨j + 1, by omega, by go_num, HB6, HC6, HL6⟩, ?_⟩
          simp [intOf]
          omega
      · obtain rfl := HTAG.out.2 ht
        rw [decide_eq_false ht]
        clear ht
        go_wp2_with fail
        refine ⟨⟨j + 1, by omega, by go_num, HB6, HC6, HL6⟩, ?_⟩
        simp [intOf]
        omega
    · obtain rfl : j = 4 := by omega
      go_wp2_with fail
      have HB0 := HBW
      refine (lknown25_calls _).mono ?_
      rintro e w1 ⟨rfl, hb1⟩
      have HB1 := hide (HB0.out.trans (hb1.mono HB0.out.size))
      clear hb1 
      go_wp2_with fail
      go_ret
      exact ⟨rfl, HB1.out⟩
end Go.Proofs.Ytkipmbnmmbeeaaa
