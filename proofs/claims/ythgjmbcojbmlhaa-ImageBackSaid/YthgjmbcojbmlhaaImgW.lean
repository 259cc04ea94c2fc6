/- Chapter 14: the document's Build, walked. -/
import Derived.Test.YthgjmbcojbmlhaaImgV
namespace Go.Proofs.Ythgjmbcojbmlhaa
open Go.RowKit Zb

set_option maxRecDepth 20000 in
set_option maxHeartbeats 4000000 in
theorem rugBuild_calls {w : World} (u : UnitV) (hr : u.Reads w) (hs : UnitS u.m) (hc : UnitR u.m) : Calls Try.prog 11 #[.agg #[.string u.name, .int .i64 u.version, .slice u.uA u.uses.length u.uc, .int .i64 u.funs, .slice u.rA u.vs.length u.rc]] w fun e w' => e = .returned (.tuple #[.string (ubuild u.m).1, .int .i64 (ubuild u.m).2]) ∧ Below w.heap.size w w' := by
  obtain ⟨nm, ver, us, uA, uc, fu, vs, rA, rc⟩ := u
  have HB0 := hide ((Below.refl w.heap.size w).alloc (Nat.le_refl _) (.cells #[.string nm, .int .i64 ver, .slice uA us.length uc, .int .i64 fu, .slice rA vs.length rc] 25))
  have HK0 := hide (Blk.new w 25 #[.string nm, .int .i64 ver, .slice uA us.length uc, .int .i64 fu, .slice rA vs.length rc])
  have HRI := hide (rugRight_calls (w := w.alloc (.cells #[.string nm, .int .i64 ver, .slice uA us.length uc, .int .i64 fu, .slice rA vs.length rc] 25)) ⟨nm, ver, us, uA, uc, fu, vs, rA, rc⟩ (hr.below HB0.out) hs)
  have HRU := hide (show ReadsRows 3 UseM.cells w uA us from hr.uses)
  have HRP := hide (show ReadsRows 6 ProtoV.cells w rA vs from hr.protos)
  have HRE := hide (show ∀ v ∈ vs, v.Reads w from hr.each)
  have HCC := hide (show ∀ v ∈ vs, ProtoR v.p from fun v hv => hc v.p (List.mem_map_of_mem hv))
  dsimp only at HRI ⊢
  clear hr hs hc
  obtain ⟨ok, hok⟩ : ∃ z, unitOk (UnitV.m ⟨nm, ver, us, uA, uc, fu, vs, rA, rc⟩) = z := ⟨_, rfl⟩
  rw [hok] at HRI
  have HOK := hide hok
  have HE : Hid (ubuild (UnitV.m ⟨nm, ver, us, uA, uc, fu, vs, rA, rc⟩) = if ok then (unitB (UnitV.m ⟨nm, ver, us, uA, uc, fu, vs, rA, rc⟩), 0) else (⟨#[]⟩, 4)) := hide (by unfold ubuild; rw [hok])
  have HUB : Hid (unitB (UnitV.m ⟨nm, ver, us, uA, uc, fu, vs, rA, rc⟩) = ⟨#[67, 72, 82, 89]⟩ ++ textB nm ++ putB ver 4 ++ putB us.length 2 ++ catB useB us ++ putB fu 1 ++ putB vs.length 2 ++ catB protoB (vs.map (·.p))) := hide (by unfold unitB unitH; dsimp only [UnitV.m]; rw [List.length_map])
  generalize ubuild (UnitV.m ⟨nm, ver, us, uA, uc, fu, vs, rA, rc⟩) = res at *
  generalize unitB (UnitV.m ⟨nm, ver, us, uA, uc, fu, vs, rA, rc⟩) = ub at *
  clear hok
  go_enter Try.func11, Try.ntmps11
  go_wp2_with fail
  refine HRI.out.mono ?_
  rintro e w1 ⟨rfl, hb1⟩
  have HB1 := hide (HB0.out.trans (hb1.mono HB0.out.size))
  have HK1 := hide (HK0.out.below hb1 HK0.out.lt)
  clear hb1 HB0 HK0 HRI
  cases ok
  case false =>
    go_wp2_with fail
    go_ret2
    rw [HE.out]
    exact ⟨rfl, HB1.out⟩
  have hl := unit_lim HOK.out
  have hnl : nm.size ≤ 16 := hl.name
  have hver : 1 ≤ ver ∧ ver ≤ 2147483647 := hl.version
  have hfu : 0 ≤ fu ∧ fu ≤ 32 := hl.funs
  have hul : us.length ≤ 16 := hl.uses.1
  have hvl : vs.length ≤ 64 := by have := hl.protos.1; simpa [UnitV.m] using this
  have HUO : Hid (∀ x ∈ us, useOk x = true) := hide hl.uses.2
  have HPO : Hid (∀ v ∈ vs, ProtoL v.p) := hide fun v hv => by obtain ⟨top, h⟩ := hl.protos.2 v.p (List.mem_map_of_mem hv); exact proto_lim h
  have hulI : (us.length : Int) ≤ 16 := by omega
  have hvlI : (vs.length : Int) ≤ 64 := by omega
  have HT := hide (fun w1 => roText_calls nm (by omega) w1)
  have HN1 := hide (rugnum_calls ver (by omega) (by omega) 4)
  have HN2 := hide (rugnum_calls us.length (by omega) (by omega) 2)
  have HN3 := hide (rugnum_calls fu (by omega) (by omega) 1)
  have HN4 := hide (rugnum_calls vs.length (by omega) (by omega) 2)
  have t1 := textB_le8 nm (by omega)
  have t2 := putB_le8 ver 4
  have t3 := putB_le8 us.length 2
  have t4 := putB_le8 fu 1
  have t5 := putB_le8 vs.length 2
  generalize textB nm = a0 at *
  generalize putB ver 4 = a1 at *
  generalize putB us.length 2 = a2 at *
  generalize putB fu 1 = a3 at *
  generalize putB vs.length 2 = a4 at *
  clear hl HOK hnl hver hfu
  have e1 : ¬ 9223372036854775807 < (4 + a0.size) := by omega
  have e2 : ¬ 9223372036854775807 < (4 + a0.size + a1.size) := by omega
  have e3 : ¬ 9223372036854775807 < (4 + a0.size + a1.size + a2.size) := by omega
  have hm4 : (⟨#[67, 72, 82, 89]⟩ : ByteArray).size = 4 := rfl
  have HSZ : Hid ((⟨#[67, 72, 82, 89]⟩ ++ a0 ++ a1 ++ a2).size ≤ 1200) := hide (by simp only [ByteArray.size_append]; omega)
  clear hm4
  go_wp2_with fail
  refine wp_region_heads [0, 1, 4, 5, 8, 9, 10] 7 (fun w' => Below w.heap.size w w' ∧ Blk w' w.heap.size 25 #[.string nm, .int .i64 ver, .slice uA us.length uc, .int .i64 fu, .slice rA vs.length rc]) (by kernel_rfl) rfl (by kernel_rfl) (by kernel_rfl) (fun _ _ d _ _ h => by cases d <;> exact h) ⟨HB1.out.drew, HK1.out⟩ ?_
  iterate 7
    refine' Heads.step rfl (by rfl) ?_ ?_
    rotate_left
    · intro w' hSw
      obtain ⟨qb, qk⟩ := hSw
      have r0 : w'.cell? ⟨w.heap.size, 0, none⟩ = some (.string nm) := qk.cell 0
      have r1 : w'.cell? ⟨w.heap.size, 1, none⟩ = some (.int .i64 ver) := qk.cell 1
      have r2 : w'.cell? ⟨w.heap.size, 2, none⟩ = some (.slice uA us.length uc) := qk.cell 2
      go_simp
      try with_reducible rfl
    simp only [Act.put, List.setIfInBounds_toArray, List.set_cons_zero, List.set_cons_succ]
  refine Heads.done ?_
  refine wpAnyH_ready (rs := [2]) (by kernel_rfl) (by simp) (AllReadyH.cons rfl (fun K hK => ?_) AllReadyH.nil)
  go_simp
  refine (HT.out _).mono ?_
  rintro e w2 ⟨rfl, hb1⟩
  refine hK.out _ _ ⟨HB1.out.drew.trans (hb1.mono HB1.out.drew.size), (show Blk w1.drew w.heap.size 25 _ from HK1.out).below hb1 HK1.out.lt⟩ (fun hHeld1 => ?_)
  clear hK K
  refine wpAnyH_more [3] 5 rfl (by kernel_rfl) (by kernel_rfl) (fun _ _ d _ _ h => by cases d <;> exact h) hHeld1 ?_
  iterate 1
    refine' Heads.step rfl (by rfl) ?_ ?_
    rotate_left
    · intro w' hSw
      go_simp
      try with_reducible rfl
    simp only [Act.put, List.setIfInBounds_toArray, List.set_cons_zero, List.set_cons_succ]
  refine Heads.done ?_
  refine wpAnyH_ready (rs := [6]) (by kernel_rfl) (by simp) (AllReadyH.cons rfl (fun K hK => ?_) AllReadyH.nil)
  go_simp
  refine (HN1.out _).mono ?_
  rintro e w3 ⟨rfl, hb2⟩
  refine hK.out _ _ ⟨hHeld1.1.trans (hb2.mono hHeld1.1.size), hHeld1.2.below hb2 hHeld1.2.lt⟩ (fun hHeld2 => ?_)
  clear hK K
  refine wpAnyH_more [7] 3 rfl (by kernel_rfl) (by kernel_rfl) (fun _ _ d _ _ h => by cases d <;> exact h) hHeld2 ?_
  iterate 1
    refine' Heads.step rfl (by rfl) ?_ ?_
    rotate_left
    · intro w' hSw
      go_simp
      try with_reducible rfl
    simp only [Act.put, List.setIfInBounds_toArray, List.set_cons_zero, List.set_cons_succ]
  refine Heads.done ?_
  refine wpAnyH_ready (rs := [11]) (by kernel_rfl) (by simp) (AllReadyH.cons rfl (fun K hK => ?_) AllReadyH.nil)
  go_simp
  refine (HN2.out _).mono ?_
  rintro e w4 ⟨rfl, hb3⟩
  refine hK.out _ _ ⟨hHeld2.1.trans (hb3.mono hHeld2.1.size), hHeld2.2.below hb3 hHeld2.2.lt⟩ (fun hHeld3 => ?_)
  clear hK K
  refine wpAnyH_more [12, 13] 0 rfl (by kernel_rfl) (by kernel_rfl) (fun _ _ d _ _ h => by cases d <;> exact h) hHeld3 ?_
  iterate 2
    refine' Heads.step rfl (by rfl) ?_ ?_
    rotate_left
    · intro w' hSw
      go_simp
      try with_reducible rfl
    simp only [Act.put, List.setIfInBounds_toArray, List.set_cons_zero, List.set_cons_succ]
  refine Heads.done ?_
  refine wpAnyH_done (by kernel_rfl) ?_ _
  have HB2 := hide hHeld3.1
  have HK2 := hide hHeld3.2
  clear hHeld1 hHeld2 hHeld3 hb1 hb2 hb3 e1 e2 e3 t1 t2 t3 HN1 HN2 HT HB1 HK1
  have HB1 := HB2
  have HK1 := HK2
  clear HB2 HK2
  obtain ⟨hd, hhd⟩ : ∃ z, (⟨#[67, 72, 82, 89]⟩ ++ a0 ++ a1 ++ a2 : ByteArray) = z := ⟨_, rfl⟩
  have HHD : Hid (hd = ⟨#[67, 72, 82, 89]⟩ ++ a0 ++ a1 ++ a2) := hide hhd.symm
  rw [hhd] at HSZ ⊢
  clear hhd
  go_wp2_with fail
  go_loopw [5, 4] (fun i t wr => ∃ (k : Nat) (s : ByteArray), k ≤ us.length ∧ i = .int .i64 (k : Int) ∧ t = .string s ∧ Hid (s = hd ++ catB useB (us.take k)) ∧ Hid (s.size ≤ 1200 + k * 3000) ∧ Hid (Below w.heap.size w wr) ∧ Hid (Blk wr w.heap.size 25 #[.string nm, .int .i64 ver, .slice uA us.length uc, .int .i64 fu, .slice rA vs.length rc])) (fun i _ _ => us.length - (intOf i).toNat)
  case atStart => exact ⟨0, hd, by omega, rfl, rfl, hide (by show hd = hd ++ ⟨#[]⟩; rw [bemp]), hide (by have := HSZ.out; omega), HB1, HK1⟩
  case round =>
    clear HB1 HK1
    obtain ⟨k, s, hk, rfl, rfl, HP, HZ, HB, HK⟩ := hrel
    have hz := HZ.out
    by_cases hlt : k < us.length
    case pos =>
      have hkL : (k : Int) < (us.length : Int) := by omega
      have hk0 : (0 : Int) ≤ (k : Int) := by omega
      obtain ⟨x, hx⟩ : ∃ x, us[k]? = some x := ⟨_, List.getElem?_eq_getElem hlt⟩
      have HNX := hide (catB_take useB us k x hx)
      obtain ⟨ba, oa, hA, hal, hc⟩ := HRU.out k x hx
      have HX0 : Hid (∀ w1, Below w.heap.size w w1 → w1.cell? ⟨ba, oa + k * 3, none⟩ = some (.string x.mod)) := hide fun w1 h => (h.cell (p := ⟨ba, oa + k * 3, none⟩) hal).trans (hc 0 _ rfl)
      have HX1 : Hid (∀ w1, Below w.heap.size w w1 → w1.cell? ⟨ba, oa + k * 3 + 1, none⟩ = some (.string x.name)) := hide fun w1 h => (h.cell (p := ⟨ba, oa + k * 3 + 1, none⟩) hal).trans (hc 1 _ rfl)
      have HX2 : Hid (∀ w1, Below w.heap.size w w1 → w1.cell? ⟨ba, oa + k * 3 + 2, none⟩ = some (.int .i64 x.params)) := hide fun w1 h => (h.cell (p := ⟨ba, oa + k * 3 + 2, none⟩) hal).trans (hc 2 _ rfl)
      have HAA := hide hA
      have huo := HUO.out x (List.mem_of_getElem? hx)
      have hlm : x.mod.size ≤ 16 ∧ x.name.size ≤ 16 ∧ 0 ≤ x.params ∧ x.params ≤ 8 := by simp only [useOk, Bool.and_eq_true] at huo; exact ⟨name_lim huo.1.1, name_lim huo.1.2, in_lim huo.2⟩
      have HM1 := hide (fun w1 => roText_calls x.mod (by omega) w1)
      have HM2 := hide (fun w1 => roText_calls x.name (by omega) w1)
      have HM3 := hide (rugnum_calls x.params (by omega) (by omega) 1)
      have m1 := textB_le8 x.mod (by omega)
      have m2 := textB_le8 x.name (by omega)
      have m3 := putB_le8 x.params 1
      have HCB : Hid (useB x = textB x.mod ++ textB x.name ++ putB x.params 1) := hide rfl
      generalize textB x.mod = b1 at *
      generalize textB x.name = b2 at *
      generalize putB x.params 1 = b3 at *
      have s2 : wr.cell? ⟨w.heap.size, 2, none⟩ = some (.slice uA us.length uc) := HK.out.cell 2
      clear hA hc hx huo hlm hal
      have f1 : ¬ 9223372036854775807 < (s.size + b1.size) := by omega
      have f2 : ¬ 9223372036854775807 < (s.size + b1.size + b2.size) := by omega
      have f3 : ¬ 9223372036854775807 < (s.size + b1.size + b2.size + b3.size) := by omega
      go_wp2_with fail
      refine wp_region_heads [0, 1, 2, 3, 4, 5, 6, 9, 10, 11, 12, 13, 14, 17, 18, 19, 20, 21, 22] 7 (fun w' => Below w.heap.size w w' ∧ Blk w' w.heap.size 25 #[.string nm, .int .i64 ver, .slice uA us.length uc, .int .i64 fu, .slice rA vs.length rc]) (by kernel_rfl) rfl (by kernel_rfl) (by kernel_rfl) (fun _ _ d _ _ h => by cases d <;> exact h) ⟨HB.out.drew, HK.out⟩ ?_
      iterate 19
        refine' Heads.step rfl (by rfl) ?_ ?_
        rotate_left
        · intro w' hSw
          obtain ⟨qb, qk⟩ := hSw
          have r2 : w'.cell? ⟨w.heap.size, 2, none⟩ = some (.slice uA us.length uc) := qk.cell 2
          rw [HAA.out] at r2
          have p0 := HX0.out w' qb; have p1 := HX1.out w' qb; have p2 := HX2.out w' qb
          go_simp
          try with_reducible rfl
        simp only [Act.put, List.setIfInBounds_toArray, List.set_cons_zero, List.set_cons_succ]
      refine Heads.done ?_
      refine wpAnyH_ready (rs := [7]) (by kernel_rfl) (by simp) (AllReadyH.cons rfl (fun K hK => ?_) AllReadyH.nil)
      go_simp
      refine (HM1.out _).mono ?_
      rintro e w2 ⟨rfl, hb1⟩
      refine hK.out _ _ ⟨HB.out.drew.trans (hb1.mono HB.out.drew.size), (show Blk wr.drew w.heap.size 25 _ from HK.out).below hb1 HK.out.lt⟩ (fun hHeld1 => ?_)
      clear hK K
      refine wpAnyH_more [8] 5 rfl (by kernel_rfl) (by kernel_rfl) (fun _ _ d _ _ h => by cases d <;> exact h) hHeld1 ?_
      iterate 1
        refine' Heads.step rfl (by rfl) ?_ ?_
        rotate_left
        · intro w' hSw
          go_simp
          try with_reducible rfl
        simp only [Act.put, List.setIfInBounds_toArray, List.set_cons_zero, List.set_cons_succ]
      refine Heads.done ?_
      refine wpAnyH_ready (rs := [15]) (by kernel_rfl) (by simp) (AllReadyH.cons rfl (fun K hK => ?_) AllReadyH.nil)
      go_simp
      refine (HM2.out _).mono ?_
      rintro e w3 ⟨rfl, hb2⟩
      refine hK.out _ _ ⟨hHeld1.1.trans (hb2.mono hHeld1.1.size), hHeld1.2.below hb2 hHeld1.2.lt⟩ (fun hHeld2 => ?_)
      clear hK K
      refine wpAnyH_more [16] 3 rfl (by kernel_rfl) (by kernel_rfl) (fun _ _ d _ _ h => by cases d <;> exact h) hHeld2 ?_
      iterate 1
        refine' Heads.step rfl (by rfl) ?_ ?_
        rotate_left
        · intro w' hSw
          go_simp
          try with_reducible rfl
        simp only [Act.put, List.setIfInBounds_toArray, List.set_cons_zero, List.set_cons_succ]
      refine Heads.done ?_
      refine wpAnyH_ready (rs := [23]) (by kernel_rfl) (by simp) (AllReadyH.cons rfl (fun K hK => ?_) AllReadyH.nil)
      go_simp
      refine (HM3.out _).mono ?_
      rintro e w4 ⟨rfl, hb3⟩
      refine hK.out _ _ ⟨hHeld2.1.trans (hb3.mono hHeld2.1.size), hHeld2.2.below hb3 hHeld2.2.lt⟩ (fun hHeld3 => ?_)
      clear hK K
      refine wpAnyH_more [24, 25] 0 rfl (by kernel_rfl) (by kernel_rfl) (fun _ _ d _ _ h => by cases d <;> exact h) hHeld3 ?_
      iterate 2
        refine' Heads.step rfl (by rfl) ?_ ?_
        rotate_left
        · intro w' hSw
          go_simp
          try with_reducible rfl
        simp only [Act.put, List.setIfInBounds_toArray, List.set_cons_zero, List.set_cons_succ]
      refine Heads.done ?_
      refine wpAnyH_done (by kernel_rfl) ?_ _
      have HNEW : Hid (s ++ b1 ++ b2 ++ b3 = hd ++ catB useB (us.take (k + 1))) := hide (by rw [HNX.out, HP.out, HCB.out]; simp only [ByteArray.append_assoc])
      have HZN : Hid ((s ++ b1 ++ b2 ++ b3).size ≤ 1200 + (k + 1) * 3000) := hide (by simp only [ByteArray.size_append]; omega)
      clear HZ HP m1 m2 m3 hz
      go_wp2_with fail
      refine ⟨⟨k + 1, _, by omega, by go_num, rfl, HNEW, HZN, hide hHeld3.1, hide hHeld3.2⟩, ?_⟩
      simp [intOf]
      omega
    case neg =>
      obtain rfl : k = us.length := by omega
      rw [List.take_length] at HP
      have z2 : wr.cell? ⟨w.heap.size, 2, none⟩ = some (.slice uA us.length uc) := HK.out.cell 2
      have g1 : ¬ 9223372036854775807 < (s.size + a3.size) := by omega
      have g2 : ¬ 9223372036854775807 < (s.size + a3.size + a4.size) := by omega
      have HSZ2 : Hid ((s ++ a3 ++ a4).size ≤ 60000) := hide (by simp only [ByteArray.size_append]; omega)
      clear HSZ
      have HSZ := HSZ2
      clear HSZ2
      go_wp2_with fail
      clear z2
      refine wp_region_heads [0, 1, 2, 5, 6, 7] 5 (fun w' => Below w.heap.size w w' ∧ Blk w' w.heap.size 25 #[.string nm, .int .i64 ver, .slice uA us.length uc, .int .i64 fu, .slice rA vs.length rc]) (by kernel_rfl) rfl (by kernel_rfl) (by kernel_rfl) (fun _ _ d _ _ h => by cases d <;> exact h) ⟨HB.out.drew, HK.out⟩ ?_
      iterate 6
        refine' Heads.step rfl (by rfl) ?_ ?_
        rotate_left
        · intro w' hSw
          obtain ⟨qb, qk⟩ := hSw
          have r3 : w'.cell? ⟨w.heap.size, 3, none⟩ = some (.int .i64 fu) := qk.cell 3
          have r4 : w'.cell? ⟨w.heap.size, 4, none⟩ = some (.slice rA vs.length rc) := qk.cell 4
          go_simp
          try with_reducible rfl
        simp only [Act.put, List.setIfInBounds_toArray, List.set_cons_zero, List.set_cons_succ]
      refine Heads.done ?_
      refine wpAnyH_ready (rs := [3]) (by kernel_rfl) (by simp) (AllReadyH.cons rfl (fun K hK => ?_) AllReadyH.nil)
      go_simp
      refine (HN3.out _).mono ?_
      rintro e w2 ⟨rfl, hb1⟩
      refine hK.out _ _ ⟨HB.out.drew.trans (hb1.mono HB.out.drew.size), (show Blk wr.drew w.heap.size 25 _ from HK.out).below hb1 HK.out.lt⟩ (fun hHeld1 => ?_)
      clear hK K
      refine wpAnyH_more [4] 3 rfl (by kernel_rfl) (by kernel_rfl) (fun _ _ d _ _ h => by cases d <;> exact h) hHeld1 ?_
      iterate 1
        refine' Heads.step rfl (by rfl) ?_ ?_
        rotate_left
        · intro w' hSw
          go_simp
          try with_reducible rfl
        simp only [Act.put, List.setIfInBounds_toArray, List.set_cons_zero, List.set_cons_succ]
      refine Heads.done ?_
      refine wpAnyH_ready (rs := [8]) (by kernel_rfl) (by simp) (AllReadyH.cons rfl (fun K hK => ?_) AllReadyH.nil)
      go_simp
      refine (HN4.out _).mono ?_
      rintro e w3 ⟨rfl, hb2⟩
      refine hK.out _ _ ⟨hHeld1.1.trans (hb2.mono hHeld1.1.size), hHeld1.2.below hb2 hHeld1.2.lt⟩ (fun hHeld2 => ?_)
      clear hK K
      refine wpAnyH_more [9, 10] 0 rfl (by kernel_rfl) (by kernel_rfl) (fun _ _ d _ _ h => by cases d <;> exact h) hHeld2 ?_
      iterate 2
        refine' Heads.step rfl (by rfl) ?_ ?_
        rotate_left
        · intro w' hSw
          go_simp
          try with_reducible rfl
        simp only [Act.put, List.setIfInBounds_toArray, List.set_cons_zero, List.set_cons_succ]
      refine Heads.done ?_
      refine wpAnyH_done (by kernel_rfl) ?_ _
      have HB1 := hide hHeld2.1
      have HK1 := hide hHeld2.2
      clear hHeld1 hHeld2 hb1 hb2 HB HK HN3 HN4 t4 t5 hz HZ g1 g2
      obtain ⟨hd2, hhd⟩ : ∃ z, (s ++ a3 ++ a4 : ByteArray) = z := ⟨_, rfl⟩
      have HHD2 : Hid (hd2 = hd ++ catB useB us ++ a3 ++ a4) := hide (by rw [← hhd, HP.out])
      rw [hhd] at HSZ ⊢
      clear hhd HP hlt hk
      go_wp2_with fail
      go_loopw [6, 4] (fun i t wr => ∃ (k : Nat) (s : ByteArray), k ≤ vs.length ∧ i = .int .i64 (k : Int) ∧ t = .string s ∧ Hid (s = hd2 ++ catB protoB ((vs.map (·.p)).take k)) ∧ Hid (s.size ≤ 60000 + k * 300000) ∧ Hid (Below w.heap.size w wr) ∧ Hid (Blk wr w.heap.size 25 #[.string nm, .int .i64 ver, .slice uA us.length uc, .int .i64 fu, .slice rA vs.length rc])) (fun i _ _ => vs.length - (intOf i).toNat)
      case atStart => exact ⟨0, hd2, by omega, rfl, rfl, hide (by show hd2 = hd2 ++ ⟨#[]⟩; rw [bemp]), hide (by have := HSZ.out; omega), HB1, HK1⟩
      case round =>
        clear HB1 HK1
        obtain ⟨k, s, hk, rfl, rfl, HP, HZ, HB, HK⟩ := hrel
        have hz := HZ.out
        by_cases hlt : k < vs.length
        case pos =>
          have hkL : (k : Int) < (vs.length : Int) := by omega
          have hk0 : (0 : Int) ≤ (k : Int) := by omega
          obtain ⟨v, hv⟩ : ∃ x, vs[k]? = some x := ⟨_, List.getElem?_eq_getElem hlt⟩
          have HNX := hide (catB_take protoB (vs.map (·.p)) k v.p (by rw [List.getElem?_map, hv]; rfl))
          have hm := List.mem_of_getElem? hv
          obtain ⟨ba, oa, hA, hal, hc⟩ := HRP.out k v hv
          have x0 : wr.cell? ⟨ba, oa + k * 6, none⟩ = some (.string v.p.name) := (HB.out.cell (p := ⟨ba, oa + k * 6, none⟩) hal).trans (hc 0 _ rfl)
          have x1 : wr.cell? ⟨ba, oa + k * 6 + 1, none⟩ = some (.int .i64 v.p.params) := (HB.out.cell (p := ⟨ba, oa + k * 6 + 1, none⟩) hal).trans (hc 1 _ rfl)
          have x2 : wr.cell? ⟨ba, oa + k * 6 + 2, none⟩ = some (.int .i64 v.p.regs) := (HB.out.cell (p := ⟨ba, oa + k * 6 + 2, none⟩) hal).trans (hc 2 _ rfl)
          have x3 : wr.cell? ⟨ba, oa + k * 6 + 3, none⟩ = some (.slice v.cA v.p.code.length v.cc) := (HB.out.cell (p := ⟨ba, oa + k * 6 + 3, none⟩) hal).trans (hc 3 _ rfl)
          have x4 : wr.cell? ⟨ba, oa + k * 6 + 4, none⟩ = some (.slice v.kA v.p.consts.length v.kc) := (HB.out.cell (p := ⟨ba, oa + k * 6 + 4, none⟩) hal).trans (hc 4 _ rfl)
          have x5 : wr.cell? ⟨ba, oa + k * 6 + 5, none⟩ = some (.slice v.pA v.p.caps.length v.pc) := (HB.out.cell (p := ⟨ba, oa + k * 6 + 5, none⟩) hal).trans (hc 5 _ rfl)
          have s4 : wr.cell? ⟨w.heap.size, 4, none⟩ = some (.slice rA vs.length rc) := HK.out.cell 4
          rw [hA] at s4
          have HM := hide (ruglaid_calls v ((HRE.out v hm).below HB.out) (HPO.out v hm) (HCC.out v hm))
          have m1 := protoB_le (HPO.out v hm)
          generalize protoB v.p = b1 at *
          have f1 : ¬ 9223372036854775807 < (s.size + b1.size) := by omega
          clear hA hc hv hal hm
          go_wp2_with fail
          refine HM.out.mono ?_
          rintro e w2 ⟨rfl, hb⟩
          have HB2 := hide (HB.out.trans (hb.mono HB.out.size))
          have HK2 := hide (HK.out.below hb HK.out.lt)
          clear hb
          have HNEW : Hid ((s ++ b1 : ByteArray) = hd2 ++ catB protoB ((vs.map (·.p)).take (k + 1))) := hide (by rw [HNX.out, HP.out]; simp only [ByteArray.append_assoc])
          have HZN : Hid ((s ++ b1).size ≤ 60000 + (k + 1) * 300000) := hide (by simp only [ByteArray.size_append]; omega)
          clear HZ HP m1 hz HNX
          go_wp2_with fail
          refine ⟨⟨k + 1, _, by omega, by go_num, rfl, HNEW, HZN, HB2, HK2⟩, ?_⟩
          simp [intOf]
          omega
        case neg =>
          obtain rfl : k = vs.length := by omega
          rw [List.take_of_length_le (by rw [List.length_map]; omega)] at HP
          have z4 : wr.cell? ⟨w.heap.size, 4, none⟩ = some (.slice rA vs.length rc) := HK.out.cell 4
          have hres : s = ub := by rw [HP.out, HHD2.out, HUB.out, HHD.out]
          clear HP HZ hz
          subst hres
          go_wp2_with fail
          go_ret2
          rw [HE.out]
          exact ⟨rfl, HB.out⟩
end Go.Proofs.Ythgjmbcojbmlhaa
