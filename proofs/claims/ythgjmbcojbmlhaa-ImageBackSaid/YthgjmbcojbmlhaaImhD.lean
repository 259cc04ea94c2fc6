/- Chapter 14: the document's Same, Light, walked. -/
import Derived.Test.YthgjmbcojbmlhaaImhC
namespace Go.Proofs.Ythgjmbcojbmlhaa
open Go.RowKit Zb

set_option maxRecDepth 20000 in
set_option maxHeartbeats 8000000 in
theorem rugSame_calls {w : World} (x y : UnitV) (hx : x.Reads w) (hy : y.Reads w) (hs : UnitS x.m) : Calls Try.prog 16 #[.agg #[.string x.name, .int .i64 x.version, .slice x.uA x.uses.length x.uc, .int .i64 x.funs, .slice x.rA x.vs.length x.rc], .agg #[.string y.name, .int .i64 y.version, .slice y.uA y.uses.length y.uc, .int .i64 y.funs, .slice y.rA y.vs.length y.rc]] w fun e w' => e = .returned (.bool (decide (x.m = y.m))) ∧ Below w.heap.size w w' := by
  obtain ⟨r, hr⟩ : ∃ r, decide (x.m = y.m) = r := ⟨_, rfl⟩
  rw [hr]
  obtain ⟨xnm, xver, xus, xuA, xuc, xfu, xvs, xrA, xrc⟩ := x
  obtain ⟨ynm, yver, yus, yuA, yuc, yfu, yvs, yrA, yrc⟩ := y
  have HUX := hide (show ReadsRows 3 UseM.cells w xuA xus from hx.uses)
  have HRX := hide (show ReadsRows 6 ProtoV.cells w xrA xvs from hx.protos)
  have HEX := hide (show ∀ v ∈ xvs, v.Reads w from hx.each)
  have HUY := hide (show ReadsRows 3 UseM.cells w yuA yus from hy.uses)
  have HRY := hide (show ReadsRows 6 ProtoV.cells w yrA yvs from hy.protos)
  have HEY := hide (show ∀ v ∈ yvs, v.Reads w from hy.each)
  have l1 : xus.length ≤ 100000000 := hs.uses.1
  have l2 : xvs.length ≤ 100000000 := by have := hs.protos.1; simpa [UnitV.m] using this
  have HSV := hide (show ∀ v ∈ xvs, ProtoS v.p from fun v hv => hs.protos.2 v.p (List.mem_map_of_mem hv))
  dsimp only
  have HE : Hid (decide ((⟨xnm, xver, xus, xfu, xvs.map (·.p)⟩ : UnitM) = ⟨ynm, yver, yus, yfu, yvs.map (·.p)⟩) = r) := hide (by rw [← hr]; exact decide_eq_decide.2 Iff.rfl)
  clear hr hx hy hs
  simp only [UnitM.mk.injEq] at HE
  by_cases c : xnm = ynm
  case neg =>
    have e : r = false := by rw [← HE.out]; exact decide_eq_false fun e => c (by simp [e])
    subst e
    have HB0 : Hid (Below w.heap.size w ((w.alloc (.cells #[.string xnm, .int .i64 xver, .slice xuA xus.length xuc, .int .i64 xfu, .slice xrA xvs.length xrc] 25)).alloc (.cells #[.string ynm, .int .i64 yver, .slice yuA yus.length yuc, .int .i64 yfu, .slice yrA yvs.length yrc] 25))) := hide (((Below.refl _ _).alloc (Nat.le_refl _) _).alloc (by simp) _)
    obtain ⟨n1, n2⟩ := lbytes_ne c
    go_enter Try.func16, Try.ntmps16
    go_wp2_with fail
    go_ret
    exact ⟨rfl, HB0.out⟩
  subst c
  by_cases c : xver = yver
  case neg =>
    have e : r = false := by rw [← HE.out]; exact decide_eq_false fun e => c (by simp [e])
    subst e
    have HB0 : Hid (Below w.heap.size w ((w.alloc (.cells #[.string xnm, .int .i64 xver, .slice xuA xus.length xuc, .int .i64 xfu, .slice xrA xvs.length xrc] 25)).alloc (.cells #[.string xnm, .int .i64 yver, .slice yuA yus.length yuc, .int .i64 yfu, .slice yrA yvs.length yrc] 25))) := hide (((Below.refl _ _).alloc (Nat.le_refl _) _).alloc (by simp) _)
    have c1 : (xver == yver) = false := by simpa using c
    have c2 : decide (xver = yver) = false := decide_eq_false c
    go_enter Try.func16, Try.ntmps16
    go_wp2_with fail
    go_ret
    exact ⟨rfl, HB0.out⟩
  subst c
  by_cases c : xfu = yfu
  case neg =>
    have e : r = false := by rw [← HE.out]; exact decide_eq_false fun e => c (by simp [e])
    subst e
    have HB0 : Hid (Below w.heap.size w ((w.alloc (.cells #[.string xnm, .int .i64 xver, .slice xuA xus.length xuc, .int .i64 xfu, .slice xrA xvs.length xrc] 25)).alloc (.cells #[.string xnm, .int .i64 xver, .slice yuA yus.length yuc, .int .i64 yfu, .slice yrA yvs.length yrc] 25))) := hide (((Below.refl _ _).alloc (Nat.le_refl _) _).alloc (by simp) _)
    have c1 : (xfu == yfu) = false := by simpa using c
    have c2 : decide (xfu = yfu) = false := decide_eq_false c
    go_enter Try.func16, Try.ntmps16
    go_wp2_with fail
    go_ret
    exact ⟨rfl, HB0.out⟩
  subst c
  by_cases cus : xus.length = yus.length
  case neg =>
    have e : r = false := by rw [← HE.out]; exact decide_eq_false fun e => cus (by simp [e])
    subst e
    have HB0 : Hid (Below w.heap.size w ((w.alloc (.cells #[.string xnm, .int .i64 xver, .slice xuA xus.length xuc, .int .i64 xfu, .slice xrA xvs.length xrc] 25)).alloc (.cells #[.string xnm, .int .i64 xver, .slice yuA yus.length yuc, .int .i64 xfu, .slice yrA yvs.length yrc] 25))) := hide (((Below.refl _ _).alloc (Nat.le_refl _) _).alloc (by simp) _)
    have c1 : ¬ (xus.length : Int) = (yus.length : Int) := by omega
    have c2 : decide (xus.length = yus.length) = false := decide_eq_false cus
    go_enter Try.func16, Try.ntmps16
    go_wp2_with fail
    go_ret
    exact ⟨rfl, HB0.out⟩
  rw [← cus]
  have HLus := hide cus
  clear cus
  by_cases cvs : xvs.length = yvs.length
  case neg =>
    have e : r = false := by rw [← HE.out]; exact decide_eq_false fun e => cvs (by have := congrArg List.length e.2.2.2.2; simpa using this)
    subst e
    have HB0 : Hid (Below w.heap.size w ((w.alloc (.cells #[.string xnm, .int .i64 xver, .slice xuA xus.length xuc, .int .i64 xfu, .slice xrA xvs.length xrc] 25)).alloc (.cells #[.string xnm, .int .i64 xver, .slice yuA xus.length yuc, .int .i64 xfu, .slice yrA yvs.length yrc] 25))) := hide (((Below.refl _ _).alloc (Nat.le_refl _) _).alloc (by simp) _)
    have c1 : ¬ (xvs.length : Int) = (yvs.length : Int) := by omega
    have c2 : decide (xvs.length = yvs.length) = false := decide_eq_false cvs
    go_enter Try.func16, Try.ntmps16
    go_wp2_with fail
    go_ret
    exact ⟨rfl, HB0.out⟩
  rw [← cvs]
  have HLvs := hide cvs
  clear cvs
  have HB0 : Hid (Below w.heap.size w ((w.alloc (.cells #[.string xnm, .int .i64 xver, .slice xuA xus.length xuc, .int .i64 xfu, .slice xrA xvs.length xrc] 25)).alloc (.cells #[.string xnm, .int .i64 xver, .slice yuA xus.length yuc, .int .i64 xfu, .slice yrA xvs.length yrc] 25))) := hide (((Below.refl _ _).alloc (Nat.le_refl _) _).alloc (by simp) _)
  have HX0 : Hid (Blk ((w.alloc (.cells #[.string xnm, .int .i64 xver, .slice xuA xus.length xuc, .int .i64 xfu, .slice xrA xvs.length xrc] 25)).alloc (.cells #[.string xnm, .int .i64 xver, .slice yuA xus.length yuc, .int .i64 xfu, .slice yrA xvs.length yrc] 25)) w.heap.size 25 #[.string xnm, .int .i64 xver, .slice xuA xus.length xuc, .int .i64 xfu, .slice xrA xvs.length xrc]) := hide ((Blk.new w 25 #[.string xnm, .int .i64 xver, .slice xuA xus.length xuc, .int .i64 xfu, .slice xrA xvs.length xrc]).alloc _)
  have HY0 : Hid (Blk ((w.alloc (.cells #[.string xnm, .int .i64 xver, .slice xuA xus.length xuc, .int .i64 xfu, .slice xrA xvs.length xrc] 25)).alloc (.cells #[.string xnm, .int .i64 xver, .slice yuA xus.length yuc, .int .i64 xfu, .slice yrA xvs.length yrc] 25)) (w.heap.size + 1) 25 #[.string xnm, .int .i64 xver, .slice yuA xus.length yuc, .int .i64 xfu, .slice yrA xvs.length yrc]) := hide (by have := Blk.new (w.alloc (.cells #[.string xnm, .int .i64 xver, .slice xuA xus.length xuc, .int .i64 xfu, .slice xrA xvs.length xrc] 25)) 25 #[.string xnm, .int .i64 xver, .slice yuA xus.length yuc, .int .i64 xfu, .slice yrA xvs.length yrc]; simpa using this)
  go_enter Try.func16, Try.ntmps16
  go_wp2_with fail
  generalize hgq : w.heap.size + 1 = gq at *
  clear hgq
  go_loopw [5] (fun i wr => ∃ k : Nat, k ≤ xus.length ∧ i = .int .i64 (k : Int) ∧ Hid (Below w.heap.size w wr) ∧ Hid (Blk wr w.heap.size 25 #[.string xnm, .int .i64 xver, .slice xuA xus.length xuc, .int .i64 xfu, .slice xrA xvs.length xrc]) ∧ Hid (Blk wr gq 25 #[.string xnm, .int .i64 xver, .slice yuA xus.length yuc, .int .i64 xfu, .slice yrA xvs.length yrc]) ∧ Hid (∀ j, j < k → xus[j]? = yus[j]?)) (fun i _ => xus.length - (intOf i).toNat)
  case atStart => exact ⟨0, by omega, rfl, HB0, HX0, HY0, hide (fun j hj => absurd hj (Nat.not_lt_zero _))⟩
  case round =>
    clear HB0 HX0 HY0
    obtain ⟨k, hk, rfl, HB, HX, HY, HD⟩ := hrel
    have s0 : wr.cell? ⟨w.heap.size, 2, none⟩ = some (.slice xuA xus.length xuc) := HX.out.cell 2
    by_cases hlt : k < xus.length
    case pos =>
      obtain ⟨p, hp⟩ : ∃ p, xus[k]? = some p := ⟨_, List.getElem?_eq_getElem hlt⟩
      obtain ⟨q, hq⟩ : ∃ q, yus[k]? = some q := ⟨_, List.getElem?_eq_getElem (by have := HLus.out; omega)⟩
      have hkI : (k : Int) < (xus.length : Int) := by omega
      have hk0 : (0 : Int) ≤ (k : Int) := by omega
      obtain ⟨ba, oa, hA, hal, hc⟩ := HUX.out k p hp
      obtain ⟨bb, ob, hB, hbl, hd⟩ := HUY.out k q hq
      have HC : Hid (∀ w1, Below w.heap.size w w1 → ∀ j u, (UseM.cells p)[j]? = some u → w1.cell? ⟨ba, oa + (k * 3 + j), none⟩ = some u) := hide fun w1 h j u hu => (h.cell (p := ⟨ba, oa + (k * 3 + j), none⟩) hal).trans (hc j u hu)
      have HF : Hid (∀ w1, Below w.heap.size w w1 → ∀ j u, (UseM.cells q)[j]? = some u → w1.cell? ⟨bb, ob + (k * 3 + j), none⟩ = some u) := hide fun w1 h j u hu => (h.cell (p := ⟨bb, ob + (k * 3 + j), none⟩) hbl).trans (hd j u hu)
      have HA := hide hA
      have HBq := hide hB
      clear hc hd hA hB hal hbl
      go_wp2_with fail
      refine wp_region_heads [0, 1, 2, 3, 4, 5, 6, 7, 8, 9] 1 (fun w' => Below w.heap.size w w' ∧ Blk w' w.heap.size 25 #[.string xnm, .int .i64 xver, .slice xuA xus.length xuc, .int .i64 xfu, .slice xrA xvs.length xrc] ∧ Blk w' gq 25 #[.string xnm, .int .i64 xver, .slice yuA xus.length yuc, .int .i64 xfu, .slice yrA xvs.length yrc]) (by kernel_rfl) rfl (by kernel_rfl) (by kernel_rfl) (fun _ _ d _ _ h => by cases d <;> exact h) ⟨HB.out.drew, HX.out, HY.out⟩ ?_
      iterate 10
        refine' Heads.step rfl (by rfl) ?_ ?_
        rotate_left
        · intro w' hSw
          obtain ⟨qb, qx, qy⟩ := hSw
          have r1 : w'.cell? ⟨w.heap.size, 2, none⟩ = some (.slice xuA xus.length xuc) := qx.cell 2
          have r2 : w'.cell? ⟨gq, 2, none⟩ = some (.slice yuA xus.length yuc) := qy.cell 2
          rw [HA.out] at r1
          rw [HBq.out] at r2
          have p0 : w'.cell? ⟨ba, oa + k * 3, none⟩ = some (.string p.mod) := HC.out w' qb 0 _ rfl
          have p1 : w'.cell? ⟨ba, oa + k * 3 + 1, none⟩ = some (.string p.name) := HC.out w' qb 1 _ rfl
          have p2 : w'.cell? ⟨ba, oa + k * 3 + 2, none⟩ = some (.int .i64 p.params) := HC.out w' qb 2 _ rfl
          have q0 : w'.cell? ⟨bb, ob + k * 3, none⟩ = some (.string q.mod) := HF.out w' qb 0 _ rfl
          have q1 : w'.cell? ⟨bb, ob + k * 3 + 1, none⟩ = some (.string q.name) := HF.out w' qb 1 _ rfl
          have q2 : w'.cell? ⟨bb, ob + k * 3 + 2, none⟩ = some (.int .i64 q.params) := HF.out w' qb 2 _ rfl
          go_simp
          try with_reducible rfl
        simp only [Act.put, List.setIfInBounds_toArray, List.set_cons_zero, List.set_cons_succ]
      refine Heads.done ?_
      refine wpAnyH_more [10] 0 rfl (by kernel_rfl) (by kernel_rfl) (fun _ _ d _ _ h => by cases d <;> exact h) ⟨HB.out.drew, HX.out, HY.out⟩ ?_
      refine' Heads.step rfl (by rfl) ?_ ?_
      rotate_left
      · intro w' hSw
        exact exec_use_ne (p := p) (q := q) rfl rfl rfl
      simp only [Act.put, List.setIfInBounds_toArray, List.set_cons_zero, List.set_cons_succ]
      refine Heads.done ?_
      refine wpAnyH_done (by kernel_rfl) ?_ _
      by_cases hpq : p = q
      case neg =>
        have hd : decide (p = q) = false := by simp [hpq]
        have e : r = false := by rw [← HE.out]; exact decide_eq_false fun e => hpq (by rw [e.2.2.1, hq] at hp; exact (Option.some.inj hp).symm)
        subst e
        rw [hd]
        clear hd hpq
        go_wp2_with fail
        go_ret
        exact ⟨rfl, HB.out.drew⟩
      have hd : decide (p = q) = true := by simp [hpq]
      have HD2 : Hid (∀ j, j < k + 1 → xus[j]? = yus[j]?) := hide fun j hj => by
        by_cases h : j < k
        · exact HD.out j h
        · obtain rfl : j = k := by omega
          rw [hp, hq, hpq]
      rw [hd]
      clear hd hpq
      go_wp2_with fail
      refine ⟨⟨k + 1, by omega, by go_num, hide HB.out.drew, hide HX.out, hide HY.out, HD2⟩, ?_⟩
      simp [intOf]
      omega
    obtain rfl : k = xus.length := by omega
    have Eus := hide (ext14 HLus.out HD.out)
    clear HD
    go_wp2_with fail
    clear s0 hlt hk
    have HB0 := HB
    have HX0 := HX
    have HY0 := HY
    clear HB HX HY
    go_loopw [6] (fun i wr => ∃ k : Nat, k ≤ xvs.length ∧ i = .int .i64 (k : Int) ∧ Hid (Below w.heap.size w wr) ∧ Hid (Blk wr w.heap.size 25 #[.string xnm, .int .i64 xver, .slice xuA xus.length xuc, .int .i64 xfu, .slice xrA xvs.length xrc]) ∧ Hid (Blk wr gq 25 #[.string xnm, .int .i64 xver, .slice yuA xus.length yuc, .int .i64 xfu, .slice yrA xvs.length yrc]) ∧ Hid (∀ j, j < k → (xvs.map (·.p))[j]? = (yvs.map (·.p))[j]?)) (fun i _ => xvs.length - (intOf i).toNat)
    case atStart => exact ⟨0, by omega, rfl, HB0, HX0, HY0, hide (fun j hj => absurd hj (Nat.not_lt_zero _))⟩
    case round =>
      clear HB0 HX0 HY0
      obtain ⟨k, hk, rfl, HB, HX, HY, HD⟩ := hrel
      have s0 : wr.cell? ⟨w.heap.size, 4, none⟩ = some (.slice xrA xvs.length xrc) := HX.out.cell 4
      by_cases hlt : k < xvs.length
      case pos =>
        obtain ⟨p, hp⟩ : ∃ p, xvs[k]? = some p := ⟨_, List.getElem?_eq_getElem hlt⟩
        obtain ⟨q, hq⟩ : ∃ q, yvs[k]? = some q := ⟨_, List.getElem?_eq_getElem (by have := HLvs.out; omega)⟩
        have hkI : (k : Int) < (xvs.length : Int) := by omega
        have hk0 : (0 : Int) ≤ (k : Int) := by omega
        obtain ⟨ba, oa, hA, hal, hc⟩ := HRX.out k p hp
        obtain ⟨bb, ob, hB, hbl, hd⟩ := HRY.out k q hq
        have HC : Hid (∀ w1, Below w.heap.size w w1 → ∀ j u, (ProtoV.cells p)[j]? = some u → w1.cell? ⟨ba, oa + (k * 6 + j), none⟩ = some u) := hide fun w1 h j u hu => (h.cell (p := ⟨ba, oa + (k * 6 + j), none⟩) hal).trans (hc j u hu)
        have HF : Hid (∀ w1, Below w.heap.size w w1 → ∀ j u, (ProtoV.cells q)[j]? = some u → w1.cell? ⟨bb, ob + (k * 6 + j), none⟩ = some u) := hide fun w1 h j u hu => (h.cell (p := ⟨bb, ob + (k * 6 + j), none⟩) hbl).trans (hd j u hu)
        have HX9 := hide (fun w1 (h : Below w.heap.size w w1) => rugprotos_calls p q ((HEX.out p (List.mem_of_getElem? hp)).below h) ((HEY.out q (List.mem_of_getElem? hq)).below h) (HSV.out p (List.mem_of_getElem? hp)))
        have HA := hide hA
        have HBq := hide hB
        clear hc hd hA hB hal hbl
        go_wp2_with fail
        refine wp_region_heads [0, 1, 2, 3, 4, 5, 6, 7, 8, 9] 2 (fun w' => Below w.heap.size w w' ∧ Blk w' w.heap.size 25 #[.string xnm, .int .i64 xver, .slice xuA xus.length xuc, .int .i64 xfu, .slice xrA xvs.length xrc] ∧ Blk w' gq 25 #[.string xnm, .int .i64 xver, .slice yuA xus.length yuc, .int .i64 xfu, .slice yrA xvs.length yrc]) (by kernel_rfl) rfl (by kernel_rfl) (by kernel_rfl) (fun _ _ d _ _ h => by cases d <;> exact h) ⟨HB.out.drew, HX.out, HY.out⟩ ?_
        iterate 10
          refine' Heads.step rfl (by rfl) ?_ ?_
          rotate_left
          · intro w' hSw
            obtain ⟨qb, qx, qy⟩ := hSw
            have r1 : w'.cell? ⟨w.heap.size, 4, none⟩ = some (.slice xrA xvs.length xrc) := qx.cell 4
            have r2 : w'.cell? ⟨gq, 4, none⟩ = some (.slice yrA xvs.length yrc) := qy.cell 4
            rw [HA.out] at r1
            rw [HBq.out] at r2
            have p0 : w'.cell? ⟨ba, oa + k * 6, none⟩ = some (.string p.p.name) := HC.out w' qb 0 _ rfl
            have p1 : w'.cell? ⟨ba, oa + k * 6 + 1, none⟩ = some (.int .i64 p.p.params) := HC.out w' qb 1 _ rfl
            have p2 : w'.cell? ⟨ba, oa + k * 6 + 2, none⟩ = some (.int .i64 p.p.regs) := HC.out w' qb 2 _ rfl
            have p3 : w'.cell? ⟨ba, oa + k * 6 + 3, none⟩ = some (.slice p.cA p.p.code.length p.cc) := HC.out w' qb 3 _ rfl
            have p4 : w'.cell? ⟨ba, oa + k * 6 + 4, none⟩ = some (.slice p.kA p.p.consts.length p.kc) := HC.out w' qb 4 _ rfl
            have p5 : w'.cell? ⟨ba, oa + k * 6 + 5, none⟩ = some (.slice p.pA p.p.caps.length p.pc) := HC.out w' qb 5 _ rfl
            have q0 : w'.cell? ⟨bb, ob + k * 6, none⟩ = some (.string q.p.name) := HF.out w' qb 0 _ rfl
            have q1 : w'.cell? ⟨bb, ob + k * 6 + 1, none⟩ = some (.int .i64 q.p.params) := HF.out w' qb 1 _ rfl
            have q2 : w'.cell? ⟨bb, ob + k * 6 + 2, none⟩ = some (.int .i64 q.p.regs) := HF.out w' qb 2 _ rfl
            have q3 : w'.cell? ⟨bb, ob + k * 6 + 3, none⟩ = some (.slice q.cA q.p.code.length q.cc) := HF.out w' qb 3 _ rfl
            have q4 : w'.cell? ⟨bb, ob + k * 6 + 4, none⟩ = some (.slice q.kA q.p.consts.length q.kc) := HF.out w' qb 4 _ rfl
            have q5 : w'.cell? ⟨bb, ob + k * 6 + 5, none⟩ = some (.slice q.pA q.p.caps.length q.pc) := HF.out w' qb 5 _ rfl
            go_simp
            try with_reducible rfl
          simp only [Act.put, List.setIfInBounds_toArray, List.set_cons_zero, List.set_cons_succ]
        refine Heads.done ?_
        obtain ⟨rr, hrr⟩ : ∃ z, decide (p.p = q.p) = z := ⟨_, rfl⟩
        rw [hrr] at HX9
        have HRR := hide hrr
        clear hrr
        refine wpAnyH_ready (rs := [10]) (by kernel_rfl) (by simp) (AllReadyH.cons rfl (fun K hK => ?_) AllReadyH.nil)
        go_simp
        refine (HX9.out _ HB.out.drew).mono ?_
        rintro e w3 ⟨rfl, hb3⟩
        refine hK.out _ _ ⟨HB.out.drew.trans (hb3.mono HB.out.drew.size), (show Blk wr.drew w.heap.size 25 _ from HX.out).below hb3 HX.out.lt, (show Blk wr.drew gq 25 _ from HY.out).below hb3 HY.out.lt⟩ (fun hHeld1 => ?_)
        clear hK K
        refine wpAnyH_more [11] 0 rfl (by kernel_rfl) (by kernel_rfl) (fun _ _ d _ _ h => by cases d <;> exact h) hHeld1 ?_
        iterate 1
          refine' Heads.step rfl (by rfl) ?_ ?_
          rotate_left
          · intro w' hSw
            go_simp
            try with_reducible rfl
          simp only [Act.put, List.setIfInBounds_toArray, List.set_cons_zero, List.set_cons_succ]
        refine Heads.done ?_
        refine wpAnyH_done (by kernel_rfl) ?_ _
        have HB4 := hide hHeld1.1
        have HX4 := hide hHeld1.2.1
        have HY4 := hide hHeld1.2.2
        clear hHeld1 hb3
        have hp2 : (xvs.map (·.p))[k]? = some p.p := by rw [List.getElem?_map, hp]; rfl
        have hq2 : (yvs.map (·.p))[k]? = some q.p := by rw [List.getElem?_map, hq]; rfl
        have hp3 := hide hp2
        have hq3 := hide hq2
        clear hp2 hq2 hp hq
        cases rr
        case false =>
          have hpq : p.p ≠ q.p := of_decide_eq_false HRR.out
          have e : r = false := by rw [← HE.out]; exact decide_eq_false fun e => hpq (by have := hp3.out; rw [e.2.2.2.2, hq3.out] at this; exact (Option.some.inj this).symm)
          subst e
          clear hpq
          go_wp2_with fail
          go_ret
          exact ⟨rfl, HB4.out⟩
        have HD2 : Hid (∀ j, j < k + 1 → (xvs.map (·.p))[j]? = (yvs.map (·.p))[j]?) := hide fun j hj => by
          by_cases h : j < k
          · exact HD.out j h
          · obtain rfl : j = k := by omega
            rw [hp3.out, hq3.out, of_decide_eq_true HRR.out]
        go_wp2_with fail
        refine ⟨⟨k + 1, by omega, by go_num, HB4, HX4, HY4, HD2⟩, ?_⟩
        simp [intOf]
        omega
      obtain rfl : k = xvs.length := by omega
      have Evs := hide (ext14 (l := xvs.map (·.p)) (m := yvs.map (·.p)) (by rw [List.length_map, List.length_map]; exact HLvs.out) (fun j hj => HD.out j (by rw [List.length_map] at hj; exact hj)))
      have e : r = true := by rw [← HE.out]; exact decide_eq_true ⟨by trivial, by trivial, Eus.out, by trivial, Evs.out⟩
      subst e
      go_wp2_with fail
      go_ret
      exact ⟨rfl, HB.out⟩
/-- a proto, a unit small enough to be gone through -/
structure ProtoLt (p : ProtoM) : Prop where
  name : p.name.size ≤ 100
  code : p.code.length ≤ 9000
  consts : p.consts.length ≤ 300 ∧ ∀ c ∈ p.consts, c.s.size ≤ 2000
  caps : p.caps.length ≤ 300
structure UnitLt (u : UnitM) : Prop where
  name : u.name.size ≤ 100
  uses : u.uses.length ≤ 100 ∧ ∀ x ∈ u.uses, x.mod.size ≤ 100 ∧ x.name.size ≤ 100
  protos : u.protos.length ≤ 100 ∧ ∀ p ∈ u.protos, ProtoLt p
/-- what Light tells -/
def LtPost (u : UnitM) (w : World) : Ending → World → Prop := fun e w' => ∃ b : Bool, e = .returned (.bool b) ∧ (b = true → UnitLt u) ∧ Below w.heap.size w w'
set_option maxRecDepth 20000 in
set_option maxHeartbeats 8000000 in
theorem rugLight_calls {w : World} (u : UnitV) (hr : u.Reads w) : Calls Try.prog 8 #[.agg #[.string u.name, .int .i64 u.version, .slice u.uA u.uses.length u.uc, .int .i64 u.funs, .slice u.rA u.vs.length u.rc]] w (LtPost u.m w) := by
  obtain ⟨nm, ver, us, uA, uc, fu, vs, rA, rc⟩ := u
  have HRU := hide (show ReadsRows 3 UseM.cells w uA us from hr.uses)
  have HRP := hide (show ReadsRows 6 ProtoV.cells w rA vs from hr.protos)
  have HRE := hide (show ∀ v ∈ vs, v.Reads w from hr.each)
  clear hr
  dsimp only
  have HB0 := hide ((Below.refl w.heap.size w).alloc (Nat.le_refl _) (.cells #[.string nm, .int .i64 ver, .slice uA us.length uc, .int .i64 fu, .slice rA vs.length rc] 25))
  have HK0 := hide (Blk.new w 25 #[.string nm, .int .i64 ver, .slice uA us.length uc, .int .i64 fu, .slice rA vs.length rc])
  by_cases c0 : (100 : Int) < (us.length : Int)
  case pos =>
    have d0 := decide_eq_true c0
    have e0 : decide (100 < us.length) = true := decide_eq_true (by omega)
    go_enter Try.func8, Try.ntmps8
    go_wp2_with fail
    go_ret
    refine ⟨false, rfl, ?_, HB0.out⟩
    exact fun h => absurd h (by decide)
  have d0 := decide_eq_false c0
  have e0 : decide (100 < us.length) = false := decide_eq_false (by omega)
  have f0 : us.length ≤ 100 := by omega
  by_cases c1 : (100 : Int) < (vs.length : Int)
  case pos =>
    have d1 := decide_eq_true c1
    have e1 : decide (100 < vs.length) = true := decide_eq_true (by omega)
    go_enter Try.func8, Try.ntmps8
    go_wp2_with fail
    go_ret
    refine ⟨false, rfl, ?_, HB0.out⟩
    exact fun h => absurd h (by decide)
  have d1 := decide_eq_false c1
  have e1 : decide (100 < vs.length) = false := decide_eq_false (by omega)
  have f1 : vs.length ≤ 100 := by omega
  by_cases c2 : (100 : Int) < (nm.size : Int)
  case pos =>
    have d2 := decide_eq_true c2
    have e2 : decide (100 < nm.size) = true := decide_eq_true (by omega)
    go_enter Try.func8, Try.ntmps8
    go_wp2_with fail
    go_ret
    refine ⟨false, rfl, ?_, HB0.out⟩
    exact fun h => absurd h (by decide)
  have d2 := decide_eq_false c2
  have e2 : decide (100 < nm.size) = false := decide_eq_false (by omega)
  have f2 : nm.size ≤ 100 := by omega
  have HNM := hide f2
  go_enter Try.func8, Try.ntmps8
  go_wp2_with fail
  clear c2 d2 e2 f2
  go_loopw [3] (fun i wr => ∃ k : Nat, k ≤ us.length ∧ i = .int .i64 (k : Int) ∧ Hid (Below w.heap.size w wr) ∧ Hid (Blk wr w.heap.size 25 #[.string nm, .int .i64 ver, .slice uA us.length uc, .int .i64 fu, .slice rA vs.length rc]) ∧ Hid (∀ j x, j < k → us[j]? = some x → x.mod.size ≤ 100 ∧ x.name.size ≤ 100)) (fun i _ => us.length - (intOf i).toNat)
  case atStart => exact ⟨0, by omega, rfl, HB0, HK0, hide (fun j _ hj => absurd hj (Nat.not_lt_zero _))⟩
  case round =>
    clear HB0 HK0
    obtain ⟨k, hk, rfl, HB, HK, HD⟩ := hrel
    have s0 : wr.cell? ⟨w.heap.size, 2, none⟩ = some (.slice uA us.length uc) := HK.out.cell 2
    by_cases hlt : k < us.length
    case pos =>
      obtain ⟨x, hx⟩ : ∃ p, us[k]? = some p := ⟨_, List.getElem?_eq_getElem hlt⟩
      have hkI : (k : Int) < (us.length : Int) := by omega
      have hk0 : (0 : Int) ≤ (k : Int) := by omega
      obtain ⟨ba, oa, hA, _, hc⟩ := HRU.out.kept HB.out hx
      rw [hA] at s0
      clear hA
      have x0 : wr.cell? ⟨ba, oa + k * 3, none⟩ = some (.string x.mod) := hc 0 _ rfl
      have x1 : wr.cell? ⟨ba, oa + k * 3 + 1, none⟩ = some (.string x.name) := hc 1 _ rfl
      have HXX := hide hx
      clear hc hx
      obtain ⟨xm, xn, xp⟩ := x
      dsimp only at x0 x1
      by_cases c2 : (100 : Int) < (xm.size : Int)
      case pos =>
        have d2 := decide_eq_true c2
        have e2 : decide (100 < xm.size) = true := decide_eq_true (by omega)
        go_wp2_with fail
        go_ret
        refine ⟨false, rfl, ?_, HB.out⟩
        exact fun h => absurd h (by decide)
      have d2 := decide_eq_false c2
      have e2 : decide (100 < xm.size) = false := decide_eq_false (by omega)
      have f2 : xm.size ≤ 100 := by omega
      by_cases c3 : (100 : Int) < (xn.size : Int)
      case pos =>
        have d3 := decide_eq_true c3
        have e3 : decide (100 < xn.size) = true := decide_eq_true (by omega)
        go_wp2_with fail
        go_ret
        refine ⟨false, rfl, ?_, HB.out⟩
        exact fun h => absurd h (by decide)
      have d3 := decide_eq_false c3
      have e3 : decide (100 < xn.size) = false := decide_eq_false (by omega)
      have f3 : xn.size ≤ 100 := by omega
      have HD2 : Hid (∀ j y, j < k + 1 → us[j]? = some y → y.mod.size ≤ 100 ∧ y.name.size ≤ 100) := hide fun j y hj hy => by
        by_cases h : j < k
        · exact HD.out j y h hy
        · obtain rfl : j = k := by omega
          rw [HXX.out] at hy
          obtain rfl := Option.some.inj hy
          exact ⟨f2, f3⟩
      go_wp2_with fail
      refine ⟨⟨k + 1, by omega, by go_num, HB, HK, HD2⟩, ?_⟩
      simp [intOf]
      omega
    obtain rfl : k = us.length := by omega
    have HUS : Hid (∀ x ∈ us, x.mod.size ≤ 100 ∧ x.name.size ≤ 100) := hide fun x hx => by
      obtain ⟨j, hj⟩ := List.mem_iff_getElem?.1 hx
      exact HD.out j x (List.getElem?_eq_some_iff.1 hj).1 hj
    clear HD
    go_wp2_with fail
    clear s0 hlt hk
    have HB0 := HB
    have HK0 := HK
    clear HB HK
    go_loopw [5, 4, 6] (fun i t _ wr => ∃ (k n : Nat), k ≤ vs.length ∧ i = .int .i64 (k : Int) ∧ t = .int .i64 (n : Int) ∧ Hid (n ≤ k * 9300) ∧ Hid (Below w.heap.size w wr) ∧ Hid (Blk wr w.heap.size 25 #[.string nm, .int .i64 ver, .slice uA us.length uc, .int .i64 fu, .slice rA vs.length rc]) ∧ Hid (∀ j x, j < k → vs[j]? = some x → ProtoLt x.p)) (fun i _ _ _ => vs.length - (intOf i).toNat)
    case atStart => exact ⟨0, 0, by omega, rfl, rfl, hide (by omega), HB0, HK0, hide (fun j _ hj => absurd hj (Nat.not_lt_zero _))⟩
    case round =>
      clear HB0 HK0
      obtain ⟨k, n, hk, rfl, rfl, HZ, HB, HK, HD⟩ := hrel
      have s0 : wr.cell? ⟨w.heap.size, 4, none⟩ = some (.slice rA vs.length rc) := HK.out.cell 4
      by_cases hlt : k < vs.length
      case pos =>
        obtain ⟨v, hx⟩ : ∃ p, vs[k]? = some p := ⟨_, List.getElem?_eq_getElem hlt⟩
        have hkI : (k : Int) < (vs.length : Int) := by omega
        have hk0 : (0 : Int) ≤ (k : Int) := by omega
        obtain ⟨ba, oa, hA, _, hc⟩ := HRP.out.kept HB.out hx
        rw [hA] at s0
        clear hA
        have HVR := hide (HRE.out v (List.mem_of_getElem? hx)).consts
        have x0 : wr.cell? ⟨ba, oa + k * 6, none⟩ = some (.string v.p.name) := hc 0 _ rfl
        have x1 : wr.cell? ⟨ba, oa + k * 6 + 1, none⟩ = some (.int .i64 v.p.params) := hc 1 _ rfl
        have x2 : wr.cell? ⟨ba, oa + k * 6 + 2, none⟩ = some (.int .i64 v.p.regs) := hc 2 _ rfl
        have x3 : wr.cell? ⟨ba, oa + k * 6 + 3, none⟩ = some (.slice v.cA v.p.code.length v.cc) := hc 3 _ rfl
        have x4 : wr.cell? ⟨ba, oa + k * 6 + 4, none⟩ = some (.slice v.kA v.p.consts.length v.kc) := hc 4 _ rfl
        have x5 : wr.cell? ⟨ba, oa + k * 6 + 5, none⟩ = some (.slice v.pA v.p.caps.length v.pc) := hc 5 _ rfl
        have HXX := hide hx
        clear hc hx
        have HB1 := hide (HB.out.alloc HB.out.size (.cells #[.string v.p.name, .int .i64 v.p.params, .int .i64 v.p.regs, .slice v.cA v.p.code.length v.cc, .slice v.kA v.p.consts.length v.kc, .slice v.pA v.p.caps.length v.pc] 38))
        have HV1 := hide (Blk.new wr 38 #[.string v.p.name, .int .i64 v.p.params, .int .i64 v.p.regs, .slice v.cA v.p.code.length v.cc, .slice v.kA v.p.consts.length v.kc, .slice v.pA v.p.caps.length v.pc])
        have HK1 := hide (HK.out.alloc (.cells #[.string v.p.name, .int .i64 v.p.params, .int .i64 v.p.regs, .slice v.cA v.p.code.length v.cc, .slice v.kA v.p.consts.length v.kc, .slice v.pA v.p.caps.length v.pc] 38))
        obtain ⟨⟨pn, pp, pr, pcd, pks, pcs⟩, cA, cc, kA, kc, pA, pc⟩ := v
        dsimp only at x0 x1 x2 x3 x4 x5 HB1 HV1 HK1 HVR
        by_cases c2 : (100 : Int) < (pn.size : Int)
        case pos =>
          have d2 := decide_eq_true c2
          have e2 : decide (100 < pn.size) = true := decide_eq_true (by omega)
          go_wp2_with fail
          go_ret
          refine ⟨false, rfl, ?_, HB1.out⟩
          exact fun h => absurd h (by decide)
        have d2 := decide_eq_false c2
        have e2 : decide (100 < pn.size) = false := decide_eq_false (by omega)
        have f2 : pn.size ≤ 100 := by omega
        by_cases c3 : (300 : Int) < (pcs.length : Int)
        case pos =>
          have d3 := decide_eq_true c3
          have e3 : decide (300 < pcs.length) = true := decide_eq_true (by omega)
          go_wp2_with fail
          go_ret
          refine ⟨false, rfl, ?_, HB1.out⟩
          exact fun h => absurd h (by decide)
        have d3 := decide_eq_false c3
        have e3 : decide (300 < pcs.length) = false := decide_eq_false (by omega)
        have f3 : pcs.length ≤ 300 := by omega
        by_cases c4 : (300 : Int) < (pks.length : Int)
        case pos =>
          have d4 := decide_eq_true c4
          have e4 : decide (300 < pks.length) = true := decide_eq_true (by omega)
          go_wp2_with fail
          go_ret
          refine ⟨false, rfl, ?_, HB1.out⟩
          exact fun h => absurd h (by decide)
        have d4 := decide_eq_false c4
        have e4 : decide (300 < pks.length) = false := decide_eq_false (by omega)
        have f4 : pks.length ≤ 300 := by omega
        by_cases c5 : (9000 : Int) < (pcd.length : Int)
        case pos =>
          have d5 := decide_eq_true c5
          have e5 : decide (9000 < pcd.length) = true := decide_eq_true (by omega)
          go_wp2_with fail
          go_ret
          refine ⟨false, rfl, ?_, HB1.out⟩
          exact fun h => absurd h (by decide)
        have d5 := decide_eq_false c5
        have e5 : decide (9000 < pcd.length) = false := decide_eq_false (by omega)
        have f5 : pcd.length ≤ 9000 := by omega
        go_wp2_with fail
        clear c2 c3 d2 d3 e2 e3 x0 x1 x2 x3 x4 x5 s0
        obtain ⟨gv, hgv⟩ : ∃ z, Hid (wr.heap.size = z) := ⟨_, hide rfl⟩
        rw [hgv.out] at HV1 ⊢
        clear hgv
        go_loopw [7] (fun i wq => ∃ j : Nat, j ≤ pks.length ∧ i = .int .i64 (j : Int) ∧ Hid (Below w.heap.size w wq) ∧ Hid (Blk wq w.heap.size 25 #[.string nm, .int .i64 ver, .slice uA us.length uc, .int .i64 fu, .slice rA vs.length rc]) ∧ Hid (Blk wq gv 38 #[.string pn, .int .i64 pp, .int .i64 pr, .slice cA pcd.length cc, .slice kA pks.length kc, .slice pA pcs.length pc]) ∧ Hid (∀ m x, m < j → pks[m]? = some x → x.s.size ≤ 2000)) (fun i _ => pks.length - (intOf i).toNat)
        case atStart => exact ⟨0, by omega, rfl, HB1, HK1, HV1, hide (fun j _ hj => absurd hj (Nat.not_lt_zero _))⟩
        case round =>
          clear HB1 HK1 HV1
          obtain ⟨j, hj, rfl, HBq, HKq, HVq, HDq⟩ := hrel
          have s0 : wr.cell? ⟨gv, 4, none⟩ = some (.slice kA pks.length kc) := HVq.out.cell 4
          by_cases hjl : j < pks.length
          case pos =>
            obtain ⟨x, hx⟩ : ∃ p, pks[j]? = some p := ⟨_, List.getElem?_eq_getElem hjl⟩
            have hjI : (j : Int) < (pks.length : Int) := by omega
            have hj0 : (0 : Int) ≤ (j : Int) := by omega
            obtain ⟨bc, oc, hA, _, hc⟩ := HVR.out.kept HBq.out hx
            have y2 : wr.cell? ⟨bc, oc + j * 3 + 2, none⟩ = some (.string x.s) := hc 2 _ rfl
            have HXQ := hide hx
            have s1 := s0
            rw [hA] at s1
            clear hA hc hx s0
            obtain ⟨xk, xi, xs⟩ := x
            dsimp only at y2
            by_cases c6 : (2000 : Int) < (xs.size : Int)
            case pos =>
              have d6 := decide_eq_true c6
              have e6 : decide (2000 < xs.size) = true := decide_eq_true (by omega)
              go_wp2_with fail
              go_ret
              refine ⟨false, rfl, ?_, HBq.out⟩
              exact fun h => absurd h (by decide)
            have d6 := decide_eq_false c6
            have e6 : decide (2000 < xs.size) = false := decide_eq_false (by omega)
            have f6 : xs.size ≤ 2000 := by omega
            have HD2 : Hid (∀ m y, m < j + 1 → pks[m]? = some y → y.s.size ≤ 2000) := hide fun m y hm hy => by
              by_cases h : m < j
              · exact HDq.out m y h hy
              · obtain rfl : m = j := by omega
                rw [HXQ.out] at hy
                obtain rfl := Option.some.inj hy
                exact f6
            go_wp2_with fail
            refine ⟨⟨j + 1, by omega, by go_num, HBq, HKq, HVq, HD2⟩, ?_⟩
            simp [intOf]
            omega
          obtain rfl : j = pks.length := by omega
          have s3 : wr.cell? ⟨gv, 3, none⟩ = some (.slice cA pcd.length cc) := HVq.out.cell 3
          have hz := HZ.out
          have g1 : IntKind.i64.wrap ((n : Int) + (pcd.length : Int)) = ((n + pcd.length : Nat) : Int) := by rw [IntWalk.i64_in _ (by omega)]; omega
          have g2 : IntKind.i64.wrap (((n + pcd.length : Nat) : Int) + (pks.length : Int)) = ((n + pcd.length + pks.length : Nat) : Int) := by rw [IntWalk.i64_in _ (by omega)]; omega
          have g3 : RowKit.wrap64 ((n : Int) + (pcd.length : Int) + (pks.length : Int)) = ((n + pcd.length + pks.length : Nat) : Int) := by rw [IntWalk.wrap64_in _ ⟨by omega, by omega⟩]; omega
          have G3 := hide g3
          clear g3
          have HZN : Hid (n + pcd.length + pks.length ≤ (k + 1) * 9300) := hide (by omega)
          have HDN : Hid (∀ m y, m < k + 1 → vs[m]? = some y → ProtoLt y.p) := hide fun m y hm hy => by
            by_cases h : m < k
            · exact HD.out m y h hy
            · obtain rfl : m = k := by omega
              rw [HXX.out] at hy
              obtain rfl := Option.some.inj hy
              exact ⟨f2, f5, ⟨f4, fun x hx => by
                obtain ⟨q, hq⟩ := List.mem_iff_getElem?.1 hx
                exact HDq.out q x (List.getElem?_eq_some_iff.1 hq).1 hq⟩, f3⟩
          clear hz HZ
          go_wp2_with fail
          refine ⟨⟨k + 1, _, by omega, by go_num, congrArg (Value.int .i64) G3.out, HZN, HBq, HKq, HDN⟩, ?_⟩
          simp [intOf]
          omega
      obtain rfl : k = vs.length := by omega
      go_wp2_with fail
      go_ret
      refine ⟨_, rfl, fun _ => ⟨HNM.out, ⟨f0, HUS.out⟩, ⟨by dsimp only [UnitV.m]; rw [List.length_map]; exact f1, fun p hp => ?_⟩⟩, HB.out⟩
      obtain ⟨v, hv, rfl⟩ := List.mem_map.1 hp
      obtain ⟨j, hj⟩ := List.mem_iff_getElem?.1 hv
      exact HD.out j v (List.getElem?_eq_some_iff.1 hj).1 hj
end Go.Proofs.Ythgjmbcojbmlhaa
