/- Chapter 14: the document's Right, walked. -/
import Derived.Test.YthgjmbcojbmlhaaImgT
import Derived.Test.YthgjmbcojbmlhaaHeld
namespace Go.Proofs.Ythgjmbcojbmlhaa
open Go.RowKit Zb

set_option maxRecDepth 20000 in
theorem unitOk_flat (u : UnitM) : unitOk u = (nameM u.name && (inR u.version 1 2147483647 && (decide (u.uses.length ≤ 16) && (inR u.funs 0 32 && (decide (u.funs ≤ (u.protos.length : Int)) && (decide (u.protos.length ≤ 64) && (u.uses.all useOk && protosOk u.funs 0 u.protos))))))) := by
  have hm : inR u.funs 0 (min 32 (u.protos.length : Int)) = (inR u.funs 0 32 && decide (u.funs ≤ (u.protos.length : Int))) := by
    unfold inR
    rw [show decide (u.funs ≤ min 32 (u.protos.length : Int)) = (decide (u.funs ≤ 32) && decide (u.funs ≤ (u.protos.length : Int))) by rw [← Bool.decide_and, decide_eq_decide]; omega, Bool.and_assoc]
  unfold unitOk
  rw [hm]
  generalize nameM u.name = a1
  generalize inR u.version 1 2147483647 = a2
  generalize inR u.funs 0 32 = a3
  generalize decide (u.funs ≤ (u.protos.length : Int)) = a4
  generalize decide (u.uses.length ≤ 16) = a5
  generalize u.uses.all useOk = a6
  generalize decide (u.protos.length ≤ 64) = a7
  generalize protosOk u.funs 0 u.protos = a8
  cases a1 <;> cases a2 <;> cases a3 <;> cases a4 <;> cases a5 <;> cases a6 <;> cases a7 <;> cases a8 <;> rfl
set_option maxRecDepth 20000 in
set_option maxHeartbeats 4000000 in
theorem rugRight_calls {w : World} (u : UnitV) (hr : u.Reads w) (hs : UnitS u.m) : Calls Try.prog 13 #[.agg #[.string u.name, .int .i64 u.version, .slice u.uA u.uses.length u.uc, .int .i64 u.funs, .slice u.rA u.vs.length u.rc]] w fun e w' => e = .returned (.bool (unitOk u.m)) ∧ Below w.heap.size w w' := by
  obtain ⟨nm, ver, us, uA, uc, fu, vs, rA, rc⟩ := u
  have HE0 : Hid (unitOk (UnitV.m ⟨nm, ver, us, uA, uc, fu, vs, rA, rc⟩) = (nameM nm && (inR ver 1 2147483647 && (decide (us.length ≤ 16) && (inR fu 0 32 && (decide (fu ≤ (vs.length : Int)) && (decide (vs.length ≤ 64) && (us.all useOk && protosOk fu 0 (vs.map (·.p)))))))))) := hide ((unitOk_flat _).trans (by show (nameM nm && (inR ver 1 2147483647 && (decide (us.length ≤ 16) && (inR fu 0 32 && (decide (fu ≤ ((vs.map (·.p)).length : Int)) && (decide ((vs.map (·.p)).length ≤ 64) && (us.all useOk && protosOk fu 0 (vs.map (·.p))))))))) = _; rw [show decide ((vs.map (·.p)).length ≤ 64) = decide (vs.length ≤ 64) by rw [decide_eq_decide, List.length_map], show decide (fu ≤ ((vs.map (·.p)).length : Int)) = decide (fu ≤ (vs.length : Int)) by rw [decide_eq_decide, List.length_map]]))
  have HRU := hide hr.uses
  have HRV := hide hr.protos
  have HRE := hide hr.each
  have HSU : Hid (∀ x ∈ us, x.mod.size ≤ 100000000 ∧ x.name.size ≤ 100000000) := hide fun x hx => ⟨(hs.uses.2 x hx).1, (hs.uses.2 x hx).2.1⟩
  have HSV : Hid (∀ v ∈ vs, ProtoS v.p) := hide fun v hv => hs.protos.2 v.p (List.mem_map_of_mem hv)
  have HN := hide (fun w1 => rxName_calls nm (by have := hs.name; dsimp only [UnitV.m] at this; omega) w1)
  have hul : (us.length : Int) ≤ 100000000 := by have := hs.uses.1; dsimp only [UnitV.m] at this; omega
  have hvl : (vs.length : Int) ≤ 100000000 := by have := hs.protos.1; dsimp only [UnitV.m] at this; rw [List.length_map] at this; omega
  have HB0 := hide ((Below.refl w.heap.size w).alloc (Nat.le_refl _) (.cells #[.string nm, .int .i64 ver, .slice uA us.length uc, .int .i64 fu, .slice rA vs.length rc] 25))
  have HK0 := hide (Blk.new w 25 #[.string nm, .int .i64 ver, .slice uA us.length uc, .int .i64 fu, .slice rA vs.length rc])
  dsimp only at HRU HRV HRE ⊢
  generalize unitOk (UnitV.m ⟨nm, ver, us, uA, uc, fu, vs, rA, rc⟩) = res at *
  clear hr hs
  have HI := hide rugin_calls
  obtain ⟨g, hg⟩ : ∃ g, nameM nm = g := ⟨_, rfl⟩
  obtain ⟨g1, hg1⟩ : ∃ g, inR ver 1 2147483647 = g := ⟨_, rfl⟩
  obtain ⟨g2, hg2⟩ : ∃ g, inR fu 0 32 = g := ⟨_, rfl⟩
  rw [hg] at HN HE0
  have HI1 := hide (HI.out ver 1 2147483647)
  have HI2 := hide (HI.out fu 0 32)
  rw [hg1] at HE0 HI1
  rw [hg2] at HE0 HI2
  clear hg hg1 hg2
  go_enter Try.func13, Try.ntmps13
  go_wp2_with fail
  refine (HN.out _).mono ?_
  rintro e w1 ⟨rfl, hb1⟩
  have HB1 := hide (HB0.out.trans (hb1.mono HB0.out.size))
  have HK1 := hide (HK0.out.below hb1 HK0.out.lt)
  clear hb1 HB0 HK0
  have z1 : w1.cell? ⟨w.heap.size, 1, none⟩ = some (.int .i64 ver) := HK1.out.cell 1
  have z2 : w1.cell? ⟨w.heap.size, 2, none⟩ = some (.slice uA us.length uc) := HK1.out.cell 2
  have z3 : w1.cell? ⟨w.heap.size, 3, none⟩ = some (.int .i64 fu) := HK1.out.cell 3
  have z4 : w1.cell? ⟨w.heap.size, 4, none⟩ = some (.slice rA vs.length rc) := HK1.out.cell 4
  cases g
  case false =>
    have HE : Hid (res = false) := hide (by simp [HE0.out])
    go_wp2_with fail
    go_ret
    rw [HE.out]
    exact ⟨rfl, HB1.out⟩
  go_wp2_with fail
  refine (HI1.out _).mono ?_
  rintro e wx ⟨rfl, rfl⟩
  cases g1
  case false =>
    have HE : Hid (res = false) := hide (by simp [HE0.out])
    go_wp2_with fail
    go_ret
    rw [HE.out]
    exact ⟨rfl, HB1.out⟩
  by_cases c0 : (16 : Int) < (us.length : Int)
  case pos =>
    rw [decide_eq_false (by omega : ¬ us.length ≤ 16)] at HE0
    have d0 := decide_eq_true c0
    have e0 : decide (16 < us.length) = true := decide_eq_true (by omega)
    have HE : Hid (res = false) := hide (by simp [HE0.out])
    go_wp2_with fail
    go_ret
    rw [HE.out]
    exact ⟨rfl, HB1.out⟩
  have d0 := decide_eq_false c0
  rw [decide_eq_true (by omega : us.length ≤ 16)] at HE0
  have e0 : decide (16 < us.length) = false := decide_eq_false (by omega)
  go_wp2_with fail
  refine (HI2.out _).mono ?_
  rintro e wx ⟨rfl, rfl⟩
  cases g2
  case false =>
    have HE : Hid (res = false) := hide (by simp [HE0.out])
    go_wp2_with fail
    go_ret
    rw [HE.out]
    exact ⟨rfl, HB1.out⟩
  by_cases c1 : (vs.length : Int) < fu
  case pos =>
    rw [decide_eq_false (by omega : ¬ fu ≤ (vs.length : Int))] at HE0
    have d1 := decide_eq_true c1
    have HE : Hid (res = false) := hide (by simp [HE0.out])
    go_wp2_with fail
    go_ret
    rw [HE.out]
    exact ⟨rfl, HB1.out⟩
  have d1 := decide_eq_false c1
  rw [decide_eq_true (by omega : fu ≤ (vs.length : Int))] at HE0
  by_cases c2 : (64 : Int) < (vs.length : Int)
  case pos =>
    rw [decide_eq_false (by omega : ¬ vs.length ≤ 64)] at HE0
    have d2 := decide_eq_true c2
    have e2 : decide (64 < vs.length) = true := decide_eq_true (by omega)
    have HE : Hid (res = false) := hide (by simp [HE0.out])
    go_wp2_with fail
    go_ret
    rw [HE.out]
    exact ⟨rfl, HB1.out⟩
  have d2 := decide_eq_false c2
  rw [decide_eq_true (by omega : vs.length ≤ 64)] at HE0
  have e2 : decide (64 < vs.length) = false := decide_eq_false (by omega)
  simp only [Bool.true_and] at HE0
  clear HI1 HI2 HN
  go_wp2_with fail
  clear z1 z2 z3 z4
  go_loopw [3, 4] (fun i _ wr => ∃ k : Nat, k ≤ us.length ∧ i = .int .i64 (k : Int) ∧ Hid (Below w.heap.size w wr) ∧ Hid (Blk wr w.heap.size 25 #[.string nm, .int .i64 ver, .slice uA us.length uc, .int .i64 fu, .slice rA vs.length rc]) ∧ Hid ((us.drop k).all useOk = us.all useOk)) (fun i _ _ => us.length - (intOf i).toNat)
  case atStart => exact ⟨0, by omega, rfl, HB1, HK1, hide rfl⟩
  case round =>
    clear HB1 HK1
    obtain ⟨k, hk, rfl, HB, HK, HD⟩ := hrel
    have s0 : wr.cell? ⟨w.heap.size, 2, none⟩ = some (.slice uA us.length uc) := HK.out.cell 2
    by_cases hlt : k < us.length
    case pos =>
      obtain ⟨x, hx⟩ : ∃ x, us[k]? = some x := ⟨_, List.getElem?_eq_getElem hlt⟩
      have hkI : (k : Int) < (us.length : Int) := by omega
      have hk0 : (0 : Int) ≤ (k : Int) := by omega
      have HS := hide (all_drop (f := useOk) hx)
      have hxs := HSU.out x (List.mem_of_getElem? hx)
      have HX1 := hide (fun w1 => rxName_calls x.mod (by have := hxs.1; omega) w1)
      have HX2 := hide (fun w1 => rxName_calls x.name (by have := hxs.2; omega) w1)
      have HX3 := hide (HI.out x.params 0 8)
      have HQ : Hid (useOk x = (nameM x.mod && (nameM x.name && inR x.params 0 8))) := hide (by unfold useOk; rw [Bool.and_assoc])
      obtain ⟨ba, oa, hA, _, hc⟩ := HRU.out.kept HB.out hx
      rw [hA] at s0
      clear hA
      have x0 : wr.cell? ⟨ba, oa + k * 3, none⟩ = some (.string x.mod) := hc 0 _ rfl
      have x1 : wr.cell? ⟨ba, oa + k * 3 + 1, none⟩ = some (.string x.name) := hc 1 _ rfl
      have x2 : wr.cell? ⟨ba, oa + k * 3 + 2, none⟩ = some (.int .i64 x.params) := hc 2 _ rfl
      have HB2 := hide (HB.out.alloc HB.out.size (.cells #[.string x.mod, .string x.name, .int .i64 x.params] 43))
      have HW2 := hide (Blk.new wr 43 #[.string x.mod, .string x.name, .int .i64 x.params])
      have HK2 := hide (HK.out.alloc (.cells #[.string x.mod, .string x.name, .int .i64 x.params] 43))
      obtain ⟨q1, hq1⟩ : ∃ g, nameM x.mod = g := ⟨_, rfl⟩
      obtain ⟨q2, hq2⟩ : ∃ g, nameM x.name = g := ⟨_, rfl⟩
      obtain ⟨q3, hq3⟩ : ∃ g, inR x.params 0 8 = g := ⟨_, rfl⟩
      rw [hq1] at HX1 HQ
      rw [hq2] at HX2 HQ
      rw [hq3] at HX3 HQ
      rw [HQ.out] at HS
      clear hc hx hxs hq1 hq2 hq3 HQ
      go_wp2_with fail
      refine (HX1.out _).mono ?_
      rintro e w2 ⟨rfl, hb2⟩
      have HB3 := hide (HB2.out.trans (hb2.mono HB2.out.size))
      have HK3 := hide (HK2.out.below hb2 HK2.out.lt)
      have HW3 := hide (HW2.out.below hb2 HW2.out.lt)
      clear hb2 HB2 HK2 HW2 x0 x1 x2 s0
      have y1 : w2.cell? ⟨wr.heap.size, 1, none⟩ = some (.string x.name) := HW3.out.cell 1
      have y2 : w2.cell? ⟨wr.heap.size, 2, none⟩ = some (.int .i64 x.params) := HW3.out.cell 2
      cases q1
      case false =>
        have HE : Hid (res = false) := hide (by rw [HE0.out, ← HD.out, HS.out]; simp)
        go_wp2_with fail
        go_ret
        rw [HE.out]
        exact ⟨rfl, HB3.out⟩
      go_wp2_with fail
      refine (HX2.out _).mono ?_
      rintro e w3 ⟨rfl, hb3⟩
      have HB4 := hide (HB3.out.trans (hb3.mono HB3.out.size))
      have HK4 := hide (HK3.out.below hb3 HK3.out.lt)
      have HW4 := hide (HW3.out.below hb3 HW3.out.lt)
      clear hb3 HB3 HK3 HW3 y1 y2
      have y2 : w3.cell? ⟨wr.heap.size, 2, none⟩ = some (.int .i64 x.params) := HW4.out.cell 2
      cases q2
      case false =>
        have HE : Hid (res = false) := hide (by rw [HE0.out, ← HD.out, HS.out]; simp)
        go_wp2_with fail
        go_ret
        rw [HE.out]
        exact ⟨rfl, HB4.out⟩
      go_wp2_with fail
      refine (HX3.out _).mono ?_
      rintro e w4 ⟨rfl, rfl⟩
      cases q3
      case false =>
        have HE : Hid (res = false) := hide (by rw [HE0.out, ← HD.out, HS.out]; simp)
        go_wp2_with fail
        go_ret
        rw [HE.out]
        exact ⟨rfl, HB4.out⟩
      have HD2 : Hid ((us.drop (k + 1)).all useOk = us.all useOk) := hide (by rw [← HD.out, HS.out]; rfl)
      go_wp2_with fail
      refine ⟨⟨k + 1, by omega, by go_num, HB4, HK4, HD2⟩, ?_⟩
      simp [intOf]
      omega
    case neg =>
      obtain rfl : k = us.length := by omega
      rw [← HD.out, List.drop_length] at HE0
      simp only [List.all_nil, Bool.true_and] at HE0
      clear HD
      go_wp2_with fail
      clear s0 hlt hk
      have HB1 := HB
      have HK1 := HK
      clear HB HK
      go_loopw [5] (fun i wr => ∃ k : Nat, k ≤ vs.length ∧ i = .int .i64 (k : Int) ∧ Hid (Below w.heap.size w wr) ∧ Hid (Blk wr w.heap.size 25 #[.string nm, .int .i64 ver, .slice uA us.length uc, .int .i64 fu, .slice rA vs.length rc]) ∧ Hid (protosOk fu k ((vs.map (·.p)).drop k) = protosOk fu 0 (vs.map (·.p)))) (fun i _ => vs.length - (intOf i).toNat)
      case atStart => exact ⟨0, by omega, rfl, HB1, HK1, hide rfl⟩
      case round =>
        clear HB1 HK1
        obtain ⟨k, hk, rfl, HB, HK, HD⟩ := hrel
        have s0 : wr.cell? ⟨w.heap.size, 4, none⟩ = some (.slice rA vs.length rc) := HK.out.cell 4
        by_cases hlt : k < vs.length
        case pos =>
          obtain ⟨v, hv⟩ : ∃ x, vs[k]? = some x := ⟨_, List.getElem?_eq_getElem hlt⟩
          have hkI : (k : Int) < (vs.length : Int) := by omega
          have hk0 : (0 : Int) ≤ (k : Int) := by omega
          have HS := hide (protos_drop (funs := fu) (l := vs.map (·.p)) (k := k) (x := v.p) (by rw [List.getElem?_map, hv]; rfl))
          have hvs := HSV.out v (List.mem_of_getElem? hv)
          have hvr := HRE.out v (List.mem_of_getElem? hv)
          obtain ⟨top, htop⟩ : ∃ t, decide ((k : Int) < fu) = t := ⟨_, rfl⟩
          rw [show decide ((k : Int) + 1 ≤ fu) = top by rw [← htop, decide_eq_decide]; omega] at HS
          have HX := hide (fun w1 (h : Below w.heap.size w w1) => rugproto_calls v (hvr.below h) hvs top)
          obtain ⟨ba, oa, hA, hal, hc⟩ := HRV.out k v hv
          have HC : Hid (∀ w1, Below w.heap.size w w1 → ∀ j u, (ProtoV.cells v)[j]? = some u → w1.cell? ⟨ba, oa + (k * 6 + j), none⟩ = some u) := hide fun w1 h j u hu => (h.cell (p := ⟨ba, oa + (k * 6 + j), none⟩) hal).trans (hc j u hu)
          rw [hA] at s0
          have HT := hide htop
          have hAA := hide hA
          clear hA hc hv hvs hvr htop
          obtain ⟨q, hq⟩ : ∃ g, protoOk v.p top = g := ⟨_, rfl⟩
          rw [hq] at HX HS
          clear hq
          go_wp2_with fail
          refine wp_region_heads [0, 1, 2, 3, 4, 5, 6, 7, 8] 2 (fun w' => Below w.heap.size w w' ∧ Blk w' w.heap.size 25 #[.string nm, .int .i64 ver, .slice uA us.length uc, .int .i64 fu, .slice rA vs.length rc]) (by kernel_rfl) rfl (by kernel_rfl) (by kernel_rfl) (fun _ _ d _ _ h => by cases d <;> exact h) ⟨HB.out.drew, HK.out⟩ ?_
          iterate 9
            refine' Heads.step rfl (by rfl) ?_ ?_
            rotate_left
            · intro w' hSw
              obtain ⟨qb, qk⟩ := hSw
              have p0 : w'.cell? ⟨ba, oa + k * 6, none⟩ = some (.string v.p.name) := HC.out w' qb 0 _ rfl
              have p1 : w'.cell? ⟨ba, oa + k * 6 + 1, none⟩ = some (.int .i64 v.p.params) := HC.out w' qb 1 _ rfl
              have p2 : w'.cell? ⟨ba, oa + k * 6 + 2, none⟩ = some (.int .i64 v.p.regs) := HC.out w' qb 2 _ rfl
              have p3 : w'.cell? ⟨ba, oa + k * 6 + 3, none⟩ = some (.slice v.cA v.p.code.length v.cc) := HC.out w' qb 3 _ rfl
              have p4 : w'.cell? ⟨ba, oa + k * 6 + 4, none⟩ = some (.slice v.kA v.p.consts.length v.kc) := HC.out w' qb 4 _ rfl
              have p5 : w'.cell? ⟨ba, oa + k * 6 + 5, none⟩ = some (.slice v.pA v.p.caps.length v.pc) := HC.out w' qb 5 _ rfl
              have r3 : w'.cell? ⟨w.heap.size, 3, none⟩ = some (.int .i64 fu) := qk.cell 3
              have r4 : w'.cell? ⟨w.heap.size, 4, none⟩ = some (.slice rA vs.length rc) := qk.cell 4
              rw [hAA.out] at r4
              have htop := HT.out
              go_simp
              try with_reducible rfl
            simp only [Act.put, List.setIfInBounds_toArray, List.set_cons_zero, List.set_cons_succ]
          refine Heads.done ?_
          refine wpAnyH_ready (rs := [9]) (by kernel_rfl) (by simp) (AllReadyH.cons rfl (fun K hK => ?_) AllReadyH.nil)
          go_simp
          refine (HX.out _ HB.out.drew).mono ?_
          rintro e w3 ⟨rfl, hb3⟩
          refine hK.out _ _ ⟨HB.out.drew.trans (hb3.mono HB.out.drew.size), (show Blk wr.drew w.heap.size 25 _ from HK.out).below hb3 HK.out.lt⟩ (fun hHeld1 => ?_)
          clear hK K
          refine wpAnyH_more [10] 0 rfl (by kernel_rfl) (by kernel_rfl) (fun _ _ d _ _ h => by cases d <;> exact h) hHeld1 ?_
          iterate 1
            refine' Heads.step rfl (by rfl) ?_ ?_
            rotate_left
            · intro w' hSw
              go_simp
              try with_reducible rfl
            simp only [Act.put, List.setIfInBounds_toArray, List.set_cons_zero, List.set_cons_succ]
          refine Heads.done ?_
          refine wpAnyH_done (by kernel_rfl) ?_ _
          have HB4 := hide hHeld1.1
          have HK4 := hide hHeld1.2
          clear hHeld1 hb3
          cases q
          case false =>
            have HE : Hid (res = false) := hide (by rw [HE0.out, ← HD.out, HS.out]; rfl)
            go_wp2_with fail
            go_ret
            rw [HE.out]
            exact ⟨rfl, HB4.out⟩
          have HD2 : Hid (protosOk fu (k + 1) ((vs.map (·.p)).drop (k + 1)) = protosOk fu 0 (vs.map (·.p))) := hide (by rw [← HD.out, HS.out]; rfl)
          go_wp2_with fail
          refine ⟨⟨k + 1, by omega, by go_num, HB4, HK4, HD2⟩, ?_⟩
          simp [intOf]
          omega
        case neg =>
          obtain rfl : k = vs.length := by omega
          rw [← HD.out, List.drop_of_length_le (by rw [List.length_map]; omega)] at HE0
          clear HD
          have HE : Hid (res = true) := hide (HE0.out)
          go_wp2_with fail
          go_ret
          rw [HE.out]
          exact ⟨rfl, HB.out⟩
end Go.Proofs.Ythgjmbcojbmlhaa
