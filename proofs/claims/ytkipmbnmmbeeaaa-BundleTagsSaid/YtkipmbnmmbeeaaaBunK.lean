/- Chapter 25: Parse of the program, walked. -/
import Derived.Test.YtkipmbnmmbeeaaaBunJ
namespace Go.Proofs.Ytkipmbnmmbeeaaa
open Go.RowKit Zb

set_option maxRecDepth 20000 in
set_option maxHeartbeats 4000000 in
theorem bParse_calls (key s : ByteArray) (hk : key.size ≤ 1000000) (hs : s.size ≤ 1000000) (w : World) : Calls Try.prog 14 #[.string key, .string s] w (ParsePost key s w) := by
  by_cases hlen : (s.size : Int) - 32 < 6
  · have HE := hide (parse_short (key := key) (s := s) (by omega))
    go_enter Try.func14, Try.ntmps14
    go_wp2_with fail
    go_ret2
    exact parse_bad HE.out (Below.refl _ _)
  obtain ⟨n, hn⟩ : ∃ n : Nat, s.size = n + 32 := ⟨s.size - 32, by omega⟩
  have h6 : 6 ≤ n := by omega
  have hnI : (s.size : Int) - 32 = (n : Int) := by omega
  have h6b : ¬ (n : Int) < 6 := by omega
  have hn0 : (0 : Int) ≤ (n : Int) := by omega
  have hns : (n : Int) ≤ (s.size : Int) := by omega
  obtain ⟨p, hp⟩ : ∃ p, s.extract 0 n = p := ⟨_, rfl⟩
  obtain ⟨tg, ht⟩ : ∃ p, s.extract n (n + 32) = p := ⟨_, rfl⟩
  have HPE := hide (fun key => parse_eq (key := key) hn h6 hp ht)
  have hps : p.size = n := by rw [← hp, ByteArray.size_extract]; omega
  have HMAC := hide (mRight_calls key p tg (by omega) (by omega))
  have HRD := hide (btake_calls p (by omega))
  have HLIM := hide (fun R h => readM_lim (s := p) (by omega) (R := R) h)
  have HPS : Hid (p.size ≤ 1000000) := hide (by omega)
  have HP := hide hp
  have HT : Hid (s.extract n s.size = tg) := hide (by rw [hn]; exact ht)
  have HPI := hide (HPE.out key)
  obtain ⟨mc, hmc⟩ : ∃ m, macB key p = m := ⟨_, rfl⟩
  rw [hmc] at HMAC HPI
  clear hp ht hps hn hlen HPE hmc
  go_enter Try.func14, Try.ntmps14
  go_wp2_with fail
  refine wp_region_heads [0, 1, 2, 3, 4, 5, 6] 2 (fun _ => True) (by kernel_rfl) rfl (by kernel_rfl) (by kernel_rfl) (fun _ _ d _ _ h => by cases d <;> exact h) trivial ?_
  iterate 7
    refine' Heads.step rfl (by rfl) ?_ ?_
    rotate_left
    · intro w' hSw
      go_simp
      try with_reducible rfl
    simp only [Act.put, List.setIfInBounds_toArray, List.set_cons_zero, List.set_cons_succ]
  refine Heads.done ?_
  refine wpAnyH_ready (rs := [7]) (by kernel_rfl) (by simp) (AllReadyH.cons rfl (fun K hK => ?_) AllReadyH.nil)
  go_simp
  rw [HP.out, HT.out]
  refine (HMAC.out _).mono ?_
  rintro e w1 ⟨rfl, hb1⟩
  have HB1 := hide (show Below w.heap.size w w1 from (Below.refl w.heap.size w).drew.trans hb1)
  clear hb1
  refine hK.out _ _ trivial (fun hHeld1 => ?_)
  clear hK K
  refine wpAnyH_more [8] 0 rfl (by kernel_rfl) (by kernel_rfl) (fun _ _ d _ _ h => by cases d <;> exact h) trivial ?_
  iterate 1
    refine' Heads.step rfl (by rfl) ?_ ?_
    rotate_left
    · intro w' hSw
      go_simp
      try with_reducible rfl
    simp only [Act.put, List.setIfInBounds_toArray, List.set_cons_zero, List.set_cons_succ]
  refine Heads.done ?_
  refine wpAnyH_done (by kernel_rfl) ?_ _
  by_cases he : tg = mc
  case neg =>
    have HE : Hid (parseM key s = ([], 17)) := hide (by rw [HPI.out]; unfold parseP; rw [if_pos he])
    rw [decide_eq_false he]
    clear he
    go_wp2_with fail
    go_ret2
    exact parse_bad HE.out HB1.out
  rw [decide_eq_true he]
  have HPQ : Hid (parseM key s = parseP tg p tg) := hide (by rw [HPI.out, he])
  clear he HPI
  go_wp2_with fail
  rw [HP.out]
  refine (HRD.out _).mono ?_
  rintro e wt ⟨hb2, hm⟩
  have HBT := hide (HB1.out.trans (hb2.mono HB1.out.size))
  cases hR : readM p with
  | none =>
    rw [hR] at hm
    obtain ⟨A, na, ca, B, nb, cb, rfl⟩ := hm
    have HE : Hid (parseM key s = ([], 4)) := hide (by rw [HPQ.out]; unfold parseP; rw [if_neg (by simp), hR])
    have HB2 := hide (HBT.out.alloc HBT.out.size (.cells #[.slice B nb cb] 41))
    clear hR hb2
    go_wp2_with fail
    refine wp_region_heads [0, 1, 2, 3, 4, 5, 6, 7, 8, 9, 10, 11, 12, 13, 14, 15] 0 (fun _ => True) (by kernel_rfl) rfl (by kernel_rfl) (by kernel_rfl) (fun _ _ d _ _ h => by cases d <;> exact h) trivial ?_
    iterate 16
      first
      | refine' Heads.skip rfl (by rfl) ?_
      | (refine' Heads.step rfl (by rfl) ?_ ?_
         rotate_left
         · intro w' hSw
           go_simp
           try with_reducible rfl)
      simp only [Act.put, List.setIfInBounds_toArray, List.set_cons_zero, List.set_cons_succ]
    refine Heads.done ?_
    refine wpAnyH_done (by kernel_rfl) ?_ _
    go_wp2_with fail
    go_ret2
    exact parse_bad HE.out HB2.out.drew
  | some R =>
    rw [hR] at hm
    obtain ⟨v, u, rfl, ho, hq⟩ := hm
    obtain ⟨hl1, hl2, hl3⟩ := HLIM.out R hR
    have HE : Hid (parseM key s = if rightM (R.map (·.1)) = false ∨ bodyB R ≠ p then ([], 4) else if sumsOk R then (R.map (·.1), 0) else ([], 5)) := hide (by rw [HPQ.out]; unfold parseP; rw [if_neg (by simp), hR])
    have HMID : Hid (MidL (R.map (·.1))) := hide ⟨by rw [List.length_map]; omega, fun q hq => by
      obtain ⟨x, hx, rfl⟩ := List.mem_map.1 hq
      exact (hl2 x hx).1⟩
    obtain ⟨A, c, rfl, hc, hrd0⟩ := row_reads pcells_len ho.row
    obtain ⟨B, c2, rfl, hc2, hrdu0⟩ := row_reads sv_len hq.row
    rw [show Value.slice A (R.map (·.1)).length c = Value.slice A R.length c by rw [List.length_map]] at ho ⊢
    rw [show Value.slice B (R.map (·.2)).length c2 = Value.slice B R.length c2 by rw [List.length_map]] at hq ⊢
    have hba : Below wt.heap.size wt (wt.alloc (.cells #[.slice B R.length c2] 41)) := (Below.refl wt.heap.size wt).alloc (Nat.le_refl _) _
    have hrd := hrd0.below hba
    have hrdu := hrdu0.below hba
    have HBX0 := Blk.new wt 41 #[.slice B R.length c2]
    have HB2 := hide (HBT.out.trans (hba.mono HBT.out.size))
    have HO := hide (Own.below (Own.base ho HB1.out) hba)
    clear hrd0 hrdu0 hba hb2 HBT ho hq hc hc2
    obtain ⟨cb, hcb⟩ : ∃ cb, wt.heap.size = cb := ⟨_, rfl⟩
    rw [hcb] at HBX0
    have HCB := hide hcb
    obtain ⟨w2, hw2⟩ : ∃ w2, Hid (wt.alloc (.cells #[.slice B R.length c2] 41) = w2) := ⟨_, hide rfl⟩
    rw [hw2.out] at hrd hrdu HBX0 HB2 HO
    have HRA := hide hrd
    have HRB := hide hrdu
    have HBX := hide HBX0
    have HRI := hide (bRight_calls (w := w2.drew) c (hrd.below (Below.refl _ _).drew) HMID.out)
    have HLAY := hide (fun w3 (h : Below w2.heap.size w2 w3) => laybParsef_calls (w := w3) (R := R) c cb (hrd.below h) HMID.out (by have := HPS.out; omega) (fun k x hx w' hw' => bParsef_calls (l := R.map (·.2)) c2 cb (by
      rw [List.length_map]
      exact (HBX0.below h HBX0.lt).below hw' (Blk.lt (HBX0.below h HBX0.lt))) ((hrdu.below h).below hw') k x.2 (by rw [List.getElem?_map, hx]; rfl)))
    simp only [List.length_map] at HRI
    have hlen : R.length ≤ 65535 := hl1
    clear hrd hrdu HBX0 hR hl1 hl3 HPQ HRD HMAC HLIM hcb
    obtain ⟨g, hg⟩ : ∃ g, rightM (R.map (·.1)) = g := ⟨_, rfl⟩
    rw [hg] at HRI HE
    clear hg
    cases g
    · have HE2 : Hid (parseM key s = ([], 4)) := hide (by rw [HE.out, if_pos (.inl rfl)])
      go_wp2_with fail
      rw [hw2.out]
      refine wp_region_heads [0, 1, 2, 3] 12 (fun _ => True) (by kernel_rfl) rfl (by kernel_rfl) (by kernel_rfl) (fun _ _ d _ _ h => by cases d <;> exact h) trivial ?_
      iterate 4
        first
        | refine' Heads.skip rfl (by rfl) ?_
        | (refine' Heads.step rfl (by rfl) ?_ ?_
           rotate_left
           · intro w' hSw
             go_simp
             try with_reducible rfl)
        simp only [Act.put, List.setIfInBounds_toArray, List.set_cons_zero, List.set_cons_succ]
      refine Heads.done ?_
      refine wpAnyH_ready (rs := [4]) (by kernel_rfl) (by simp) (AllReadyH.cons rfl (fun K hK => ?_) AllReadyH.nil)
      go_simp
      refine (HRI.out).mono ?_
      rintro e w3 ⟨rfl, hb3⟩
      have HB3 := hide (show Below w2.heap.size w2 w3 from (Below.refl w2.heap.size w2).drew.trans hb3)
      clear hb3
      refine hK.out _ _ trivial (fun hHeld1 => ?_)
      clear hK K
      refine wpAnyH_more [5, 6, 7, 8, 9, 10, 11, 12, 13, 14, 15] 0 rfl (by kernel_rfl) (by kernel_rfl) (fun _ _ d _ _ h => by cases d <;> exact h) trivial ?_
      iterate 11
        first
        | refine' Heads.skip rfl (by rfl) ?_
        | (refine' Heads.step rfl (by rfl) ?_ ?_
           rotate_left
           · intro w' hSw
             go_simp
             try with_reducible rfl)
        simp only [Act.put, List.setIfInBounds_toArray, List.set_cons_zero, List.set_cons_succ]
      refine Heads.done ?_
      refine wpAnyH_done (by kernel_rfl) ?_ _
      go_wp2_with fail
      go_ret2
      exact parse_bad HE2.out (HB2.out.trans (HB3.out.mono HB2.out.size))
    · have HE2 : Hid (parseM key s = if bodyB R ≠ p then ([], 4) else if sumsOk R then (R.map (·.1), 0) else ([], 5)) := hide (by rw [HE.out]; simp)
      clear HE
      generalize bodyB R = out at *
      go_wp2_with fail
      rw [hw2.out, HCB.out]
      refine wp_region_heads [0, 1, 2, 3] 12 (fun _ => True) (by kernel_rfl) rfl (by kernel_rfl) (by kernel_rfl) (fun _ _ d _ _ h => by cases d <;> exact h) trivial ?_
      iterate 4
        first
        | refine' Heads.skip rfl (by rfl) ?_
        | (refine' Heads.step rfl (by rfl) ?_ ?_
           rotate_left
           · intro w' hSw
             go_simp
             try with_reducible rfl)
        simp only [Act.put, List.setIfInBounds_toArray, List.set_cons_zero, List.set_cons_succ]
      refine Heads.done ?_
      refine wpAnyH_ready (rs := [4]) (by kernel_rfl) (by simp) (AllReadyH.cons rfl (fun K hK => ?_) AllReadyH.nil)
      go_simp
      refine (HRI.out).mono ?_
      rintro e w3 ⟨rfl, hb3⟩
      have HB3 := hide (show Below w2.heap.size w2 w3 from (Below.refl w2.heap.size w2).drew.trans hb3)
      clear hb3
      refine hK.out _ _ trivial (fun hHeld1 => ?_)
      clear hK K
      refine wpAnyH_more [5, 6, 7, 8, 9, 11, 12, 13] 3 rfl (by kernel_rfl) (by kernel_rfl) (fun _ _ d _ _ h => by cases d <;> exact h) trivial ?_
      iterate 8
        first
        | refine' Heads.skip rfl (by rfl) ?_
        | (refine' Heads.step rfl (by rfl) ?_ ?_
           rotate_left
           · intro w' hSw
             go_simp
             try with_reducible rfl)
        simp only [Act.put, List.setIfInBounds_toArray, List.set_cons_zero, List.set_cons_succ]
      refine Heads.done ?_
      refine wpAnyH_ready (rs := [10]) (by kernel_rfl) (by simp) (AllReadyH.cons rfl (fun K hK => ?_) AllReadyH.nil)
      go_simp
      refine (HLAY.out _ HB3.out).mono ?_
      rintro e w4 ⟨rfl, hb4⟩
      have HB4 := hide (HB3.out.trans (hb4.mono HB3.out.size))
      clear hb4
      refine hK.out _ _ trivial (fun hHeld2 => ?_)
      clear hK K
      rw [HP.out]
      refine wpAnyH_more [14, 15] 0 rfl (by kernel_rfl) (by kernel_rfl) (fun _ _ d _ _ h => by cases d <;> exact h) trivial ?_
      iterate 2
        first
        | refine' Heads.skip rfl (by rfl) ?_
        | (refine' Heads.step rfl (by rfl) ?_ ?_
           rotate_left
           · intro w' hSw
             go_simp
             try with_reducible rfl)
        simp only [Act.put, List.setIfInBounds_toArray, List.set_cons_zero, List.set_cons_succ]
      refine Heads.done ?_
      refine wpAnyH_done (by kernel_rfl) ?_ _
      rw [lbeq]
      by_cases ho : out = p
      case neg =>
        have HE3 : Hid (parseM key s = ([], 4)) := hide (by rw [HE2.out, if_pos ho])
        rw [decide_eq_false ho]
        clear ho
        go_wp2_with fail
        go_ret2
        exact parse_bad HE3.out (HB2.out.trans (HB4.out.mono HB2.out.size))
      rw [decide_eq_true ho]
      simp only [Bool.not_true]
      have HE3 : Hid (parseM key s = if sumsOk (R.drop 0) then (R.map (·.1), 0) else ([], 5)) := hide (by rw [HE2.out, if_neg (by simpa using ho)]; rfl)
      clear HE2 ho HLAY HRI HB3 HB1 HCB hw2
      go_wp2_with fail
      go_loopw [52] (fun i wr => ∃ k : Nat, k ≤ R.length ∧ i = .int .i64 (k : Int) ∧ Hid (Below w2.heap.size w2 wr) ∧ Hid (parseM key s = if sumsOk (R.drop k) then (R.map (·.1), 0) else ([], 5))) (fun i _ => R.length - (intOf i).toNat)
      case atStart => exact ⟨0, by omega, rfl, HB4, HE3⟩
      case round =>
        clear HB4 HE3
        obtain ⟨k, hk, rfl, HW, HD⟩ := hrel
        by_cases hlt : k < R.length
        · obtain ⟨x, hx⟩ : ∃ x, R[k]? = some x := ⟨_, List.getElem?_eq_getElem hlt⟩
          have hx1 : (R.map (·.1))[k]? = some x.1 := by rw [List.getElem?_map, hx]; rfl
          have hx2 : (R.map (·.2))[k]? = some x.2 := by rw [List.getElem?_map, hx]; rfl
          have HS := hide (sums_drop hx)
          have hkI : (k : Int) < (R.length : Int) := by omega
          have hk0 : (0 : Int) ≤ (k : Int) := by omega
          have HDX := hide (fun w1 => gOf_digB x.1.text (by have := (hl2 x (List.mem_of_getElem? hx)).1.text; omega) w1)
          obtain ⟨ba, oa, hA, _, hcc⟩ := HRA.out.kept HW.out hx1
          obtain ⟨bb, ob, hB, hbb, hdd⟩ := HRB.out k _ hx2
          subst hA
          subst hB
          have x0 : wr.cell? ⟨ba, oa + k * 4, none⟩ = some (.string x.1.name) := hcc 0 _ rfl
          have x1 : wr.cell? ⟨ba, oa + k * 4 + 1, none⟩ = some (.int .i64 x.1.version) := hcc 1 _ rfl
          have x2 : wr.cell? ⟨ba, oa + k * 4 + 2, none⟩ = some (.string x.1.text) := hcc 2 _ rfl
          have x3 : wr.cell? ⟨ba, oa + k * 4 + 3, none⟩ = some (.string x.1.state) := hcc 3 _ rfl
          have HDD := hide (hdd 0 _ rfl)
          obtain ⟨⟨xn, xv, xt, xs⟩, xu⟩ := x
          dsimp only at HDX HDD HS x0 x1 x2 x3
          obtain ⟨xd, hxd⟩ : ∃ d, digB xt = d := ⟨_, rfl⟩
          rw [hxd] at HS HDX
          clear hcc hdd hx hx1 hx2 hxd
          have HBP := hide (Blk.new wr 34 #[.string xn, .int .i64 xv, .string xt, .string xs])
          have HWZ := hide (HW.out.alloc HW.out.size (.cells #[.string xn, .int .i64 xv, .string xt, .string xs] 34))
          go_wp2_with fail
          clear x0 x1 x2 x3
          generalize (wr.alloc (.cells #[.string xn, .int .i64 xv, .string xt, .string xs] 34)) = wz at *
          generalize wr.heap.size = gp at *
          have y0 : wz.cell? ⟨bb, ob + k, none⟩ = some (.string xu) := by
            have h1 := (HWZ.out.cell (p := ⟨bb, ob + (k * 1 + 0), none⟩) hbb).trans HDD.out
            simpa using h1
          have y1 : wz.cell? ⟨cb, 0, none⟩ = some (.slice (some ⟨bb, ob, none⟩) R.length c2) := (HBX.out.below HWZ.out HBX.out.lt).cell 0
          refine wp_region_heads [0, 1, 3, 4, 5, 6] 2 (fun w' => Blk w' gp 34 #[.string xn, .int .i64 xv, .string xt, .string xs] ∧ w'.cell? ⟨cb, 0, none⟩ = some (.slice (some ⟨bb, ob, none⟩) R.length c2) ∧ w'.cell? ⟨bb, ob + k, none⟩ = some (.string xu)) (by kernel_rfl) rfl (by kernel_rfl) (by kernel_rfl) (fun _ _ d _ _ h => by cases d <;> exact h) ⟨HBP.out, y1, y0⟩ ?_
          iterate 6
            refine' Heads.step rfl (by rfl) ?_ ?_
            rotate_left
            · intro w' hSw
              obtain ⟨hq, q1, q2⟩ := hSw; have q0 : w'.cell? ⟨gp, 2, none⟩ = some (.string xt) := Blk.cell hq 2
              go_simp
              try with_reducible rfl
            simp only [Act.put, List.setIfInBounds_toArray, List.set_cons_zero, List.set_cons_succ]
          refine Heads.done ?_
          refine wpAnyH_ready (rs := [2]) (by kernel_rfl) (by simp) (AllReadyH.cons rfl (fun K hK => ?_) AllReadyH.nil)
          go_simp
          refine (HDX.out _).mono ?_
          rintro e w6 ⟨rfl, hb6⟩
          have HW6 := hide (HWZ.out.drew.trans (hb6.mono HWZ.out.size))
          refine hK.out _ _ ⟨Blk.below (w := wz.drew) HBP.out hb6 (Blk.lt HBP.out), (hb6.cell (p := ⟨cb, 0, none⟩) (lt_of_cell y1)).trans y1, (hb6.cell (p := ⟨bb, ob + k, none⟩) (lt_of_cell y0)).trans y0⟩ (fun hHeld1 => ?_)
          clear hK K
          refine wpAnyH_more [7] 0 rfl (by kernel_rfl) (by kernel_rfl) (fun _ _ d _ _ h => by cases d <;> exact h) hHeld1 ?_
          iterate 1
            refine' Heads.step rfl (by rfl) ?_ ?_
            rotate_left
            · intro w' hSw
              obtain ⟨hq, q1, q2⟩ := hSw; have q0 : w'.cell? ⟨gp, 2, none⟩ = some (.string xt) := Blk.cell hq 2
              go_simp
              try with_reducible rfl
            simp only [Act.put, List.setIfInBounds_toArray, List.set_cons_zero, List.set_cons_succ]
          refine Heads.done ?_
          refine wpAnyH_done (by kernel_rfl) ?_ _
          rw [lbeq]
          by_cases he : xd = xu
          · have HD2 : Hid (parseM key s = if sumsOk (R.drop (k + 1)) then (R.map (·.1), 0) else ([], 5)) := hide (by
              rw [HD.out, HS.out, decide_eq_true he, Bool.true_and])
            rw [decide_eq_true he]
            clear he HS y0 y1
            go_wp2_with fail
            refine ⟨⟨k + 1, by omega, by go_num, HW6, HD2⟩, ?_⟩
            simp [intOf]
            omega
          · have HD2 : Hid (parseM key s = ([], 5)) := hide (by
              rw [HD.out, HS.out, decide_eq_false he, Bool.false_and]
              rfl)
            rw [decide_eq_false he]
            clear he HS y0 y1
            go_wp2_with fail
            go_ret2
            exact parse_bad HD2.out (HB2.out.trans (HW6.out.mono HB2.out.size))
        · obtain rfl : k = R.length := by omega
          have HD2 : Hid (parseM key s = (R.map (·.1), 0)) := hide (by
            rw [HD.out, List.drop_length]
            rfl)
          go_wp2_with fail
          go_ret2
          exact parse_good HD2.out (HO.out.below HW.out)
end Go.Proofs.Ytkipmbnmmbeeaaa
