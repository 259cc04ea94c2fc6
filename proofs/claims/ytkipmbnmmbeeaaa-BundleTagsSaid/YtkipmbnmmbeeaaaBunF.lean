/- Chapter 25: the document's Parse, walked. -/
import Derived.Test.YtkipmbnmmbeeaaaBunE
namespace Go.Proofs.Ytkipmbnmmbeeaaa
open Go.RowKit Zb

set_option maxRecDepth 20000 in
theorem lbeq (a b : ByteArray) : (a.toList == b.toList) = decide (a = b) := by
  by_cases h : a = b
  · rw [decide_eq_true h, h]
    simp
  · rw [decide_eq_false h]
    exact (lbytes_ne h).2
set_option maxRecDepth 20000 in
theorem Own.base {w w1 w2 : World} {e : TypeId} {size n : Nat} {v : Value} {xs : List Value} (h : Own w1 w2 e size v n xs) (hb : Below w.heap.size w w1) : Own w w2 e size v n xs :=
  ⟨hb.trans (h.bel.mono hb.size), h.row, fun g hg => Nat.le_trans hb.size (h.own g hg)⟩
abbrev ParsePost (key s : ByteArray) (w : World) (e : Ending) (w' : World) : Prop := ∃ v, e = .returned (.tuple #[v, .int .i64 (parseM key s).2]) ∧ OwnP w w' v (parseM key s).1
set_option maxRecDepth 20000 in
theorem parse_bad {key s : ByteArray} {w w' : World} {c : Int} (h : parseM key s = ([], c)) (hb : Below w.heap.size w w') : ParsePost key s w (.returned (.tuple #[.slice none 0 0, .int .i64 c])) w' := by
  refine ⟨.slice none 0 0, ?_, ?_⟩
  · rw [h]
  · rw [h]
    exact Own.nil hb
set_option maxRecDepth 20000 in
theorem parse_good {key s : ByteArray} {w w' : World} {l : List PartM} {v : Value} (h : parseM key s = (l, 0)) (ho : OwnP w w' v l) : ParsePost key s w (.returned (.tuple #[v, .int .i64 0])) w' := by
  refine ⟨v, ?_, ?_⟩
  · rw [h]
  · rw [h]
    exact ho
set_option maxRecDepth 20000 in
theorem parse_short {key s : ByteArray} (h : s.size < 38) : parseM key s = ([], 2) := by unfold parseM; rw [if_pos h]
def parseP (mc p tg : ByteArray) : List PartM × Int :=
  if tg ≠ mc then ([], 17) else match readM p with
    | none => ([], 4)
    | some R => if rightM (R.map (·.1)) = false ∨ bodyB R ≠ p then ([], 4) else if sumsOk R then (R.map (·.1), 0) else ([], 5)
section
variable {key s p tg : ByteArray} {n : Nat} (hn : s.size = n + 32) (h6 : 6 ≤ n) (hp : s.extract 0 n = p) (ht : s.extract n (n + 32) = tg)
include hn h6 hp ht
set_option maxRecDepth 20000 in
theorem parse_eq : parseM key s = parseP (macB key p) p tg := by
  unfold parseP
  unfold parseM
  rw [if_neg (by omega), show s.size - 32 = n by omega, show s.size = n + 32 from hn, hp, ht]
  rfl
end
set_option maxRecDepth 20000 in
theorem sums_drop {R : Sums} {k : Nat} {x : PartM × ByteArray} (hx : R[k]? = some x) : sumsOk (R.drop k) = (decide (digB x.1.text = x.2) && sumsOk (R.drop (k + 1))) := by
  have hk := (List.getElem?_eq_some_iff.1 hx)
  unfold sumsOk
  rw [List.drop_eq_getElem_cons hk.1, hk.2, List.all_cons]
set_option maxRecDepth 20000 in
set_option maxHeartbeats 4000000 in
theorem rbParse_calls (key s : ByteArray) (hk : key.size ≤ 1000000) (hs : s.size ≤ 1000000) (w : World) : Calls Try.prog 15 #[.string key, .string s] w (ParsePost key s w) := by
  by_cases hlen : (s.size : Int) - 32 < 6
  · have HE := hide (parse_short (key := key) (s := s) (by omega))
    go_enter Try.func15, Try.ntmps15
    go_wp2_with fail
    go_ret2
    exact parse_bad HE.out (Below.refl _ _)
  obtain ⟨n, hn⟩ : ∃ n : Nat, s.size = n + 32 := ⟨s.size - 32, by omega⟩
  have h6 : 6 ≤ n := by omega
  have hnI : (s.size : Int) - 32 = (n : Int) := by omega
  have h6b : ¬ (n : Int) < 6 := by omega
  have hn0 : (0 : Int) ≤ (n : Int) := by omega
  have hns : (n : Int) ≤ (s.size : Int) := by omega
  obtain ⟨p, hp⟩ : ∃ p, s.extract 0 n = p := ⟨_, rfl⟩
  obtain ⟨tg, ht⟩ : ∃ p, s.extract n (n + 32) = p := ⟨_, rfl⟩
  have HPE := hide (fun key => parse_eq (key := key) hn h6 hp ht)
  have hps : p.size = n := by rw [← hp, ByteArray.size_extract]; omega
  have HMAC := hide (rmOf_calls key p (by omega) (by omega))
  have HRD := hide (rbread_calls p (by omega))
  have HLIM := hide (fun R h => readM_lim (s := p) (by omega) (R := R) h)
  have HPS : Hid (p.size ≤ 1000000) := hide (by omega)
  have HP := hide hp
  have HT : Hid (s.extract n s.size = tg) := hide (by rw [hn]; exact ht)
  have HPI := hide (HPE.out key)
  obtain ⟨mc, hmc⟩ : ∃ m, macB key p = m := ⟨_, rfl⟩
  rw [hmc] at HMAC HPI
  clear hp ht hps hn hlen HPE hmc
  go_enter Try.func15, Try.ntmps15
  go_wp2_with fail
  refine wp_region_heads [0, 1, 2, 3, 4, 5, 6] 2 (fun _ => True) (by kernel_rfl) rfl (by kernel_rfl) (by kernel_rfl) (fun _ _ d _ _ h => by cases d <;> exact h) trivial ?_
  iterate 7
    refine' Heads.step rfl (by rfl) ?_ ?_
    rotate_left
    · intro w' hSw
      go_simp
      try with_reducible rfl
    simp only [Act.put, List.setIfInBounds_toArray, List.set_cons_zero, List.set_cons_succ]
  refine Heads.done ?_
  refine wpAnyH_ready (rs := [7]) (by kernel_rfl) (by simp) (AllReadyH.cons rfl (fun K hK => ?_) AllReadyH.nil)
  go_simp
  rw [HP.out]
  refine (HMAC.out _).mono ?_
  rintro e w1 ⟨rfl, hb1⟩
  have HB1 := hide (show Below w.heap.size w w1 from (Below.refl w.heap.size w).drew.trans hb1)
  clear hb1
  refine hK.out _ _ trivial (fun hHeld1 => ?_)
  clear hK K
  refine wpAnyH_more [8] 0 rfl (by kernel_rfl) (by kernel_rfl) (fun _ _ d _ _ h => by cases d <;> exact h) trivial ?_
  iterate 1
    refine' Heads.step rfl (by rfl) ?_ ?_
    rotate_left
    · intro w' hSw
      go_simp
      try with_reducible rfl
    simp only [Act.put, List.setIfInBounds_toArray, List.set_cons_zero, List.set_cons_succ]
  refine Heads.done ?_
  refine wpAnyH_done (by kernel_rfl) ?_ _
  rw [lbeq, HT.out]
  by_cases he : tg = mc
  case neg =>
    have HE : Hid (parseM key s = ([], 17)) := hide (by rw [HPI.out]; unfold parseP; rw [if_pos he])
    rw [decide_eq_false he]
    clear he
    go_wp2_with fail
    go_ret2
    exact parse_bad HE.out HB1.out
  rw [decide_eq_true he]
  have HPQ : Hid (parseM key s = parseP tg p tg) := hide (by rw [HPI.out, he])
  clear he HPI
  go_wp2_with fail
  rw [HP.out]
  refine (HRD.out _).mono ?_
  rintro e w2 ⟨hb2, hm⟩
  have HB2 := hide (HB1.out.trans (hb2.mono HB1.out.size))
  clear hb2
  cases hR : readM p with
  | none =>
    rw [hR] at hm
    subst hm
    have HE : Hid (parseM key s = ([], 4)) := hide (by rw [HPQ.out]; unfold parseP; rw [if_neg (by simp), hR])
    clear hR
    go_wp2_with fail
    refine wp_region_heads [0, 1, 2, 3, 4, 5, 6, 7, 8, 9, 10, 11, 12, 13, 14, 15] 0 (fun _ => True) (by kernel_rfl) rfl (by kernel_rfl) (by kernel_rfl) (fun _ _ d _ _ h => by cases d <;> exact h) trivial ?_
    iterate 16
      first
      | refine' Heads.skip rfl (by rfl) ?_
      | (refine' Heads.step rfl (by rfl) ?_ ?_
         rotate_left
         · intro w' hSw
           go_simp
           try with_reducible rfl)
      simp only [Act.put, List.setIfInBounds_toArray, List.set_cons_zero, List.set_cons_succ]
    refine Heads.done ?_
    refine wpAnyH_done (by kernel_rfl) ?_ _
    go_wp2_with fail
    go_ret2
    exact parse_bad HE.out HB2.out.drew
  | some R =>
    rw [hR] at hm
    obtain ⟨v, u, rfl, ho, hq⟩ := hm
    obtain ⟨hl1, hl2, hl3⟩ := HLIM.out R hR
    have HE : Hid (parseM key s = if rightM (R.map (·.1)) = false ∨ bodyB R ≠ p then ([], 4) else if sumsOk R then (R.map (·.1), 0) else ([], 5)) := hide (by rw [HPQ.out]; unfold parseP; rw [if_neg (by simp), hR])
    have HMID : Hid (MidL (R.map (·.1))) := hide ⟨by rw [List.length_map]; omega, fun q hq => by
      obtain ⟨x, hx, rfl⟩ := List.mem_map.1 hq
      exact (hl2 x hx).1⟩
    have ho2 := ho
    have hq2 := hq
    obtain ⟨A, c, rfl, hc, hrd⟩ := row_reads pcells_len ho.row
    obtain ⟨B, c2, rfl, hc2, hrdu⟩ := row_reads sv_len hq.row
    have HO : Hid (Own w w2 34 4 (.slice A R.length c) (R.map (·.1)).length ((R.map (·.1)).flatMap PartM.cells)) := hide (by
      have := Own.base ho2 HB1.out
      rwa [show Value.slice A (R.map (·.1)).length c = Value.slice A R.length c by rw [List.length_map]] at this)
    have HRA := hide hrd
    have HRB := hide hrdu
    have HRI := hide (rbRight_calls (w := w2.drew) c (hrd.below (Below.refl _ _).drew) HMID.out)
    have HBODY := hide (fun w3 (h : Below w2.heap.size w2 w3) => rbbody_calls (w := w3) (R := R) c c2 (hrd.below h) (hrdu.below h) HMID.out (by have := HPS.out; omega))
    have HDG := hide (fun w3 (h : Below w2.heap.size w2 w3) => rbdigests_calls (w := w3) c (hrd.below h) HMID.out)
    simp only [List.length_map] at HRI HDG ⊢
    have hlen : R.length ≤ 65535 := hl1
    clear ho hq ho2 hq2 hc hc2 hrd hrdu hR hl1 hl2 hl3 HPQ HRD HMAC HLIM
    obtain ⟨g, hg⟩ : ∃ g, rightM (R.map (·.1)) = g := ⟨_, rfl⟩
    rw [hg] at HRI HE
    clear hg
    cases g
    · have HE2 : Hid (parseM key s = ([], 4)) := hide (by rw [HE.out, if_pos (.inl rfl)])
      go_wp2_with fail
      refine wp_region_heads [0, 1, 2, 3] 12 (fun _ => True) (by kernel_rfl) rfl (by kernel_rfl) (by kernel_rfl) (fun _ _ d _ _ h => by cases d <;> exact h) trivial ?_
      iterate 4
        first
        | refine' Heads.skip rfl (by rfl) ?_
        | (refine' Heads.step rfl (by rfl) ?_ ?_
           rotate_left
           · intro w' hSw
             go_simp
             try with_reducible rfl)
        simp only [Act.put, List.setIfInBounds_toArray, List.set_cons_zero, List.set_cons_succ]
      refine Heads.done ?_
      refine wpAnyH_ready (rs := [4]) (by kernel_rfl) (by simp) (AllReadyH.cons rfl (fun K hK => ?_) AllReadyH.nil)
      go_simp
      refine (HRI.out).mono ?_
      rintro e w3 ⟨rfl, hb3⟩
      have HB3 := hide (show Below w2.heap.size w2 w3 from (Below.refl w2.heap.size w2).drew.trans hb3)
      clear hb3
      refine hK.out _ _ trivial (fun hHeld1 => ?_)
      clear hK K
      refine wpAnyH_more [5, 6, 7, 8, 9, 10, 11, 12, 13, 14, 15] 0 rfl (by kernel_rfl) (by kernel_rfl) (fun _ _ d _ _ h => by cases d <;> exact h) trivial ?_
      iterate 11
        first
        | refine' Heads.skip rfl (by rfl) ?_
        | (refine' Heads.step rfl (by rfl) ?_ ?_
           rotate_left
           · intro w' hSw
             go_simp
             try with_reducible rfl)
        simp only [Act.put, List.setIfInBounds_toArray, List.set_cons_zero, List.set_cons_succ]
      refine Heads.done ?_
      refine wpAnyH_done (by kernel_rfl) ?_ _
      go_wp2_with fail
      go_ret2
      exact parse_bad HE2.out (HB2.out.trans (HB3.out.mono HB2.out.size))
    · have HE2 : Hid (parseM key s = if bodyB R ≠ p then ([], 4) else if sumsOk R then (R.map (·.1), 0) else ([], 5)) := hide (by rw [HE.out]; simp)
      clear HE
      generalize bodyB R = out at *
      go_wp2_with fail
      refine wp_region_heads [0, 1, 2, 3] 12 (fun _ => True) (by kernel_rfl) rfl (by kernel_rfl) (by kernel_rfl) (fun _ _ d _ _ h => by cases d <;> exact h) trivial ?_
      iterate 4
        first
        | refine' Heads.skip rfl (by rfl) ?_
        | (refine' Heads.step rfl (by rfl) ?_ ?_
           rotate_left
           · intro w' hSw
             go_simp
             try with_reducible rfl)
        simp only [Act.put, List.setIfInBounds_toArray, List.set_cons_zero, List.set_cons_succ]
      refine Heads.done ?_
      refine wpAnyH_ready (rs := [4]) (by kernel_rfl) (by simp) (AllReadyH.cons rfl (fun K hK => ?_) AllReadyH.nil)
      go_simp
      refine (HRI.out).mono ?_
      rintro e w3 ⟨rfl, hb3⟩
      have HB3 := hide (show Below w2.heap.size w2 w3 from (Below.refl w2.heap.size w2).drew.trans hb3)
      clear hb3
      refine hK.out _ _ trivial (fun hHeld1 => ?_)
      clear hK K
      refine wpAnyH_more [5, 6, 7, 8, 9, 11, 12, 13] 3 rfl (by kernel_rfl) (by kernel_rfl) (fun _ _ d _ _ h => by cases d <;> exact h) trivial ?_
      iterate 8
        first
        | refine' Heads.skip rfl (by rfl) ?_
        | (refine' Heads.step rfl (by rfl) ?_ ?_
           rotate_left
           · intro w' hSw
             go_simp
             try with_reducible rfl)
        simp only [Act.put, List.setIfInBounds_toArray, List.set_cons_zero, List.set_cons_succ]
      refine Heads.done ?_
      refine wpAnyH_ready (rs := [10]) (by kernel_rfl) (by simp) (AllReadyH.cons rfl (fun K hK => ?_) AllReadyH.nil)
      go_simp
      refine (HBODY.out _ HB3.out).mono ?_
      rintro e w4 ⟨rfl, hb4⟩
      have HB4 := hide (HB3.out.trans (hb4.mono HB3.out.size))
      clear hb4
      refine hK.out _ _ trivial (fun hHeld2 => ?_)
      clear hK K
      rw [HP.out]
      refine wpAnyH_more [14, 15] 0 rfl (by kernel_rfl) (by kernel_rfl) (fun _ _ d _ _ h => by cases d <;> exact h) trivial ?_
      iterate 2
        first
        | refine' Heads.skip rfl (by rfl) ?_
        | (refine' Heads.step rfl (by rfl) ?_ ?_
           rotate_left
           · intro w' hSw
             go_simp
             try with_reducible rfl)
        simp only [Act.put, List.setIfInBounds_toArray, List.set_cons_zero, List.set_cons_succ]
      refine Heads.done ?_
      refine wpAnyH_done (by kernel_rfl) ?_ _
      rw [lbeq]
      by_cases ho : out = p
      case neg =>
        have HE3 : Hid (parseM key s = ([], 4)) := hide (by rw [HE2.out, if_pos ho])
        rw [decide_eq_false ho]
        clear ho
        go_wp2_with fail
        go_ret2
        exact parse_bad HE3.out (HB2.out.trans (HB4.out.mono HB2.out.size))
      rw [decide_eq_true ho]
      have HE3 : Hid (parseM key s = if sumsOk (R.drop 0) then (R.map (·.1), 0) else ([], 5)) := hide (by rw [HE2.out, if_neg (by simpa using ho)]; rfl)
      clear HE2 ho
      go_wp2_with fail
      refine (HDG.out _ HB4.out).mono ?_
      rintro e w5 ⟨v5, rfl, ho5⟩
      have HB5 := hide (HB4.out.trans (ho5.bel.mono HB4.out.size))
      obtain ⟨C, c5, rfl, hc5, hrd5⟩ := row_reads sv_len ho5.row
      have HRC := hide hrd5
      simp only [List.length_map]
      clear ho5 hc5 hrd5 HDG HBODY HRI HRA HB4 HB3 HB1
      go_wp2_with fail
      go_loopw [11] (fun i wr => ∃ k : Nat, k ≤ R.length ∧ i = .int .i64 (k : Int) ∧ Hid (Below w5.heap.size w5 wr) ∧ Hid (parseM key s = if sumsOk (R.drop k) then (R.map (·.1), 0) else ([], 5))) (fun i _ => R.length - (intOf i).toNat)
      case atStart => exact ⟨0, by omega, rfl, hide (Below.refl _ _), HE3⟩
      case round =>
        obtain ⟨k, hk, rfl, HW, HD⟩ := hrel
        have HWW := hide (HB2.out.trans ((HB5.out.trans (HW.out.mono HB5.out.size)).mono HB2.out.size))
        by_cases hlt : k < R.length
        · obtain ⟨x, hx⟩ : ∃ x, R[k]? = some x := ⟨_, List.getElem?_eq_getElem hlt⟩
          have hx1 : ((R.map (·.1)).map fun p => digB p.text)[k]? = some (digB x.1.text) := by rw [List.getElem?_map, List.getElem?_map, hx]; rfl
          have hx2 : (R.map (·.2))[k]? = some x.2 := by rw [List.getElem?_map, hx]; rfl
          have HS := hide (sums_drop hx)
          have hkI : (k : Int) < (R.length : Int) := by omega
          have hk0 : (0 : Int) ≤ (k : Int) := by omega
          obtain ⟨ba, oa, hA, _, hcc⟩ := HRC.out.kept HW.out hx1
          obtain ⟨bb, ob, hB, _, hdd⟩ := HRB.out.kept (HB5.out.trans (HW.out.mono HB5.out.size)) hx2
          subst hA
          subst hB
          obtain ⟨xd, hxd⟩ : ∃ d, digB x.1.text = d := ⟨_, rfl⟩
          obtain ⟨xu, hxu⟩ : ∃ d, x.2 = d := ⟨_, rfl⟩
          rw [hxd, hxu] at HS
          have x0 : wr.cell? ⟨ba, oa + k, none⟩ = some (.string xd) := by
            have := hcc 0 _ rfl
            rw [hxd] at this
            simpa using this
          have y0 : wr.cell? ⟨bb, ob + k, none⟩ = some (.string xu) := by
            have := hdd 0 _ rfl
            rw [hxu] at this
            simpa using this
          clear hcc hdd hx hx1 hx2 hxd hxu
          go_wp2_with fail
          refine wp_region_heads [0, 1, 2, 3, 4, 5, 6, 7, 8] 0 (fun w' => w'.cell? ⟨ba, oa + k, none⟩ = some (.string xd) ∧ w'.cell? ⟨bb, ob + k, none⟩ = some (.string xu)) (by kernel_rfl) rfl (by kernel_rfl) (by kernel_rfl) (fun _ _ d _ _ h => by cases d <;> exact h) ⟨x0, y0⟩ ?_
          iterate 9
            refine' Heads.step rfl (by rfl) ?_ ?_
            rotate_left
            · intro w' hSw
              obtain ⟨q0, q1⟩ := hSw
              go_simp
              try with_reducible rfl
            simp only [Act.put, List.setIfInBounds_toArray, List.set_cons_zero, List.set_cons_succ]
          refine Heads.done ?_
          refine wpAnyH_done (by kernel_rfl) ?_ _
          rw [lbeq]
          by_cases he : xd = xu
          · have HD2 : Hid (parseM key s = if sumsOk (R.drop (k + 1)) then (R.map (·.1), 0) else ([], 5)) := hide (by
              rw [HD.out, HS.out, decide_eq_true he, Bool.true_and])
            rw [decide_eq_true he]
            clear he HS
            go_wp2_with fail
            refine ⟨⟨k + 1, by omega, by go_num, hide HW.out.drew, HD2⟩, ?_⟩
            simp [intOf]
            omega
          · have HD2 : Hid (parseM key s = ([], 5)) := hide (by
              rw [HD.out, HS.out, decide_eq_false he, Bool.false_and]
              rfl)
            rw [decide_eq_false he]
            clear he HS
            go_wp2_with fail
            go_ret2
            exact parse_bad HD2.out HWW.out.drew
        · obtain rfl : k = R.length := by omega
          have HD2 : Hid (parseM key s = (R.map (·.1), 0)) := hide (by
            rw [HD.out, List.drop_length]
            rfl)
          go_wp2_with fail
          go_ret2
          exact parse_good HD2.out (HO.out.below (HB5.out.trans (HW.out.mono HB5.out.size)))
end Go.Proofs.Ytkipmbnmmbeeaaa
