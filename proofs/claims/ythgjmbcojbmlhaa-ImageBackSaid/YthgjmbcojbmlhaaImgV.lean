/- Chapter 14: the document's num and laid, walked. -/
import Derived.Test.YthgjmbcojbmlhaaImgU
namespace Go.Proofs.Ythgjmbcojbmlhaa
open Go.RowKit Zb

set_option maxRecDepth 20000 in
theorem rugnum_calls (n : Int) (h0 : -9223372036854775808 ≤ n) (h1 : n < 9223372036854775808) (width : Int) (w : World) : Calls Try.prog 22 #[.int .i64 n, .int .i64 width] w fun e w' => e = .returned (.string (putB n width)) ∧ Below w.heap.size w w' := by
  have HP := hide (roPut_calls n h0 h1 width)
  clear h0 h1
  go_enter Try.func22, Try.ntmps22
  go_wp2_with fail
  refine (HP.out _).mono ?_
  rintro e w1 ⟨rfl, hb1⟩
  go_wp2_with fail
  go_ret
  exact ⟨rfl, hb1⟩
set_option maxRecDepth 20000 in
theorem capR {c : CapM} (h : capOk c = true) : 0 ≤ c.index ∧ c.index ≤ 255 := in_lim h
set_option maxRecDepth 20000 in
set_option maxHeartbeats 4000000 in
theorem ruglaid_calls {w : World} (v : ProtoV) (hr : v.Reads w) (hl : ProtoL v.p) (hc : ProtoR v.p) : Calls Try.prog 23 #[.agg #[.string v.p.name, .int .i64 v.p.params, .int .i64 v.p.regs, .slice v.cA v.p.code.length v.cc, .slice v.kA v.p.consts.length v.kc, .slice v.pA v.p.caps.length v.pc]] w fun e w' => e = .returned (.string (protoB v.p)) ∧ Below w.heap.size w w' := by
  have HRR := hide hr
  have HL := hide hl
  have HC := hide hc
  have hcl := hl.code.1
  have hkl := hl.consts.1
  have hpl := hl.caps.1
  have hcI : (v.p.code.length : Int) ≤ 8000 := by omega
  have hkI : (v.p.consts.length : Int) ≤ 200 := by omega
  have hpI : (v.p.caps.length : Int) ≤ 255 := by omega
  have HE : Hid (protoB v.p = textB v.p.name ++ putB v.p.params 1 ++ putB v.p.regs 1 ++ putB v.p.caps.length 2 ++ catB capB v.p.caps ++ putB v.p.consts.length 2 ++ catB conB v.p.consts ++ putB v.p.code.length 2 ++ catB insB v.p.code) := hide rfl
  have HT := hide (fun w1 => roText_calls v.p.name (by have := hl.name; omega) w1)
  have HN1 := hide (rugnum_calls v.p.params (by have := hl.params; omega) (by have := hl.params; omega) 1)
  have HN2 := hide (rugnum_calls v.p.regs (by have := hl.regs; omega) (by have := hl.regs; omega) 1)
  have HN3 := hide (rugnum_calls v.p.caps.length (by omega) (by omega) 2)
  have HN4 := hide (rugnum_calls v.p.consts.length (by omega) (by omega) 2)
  have HN5 := hide (rugnum_calls v.p.code.length (by omega) (by omega) 2)
  have t1 := textB_le8 v.p.name (by have := hl.name; omega)
  have t2 := putB_le8 v.p.params 1
  have t3 := putB_le8 v.p.regs 1
  have t4 := putB_le8 v.p.caps.length 2
  have t5 := putB_le8 v.p.consts.length 2
  have t6 := putB_le8 v.p.code.length 2
  have HB0 := hide ((Below.refl w.heap.size w).alloc (Nat.le_refl _) (.cells #[.string v.p.name, .int .i64 v.p.params, .int .i64 v.p.regs, .slice v.cA v.p.code.length v.cc, .slice v.kA v.p.consts.length v.kc, .slice v.pA v.p.caps.length v.pc] 38))
  have HK0 := hide (Blk.new w 38 #[.string v.p.name, .int .i64 v.p.params, .int .i64 v.p.regs, .slice v.cA v.p.code.length v.cc, .slice v.kA v.p.consts.length v.kc, .slice v.pA v.p.caps.length v.pc])
  generalize protoB v.p = res at *
  generalize textB v.p.name = a0 at *
  generalize putB v.p.params 1 = a1 at *
  generalize putB v.p.regs 1 = a2 at *
  generalize putB v.p.caps.length 2 = a3 at *
  generalize putB v.p.consts.length 2 = a4 at *
  generalize putB v.p.code.length 2 = a5 at *
  clear hr hl hc
  have e1 : ¬ 9223372036854775807 < (a0.size + a1.size) := by omega
  have e2 : ¬ 9223372036854775807 < (a0.size + a1.size + a2.size) := by omega
  have e3 : ¬ 9223372036854775807 < (a0.size + a1.size + a2.size + a3.size) := by omega
  have HSZ : Hid ((a0 ++ a1 ++ a2 ++ a3).size ≤ 1200) := hide (by simp only [ByteArray.size_append]; omega)
  go_enter Try.func23, Try.ntmps23
  go_wp2_with fail
  refine wp_region_heads [0, 1, 3, 4, 7, 8, 11, 12, 13] 8 (fun w' => Below w.heap.size w w' ∧ Blk w' w.heap.size 38 #[.string v.p.name, .int .i64 v.p.params, .int .i64 v.p.regs, .slice v.cA v.p.code.length v.cc, .slice v.kA v.p.consts.length v.kc, .slice v.pA v.p.caps.length v.pc]) (by kernel_rfl) rfl (by kernel_rfl) (by kernel_rfl) (fun _ _ d _ _ h => by cases d <;> exact h) ⟨HB0.out.drew, HK0.out⟩ ?_
  iterate 9
    refine' Heads.step rfl (by rfl) ?_ ?_
    rotate_left
    · intro w' hSw
      obtain ⟨qb, qk⟩ := hSw
      have r0 : w'.cell? ⟨w.heap.size, 0, none⟩ = some (.string v.p.name) := qk.cell 0
      have r1 : w'.cell? ⟨w.heap.size, 1, none⟩ = some (.int .i64 v.p.params) := qk.cell 1
      have r2 : w'.cell? ⟨w.heap.size, 2, none⟩ = some (.int .i64 v.p.regs) := qk.cell 2
      have r5 : w'.cell? ⟨w.heap.size, 5, none⟩ = some (.slice v.pA v.p.caps.length v.pc) := qk.cell 5
      go_simp
      try with_reducible rfl
    simp only [Act.put, List.setIfInBounds_toArray, List.set_cons_zero, List.set_cons_succ]
  refine Heads.done ?_
  refine wpAnyH_ready (rs := [2]) (by kernel_rfl) (by simp) (AllReadyH.cons rfl (fun K hK => ?_) AllReadyH.nil)
  go_simp
  refine (HT.out _).mono ?_
  rintro e w2 ⟨rfl, hb1⟩
  refine hK.out _ _ ⟨HB0.out.drew.trans (hb1.mono HB0.out.drew.size), (show Blk (w.alloc (.cells #[.string v.p.name, .int .i64 v.p.params, .int .i64 v.p.regs, .slice v.cA v.p.code.length v.cc, .slice v.kA v.p.consts.length v.kc, .slice v.pA v.p.caps.length v.pc] 38)).drew w.heap.size 38 _ from HK0.out).below hb1 HK0.out.lt⟩ (fun hHeld1 => ?_)
  clear hK K
  refine wpAnyH_ready (rs := [5]) (by kernel_rfl) (by simp) (AllReadyH.cons rfl (fun K hK => ?_) AllReadyH.nil)
  go_simp
  refine (HN1.out _).mono ?_
  rintro e w3 ⟨rfl, hb2⟩
  refine hK.out _ _ ⟨hHeld1.1.trans (hb2.mono hHeld1.1.size), hHeld1.2.below hb2 hHeld1.2.lt⟩ (fun hHeld2 => ?_)
  clear hK K
  refine wpAnyH_more [6] 5 rfl (by kernel_rfl) (by kernel_rfl) (fun _ _ d _ _ h => by cases d <;> exact h) hHeld2 ?_
  iterate 1
    refine' Heads.step rfl (by rfl) ?_ ?_
    rotate_left
    · intro w' hSw
      go_simp
      try with_reducible rfl
    simp only [Act.put, List.setIfInBounds_toArray, List.set_cons_zero, List.set_cons_succ]
  refine Heads.done ?_
  refine wpAnyH_ready (rs := [9]) (by kernel_rfl) (by simp) (AllReadyH.cons rfl (fun K hK => ?_) AllReadyH.nil)
  go_simp
  refine (HN2.out _).mono ?_
  rintro e w4 ⟨rfl, hb3⟩
  refine hK.out _ _ ⟨hHeld2.1.trans (hb3.mono hHeld2.1.size), hHeld2.2.below hb3 hHeld2.2.lt⟩ (fun hHeld3 => ?_)
  clear hK K
  refine wpAnyH_more [10] 3 rfl (by kernel_rfl) (by kernel_rfl) (fun _ _ d _ _ h => by cases d <;> exact h) hHeld3 ?_
  iterate 1
    refine' Heads.step rfl (by rfl) ?_ ?_
    rotate_left
    · intro w' hSw
      go_simp
      try with_reducible rfl
    simp only [Act.put, List.setIfInBounds_toArray, List.set_cons_zero, List.set_cons_succ]
  refine Heads.done ?_
  refine wpAnyH_ready (rs := [14]) (by kernel_rfl) (by simp) (AllReadyH.cons rfl (fun K hK => ?_) AllReadyH.nil)
  go_simp
  refine (HN3.out _).mono ?_
  rintro e w5 ⟨rfl, hb4⟩
  refine hK.out _ _ ⟨hHeld3.1.trans (hb4.mono hHeld3.1.size), hHeld3.2.below hb4 hHeld3.2.lt⟩ (fun hHeld4 => ?_)
  clear hK K
  refine wpAnyH_more [15, 16] 0 rfl (by kernel_rfl) (by kernel_rfl) (fun _ _ d _ _ h => by cases d <;> exact h) hHeld4 ?_
  iterate 2
    refine' Heads.step rfl (by rfl) ?_ ?_
    rotate_left
    · intro w' hSw
      go_simp
      try with_reducible rfl
    simp only [Act.put, List.setIfInBounds_toArray, List.set_cons_zero, List.set_cons_succ]
  refine Heads.done ?_
  refine wpAnyH_done (by kernel_rfl) ?_ _
  have HB1 := hide hHeld4.1
  have HK1 := hide hHeld4.2
  clear hHeld1 hHeld2 hHeld3 hHeld4 hb1 hb2 hb3 hb4 e1 e2 e3 t1 t2 t3 t4 HN1 HN2 HN3 HT HB0 HK0
  obtain ⟨hd, hhd⟩ : ∃ z, (a0 ++ a1 ++ a2 ++ a3 : ByteArray) = z := ⟨_, rfl⟩
  have HHD : Hid (hd = a0 ++ a1 ++ a2 ++ a3) := hide hhd.symm
  rw [hhd] at HSZ ⊢
  clear hhd
  go_wp2_with fail
  go_loopw [4, 5, 3] (fun i _ t wr => ∃ (k : Nat) (s : ByteArray), k ≤ v.p.caps.length ∧ i = .int .i64 (k : Int) ∧ t = .string s ∧ Hid (s = hd ++ catB capB (v.p.caps.take k)) ∧ Hid (s.size ≤ 1200 + k * 16) ∧ Hid (Below w.heap.size w wr) ∧ Hid (Blk wr w.heap.size 38 #[.string v.p.name, .int .i64 v.p.params, .int .i64 v.p.regs, .slice v.cA v.p.code.length v.cc, .slice v.kA v.p.consts.length v.kc, .slice v.pA v.p.caps.length v.pc])) (fun i _ _ _ => v.p.caps.length - (intOf i).toNat)
  case atStart => exact ⟨0, hd, by omega, rfl, rfl, hide (by show hd = hd ++ ⟨#[]⟩; rw [bemp]), hide (by have := HSZ.out; omega), HB1, HK1⟩
  case round =>
    clear HB1 HK1
    obtain ⟨k, s, hk, rfl, rfl, HP, HZ, HB, HK⟩ := hrel
    by_cases hlt : k < v.p.caps.length
    case pos =>
      obtain ⟨x, hx⟩ : ∃ x, v.p.caps[k]? = some x := ⟨_, List.getElem?_eq_getElem hlt⟩
      have hkL : (k : Int) < (v.p.caps.length : Int) := by omega
      have hk0 : (0 : Int) ≤ (k : Int) := by omega
      have HNX := hide (catB_take capB v.p.caps k x hx)
      have hz := HZ.out
      obtain ⟨ba, oa, hA, hal, hc⟩ := HRR.out.caps k x hx
      have HCX : Hid (∀ w1, Below w.heap.size w w1 → w1.cell? ⟨ba, oa + k * 2 + 1, none⟩ = some (.int .i64 x.index)) := hide fun w1 h => (h.cell (p := ⟨ba, oa + k * 2 + 1, none⟩) hal).trans (hc 1 _ rfl)
      have x0 : wr.cell? ⟨ba, oa + k * 2, none⟩ = some (.bool x.up) := (HB.out.cell (p := ⟨ba, oa + k * 2, none⟩) hal).trans (hc 0 _ rfl)
      have s5 : wr.cell? ⟨w.heap.size, 5, none⟩ = some (.slice v.pA v.p.caps.length v.pc) := HK.out.cell 5
      rw [hA] at s5
      have HAA := hide hA
      have hcx := capR (HL.out.caps.2 x (List.mem_of_getElem? hx))
      have HM2 := hide (rugnum_calls x.index (by omega) (by omega) 1)
      have m2 := putB_le8 x.index 1
      have m1 := putB_le8 (if x.up then 1 else 0) 1
      have HCB : Hid (capB x = putB (if x.up then 1 else 0) 1 ++ putB x.index 1) := hide rfl
      generalize putB x.index 1 = b2 at *
      clear hA hc hx
      obtain ⟨up, hup⟩ : ∃ b, x.up = b := ⟨_, rfl⟩
      rw [hup] at x0 HCB m1
      clear hup
      cases up
      case false =>
        have HM1 := hide (rugnum_calls 0 (by omega) (by omega) 1)
        rw [if_neg (by simp)] at HCB m1
        generalize putB 0 1 = b1 at *
        have f1 : ¬ 9223372036854775807 < (s.size + b1.size) := by omega
        have f2 : ¬ 9223372036854775807 < (s.size + b1.size + b2.size) := by omega
        go_wp2_with fail
        refine wp_region_heads [0, 1, 4, 5, 6, 7, 8, 9] 5 (fun w' => Below w.heap.size w w' ∧ Blk w' w.heap.size 38 #[.string v.p.name, .int .i64 v.p.params, .int .i64 v.p.regs, .slice v.cA v.p.code.length v.cc, .slice v.kA v.p.consts.length v.kc, .slice v.pA v.p.caps.length v.pc]) (by kernel_rfl) rfl (by kernel_rfl) (by kernel_rfl) (fun _ _ d _ _ h => by cases d <;> exact h) ⟨HB.out.drew, HK.out⟩ ?_
        iterate 8
          refine' Heads.step rfl (by rfl) ?_ ?_
          rotate_left
          · intro w' hSw
            obtain ⟨qb, qk⟩ := hSw
            have r5 : w'.cell? ⟨w.heap.size, 5, none⟩ = some (.slice v.pA v.p.caps.length v.pc) := qk.cell 5
            rw [HAA.out] at r5
            have p1 := HCX.out w' qb
            go_simp
            try with_reducible rfl
          simp only [Act.put, List.setIfInBounds_toArray, List.set_cons_zero, List.set_cons_succ]
        refine Heads.done ?_
        refine wpAnyH_ready (rs := [2]) (by kernel_rfl) (by simp) (AllReadyH.cons rfl (fun K hK => ?_) AllReadyH.nil)
        go_simp
        refine (HM1.out _).mono ?_
        rintro e w2 ⟨rfl, hb1⟩
        refine hK.out _ _ ⟨HB.out.drew.trans (hb1.mono HB.out.drew.size), (show Blk wr.drew w.heap.size 38 _ from HK.out).below hb1 HK.out.lt⟩ (fun hHeld1 => ?_)
        clear hK K
        refine wpAnyH_more [3] 3 rfl (by kernel_rfl) (by kernel_rfl) (fun _ _ d _ _ h => by cases d <;> exact h) hHeld1 ?_
        iterate 1
          refine' Heads.step rfl (by rfl) ?_ ?_
          rotate_left
          · intro w' hSw
            go_simp
            try with_reducible rfl
          simp only [Act.put, List.setIfInBounds_toArray, List.set_cons_zero, List.set_cons_succ]
        refine Heads.done ?_
        refine wpAnyH_ready (rs := [10]) (by kernel_rfl) (by simp) (AllReadyH.cons rfl (fun K hK => ?_) AllReadyH.nil)
        go_simp
        refine (HM2.out _).mono ?_
        rintro e w3 ⟨rfl, hb2⟩
        refine hK.out _ _ ⟨hHeld1.1.trans (hb2.mono hHeld1.1.size), hHeld1.2.below hb2 hHeld1.2.lt⟩ (fun hHeld2 => ?_)
        clear hK K
        refine wpAnyH_more [11, 12] 0 rfl (by kernel_rfl) (by kernel_rfl) (fun _ _ d _ _ h => by cases d <;> exact h) hHeld2 ?_
        iterate 2
          refine' Heads.step rfl (by rfl) ?_ ?_
          rotate_left
          · intro w' hSw
            go_simp
            try with_reducible rfl
          simp only [Act.put, List.setIfInBounds_toArray, List.set_cons_zero, List.set_cons_succ]
        refine Heads.done ?_
        refine wpAnyH_done (by kernel_rfl) ?_ _
        have HNEW : Hid (s ++ b1 ++ b2 = hd ++ catB capB (v.p.caps.take (k + 1))) := hide (by rw [HNX.out, HP.out, HCB.out]; simp only [ByteArray.append_assoc])
        have HZN : Hid ((s ++ b1 ++ b2).size ≤ 1200 + (k + 1) * 16) := hide (by simp only [ByteArray.size_append]; omega)
        clear HZ HP f1 f2 m1 m2 hz
        go_wp2_with fail
        refine ⟨⟨k + 1, _, by omega, by go_num, rfl, HNEW, HZN, hide hHeld2.1, hide hHeld2.2⟩, ?_⟩
        simp [intOf]
        omega
      case true =>
        have HM1 := hide (rugnum_calls 1 (by omega) (by omega) 1)
        rw [if_pos rfl] at HCB m1
        generalize putB 1 1 = b1 at *
        have f1 : ¬ 9223372036854775807 < (s.size + b1.size) := by omega
        have f2 : ¬ 9223372036854775807 < (s.size + b1.size + b2.size) := by omega
        go_wp2_with fail
        refine wp_region_heads [0, 1, 4, 5, 6, 7, 8, 9] 5 (fun w' => Below w.heap.size w w' ∧ Blk w' w.heap.size 38 #[.string v.p.name, .int .i64 v.p.params, .int .i64 v.p.regs, .slice v.cA v.p.code.length v.cc, .slice v.kA v.p.consts.length v.kc, .slice v.pA v.p.caps.length v.pc]) (by kernel_rfl) rfl (by kernel_rfl) (by kernel_rfl) (fun _ _ d _ _ h => by cases d <;> exact h) ⟨HB.out.drew, HK.out⟩ ?_
        iterate 8
          refine' Heads.step rfl (by rfl) ?_ ?_
          rotate_left
          · intro w' hSw
            obtain ⟨qb, qk⟩ := hSw
            have r5 : w'.cell? ⟨w.heap.size, 5, none⟩ = some (.slice v.pA v.p.caps.length v.pc) := qk.cell 5
            rw [HAA.out] at r5
            have p1 := HCX.out w' qb
            go_simp
            try with_reducible rfl
          simp only [Act.put, List.setIfInBounds_toArray, List.set_cons_zero, List.set_cons_succ]
        refine Heads.done ?_
        refine wpAnyH_ready (rs := [2]) (by kernel_rfl) (by simp) (AllReadyH.cons rfl (fun K hK => ?_) AllReadyH.nil)
        go_simp
        refine (HM1.out _).mono ?_
        rintro e w2 ⟨rfl, hb1⟩
        refine hK.out _ _ ⟨HB.out.drew.trans (hb1.mono HB.out.drew.size), (show Blk wr.drew w.heap.size 38 _ from HK.out).below hb1 HK.out.lt⟩ (fun hHeld1 => ?_)
        clear hK K
        refine wpAnyH_more [3] 3 rfl (by kernel_rfl) (by kernel_rfl) (fun _ _ d _ _ h => by cases d <;> exact h) hHeld1 ?_
        iterate 1
          refine' Heads.step rfl (by rfl) ?_ ?_
          rotate_left
          · intro w' hSw
            go_simp
            try with_reducible rfl
          simp only [Act.put, List.setIfInBounds_toArray, List.set_cons_zero, List.set_cons_succ]
        refine Heads.done ?_
        refine wpAnyH_ready (rs := [10]) (by kernel_rfl) (by simp) (AllReadyH.cons rfl (fun K hK => ?_) AllReadyH.nil)
        go_simp
        refine (HM2.out _).mono ?_
        rintro e w3 ⟨rfl, hb2⟩
        refine hK.out _ _ ⟨hHeld1.1.trans (hb2.mono hHeld1.1.size), hHeld1.2.below hb2 hHeld1.2.lt⟩ (fun hHeld2 => ?_)
        clear hK K
        refine wpAnyH_more [11, 12] 0 rfl (by kernel_rfl) (by kernel_rfl) (fun _ _ d _ _ h => by cases d <;> exact h) hHeld2 ?_
        iterate 2
          refine' Heads.step rfl (by rfl) ?_ ?_
          rotate_left
          · intro w' hSw
            go_simp
            try with_reducible rfl
          simp only [Act.put, List.setIfInBounds_toArray, List.set_cons_zero, List.set_cons_succ]
        refine Heads.done ?_
        refine wpAnyH_done (by kernel_rfl) ?_ _
        have HNEW : Hid (s ++ b1 ++ b2 = hd ++ catB capB (v.p.caps.take (k + 1))) := hide (by rw [HNX.out, HP.out, HCB.out]; simp only [ByteArray.append_assoc])
        have HZN : Hid ((s ++ b1 ++ b2).size ≤ 1200 + (k + 1) * 16) := hide (by simp only [ByteArray.size_append]; omega)
        clear HZ HP f1 f2 m1 m2 hz
        go_wp2_with fail
        refine ⟨⟨k + 1, _, by omega, by go_num, rfl, HNEW, HZN, hide hHeld2.1, hide hHeld2.2⟩, ?_⟩
        simp [intOf]
        omega
    case neg =>
      obtain rfl : k = v.p.caps.length := by omega
      rw [List.take_length] at HP
      have hz := HZ.out
      have g1 : ¬ 9223372036854775807 < (s.size + a4.size) := by omega
      have z5 : wr.cell? ⟨w.heap.size, 5, none⟩ = some (.slice v.pA v.p.caps.length v.pc) := HK.out.cell 5
      have z4 : wr.cell? ⟨w.heap.size, 4, none⟩ = some (.slice v.kA v.p.consts.length v.kc) := HK.out.cell 4
      have HSZ2 : Hid ((s ++ a4).size ≤ 8000) := hide (by simp only [ByteArray.size_append]; omega)
      clear HSZ
      have HSZ := HSZ2
      clear HSZ2
      go_wp2_with fail
      refine (HN4.out _).mono ?_
      rintro e w2 ⟨rfl, hb2⟩
      have HB1 := hide (HB.out.trans (hb2.mono HB.out.size))
      have HK1 := hide (HK.out.below hb2 HK.out.lt)
      clear hb2 z4 z5 HB HK HZ hz hlt hk
      rw [HP.out] at g1 HSZ
      have HPE : Hid ((s ++ a4 : ByteArray) = hd ++ catB capB v.p.caps ++ a4) := hide (by rw [HP.out])
      rw [← HP.out] at g1 HSZ
      go_wp2_with fail
      generalize (s ++ a4 : ByteArray) = hd2 at *
      clear g1 HP t5
      go_loopw [6, 7, 3] (fun i _ t wr => ∃ (k : Nat) (s : ByteArray), k ≤ v.p.consts.length ∧ i = .int .i64 (k : Int) ∧ t = .string s ∧ Hid (s = hd2 ++ catB conB (v.p.consts.take k)) ∧ Hid (s.size ≤ 8000 + k * 1200) ∧ Hid (Below w.heap.size w wr) ∧ Hid (Blk wr w.heap.size 38 #[.string v.p.name, .int .i64 v.p.params, .int .i64 v.p.regs, .slice v.cA v.p.code.length v.cc, .slice v.kA v.p.consts.length v.kc, .slice v.pA v.p.caps.length v.pc])) (fun i _ _ _ => v.p.consts.length - (intOf i).toNat)
      case atStart => exact ⟨0, hd2, by omega, rfl, rfl, hide (by show hd2 = hd2 ++ ⟨#[]⟩; rw [bemp]), hide (by have := HSZ.out; omega), HB1, HK1⟩
      case round =>
        clear HB1 HK1
        obtain ⟨k, s, hk, rfl, rfl, HP, HZ, HB, HK⟩ := hrel
        by_cases hlt : k < v.p.consts.length
        case pos =>
          obtain ⟨x, hx⟩ : ∃ x, v.p.consts[k]? = some x := ⟨_, List.getElem?_eq_getElem hlt⟩
          have hkL : (k : Int) < (v.p.consts.length : Int) := by omega
          have hk0 : (0 : Int) ≤ (k : Int) := by omega
          have HNX := hide (catB_take conB v.p.consts k x hx)
          have hz := HZ.out
          obtain ⟨ba, oa, hA, hal, hc⟩ := HRR.out.consts k x hx
          have x0 : wr.cell? ⟨ba, oa + k * 3, none⟩ = some (.int .i64 x.kind) := (HB.out.cell (p := ⟨ba, oa + k * 3, none⟩) hal).trans (hc 0 _ rfl)
          have x1 : wr.cell? ⟨ba, oa + k * 3 + 1, none⟩ = some (.int .i64 x.n) := (HB.out.cell (p := ⟨ba, oa + k * 3 + 1, none⟩) hal).trans (hc 1 _ rfl)
          have x2 : wr.cell? ⟨ba, oa + k * 3 + 2, none⟩ = some (.string x.s) := (HB.out.cell (p := ⟨ba, oa + k * 3 + 2, none⟩) hal).trans (hc 2 _ rfl)
          have s4 : wr.cell? ⟨w.heap.size, 4, none⟩ = some (.slice v.kA v.p.consts.length v.kc) := HK.out.cell 4
          rw [hA] at s4
          have hok := HL.out.consts.2 x (List.mem_of_getElem? hx)
          have hck := con_kind hok
          have hct := con_text hok
          have hcr := HC.out x (List.mem_of_getElem? hx)
          have HM1 := hide (rugnum_calls x.kind (by omega) (by omega) 1)
          have HM2 := hide (rugnum_calls x.n hcr.1 hcr.2 8)
          have HM3 := hide (fun w1 => roText_calls x.s (by omega) w1)
          have m1 := putB_le8 x.kind 1
          have m2 := putB_le8 x.n 8
          have m3 := textB_le8 x.s (by omega)
          have HCB : Hid (conB x = putB x.kind 1 ++ if x.kind = 1 then putB x.n 8 else if x.kind = 2 then textB x.s else ⟨#[]⟩) := hide rfl
          generalize putB x.kind 1 = b1 at *
          generalize putB x.n 8 = b2 at *
          generalize textB x.s = b3 at *
          have HW1 := hide (Blk.new wr 45 #[.int .i64 x.kind, .int .i64 x.n, .string x.s])
          have HB1 := hide (HB.out.alloc HB.out.size (.cells #[.int .i64 x.kind, .int .i64 x.n, .string x.s] 45))
          have HK1 := hide (HK.out.alloc (.cells #[.int .i64 x.kind, .int .i64 x.n, .string x.s] 45))
          have f1 : ¬ 9223372036854775807 < (s.size + b1.size) := by omega
          have f2 : ¬ 9223372036854775807 < (s.size + b1.size + b2.size) := by omega
          have f3 : ¬ 9223372036854775807 < (s.size + b1.size + b3.size) := by omega
          obtain ⟨kk, n, xs⟩ := x
          simp only at x0 x1 x2 HM1 HM2 HM3 HCB HW1 HB1 HK1
          clear hA hc hx hok hck hct hcr hal
          by_cases c1 : kk = 1
          case pos =>
            subst c1
            rw [if_pos rfl] at HCB
            go_wp2_with fail
            refine (HM1.out _).mono ?_
            rintro e w2 ⟨rfl, hb⟩
            have HB2 := hide (HB1.out.trans (hb.mono HB1.out.size))
            have HK2 := hide (HK1.out.below hb HK1.out.lt)
            have HW2 := hide (HW1.out.below hb HW1.out.lt)
            clear hb HB1 HK1 HW1
            have y0 : w2.cell? ⟨wr.heap.size, 0, none⟩ = some (.int .i64 1) := HW2.out.cell 0
            have y1 : w2.cell? ⟨wr.heap.size, 1, none⟩ = some (.int .i64 n) := HW2.out.cell 1
            have y2 : w2.cell? ⟨wr.heap.size, 2, none⟩ = some (.string xs) := HW2.out.cell 2
            go_wp2_with fail
            clear y0 y1 y2
            refine (HM2.out _).mono ?_
            rintro e w3 ⟨rfl, hb⟩
            have HB3 := hide (HB2.out.trans (hb.mono HB2.out.size))
            have HK3 := hide (HK2.out.below hb HK2.out.lt)
            have HW3 := hide (HW2.out.below hb HW2.out.lt)
            clear hb HB2 HK2 HW2
            have y0 : w3.cell? ⟨wr.heap.size, 0, none⟩ = some (.int .i64 1) := HW3.out.cell 0
            have HBn := HB3
            have HKn := HK3
            clear HB3 HK3
            have HNEW : Hid ((s ++ b1 ++ b2 : ByteArray) = hd2 ++ catB conB (v.p.consts.take (k + 1))) := hide (by rw [HNX.out, HP.out, HCB.out]; simp only [ByteArray.append_assoc])
            have HZN : Hid ((s ++ b1 ++ b2).size ≤ 8000 + (k + 1) * 1200) := hide (by simp only [ByteArray.size_append]; omega)
            clear HZ HP m1 m2 m3 hz HCB HNX
            go_wp2_with fail
            refine ⟨⟨k + 1, _, by omega, by go_num, rfl, HNEW, HZN, HBn, HKn⟩, ?_⟩
            simp [intOf]
            omega
          have c1b : decide (kk = 1) = false := decide_eq_false c1
          have c1c : (kk == 1) = false := by simpa using c1
          rw [if_neg c1] at HCB
          by_cases c2 : kk = 2
          case pos =>
            subst c2
            rw [if_pos rfl] at HCB
            go_wp2_with fail
            refine (HM1.out _).mono ?_
            rintro e w2 ⟨rfl, hb⟩
            have HB2 := hide (HB1.out.trans (hb.mono HB1.out.size))
            have HK2 := hide (HK1.out.below hb HK1.out.lt)
            have HW2 := hide (HW1.out.below hb HW1.out.lt)
            clear hb HB1 HK1 HW1
            have y0 : w2.cell? ⟨wr.heap.size, 0, none⟩ = some (.int .i64 2) := HW2.out.cell 0
            have y1 : w2.cell? ⟨wr.heap.size, 1, none⟩ = some (.int .i64 n) := HW2.out.cell 1
            have y2 : w2.cell? ⟨wr.heap.size, 2, none⟩ = some (.string xs) := HW2.out.cell 2
            go_wp2_with fail
            clear y0 y1 y2
            refine (HM3.out _).mono ?_
            rintro e w3 ⟨rfl, hb⟩
            have HB3 := hide (HB2.out.trans (hb.mono HB2.out.size))
            have HK3 := hide (HK2.out.below hb HK2.out.lt)
            have HW3 := hide (HW2.out.below hb HW2.out.lt)
            clear hb HB2 HK2 HW2
            have HBn := HB3
            have HKn := HK3
            clear HB3 HK3
            have HNEW : Hid ((s ++ b1 ++ b3 : ByteArray) = hd2 ++ catB conB (v.p.consts.take (k + 1))) := hide (by rw [HNX.out, HP.out, HCB.out]; simp only [ByteArray.append_assoc])
            have HZN : Hid ((s ++ b1 ++ b3).size ≤ 8000 + (k + 1) * 1200) := hide (by simp only [ByteArray.size_append]; omega)
            clear HZ HP m1 m2 m3 hz HCB HNX
            go_wp2_with fail
            refine ⟨⟨k + 1, _, by omega, by go_num, rfl, HNEW, HZN, HBn, HKn⟩, ?_⟩
            simp [intOf]
            omega
          have c2b : decide (kk = 2) = false := decide_eq_false c2
          have c2c : (kk == 2) = false := by simpa using c2
          rw [if_neg c2] at HCB
          go_wp2_with fail
          refine (HM1.out _).mono ?_
          rintro e w2 ⟨rfl, hb⟩
          have HB2 := hide (HB1.out.trans (hb.mono HB1.out.size))
          have HK2 := hide (HK1.out.below hb HK1.out.lt)
          have HW2 := hide (HW1.out.below hb HW1.out.lt)
          clear hb HB1 HK1 HW1
          have y0 : w2.cell? ⟨wr.heap.size, 0, none⟩ = some (.int .i64 kk) := HW2.out.cell 0
          have y1 : w2.cell? ⟨wr.heap.size, 1, none⟩ = some (.int .i64 n) := HW2.out.cell 1
          have y2 : w2.cell? ⟨wr.heap.size, 2, none⟩ = some (.string xs) := HW2.out.cell 2
          have HBn := HB2
          have HKn := HK2
          clear HB2 HK2
          have HNEW : Hid ((s ++ b1 : ByteArray) = hd2 ++ catB conB (v.p.consts.take (k + 1))) := hide (by rw [HNX.out, HP.out, HCB.out]; rw [bemp]; simp only [ByteArray.append_assoc])
          have HZN : Hid ((s ++ b1).size ≤ 8000 + (k + 1) * 1200) := hide (by simp only [ByteArray.size_append]; omega)
          clear HZ HP m1 m2 m3 hz HCB HNX
          go_wp2_with fail
          refine ⟨⟨k + 1, _, by omega, by go_num, rfl, HNEW, HZN, HBn, HKn⟩, ?_⟩
          simp [intOf]
          omega
        case neg =>
          obtain rfl : k = v.p.consts.length := by omega
          rw [List.take_length] at HP
          have hz := HZ.out
          have g1 : ¬ 9223372036854775807 < (s.size + a5.size) := by omega
          have z4 : wr.cell? ⟨w.heap.size, 4, none⟩ = some (.slice v.kA v.p.consts.length v.kc) := HK.out.cell 4
          have z3 : wr.cell? ⟨w.heap.size, 3, none⟩ = some (.slice v.cA v.p.code.length v.cc) := HK.out.cell 3
          have HSZ2 : Hid ((s ++ a5).size ≤ 250000) := hide (by simp only [ByteArray.size_append]; omega)
          clear HSZ
          have HSZ := HSZ2
          clear HSZ2
          go_wp2_with fail
          refine (HN5.out _).mono ?_
          rintro e w2 ⟨rfl, hb2⟩
          have HB1 := hide (HB.out.trans (hb2.mono HB.out.size))
          have HK1 := hide (HK.out.below hb2 HK.out.lt)
          clear hb2 z3 z4 HB HK HZ hz hlt hk
          have HPF : Hid ((s ++ a5 : ByteArray) = hd2 ++ catB conB v.p.consts ++ a5) := hide (by rw [HP.out])
          go_wp2_with fail
          generalize (s ++ a5 : ByteArray) = hd3 at *
          clear g1 HP t6
          go_loopw [8, 9, 10, 3] (fun i _ _ t wr => ∃ (k : Nat) (s : ByteArray), k ≤ v.p.code.length ∧ i = .int .i64 (k : Int) ∧ t = .string s ∧ Hid (s = hd3 ++ catB insB (v.p.code.take k)) ∧ Hid (s.size ≤ 250000 + k * 4) ∧ Hid (Below w.heap.size w wr) ∧ Hid (Blk wr w.heap.size 38 #[.string v.p.name, .int .i64 v.p.params, .int .i64 v.p.regs, .slice v.cA v.p.code.length v.cc, .slice v.kA v.p.consts.length v.kc, .slice v.pA v.p.caps.length v.pc])) (fun i _ _ _ _ => v.p.code.length - (intOf i).toNat)
          case atStart => exact ⟨0, hd3, by omega, rfl, rfl, hide (by show hd3 = hd3 ++ ⟨#[]⟩; rw [bemp]), hide (by have := HSZ.out; omega), HB1, HK1⟩
          case round =>
            clear HB1 HK1
            obtain ⟨k, s, hk, rfl, rfl, HP, HZ, HB, HK⟩ := hrel
            by_cases hlt : k < v.p.code.length
            case pos =>
              obtain ⟨x, hx⟩ : ∃ x, v.p.code[k]? = some x := ⟨_, List.getElem?_eq_getElem hlt⟩
              have hkL : (k : Int) < (v.p.code.length : Int) := by omega
              have hk0 : (0 : Int) ≤ (k : Int) := by omega
              have HNX := hide (catB_take insB v.p.code k x hx)
              have hz := HZ.out
              obtain ⟨ba, oa, hA, hal, hc⟩ := HRR.out.code k x hx
              have x0 : wr.cell? ⟨ba, oa + k * 4, none⟩ = some (.int .i64 x.op) := (HB.out.cell (p := ⟨ba, oa + k * 4, none⟩) hal).trans (hc 0 _ rfl)
              have x1 : wr.cell? ⟨ba, oa + k * 4 + 1, none⟩ = some (.int .i64 x.a) := (HB.out.cell (p := ⟨ba, oa + k * 4 + 1, none⟩) hal).trans (hc 1 _ rfl)
              have x2 : wr.cell? ⟨ba, oa + k * 4 + 2, none⟩ = some (.int .i64 x.b) := (HB.out.cell (p := ⟨ba, oa + k * 4 + 2, none⟩) hal).trans (hc 2 _ rfl)
              have x3 : wr.cell? ⟨ba, oa + k * 4 + 3, none⟩ = some (.int .i64 x.c) := (HB.out.cell (p := ⟨ba, oa + k * 4 + 3, none⟩) hal).trans (hc 3 _ rfl)
              have s3 : wr.cell? ⟨w.heap.size, 3, none⟩ = some (.slice v.cA v.p.code.length v.cc) := HK.out.cell 3
              rw [hA] at s3
              have HM : Hid (∀ w1, Calls Try.prog 48 #[.agg #[.int .i64 x.op, .int .i64 x.a, .int .i64 x.b, .int .i64 x.c]] w1 fun e w' => e = .returned (.tuple #[.string (insB x), .int .i64 (buildE x.op x.a x.b x.c)]) ∧ Below w1.heap.size w1 w') := hide (fun w1 => riBuild_calls x.op x.a x.b x.c w1)
              have m1 := insB_le x
              generalize insB x = b1 at *
              generalize buildE x.op x.a x.b x.c = be at *
              have f1 : ¬ 9223372036854775807 < (s.size + b1.size) := by omega
              clear hA hc hx hal
              go_wp2_with fail
              refine (HM.out _).mono ?_
              rintro e w2 ⟨rfl, hb⟩
              have HB2 := hide (HB.out.trans (hb.mono HB.out.size))
              have HK2 := hide (HK.out.below hb HK.out.lt)
              clear hb
              have HNEW : Hid ((s ++ b1 : ByteArray) = hd3 ++ catB insB (v.p.code.take (k + 1))) := hide (by rw [HNX.out, HP.out]; simp only [ByteArray.append_assoc])
              have HZN : Hid ((s ++ b1).size ≤ 250000 + (k + 1) * 4) := hide (by simp only [ByteArray.size_append]; omega)
              clear HZ HP m1 hz HNX
              go_wp2_with fail
              refine ⟨⟨k + 1, _, by omega, by go_num, rfl, HNEW, HZN, HB2, HK2⟩, ?_⟩
              simp [intOf]
              omega
            case neg =>
              obtain rfl : k = v.p.code.length := by omega
              rw [List.take_length] at HP
              have z3 : wr.cell? ⟨w.heap.size, 3, none⟩ = some (.slice v.cA v.p.code.length v.cc) := HK.out.cell 3
              have hres : s = res := by rw [HP.out, HPF.out, HPE.out, HE.out, HHD.out]
              clear HP HZ
              subst hres
              go_wp2_with fail
              go_ret
              exact ⟨rfl, HB.out⟩
end Go.Proofs.Ythgjmbcojbmlhaa
