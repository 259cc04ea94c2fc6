/- Chapter 25: the document's Right; Light, walked. -/
import Derived.Test.YtkipmbnmmbeeaaaBunA
import Derived.Test.YtkipmbnmmbeeaaaHeld
namespace Go.Proofs.Ytkipmbnmmbeeaaa
open Go.RowKit Zb

set_option maxRecDepth 20000 in
theorem rightM_bad {l : List PartM} {k : Nat} {x : PartM} (hx : l[k]? = some x) (hG : goodFrom [] l = goodFrom ((l.take k).map (·.name)) (l.drop k)) (h : partOk x = false ∨ (((l.take k).map (·.name)).any fun n => decide (n = x.name)) = true) : rightM l = false := by
  unfold rightM
  rw [hG, goodFrom_drop l k x hx]
  rcases h with h | h
  · rw [h]; simp
  · rw [h]; simp
set_option maxRecDepth 20000 in
set_option maxHeartbeats 4000000 in
theorem rbRight_calls {w : World} {A : Option Addr} {l : List PartM} (cap : Nat) (hr : ReadsRows 4 PartM.cells w A l) (hl : MidL l) : Calls Try.prog 13 #[.slice A l.length cap] w fun e w' => e = .returned (.bool (rightM l)) ∧ Below w.heap.size w w' := by
  have HR := hide hr
  have HL := hide hl
  have hlen : l.length ≤ 70000 := hl.1
  clear hr hl
  by_cases h1 : (1 : Int) ≤ (l.length : Int)
  · have h1b : ¬ ((l.length : Int) < 1) := by omega
    by_cases h2 : (l.length : Int) ≤ 16
    · have h2b : ¬ ((16 : Int) < (l.length : Int)) := by omega
      have h2c := decide_eq_false h2b
      have h1c := decide_eq_false h1b
      go_enter Try.func13, Try.ntmps13
      go_wp2_with fail
      go_loopw [3] (fun i wr => ∃ k : Nat, k ≤ l.length ∧ i = .int .i64 (k : Int) ∧ Hid (Below w.heap.size w wr) ∧ Hid (goodFrom [] l = goodFrom ((l.take k).map (·.name)) (l.drop k))) (fun i _ => l.length - (intOf i).toNat)
      case atStart => exact ⟨0, by omega, rfl, hide (Below.refl _ _), hide rfl⟩
      case round =>
        obtain ⟨k, hk, rfl, HB, HG⟩ := hrel
        by_cases hlt : k < l.length
        · obtain ⟨x, hx⟩ : ∃ x, l[k]? = some x := ⟨_, List.getElem?_eq_getElem hlt⟩
          have hkI : (k : Int) < (l.length : Int) := by omega
          have hk0 : (0 : Int) ≤ (k : Int) := by omega
          have HXM := hide (HL.out.2 x (List.mem_of_getElem? hx))
          have HNC := hide (fun w1 => rxName_calls x.name (by have := HXM.out.name; omega) w1)
          obtain ⟨bb, off, hA, hblt, hc⟩ := HR.out.kept HB.out hx
          subst hA
          have x0 : wr.cell? ⟨bb, off + k * 4, none⟩ = some (.string x.name) := hc 0 _ rfl
          have x1 : wr.cell? ⟨bb, off + k * 4 + 1, none⟩ = some (.int .i64 x.version) := hc 1 _ rfl
          have x2 : wr.cell? ⟨bb, off + k * 4 + 2, none⟩ = some (.string x.text) := hc 2 _ rfl
          have x3 : wr.cell? ⟨bb, off + k * 4 + 3, none⟩ = some (.string x.state) := hc 3 _ rfl
          have HBAD := hide (rightM_bad hx HG.out)
          have HSTEP : Hid (partOk x = true → (((l.take k).map (·.name)).any fun n => decide (n = x.name)) = false → goodFrom [] l = goodFrom ((l.take (k + 1)).map (·.name)) (l.drop (k + 1))) := hide fun e1 e2 => by
            rw [HG.out, goodFrom_drop l k x hx, e1, e2]; simp
          have HP : Hid (partOk x = (nameM x.name && decide (1 ≤ x.version) && decide (x.version ≤ 2147483647) && decide (x.text.size ≤ 8192) && decide (x.state = ⟨#[]⟩))) := hide rfl
          rw [show decide (x.text.size ≤ 8192) = decide ((x.text.size : Int) ≤ 8192) by rw [decide_eq_decide]; omega] at HP
          have HSZ : Hid (x.text.size ≤ 1000000) := hide HXM.out.text
          have HWN := hide (Blk.new wr 34 #[.string x.name, .int .i64 x.version, .string x.text, .string x.state])
          have HB1 := hide (HB.out.alloc HB.out.size (.cells #[.string x.name, .int .i64 x.version, .string x.text, .string x.state] 34))
          clear hc hx
          obtain ⟨b, hb⟩ : ∃ b, nameM x.name = b := ⟨_, rfl⟩
          rw [hb] at HNC HP
          obtain ⟨ok, hok⟩ : ∃ b, partOk x = b := ⟨_, rfl⟩
          rw [hok] at HBAD HSTEP HP
          obtain ⟨tn, htn⟩ : ∃ n : Nat, x.text.size = n := ⟨_, rfl⟩
          clear hb hok
          go_wp2_with fail
          refine (HNC.out _).mono ?_
          rintro r w2 ⟨rfl, hb2⟩
          have HWN2 := hide (HWN.out.below hb2 HWN.out.lt)
          have HB2 := hide (HB1.out.trans (hb2.mono HB1.out.size))
          clear hb2 HWN HB1 HNC
          have z0 : w2.cell? ⟨wr.heap.size, 0, none⟩ = some (.string x.name) := HWN2.out.cell 0
          have z1 : w2.cell? ⟨wr.heap.size, 1, none⟩ = some (.int .i64 x.version) := HWN2.out.cell 1
          have z2 : w2.cell? ⟨wr.heap.size, 2, none⟩ = some (.string x.text) := HWN2.out.cell 2
          have z3 : w2.cell? ⟨wr.heap.size, 3, none⟩ = some (.string x.state) := HWN2.out.cell 3
          cases b
          · have HE : Hid (rightM l = false) := hide (HBAD.out (.inl (by rw [HP.out]; rfl)))
            go_wp2_with fail
            go_ret
            rw [HE.out]
            exact ⟨rfl, HB2.out⟩
          by_cases g1 : x.version < 1
          · have HE : Hid (rightM l = false) := hide (HBAD.out (.inl (by rw [HP.out, decide_eq_false (by omega : ¬ 1 ≤ x.version)]; rfl)))
            go_wp2_with fail
            go_ret
            rw [HE.out]
            exact ⟨rfl, HB2.out⟩
          have g1b := decide_eq_false g1
          rw [decide_eq_true (by omega : 1 ≤ x.version)] at HP
          by_cases g2 : 2147483647 < x.version
          · have HE : Hid (rightM l = false) := hide (HBAD.out (.inl (by rw [HP.out, decide_eq_false (by omega : ¬ x.version ≤ 2147483647)]; rfl)))
            go_wp2_with fail
            go_ret
            rw [HE.out]
            exact ⟨rfl, HB2.out⟩
          have g2b := decide_eq_false g2
          rw [decide_eq_true (by omega : x.version ≤ 2147483647)] at HP
          by_cases g3 : (8192 : Int) < (x.text.size : Int)
          · have HE : Hid (rightM l = false) := hide (HBAD.out (.inl (by rw [HP.out, decide_eq_false (by omega : ¬ (x.text.size : Int) ≤ 8192)]; rfl)))
            go_wp2_with fail
            go_ret
            rw [HE.out]
            exact ⟨rfl, HB2.out⟩
          have g3b := decide_eq_false g3
          rw [decide_eq_true (by omega : (x.text.size : Int) ≤ 8192)] at HP
          obtain ⟨st, hst⟩ : ∃ st, x.state = st := ⟨_, rfl⟩
          rw [hst] at HP z3 HWN2
          by_cases g4 : st = ⟨#[]⟩
          case neg =>
            have HE : Hid (rightM l = false) := hide (HBAD.out (.inl (by rw [HP.out, decide_eq_false g4]; rfl)))
            obtain ⟨n1, n2⟩ := lbytes_ne g4
            have n3 := isEmpty_ne g4
            clear g4
            go_wp2_with fail
            go_ret
            rw [HE.out]
            exact ⟨rfl, HB2.out⟩
          rw [decide_eq_true g4] at HP
          subst g4
          have hok : ok = true := by rw [HP.out]; rfl
          subst hok
          clear HP hst htn
          obtain ⟨xn, hxn⟩ : ∃ n, x.name = n := ⟨_, rfl⟩
          rw [hxn] at HBAD HSTEP HWN2 z0
          clear hxn x0 x1 x2 x3
          go_wp2_with fail
          generalize wr.heap.size = gp at *
          go_loopw [5] (fun i wq => ∃ j : Nat, j ≤ k ∧ i = .int .i64 (j : Int) ∧ Hid (Blk wq gp 34 #[.string xn, .int .i64 x.version, .string x.text, .string ⟨#[]⟩]) ∧ Hid (Below w.heap.size w wq) ∧ Hid ((((l.take j).map (·.name)).any fun n => decide (n = xn)) = false)) (fun i _ => k - (intOf i).toNat)
          case atStart => exact ⟨0, by omega, rfl, HWN2, HB2, hide rfl⟩
          case round =>
            obtain ⟨j, hj, rfl, HWQ, HBQ, HNO⟩ := hrel
            clear z0 z1 z2 z3 HB2 HWN2
            have z0 : wr.cell? ⟨gp, 0, none⟩ = some (.string xn) := HWQ.out.cell 0
            by_cases hjl : j < k
            · obtain ⟨y, hy⟩ : ∃ y, l[j]? = some y := ⟨_, List.getElem?_eq_getElem (by omega)⟩
              have hjI : (j : Int) < (k : Int) := by omega
              have hj0 : (0 : Int) ≤ (j : Int) := by omega
              have hjL : (j : Int) < (l.length : Int) := by omega
              obtain ⟨bb', off', hA', _, hc'⟩ := HR.out.kept HBQ.out hy
              have hbo : bb' = bb ∧ off' = off := by cases hA'; exact ⟨rfl, rfl⟩
              have y0 := hc' 0 _ rfl
              rw [Nat.add_zero, hbo.1, hbo.2] at y0
              clear hc' hA' hbo
              obtain ⟨yn, hyn⟩ : ∃ n, y.name = n := ⟨_, rfl⟩
              have HY : Hid (((l.take (j + 1)).map (·.name)) = ((l.take j).map (·.name)) ++ [yn]) := hide (by rw [List.take_add_one, hy, ← hyn]; simp)
              have HYK : Hid (yn = xn → (((l.take k).map (·.name)).any fun n => decide (n = xn)) = true) := hide fun e => by
                rw [List.any_eq_true]
                refine ⟨yn, ?_, by simp [e]⟩
                rw [List.mem_map]
                refine ⟨y, ?_, hyn⟩
                apply List.mem_of_getElem? (i := j)
                rw [List.getElem?_take_of_lt hjl]
                exact hy
              rw [hyn] at y0
              clear hyn hy
              go_wp2_with fail
              refine wp_region_heads [0, 1, 2, 3, 4, 5, 6, 7] 0 (fun w' => w'.cell? ⟨bb, off + j * 4, none⟩ = some (.string yn) ∧ w'.cell? ⟨gp, 0, none⟩ = some (.string xn)) (by kernel_rfl) rfl (by kernel_rfl) (by kernel_rfl) (fun _ _ d _ _ h => by cases d <;> exact h) ⟨y0, z0⟩ ?_
              iterate 8
                refine' Heads.step rfl (by rfl) ?_ ?_
                rotate_left
                · intro w' hSw
                  obtain ⟨q0, q1⟩ := hSw
                  go_simp
                  try with_reducible rfl
                simp only [Act.put, List.setIfInBounds_toArray, List.set_cons_zero, List.set_cons_succ]
              refine Heads.done ?_
              refine wpAnyH_done (by kernel_rfl) ?_ _
              by_cases he : yn = xn
              · have HE : Hid (rightM l = false) := hide (HBAD.out (.inr (HYK.out he)))
                subst he
                have q1 : (yn.toList == yn.toList) = true := by simp
                go_wp2_with fail
                · go_ret
                  rw [HE.out]
                  exact ⟨rfl, HBQ.out.drew⟩
                · rename_i hq
                  rw [q1] at hq
                  cases hq
              · obtain ⟨n1, n2⟩ := lbytes_ne he
                have HNO2 : Hid ((((l.take (j + 1)).map (·.name)).any fun n => decide (n = xn)) = false) := hide (by
                  rw [HY.out, List.any_append, HNO.out]
                  simp [he])
                clear he
                go_wp2_with fail
                · rename_i hq
                  rw [n2] at hq
                  cases hq
                · refine ⟨⟨j + 1, by omega, by go_num, hide HWQ.out, hide HBQ.out.drew, HNO2⟩, ?_⟩
                  simp [intOf]
                  omega
            · obtain rfl : j = k := by omega
              have HG2 := hide (HSTEP.out (by simp) HNO.out)
              go_wp2_with fail
              refine ⟨⟨j + 1, by omega, by go_num, HBQ, HG2⟩, ?_⟩
              simp [intOf]
              omega
        · obtain rfl : k = l.length := by omega
          have HE : Hid (rightM l = true) := hide (by
            unfold rightM
            rw [HG.out, List.drop_length, decide_eq_true (by omega : 1 ≤ l.length), decide_eq_true (by omega : l.length ≤ 16)]
            simp [goodFrom])
          go_wp2_with fail
          go_ret
          rw [HE.out]
          exact ⟨rfl, HB.out⟩
    · have HE : Hid (rightM l = false) := hide (by
        unfold rightM
        rw [decide_eq_false (by omega : ¬ l.length ≤ 16)]
        simp)
      have h2b : (16 : Int) < (l.length : Int) := by omega
      have h1c := decide_eq_false h1b
      go_enter Try.func13, Try.ntmps13
      go_wp2_with fail
      go_ret
      rw [HE.out]
      exact ⟨rfl, Below.refl _ _⟩
  · have HE : Hid (rightM l = false) := hide (by
      unfold rightM
      rw [decide_eq_false (by omega : ¬ 1 ≤ l.length)]
      simp)
    have h1b : (l.length : Int) < 1 := by omega
    go_enter Try.func13, Try.ntmps13
    go_wp2_with fail
    go_ret
    rw [HE.out]
    exact ⟨rfl, Below.refl _ _⟩
end Go.Proofs.Ytkipmbnmmbeeaaa
