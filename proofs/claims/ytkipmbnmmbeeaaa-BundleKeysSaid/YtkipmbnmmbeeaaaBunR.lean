/- Chapter 25: BundleKeys comes to true. -/
import Derived.Test.YtkipmbnmmbeeaaaBunN
namespace Go.Proofs.Ytkipmbnmmbeeaaa
open Go.RowKit Zb

def lenP (p : PartM) : Nat := 44 + p.name.size + p.text.size
set_option maxRecDepth 20000 in
theorem lens_drop {l : List PartM} {k : Nat} {x : PartM} (hx : l[k]? = some x) : ((l.drop k).map lenP).sum = lenP x + ((l.drop (k + 1)).map lenP).sum := by
  have hk := (List.getElem?_eq_some_iff.1 hx)
  rw [List.drop_eq_getElem_cons hk.1, hk.2, List.map_cons, List.sum_cons]
set_option maxRecDepth 100000 in
set_option maxHeartbeats 4000000 in
theorem BundleKeys_walk (k : ByteArray) (A : Option Addr) (cap : Nat) (l : List PartM) (w : World) (_ : k.size ≤ 140737488351232) (_ : l.length ≤ 9223372036854775807) (hr : ReadsRows 4 PartM.cells w A l) (hok : ∀ p ∈ l, p.Ok) : Calls Try.prog 7 #[.string k, .slice A l.length cap] w fun e w' => e = .returned (.bool true) ∧ Below w.heap.size w w' := by
  have HB0 : Hid (Below w.heap.size w w) := hide (Below.refl _ _)
  have HR_0 := hide hr
  have HOK := hide hok
  clear hr hok
  by_cases g1 : (60 : Int) < (k.size : Int)
  · go_enter Try.func7, Try.ntmps7
    go_wp2_with fail
    refine (lknown25_calls _).mono ?_
    rintro e w1 ⟨rfl, hb1⟩
    have HB1 := hide (HB0.out.trans (hb1.mono HB0.out.size))
    clear hb1 
    go_wp2_with fail
    go_ret
    exact ⟨rfl, HB1.out⟩
  have g1b := decide_eq_false g1
  have hk : k.size ≤ 60 := by omega
  have HLI := hide (rbLight_calls cap HR_0.out)
  obtain ⟨li, hli⟩ : ∃ b, lightM l = b := ⟨_, rfl⟩
  have HLI2 := hide hli
  rw [hli] at HLI
  clear hli
  cases li
  · go_enter Try.func7, Try.ntmps7
    go_wp2_with fail
    refine HLI.out.mono ?_
    rintro e w' ⟨rfl, rfl⟩
    go_wp2_with fail
    refine (lknown25_calls _).mono ?_
    rintro e w1 ⟨rfl, hb1⟩
    have HB1 := hide (HB0.out.trans (hb1.mono HB0.out.size))
    clear hb1 
    go_wp2_with fail
    go_ret
    exact ⟨rfl, HB1.out⟩
  have HM := hide (mid_of HLI2.out HOK.out).1
  have hl20 : l.length ≤ 20 := (mid_of HLI2.out HOK.out).2
  have HC1 := hide (fun w h => bBuild_calls (w := w) (A := A) k (by omega) cap h HM.out)
  have HC3 := hide (fun w h => bRight_calls (w := w) (A := A) (l := l) cap h HM.out)
  obtain ⟨g, hg⟩ : ∃ g, rightM l = g := ⟨_, rfl⟩
  cases g
  · have HCB := hide (fun w h => build_post (build_no hg k) (HC1.out w h))
    rw [hg] at HC3
    clear hg HC1
    go_enter Try.func7, Try.ntmps7
    go_wp2_with fail
    refine HLI.out.mono ?_
    rintro e w' ⟨rfl, rfl⟩
    go_wp2_with fail
    refine (HCB.out _ HR_0.out).mono ?_
    rintro e w1 ⟨rfl, hb1⟩
    have HR_1 := hide (HR_0.out.below hb1)
    have HB1 := hide (HB0.out.trans (hb1.mono HB0.out.size))
    clear hb1 HR_0
    go_wp2_with fail
    refine (HC3.out _ HR_1.out).mono ?_
    rintro e w2 ⟨rfl, hb2⟩
    have HB2 := hide (HB1.out.trans (hb2.mono HB1.out.size))
    clear hb2 
    go_wp2_with fail
    refine (lknown25_calls _).mono ?_
    rintro e w3 ⟨rfl, hb3⟩
    have HB3 := hide (HB2.out.trans (hb3.mono HB2.out.size))
    clear hb3 
    go_wp2_with fail
    go_ret
    exact ⟨rfl, HB3.out⟩
  obtain ⟨S, hS⟩ : ∃ S : ByteArray, (buildM k l).1 = S := ⟨_, rfl⟩
  have hbs : buildM k l = (S, 0) := by rw [← hS, build_yes hg]
  have hps : parseM k S = (l, 0) := by rw [← hS]; exact parse_build hg k
  have hsz : S.size = 38 + (l.map lenP).sum := by rw [← hS]; exact build_size hg k
  have hsl : S.size ≤ 300000 := by rw [← hS]; exact build_len hg k
  obtain ⟨k0, hk0⟩ : ∃ k0 : ByteArray, k ++ ⟨#[0]⟩ = k0 := ⟨_, rfl⟩
  have HKZ : k0.size ≤ 100 := by
    rw [← hk0, ByteArray.size_append]
    show k.size + 1 ≤ 100
    omega
  have hps0 : parseM k0 S = (l, 0) := by rw [← hk0, parse_keys (macB_zero k hk)]; exact hps
  have HK0 := hide hk0
  clear hk0
  have hpsk : parseM (keyB k) S = (l, 0) := by rw [parse_keys (macB_keyB k hk)]; exact hps
  have HKS := keyB_size k
  have HCK := hide (rmKey_keyB k (Nat.le_trans hk (by decide)))
  generalize keyB k = kk at *
  have HCB := hide (fun w h => build_post hbs (HC1.out w h))
  have HP1 := hide (fun w => parse_post hps0 (bParse_calls k0 S (Nat.le_trans HKZ (by decide)) (Nat.le_trans hsl (by decide)) w))
  have HP2 := hide (fun w => parse_post hpsk (bParse_calls kk S (by rw [HKS]; decide) (Nat.le_trans hsl (by decide)) w))
  have HSX := hide (fun w A B cap cap' (ha : ReadsRows 4 PartM.cells w A l) (hb : ReadsRows 4 PartM.cells w B l) => rbSame_calls cap cap' ha hb (Nat.le_trans hl20 (by decide)))
  have hd1 : decide (l = l) = true := by simp
  rw [hd1] at HSX
  have HQ0 : Hid (38 + ((l.drop 0).map lenP).sum = S.size) := hide (by rw [List.drop_zero]; exact hsz.symm)
  have hz1 : (⟨#[0]⟩ : ByteArray).size = 1 := rfl
  have HSL := hide hsl
  clear hS hbs hps hsz hps0 hpsk HC1 HC3 hd1 HKS hg HKZ
  go_enter Try.func7, Try.ntmps7
  go_wp2_with fail
  refine HLI.out.mono ?_
  rintro e w' ⟨rfl, rfl⟩
  go_wp2_with fail
  refine (HCB.out _ HR_0.out).mono ?_
  rintro e w1 ⟨rfl, hb1⟩
  have HR_1 := hide (HR_0.out.below hb1)
  have HB1 := hide (HB0.out.trans (hb1.mono HB0.out.size))
  clear hb1 HR_0
  go_wp2_with fail
  go_loopw [7, 8] (fun n i wr => ∃ j q : Nat, j ≤ l.length ∧ i = .int .i64 (j : Int) ∧ n = .int .i64 (q : Int) ∧ Hid (q + ((l.drop j).map lenP).sum = S.size) ∧ Hid (Below w1.heap.size w1 wr)) (fun _ i _ => l.length - (intOf i).toNat)
  case atStart => exact ⟨0, 38, by omega, rfl, rfl, HQ0, hide (Below.refl _ _)⟩
  case round =>
    clear HQ0
    obtain ⟨j, q, hj, rfl, rfl, HQ, HW⟩ := hrel
    by_cases hlt : j < l.length
    · have hjI : (j : Int) < (l.length : Int) := by omega
      have hj0 : (0 : Int) ≤ (j : Int) := by omega
      obtain ⟨x, hx⟩ : ∃ x, l[j]? = some x := ⟨_, List.getElem?_eq_getElem hlt⟩
      have hlens := lens_drop hx
      obtain ⟨ba, oa, hA, _, hc⟩ := HR_1.out.kept HW.out hx
      subst hA
      have x0 : wr.cell? ⟨ba, oa + j * 4, none⟩ = some (.string x.name) := hc 0 _ rfl
      have x2 : wr.cell? ⟨ba, oa + j * 4 + 2, none⟩ = some (.string x.text) := hc 2 _ rfl
      obtain ⟨xn, hxn⟩ : ∃ y, x.name = y := ⟨_, rfl⟩
      obtain ⟨xt, hxt⟩ : ∃ y, x.text = y := ⟨_, rfl⟩
      have hlx : lenP x = 44 + xn.size + xt.size := by rw [← hxn, ← hxt]; rfl
      rw [hxn] at x0
      rw [hxt] at x2
      have hqq := HQ.out
      rw [hlens, hlx] at hqq
      have HQ2 : Hid (q + 44 + xn.size + xt.size + ((l.drop (j + 1)).map lenP).sum = S.size) := hide (by omega)
      have a1 : IntKind.i64.wrap ((q : Int) + 44) = (q : Int) + 44 := IntWalk.i64_in _ (by omega)
      have a2 : IntKind.i64.wrap ((q : Int) + 44 + (xn.size : Int)) = (q : Int) + 44 + (xn.size : Int) := IntWalk.i64_in _ (by omega)
      have a3 : IntKind.i64.wrap ((q : Int) + 44 + (xn.size : Int) + (xt.size : Int)) = (q : Int) + 44 + (xn.size : Int) + (xt.size : Int) := IntWalk.i64_in _ (by omega)
      clear hc hx hlens hxn hxt hlx hqq
      go_wp2_with fail
      refine wp_region_heads [0, 1, 2, 3, 4, 5, 6, 7, 8, 9, 10, 11, 12, 13, 14, 15, 16] 0 (fun w' => w'.cell? ⟨ba, oa + j * 4, none⟩ = some (.string xn) ∧ w'.cell? ⟨ba, oa + j * 4 + 2, none⟩ = some (.string xt)) (by kernel_rfl) rfl (by kernel_rfl) (by kernel_rfl) (fun _ _ d _ _ h => by cases d <;> exact h) ⟨x0, x2⟩ ?_
      iterate 17
        refine' Heads.step rfl (by rfl) ?_ ?_
        rotate_left
        · intro w' hSw
          obtain ⟨q0, q2⟩ := hSw
          go_simp
          try with_reducible rfl
        simp only [Act.put, List.setIfInBounds_toArray, List.set_cons_zero, List.set_cons_succ]
      refine Heads.done ?_
      refine wpAnyH_done (by kernel_rfl) ?_ _
      go_wp2_with fail
      refine ⟨⟨j + 1, q + 44 + xn.size + xt.size, by omega, by go_num, by go_num, HQ2, hide HW.out.drew⟩, ?_⟩
      simp [intOf]
      omega
    · obtain rfl : j = l.length := by omega
      have hq : (S.size : Int) = (q : Int) := by
        have := HQ.out
        rw [List.drop_length] at this
        simp at this
        omega
      have HB2 := hide (HB1.out.trans (HW.out.mono HB1.out.size))
      have HR_2 := hide (HR_1.out.below HW.out)
      clear HW HQ HB1 HR_1
      go_wp2_with fail
      rw [HK0.out]
      refine (HP1.out _).mono ?_
      rintro e w3 ⟨A3, c3, rfl, hx3, hb3⟩
      have HR_3 := hide (HR_2.out.below hb3)
      have HB3 := hide (HB2.out.trans (hb3.mono HB2.out.size))
      clear hb3 HR_2
      have HX_3 := hide hx3
      clear hx3
      go_wp2_with fail
      refine (HCK.out _).mono ?_
      rintro e w4 ⟨rfl, hb4⟩
      have HR_4 := hide (HR_3.out.below hb4)
      have HX_4 := hide (HX_3.out.below hb4)
      have HB4 := hide (HB3.out.trans (hb4.mono HB3.out.size))
      clear hb4 HR_3 HX_3
      go_wp2_with fail
      refine (HP2.out _).mono ?_
      rintro e w5 ⟨A5, c5, rfl, _hx5, hb5⟩
      have HR_5 := hide (HR_4.out.below hb5)
      have HX_5 := hide (HX_4.out.below hb5)
      have HB5 := hide (HB4.out.trans (hb5.mono HB4.out.size))
      clear hb5 HR_4 HX_4
      go_wp2_with fail
      refine (HSX.out _ _ _ c3 cap HX_5.out HR_5.out).mono ?_
      rintro e w6 ⟨rfl, hb6⟩
      have HB6 := hide (HB5.out.trans (hb6.mono HB5.out.size))
      clear hb6 
      go_wp2_with fail
      refine (lknown25_calls _).mono ?_
      rintro e w7 ⟨rfl, hb7⟩
      have HB7 := hide (HB6.out.trans (hb7.mono HB6.out.size))
      clear hb7 
      go_wp2_with fail
      go_ret
      exact ⟨rfl, HB7.out⟩
end Go.Proofs.Ytkipmbnmmbeeaaa
