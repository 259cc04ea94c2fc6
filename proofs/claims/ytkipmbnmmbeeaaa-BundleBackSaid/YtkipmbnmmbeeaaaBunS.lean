/- Chapter 25: BundleBack comes to true. -/
import Derived.Test.YtkipmbnmmbeeaaaBunN
namespace Go.Proofs.Ytkipmbnmmbeeaaa
open Go.RowKit Zb

set_option maxRecDepth 20000 in
theorem mid_right {l : List PartM} (h : rightM l = true) : MidL l := by
  obtain ⟨_, h16, hp⟩ := right_lim h
  refine ⟨by omega, fun p hpl => ?_⟩
  obtain ⟨a1, a2, a3, a4, a5⟩ := hp p hpl
  exact ⟨by omega, by omega, by omega, by rw [a5]; exact Nat.zero_le _⟩
set_option maxRecDepth 100000 in
set_option maxHeartbeats 4000000 in
theorem BundleBack_walk (k : ByteArray) (A : Option Addr) (cap : Nat) (l : List PartM) (s : ByteArray) (w : World) (_ : k.size ≤ 140737488351232) (_ : l.length ≤ 9223372036854775807) (hr : ReadsRows 4 PartM.cells w A l) (hok : ∀ p ∈ l, p.Ok) (_ : s.size ≤ 140737488351232) : Calls Try.prog 5 #[.string k, .slice A l.length cap, .string s] w fun e w' => e = .returned (.bool true) ∧ Below w.heap.size w w' := by
  have HB0 : Hid (Below w.heap.size w w) := hide (Below.refl _ _)
  have HR_0 := hide hr
  have HOK := hide hok
  clear hr hok
  by_cases g1 : (300 : Int) < (k.size : Int)
  · go_enter Try.func5, Try.ntmps5
    go_wp2_with fail
    refine (lknown25_calls _).mono ?_
    rintro e w1 ⟨rfl, hb1⟩
    have HB1 := hide (HB0.out.trans (hb1.mono HB0.out.size))
    clear hb1 
    go_wp2_with fail
    go_ret
    exact ⟨rfl, HB1.out⟩
  have g1b := decide_eq_false g1
  have hk : k.size ≤ 300 := by omega
  have HLI := hide (rbLight_calls cap HR_0.out)
  obtain ⟨li, hli⟩ : ∃ b, lightM l = b := ⟨_, rfl⟩
  have HLI2 := hide hli
  rw [hli] at HLI
  clear hli
  cases li
  · go_enter Try.func5, Try.ntmps5
    go_wp2_with fail
    refine HLI.out.mono ?_
    rintro e w' ⟨rfl, rfl⟩
    go_wp2_with fail
    refine (lknown25_calls _).mono ?_
    rintro e w1 ⟨rfl, hb1⟩
    have HB1 := hide (HB0.out.trans (hb1.mono HB0.out.size))
    clear hb1 
    go_wp2_with fail
    go_ret
    exact ⟨rfl, HB1.out⟩
  by_cases g2 : (20000 : Int) < (s.size : Int)
  · go_enter Try.func5, Try.ntmps5
    go_wp2_with fail
    refine HLI.out.mono ?_
    rintro e w' ⟨rfl, rfl⟩
    go_wp2_with fail
    refine (lknown25_calls _).mono ?_
    rintro e w1 ⟨rfl, hb1⟩
    have HB1 := hide (HB0.out.trans (hb1.mono HB0.out.size))
    clear hb1 
    go_wp2_with fail
    go_ret
    exact ⟨rfl, HB1.out⟩
  have g2b := decide_eq_false g2
  have hs : s.size ≤ 20000 := by omega
  have HM := hide (mid_of HLI2.out HOK.out).1
  have hl20 : l.length ≤ 20 := (mid_of HLI2.out HOK.out).2
  have HC1 := hide (fun w h => bBuild_calls (w := w) (A := A) k (by omega) cap h HM.out)
  obtain ⟨lx, cx, hpx⟩ : ∃ lx cx, parseM k s = (lx, cx) := ⟨_, _, rfl⟩
  have HPS := hide (fun w => parse_post hpx (bParse_calls k s (by omega) (by omega) w))
  have HZ : Hid (cx = 0 → rightM lx = true ∧ buildM k lx = (s, 0) ∧ MidL lx) := hide (fun h => by
    have h1 := build_parse (key := k) (s := s) (by rw [hpx]; exact h)
    rw [hpx] at h1
    exact ⟨h1.1, h1.2, mid_right h1.1⟩)
  have hss : (s.toList == s.toList) = true := by simp
  obtain ⟨g, hg⟩ : ∃ g, rightM l = g := ⟨_, rfl⟩
  clear hpx
  cases g
  · have HCB := hide (fun w h => build_post (build_no hg k) (HC1.out w h))
    clear hg HC1
    go_enter Try.func5, Try.ntmps5
    go_wp2_with fail
    refine HLI.out.mono ?_
    rintro e w' ⟨rfl, rfl⟩
    go_wp2_with fail
    refine (HCB.out _ HR_0.out).mono ?_
    rintro e w1 ⟨rfl, hb1⟩
    have HB1 := hide (HB0.out.trans (hb1.mono HB0.out.size))
    clear hb1 
    go_wp2_with fail
    refine (HPS.out _).mono ?_
    rintro e w2 ⟨A2, c2, rfl, hx2, hb2⟩
    have HB2 := hide (HB1.out.trans (hb2.mono HB1.out.size))
    clear hb2 
    have HX_2 := hide hx2
    clear hx2
    by_cases hc : cx = 0
    · subst hc
      obtain ⟨q1, q2, q3⟩ := HZ.out rfl
      have HCB2 := hide (fun w A cap h => build_post q2 (bBuild_calls (w := w) (A := A) k (by omega) cap h q3))
      have HCR2 := hide (fun w A cap h => bRight_calls (w := w) (A := A) (l := lx) cap h q3)
      rw [q1] at HCR2
      clear q1 q2 q3
      go_wp2_with fail
      refine (HCB2.out _ _ _ HX_2.out).mono ?_
      rintro e w3 ⟨rfl, hb3⟩
      have HX_3 := hide (HX_2.out.below hb3)
      have HB3 := hide (HB2.out.trans (hb3.mono HB2.out.size))
      clear hb3 HX_2
      go_wp2_with fail
      refine (HCR2.out _ _ _ HX_3.out).mono ?_
      rintro e w4 ⟨rfl, hb4⟩
      have HB4 := hide (HB3.out.trans (hb4.mono HB3.out.size))
      clear hb4 
      go_wp2_with fail
      refine (lknown25_calls _).mono ?_
      rintro e w5 ⟨rfl, hb5⟩
      have HB5 := hide (HB4.out.trans (hb5.mono HB4.out.size))
      clear hb5 
      go_wp2_with fail
      go_ret
      exact ⟨rfl, HB5.out⟩
    · have e1 : (cx == 0) = false := by simpa using hc
      have e2 : decide (cx = 0) = false := decide_eq_false hc
      go_wp2_with fail
      refine (lknown25_calls _).mono ?_
      rintro e w3 ⟨rfl, hb3⟩
      have HB3 := hide (HB2.out.trans (hb3.mono HB2.out.size))
      clear hb3 
      go_wp2_with fail
      go_ret
      exact ⟨rfl, HB3.out⟩
  obtain ⟨S, hS⟩ : ∃ S : ByteArray, (buildM k l).1 = S := ⟨_, rfl⟩
  have hbs : buildM k l = (S, 0) := by rw [← hS, build_yes hg]
  have hps : parseM k S = (l, 0) := by rw [← hS]; exact parse_build hg k
  have hsl : S.size ≤ 300000 := by rw [← hS]; exact build_len hg k
  have HCB := hide (fun w h => build_post hbs (HC1.out w h))
  have HP1 := hide (fun w => parse_post hps (bParse_calls k S (Nat.le_trans hk (by decide)) (Nat.le_trans hsl (by decide)) w))
  have HSX := hide (fun w A B cap cap' (ha : ReadsRows 4 PartM.cells w A l) (hb : ReadsRows 4 PartM.cells w B l) => rbSame_calls cap cap' ha hb (Nat.le_trans hl20 (by decide)))
  have hd1 : decide (l = l) = true := by simp
  rw [hd1] at HSX
  clear hS hbs hps HC1 hd1 hg
  go_enter Try.func5, Try.ntmps5
  go_wp2_with fail
  refine HLI.out.mono ?_
  rintro e w' ⟨rfl, rfl⟩
  go_wp2_with fail
  refine (HCB.out _ HR_0.out).mono ?_
  rintro e w1 ⟨rfl, hb1⟩
  have HR_1 := hide (HR_0.out.below hb1)
  have HB1 := hide (HB0.out.trans (hb1.mono HB0.out.size))
  clear hb1 HR_0
  go_wp2_with fail
  refine (HP1.out _).mono ?_
  rintro e w2 ⟨A2, c2, rfl, hx2, hb2⟩
  have HR_2 := hide (HR_1.out.below hb2)
  have HB2 := hide (HB1.out.trans (hb2.mono HB1.out.size))
  clear hb2 HR_1
  have HY_2 := hide hx2
  clear hx2
  go_wp2_with fail
  refine (HSX.out _ _ _ c2 cap HY_2.out HR_2.out).mono ?_
  rintro e w3 ⟨rfl, hb3⟩
  have HB3 := hide (HB2.out.trans (hb3.mono HB2.out.size))
  clear hb3 
  go_wp2_with fail
  refine (HPS.out _).mono ?_
  rintro e w4 ⟨A4, c4, rfl, hx4, hb4⟩
  have HB4 := hide (HB3.out.trans (hb4.mono HB3.out.size))
  clear hb4 
  have HX_4 := hide hx4
  clear hx4
  by_cases hc : cx = 0
  · subst hc
    obtain ⟨q1, q2, q3⟩ := HZ.out rfl
    have HCB2 := hide (fun w A cap h => build_post q2 (bBuild_calls (w := w) (A := A) k (by omega) cap h q3))
    have HCR2 := hide (fun w A cap h => bRight_calls (w := w) (A := A) (l := lx) cap h q3)
    rw [q1] at HCR2
    clear q1 q2 q3
    go_wp2_with fail
    refine (HCB2.out _ _ _ HX_4.out).mono ?_
    rintro e w5 ⟨rfl, hb5⟩
    have HX_5 := hide (HX_4.out.below hb5)
    have HB5 := hide (HB4.out.trans (hb5.mono HB4.out.size))
    clear hb5 HX_4
    go_wp2_with fail
    refine (HCR2.out _ _ _ HX_5.out).mono ?_
    rintro e w6 ⟨rfl, hb6⟩
    have HB6 := hide (HB5.out.trans (hb6.mono HB5.out.size))
    clear hb6 
    go_wp2_with fail
    refine (lknown25_calls _).mono ?_
    rintro e w7 ⟨rfl, hb7⟩
    have HB7 := hide (HB6.out.trans (hb7.mono HB6.out.size))
    clear hb7 
    go_wp2_with fail
    go_ret
    exact ⟨rfl, HB7.out⟩
  · have e1 : (cx == 0) = false := by simpa using hc
    have e2 : decide (cx = 0) = false := decide_eq_false hc
    go_wp2_with fail
    refine (lknown25_calls _).mono ?_
    rintro e w5 ⟨rfl, hb5⟩
    have HB5 := hide (HB4.out.trans (hb5.mono HB4.out.size))
    clear hb5 
    go_wp2_with fail
    go_ret
    exact ⟨rfl, HB5.out⟩
end Go.Proofs.Ytkipmbnmmbeeaaa
