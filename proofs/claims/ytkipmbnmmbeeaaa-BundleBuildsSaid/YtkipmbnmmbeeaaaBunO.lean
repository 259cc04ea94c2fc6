/- Chapter 25: BundleBuilds comes to true. -/
import Derived.Test.YtkipmbnmmbeeaaaBunN
namespace Go.Proofs.Ytkipmbnmmbeeaaa
open Go.RowKit Zb

set_option maxRecDepth 100000 in
set_option maxHeartbeats 4000000 in
theorem BundleBuilds_walk (k : ByteArray) (A : Option Addr) (cap : Nat) (l : List PartM) (w : World) (_ : k.size ≤ 140737488351232) (_ : l.length ≤ 9223372036854775807) (hr : ReadsRows 4 PartM.cells w A l) (hok : ∀ p ∈ l, p.Ok) : Calls Try.prog 3 #[.string k, .slice A l.length cap] w fun e w' => e = .returned (.bool true) ∧ Below w.heap.size w w' := by
  have HB0 : Hid (Below w.heap.size w w) := hide (Below.refl _ _)
  have HR_0 := hide hr
  have HOK := hide hok
  clear hr hok
  by_cases g1 : (300 : Int) < (k.size : Int)
  · go_enter Try.func3, Try.ntmps3
    go_wp2_with fail
    refine (lknown25_calls _).mono ?_
    rintro e w1 ⟨rfl, hb1⟩
    have HB1 := hide (HB0.out.trans (hb1.mono HB0.out.size))
    clear hb1 
    go_wp2_with fail
    go_ret
    exact ⟨rfl, HB1.out⟩
  have g1b := decide_eq_false g1
  have hk : k.size ≤ 300 := by omega
  have HLI := hide (rbLight_calls cap HR_0.out)
  obtain ⟨li, hli⟩ : ∃ b, lightM l = b := ⟨_, rfl⟩
  have HLI2 := hide hli
  rw [hli] at HLI
  clear hli
  cases li
  · go_enter Try.func3, Try.ntmps3
    go_wp2_with fail
    refine HLI.out.mono ?_
    rintro e w' ⟨rfl, rfl⟩
    go_wp2_with fail
    refine (lknown25_calls _).mono ?_
    rintro e w1 ⟨rfl, hb1⟩
    have HB1 := hide (HB0.out.trans (hb1.mono HB0.out.size))
    clear hb1 
    go_wp2_with fail
    go_ret
    exact ⟨rfl, HB1.out⟩
  have HM := hide (mid_of HLI2.out HOK.out).1
  obtain ⟨S, hS⟩ : ∃ S, (buildM k l).1 = S := ⟨_, rfl⟩
  obtain ⟨c, hc⟩ : ∃ S, (buildM k l).2 = S := ⟨_, rfl⟩
  have hbs : buildM k l = (S, c) := by rw [← hS, ← hc]
  have HC1 := hide (fun w h => build_post hbs (bBuild_calls (w := w) (A := A) k (by omega) cap h HM.out))
  have HC2 := hide (fun w h => build_post hbs (rbBuild_calls (w := w) (A := A) k (by omega) cap h HM.out))
  have HC3 := hide (fun w h => bRight_calls (w := w) (A := A) (l := l) cap h HM.out)
  have HC4 := hide (fun w h => rbRight_calls (w := w) (A := A) (l := l) cap h HM.out)
  obtain ⟨g, hg⟩ : ∃ g, rightM l = g := ⟨_, rfl⟩
  rw [hg] at HC3 HC4
  have hss : (S.toList == S.toList) = true := by simp
  clear hS hc hbs hg
  go_enter Try.func3, Try.ntmps3
  go_wp2_with fail
  refine HLI.out.mono ?_
  rintro e w' ⟨rfl, rfl⟩
  go_wp2_with fail
  refine (HC1.out _ HR_0.out).mono ?_
  rintro e w1 ⟨rfl, hb1⟩
  have HR_1 := hide (HR_0.out.below hb1)
  have HB1 := hide (HB0.out.trans (hb1.mono HB0.out.size))
  clear hb1 HR_0
  go_wp2_with fail
  refine (HC2.out _ HR_1.out).mono ?_
  rintro e w2 ⟨rfl, hb2⟩
  have HR_2 := hide (HR_1.out.below hb2)
  have HB2 := hide (HB1.out.trans (hb2.mono HB1.out.size))
  clear hb2 HR_1
  go_wp2_with fail
  refine (HC3.out _ HR_2.out).mono ?_
  rintro e w3 ⟨rfl, hb3⟩
  have HR_3 := hide (HR_2.out.below hb3)
  have HB3 := hide (HB2.out.trans (hb3.mono HB2.out.size))
  clear hb3 HR_2
  go_wp2_with fail
  refine (HC4.out _ HR_3.out).mono ?_
  rintro e w4 ⟨rfl, hb4⟩
  have HB4 := hide (HB3.out.trans (hb4.mono HB3.out.size))
  clear hb4 
  cases g
  · go_wp2_with fail
    refine (lknown25_calls _).mono ?_
    rintro e w5 ⟨rfl, hb5⟩
    have HB5 := hide (HB4.out.trans (hb5.mono HB4.out.size))
    clear hb5 
    go_wp2_with fail
    go_ret
    exact ⟨rfl, HB5.out⟩
  · go_wp2_with fail
    refine (lknown25_calls _).mono ?_
    rintro e w5 ⟨rfl, hb5⟩
    have HB5 := hide (HB4.out.trans (hb5.mono HB4.out.size))
    clear hb5 
    go_wp2_with fail
    go_ret
    exact ⟨rfl, HB5.out⟩
end Go.Proofs.Ytkipmbnmmbeeaaa
