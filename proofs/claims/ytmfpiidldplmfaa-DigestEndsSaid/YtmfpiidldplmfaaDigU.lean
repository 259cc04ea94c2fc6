/- Chapter 2: what must come of fixed calls. -/
import Derived.Test.YtmfpiidldplmfaaDigT
import Derived.Test.YtmfpiidldplmfaaOctE
namespace Go.Proofs.Ytmfpiidldplmfaa
open Go.RowKit Zb

theorem HashOf.beside {w w' : World} {b c : Nat} {s t : List UInt8} (hc : HashOf w c t) (hb : HashOf w b s) (hne : c ≠ b) (k : Turned (· = b) w w') : HashOf w' c t :=
  hc.turned k hne fun x hx => by
    subst hx
    obtain ⟨rs, h⟩ := hb
    exact ⟨_, _, h.hb, by decide⟩
def abcHex : ByteArray := ⟨(hexL (digW [97, 98, 99])).toArray⟩
def noneHex : ByteArray := ⟨(hexL (digW [])).toArray⟩
theorem abc_hex : abcHex = ⟨#[98, 97, 55, 56, 49, 54, 98, 102, 56, 102, 48, 49, 99, 102, 101, 97, 52, 49, 52, 49, 52, 48, 100, 101, 53, 100, 97, 101, 50, 50, 50, 51, 98, 48, 48, 51, 54, 49, 97, 51, 57, 54, 49, 55, 55, 97, 57, 99, 98, 52, 49, 48, 102, 102, 54, 49, 102, 50, 48, 48, 49, 53, 97, 100]⟩ := by decide +kernel
theorem none_hex : noneHex = ⟨#[101, 51, 98, 48, 99, 52, 52, 50, 57, 56, 102, 99, 49, 99, 49, 52, 57, 97, 102, 98, 102, 52, 99, 56, 57, 57, 54, 102, 98, 57, 50, 52, 50, 55, 97, 101, 52, 49, 101, 52, 54, 52, 57, 98, 57, 51, 52, 99, 97, 52, 57, 53, 57, 57, 49, 98, 55, 56, 53, 50, 98, 56, 53, 53]⟩ := by decide +kernel
theorem outW_length (v : List Int) : (outW v).length = 32 := by rw [outW_eq, outN_length]
theorem digW_length (s : List UInt8) : (digW s).length = 32 := outW_length _
theorem hexOf_calls (l : List UInt8) (h : l.length = 32) (w : World) : Calls Try.prog 15 #[.string ⟨l.toArray⟩] w fun e w' => e = .returned (.string ⟨(hexL l).toArray⟩) ∧ Below w.heap.size w w' :=
  oHex_calls ⟨l.toArray⟩ (by show l.toArray.size ≤ _; rw [List.size_toArray]; omega) w
set_option maxRecDepth 100000 in
set_option maxHeartbeats 4000000 in
theorem lknown2_calls (w : World) : Calls Try.prog 7 #[] w fun e w' => e = .returned (.bool true) ∧ Below w.heap.size w w' := by
  go_enter Try.func7, Try.ntmps7
  go_wp2_with fail
  refine (gNew_calls _).mono ?_
  rintro e w1 ⟨b, rfl, hge, hh1, hb1⟩
  have HB1 := hide hb1
  have HH1 := hide hh1
  clear hb1 hh1
  go_wp2_with fail
  refine (hWrite_calls HH1.out ⟨#[97]⟩ (by decide)).mono ?_
  rintro e w2 ⟨rfl, ht2, hh2⟩
  have HH2 : Hid (HashOf w2 b [97]) := hide hh2
  have HB2 := hide (HB1.out.trans (ht2.below HB1.out.size (fun x hx => by rw [hx]; exact hge)))
  clear ht2 hh2 HB1 HH1
  go_wp2_with fail
  refine (gCopy_calls HH2.out).mono ?_
  rintro e w3 ⟨c, rfl, hgc, hc3, hb3⟩
  have HH3 := hide (HH2.out.below hb3)
  have HC3 := hide hc3
  have HB3 := hide (HB2.out.trans (hb3.mono HB2.out.size))
  have hbc : b ≠ c := by have := HH2.out.lt; omega
  have HBC := hide hbc
  clear hb3 hc3 HH2 HB2
  go_wp2_with fail
  refine (hWrite_calls HH3.out ⟨#[98, 99]⟩ (by decide)).mono ?_
  rintro e w4 ⟨rfl, ht4, hh4⟩
  have HH4 : Hid (HashOf w4 b [97, 98, 99]) := hide hh4
  have HC4 := hide (HC3.out.beside HH3.out (Ne.symm HBC.out) ht4)
  have HB4 := hide (HB3.out.trans (ht4.below HB3.out.size (fun x hx => by rw [hx]; exact hge)))
  clear ht4 hh4 HB3 HH3 HC3
  have D3 := hide (digW_length [97, 98, 99])
  have D0 := hide (digW_length [])
  have HX3 : Hid ((⟨(hexL (digW [97, 98, 99])).toArray⟩ : ByteArray) = _) := hide abc_hex
  have HX0 : Hid ((⟨(hexL (digW [])).toArray⟩ : ByteArray) = _) := hide none_hex
  go_wp2_with fail
  refine (gOf_calls ⟨#[97, 98, 99]⟩ (by decide) _).mono ?_
  rintro e w5 ⟨rfl, hb5⟩
  have HB5 := hide (HB4.out.trans (hb5.mono HB4.out.size))
  have HC5 := hide (HC4.out.below hb5)
  have HH5 := hide (HH4.out.below hb5)
  clear hb5 HB4 HC4 HH4
  rw [show (⟨#[97, 98, 99]⟩ : ByteArray).data.toList = [97, 98, 99] from rfl]
  go_wp2_with fail
  refine (hexOf_calls (digW [97, 98, 99]) D3.out _).mono ?_
  rintro e w6 ⟨rfl, hb6⟩
  have HB6 := hide (HB5.out.trans (hb6.mono HB5.out.size))
  have HC6 := hide (HC5.out.below hb6)
  have HH6 := hide (HH5.out.below hb6)
  clear hb6 HB5 HC5 HH5
  rw [HX3.out]
  go_wp2_with fail
  refine (gOf_calls ⟨#[]⟩ (by decide) _).mono ?_
  rintro e w7 ⟨rfl, hb7⟩
  have HB7 := hide (HB6.out.trans (hb7.mono HB6.out.size))
  have HC7 := hide (HC6.out.below hb7)
  have HH7 := hide (HH6.out.below hb7)
  clear hb7 HB6 HC6 HH6
  rw [show (⟨#[]⟩ : ByteArray).data.toList = [] from rfl]
  go_wp2_with fail
  refine (hexOf_calls (digW []) D0.out _).mono ?_
  rintro e w8 ⟨rfl, hb8⟩
  have HB8 := hide (HB7.out.trans (hb8.mono HB7.out.size))
  have HC8 := hide (HC7.out.below hb8)
  have HH8 := hide (HH7.out.below hb8)
  clear hb8 HB7 HC7 HH7
  rw [HX0.out]
  go_wp2_with fail
  refine (gSum_calls HH8.out (by decide)).mono ?_
  rintro e w9 ⟨rfl, hb9⟩
  have HB9 := hide (HB8.out.trans (hb9.mono HB8.out.size))
  have HC9 := hide (HC8.out.below hb9)
  have HH9 := hide (HH8.out.below hb9)
  clear hb9 HB8 HC8 HH8
  go_wp2_with fail
  refine (hexOf_calls (digW [97, 98, 99]) D3.out _).mono ?_
  rintro e w10 ⟨rfl, hb10⟩
  have HB10 := hide (HB9.out.trans (hb10.mono HB9.out.size))
  have HC10 := hide (HC9.out.below hb10)
  have HH10 := hide (HH9.out.below hb10)
  clear hb10 HB9 HC9 HH9
  rw [HX3.out]
  go_wp2_with fail
  refine (gLen_calls HH10.out).mono ?_
  rintro e w11 ⟨rfl, rfl⟩
  go_wp2_with fail
  refine (gLen_calls HC10.out).mono ?_
  rintro e w12 ⟨rfl, rfl⟩
  go_wp2_with fail
  go_ret
  exact ⟨rfl, HB10.out⟩
end Go.Proofs.Ytmfpiidldplmfaa
