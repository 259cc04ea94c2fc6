/- Chapter 3: what must come of fixed calls. -/
import Derived.Test.YtjjpekgkaahpbaaMacE
namespace Go.Proofs.Ytjjpekgkaahpbaa
open Go.RowKit Zb

def foxB : ByteArray := ⟨#[84, 104, 101, 32, 113, 117, 105, 99, 107, 32, 98, 114, 111, 119, 110, 32, 102, 111, 120, 32, 106, 117, 109, 112, 115, 32, 111, 118, 101, 114, 32, 116, 104, 101, 32, 108, 97, 122, 121, 32, 100, 111, 103]⟩
def keyT : ByteArray := ⟨#[107, 101, 121]⟩
set_option maxRecDepth 20000 in
theorem fox_hex : (⟨(hexL (macB keyT foxB).data.toList).toArray⟩ : ByteArray) = ⟨#[102, 55, 98, 99, 56, 51, 102, 52, 51, 48, 53, 51, 56, 52, 50, 52, 98, 49, 51, 50, 57, 56, 101, 54, 97, 97, 54, 102, 98, 49, 52, 51, 101, 102, 52, 100, 53, 57, 97, 49, 52, 57, 52, 54, 49, 55, 53, 57, 57, 55, 52, 55, 57, 100, 98, 99, 50, 100, 49, 97, 51, 99, 100, 56]⟩ := by decide +kernel
set_option maxRecDepth 100000 in
set_option maxHeartbeats 4000000 in
theorem lknown3_calls (w : World) : Calls Try.prog 8 #[] w fun e w' => e = .returned (.bool true) ∧ Below w.heap.size w w' := by
  have HX := hide fox_hex
  have HMS := hide (macB_size keyT foxB)
  have HO := hide (mOf_macB keyT foxB (by decide) (by decide))
  have HR := hide (mRight_calls keyT foxB)
  generalize macB keyT foxB = m at *
  have HH := hide (hexOf_calls m.data.toList (by rw [size_toList', HMS.out]))
  have HR1 := hide (HR.out m (by decide) (by decide))
  have HR2 := hide (HR.out (m ++ ⟨#[120]⟩) (by decide) (by decide))
  have HD1 : Hid (decide (m = m) = true) := hide (by simp)
  have HD2 : Hid (decide (m ++ ⟨#[120]⟩ = m) = false) := hide (by
    rw [decide_eq_false_iff_not]
    intro e
    have h1 : (m ++ ⟨#[120]⟩ : ByteArray).size = m.size := by rw [e]
    rw [ByteArray.size_append] at h1
    have h2 : (⟨#[120]⟩ : ByteArray).size = 1 := rfl
    omega)
  have HK := hide (mKey_keyB ⟨#[107]⟩ (by decide))
  have HKS := hide (keyB_size ⟨#[107]⟩)
  generalize keyB ⟨#[107]⟩ = kk at *
  have hms : m.size ≤ 32 := by rw [HMS.out]; omega
  clear HR
  go_enter Try.func8, Try.ntmps8
  go_wp2_with fail
  refine (HO.out _).mono ?_
  rintro e w1 ⟨rfl, hb1⟩
  have HB1 := hide (hb1)
  clear hb1
  go_wp2_with fail
  refine (HH.out _).mono ?_
  rintro e w2 ⟨rfl, hb2⟩
  have HB2 := hide (HB1.out.trans (hb2.mono HB1.out.size))
  clear hb2 HB1
  rw [HX.out]
  go_wp2_with fail
  refine (HR1.out _).mono ?_
  rintro e w3 ⟨rfl, hb3⟩
  have HB3 := hide (HB2.out.trans (hb3.mono HB2.out.size))
  clear hb3 HB2
  rw [HD1.out]
  go_wp2_with fail
  refine (HR2.out _).mono ?_
  rintro e w4 ⟨rfl, hb4⟩
  have HB4 := hide (HB3.out.trans (hb4.mono HB3.out.size))
  clear hb4 HB3
  rw [HD2.out]
  go_wp2_with fail
  refine (HK.out _).mono ?_
  rintro e w5 ⟨rfl, hb5⟩
  have HB5 := hide (HB4.out.trans (hb5.mono HB4.out.size))
  clear hb5 HB4
  have hk9 : (kk.size : Int) = 64 := by rw [HKS.out]; rfl
  go_wp2_with fail
  go_ret
  exact ⟨rfl, HB5.out⟩
end Go.Proofs.Ytjjpekgkaahpbaa
