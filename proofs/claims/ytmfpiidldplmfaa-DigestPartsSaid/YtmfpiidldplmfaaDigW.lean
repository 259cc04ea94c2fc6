/- Chapter 2: DigestParts comes to true. -/
import Derived.Test.YtmfpiidldplmfaaDigV
import Derived.Test.YtmfpiidldplmfaaArgs
namespace Go.Proofs.Ytmfpiidldplmfaa
open Go.RowKit Zb

abbrev gAt (l : List ByteArray) (k : Nat) : ByteArray := l.getD k ⟨#[]⟩
def catB (l : List ByteArray) : Nat → ByteArray
  | 0 => ⟨#[]⟩
  | k + 1 => catB l k ++ gAt l k
theorem toList_append (a b : ByteArray) : (a ++ b).data.toList = a.data.toList ++ b.data.toList := by
  rw [ByteArray.data_append, Array.toList_append]
theorem size_toList (a : ByteArray) : a.data.toList.length = a.size := rfl
def PartInv (w wr : World) (b : Nat) (l : List ByteArray) (k : Nat) : Prop := Below w.heap.size w wr ∧ w.heap.size ≤ b ∧ HashOf wr b (catB l k).data.toList ∧ (catB l k).size ≤ 400 * k

set_option maxRecDepth 100000 in
set_option maxHeartbeats 4000000 in
theorem DigestParts_walk (A : Option Addr) (cap : Nat) (l : List ByteArray) (w : World) (_ : l.length ≤ 9223372036854775807) (hr : ReadsStrs w A l) :
    Calls Try.prog 4 #[.slice A l.length cap] w fun e w' => e = .returned (.bool true) ∧ Below w.heap.size w w' := by
  have HR := hide hr; clear hr
  go_enter Try.func4, Try.ntmps4
  go_wp2_with fail
  refine (gNew_calls _).mono ?_
  rintro e w1 ⟨b, rfl, hge, hh1, hb1⟩
  have HI0 : Hid (PartInv w w1 b l 0) := hide ⟨hb1, hge, hh1, Nat.le_refl _⟩
  clear hb1 hh1 hge
  go_wp2_with fail
  go_loopw [4, 5] (fun s i wr => ∃ k : Nat, k ≤ l.length ∧ k ≤ 12 ∧ i = .int .i64 k ∧ s = .string (catB l k) ∧ Hid (PartInv w wr b l k)) (fun _ i _ => 12 - (intOf i).toNat)
  case atStart => exact ⟨0, by omega, by omega, rfl, rfl, HI0⟩
  case round =>
  clear HI0
  obtain ⟨k, hk, hk12, rfl, rfl, hinv⟩ := hrel
  by_cases hlt : k < l.length ∧ k < 12
  · obtain ⟨hlt1, hlt2⟩ := hlt
    obtain ⟨ad, hA, hadl, hc, hsz⟩ := HR.out k hlt1
    subst hA
    have hcr := (hinv.out.1.cell (p := ad.add k) (by rw [block_add]; exact hadl)).trans hc
    have HC : Hid (∀ w', Below w.heap.size w w' → w'.cell? (ad.add k) = some (.string (gAt l k))) := hide fun w' hb' => (hb'.cell (p := ad.add k) (by rw [block_add]; exact hadl)).trans hc
    obtain ⟨x, hx0⟩ : ∃ x, gAt l k = x := ⟨_, rfl⟩
    have HX := hide hx0
    rw [show l.getD k ⟨#[]⟩ = x from hx0] at hcr
    rw [hx0] at HC
    obtain ⟨T, hT⟩ : ∃ T, catB l k = T := ⟨_, rfl⟩
    have HT := hide hT
    have hts : T.size ≤ 400 * k := by rw [← hT]; exact hinv.out.2.2.2
    have hkI : (k : Int) < 12 := by omega
    rw [hT]
    clear hc hsz hadl hx0 hT
    by_cases hx : 400 < x.size
    · have hxI : (400 : Int) < (x.size : Int) := by omega
      clear hx
      go_wp2_with fail
      refine (lknown2_calls _).mono ?_
      rintro e w3 ⟨rfl, hb3⟩
      have T3 := hide (hinv.out.1.trans (hb3.mono hinv.out.1.size))
      clear hb3 hcr
      go_wp2_with fail
      go_ret
      exact ⟨rfl, T3.out⟩
    · have hxI : (x.size : Int) ≤ 400 := by omega
      have HXS := hide (show x.size ≤ 400 by omega)
      have htI : (T.size : Int) ≤ 4800 := by omega
      have HTS := hide (show T.size ≤ 4800 by omega)
      have HB := hide hinv.out.1
      have HG := hide hinv.out.2.1
      have HH : Hid (HashOf wr b T.data.toList) := hide (by rw [← HT.out]; exact hinv.out.2.2.1)
      clear hx hinv
      obtain ⟨TO, hTO⟩ : ∃ TO : ByteArray, T ++ ⟨#[111, 116, 104, 101, 114]⟩ = TO := ⟨_, rfl⟩
      have hTOl : TO.data.toList = T.data.toList ++ [111, 116, 104, 101, 114] := by rw [← hTO, toList_append]
      have hTOs : TO.size = T.size + 5 := by rw [← hTO, ByteArray.size_append]; rfl
      have HTOL := hide hTOl
      have HTOS := hide hTOs
      obtain ⟨TX, hTX⟩ : ∃ TX : ByteArray, T ++ x = TX := ⟨_, rfl⟩
      have HTXL : Hid (TX.data.toList = T.data.toList ++ x.data.toList) := hide (by rw [← hTX, toList_append])
      have hTXs : TX.size = T.size + x.size := by rw [← hTX, ByteArray.size_append]
      have HTXS := hide hTXs
      have HTXC : Hid (catB l (k + 1) = TX) := hide (by rw [catB, HT.out, HX.out, hTX])
      clear hTOl hTOs hTXs
      go_wp2_with fail
      refine (gCopy_calls HH.out).mono ?_
      rintro e w2 ⟨c, rfl, hgc, hc2, hb2⟩
      have HB2 := hide (HB.out.trans (hb2.mono HB.out.size))
      have HH2 := hide (HH.out.below hb2)
      have HC2 := hide hc2
      have HBC : Hid (b ≠ c) := hide (by have := HH.out.lt; omega)
      have HGC : Hid (w.heap.size ≤ c) := hide (by have := HB.out.size; omega)
      have hcr2 := HC.out _ HB2.out
      clear hcr hb2 hc2 hgc HB HH
      go_wp2_with fail
      refine (hWrite_calls HH2.out x (by have h1 := HXS.out; have h2 := HTS.out; rw [size_toList]; omega)).mono ?_
      rintro e w3 ⟨rfl, ht3, hh3⟩
      have HB3 := hide (HB2.out.trans (ht3.below HB2.out.size (fun y hy => by rw [hy]; exact HG.out)))
      have HC3 := hide (HC2.out.beside HH2.out (Ne.symm HBC.out) ht3)
      have HH3 : Hid (HashOf w3 b TX.data.toList) := hide (by rw [HTXL.out]; exact hh3)
      have hcr3 := HC.out _ HB3.out
      clear hcr2 ht3 hh3 HB2 HH2 HC2
      go_wp2_with fail
      refine (hWrite_calls HC3.out ⟨#[111, 116, 104, 101, 114]⟩ (by have h2 := HTS.out; rw [size_toList]; show T.size + 5 ≤ _; omega)).mono ?_
      rintro e w4 ⟨rfl, ht4, hh4⟩
      have HB4 := hide (HB3.out.trans (ht4.below HB3.out.size (fun y hy => by rw [hy]; exact HGC.out)))
      have HH4 := hide (HH3.out.beside HC3.out HBC.out ht4)
      have HC4 : Hid (HashOf w4 c TO.data.toList) := hide (by rw [HTOL.out]; exact hh4)
      clear ht4 hh4 HB3 HH3 HC3 hcr3
      go_wp2_with fail
      refine (gSum_calls HC4.out (by have h1 := HTOS.out; have h2 := HTS.out; rw [size_toList]; omega)).mono ?_
      rintro e w5 ⟨rfl, hb5⟩
      have HB5 := hide (HB4.out.trans (hb5.mono HB4.out.size))
      have HH5 := hide (HH4.out.below hb5)
      have HC5 := hide (HC4.out.below hb5)
      clear hb5 HB4 HH4 HC4
      go_wp2_with fail
      refine (gOf_calls TO (by have h1 := HTOS.out; have h2 := HTS.out; omega) _).mono ?_
      rintro e w6 ⟨rfl, hb6⟩
      have HB6 := hide (HB5.out.trans (hb6.mono HB5.out.size))
      have HH6 := hide (HH5.out.below hb6)
      have HC6 := hide (HC5.out.below hb6)
      clear hb6 HB5 HH5 HC5
      go_wp2_with fail
      refine (gLen_calls HC6.out).mono ?_
      rintro e w' ⟨rfl, rfl⟩
      rw [show ((TO.data.toList.length : Nat) : Int) = (T.size : Int) + 5 by rw [size_toList, HTOS.out]; omega]
      have hcr6 := HC.out _ HB6.out
      go_wp2_with fail
      clear hcr6
      refine (gSum_calls HH6.out (by have h1 := HTXS.out; have h2 := HTS.out; have h3 := HXS.out; rw [size_toList]; omega)).mono ?_
      rintro e w7 ⟨rfl, hb7⟩
      have HB7 := hide (HB6.out.trans (hb7.mono HB6.out.size))
      have HH7 := hide (HH6.out.below hb7)
      clear hb7 HB6 HH6 HC6
      go_wp2_with fail
      refine (gOf_calls TX (by have h1 := HTXS.out; have h2 := HTS.out; have h3 := HXS.out; omega) _).mono ?_
      rintro e w8 ⟨rfl, hb8⟩
      have HB8 := hide (HB7.out.trans (hb8.mono HB7.out.size))
      have HH8 := hide (HH7.out.below hb8)
      clear hb8 HB7 HH7
      go_wp2_with fail
      refine (gLen_calls HH8.out).mono ?_
      rintro e w' ⟨rfl, rfl⟩
      rw [show ((TX.data.toList.length : Nat) : Int) = (TX.size : Int) from rfl]
      go_wp2_with fail
      refine (gSum_calls HH8.out (by have h1 := HTXS.out; have h2 := HTS.out; have h3 := HXS.out; rw [size_toList]; omega)).mono ?_
      rintro e w9 ⟨rfl, hb9⟩
      have HB9 := hide (HB8.out.trans (hb9.mono HB8.out.size))
      have HH9 := hide (HH8.out.below hb9)
      clear hb9 HB8 HH8
      obtain ⟨DX, hDX⟩ : ∃ DX : ByteArray, (⟨(digW TX.data.toList).toArray⟩ : ByteArray) = DX := ⟨_, rfl⟩
      have hds : (DX.size : Int) = 32 := by
        have h1 : DX.size = 32 := by
          rw [← hDX]
          show (digW TX.data.toList).toArray.size = 32
          rw [List.size_toArray, digW_length]
        omega
      rw [hDX]
      clear hDX
      go_wp2_with fail
      have HN : Hid (PartInv w w9 b l (k + 1)) := hide ⟨HB9.out, HG.out, by rw [HTXC.out]; exact HH9.out, by rw [HTXC.out, HTXS.out]; have h3 := HXS.out; omega⟩
      rw [← HTXC.out]
      go_roundw
      case rel => exact ⟨k + 1, by omega, by omega, by go_num, rfl, HN⟩
      case measure => simp [intOf]; omega
  · have HB := hide hinv.out.1
    clear hinv
    generalize catB l k = T at *
    by_cases hk1 : k < l.length
    · have hkI : (k : Int) = 12 := by omega
      have hk2 : (12 : Int) < (l.length : Int) := by omega
      rw [hkI]
      clear hlt hk1 hk12 hk hkI
      go_wp2_with fail
      refine (lknown2_calls _).mono ?_
      rintro e w3 ⟨rfl, hb3⟩
      have T3 := hide (HB.out.trans (hb3.mono HB.out.size))
      clear hb3
      go_wp2_with fail
      go_ret
      exact ⟨rfl, T3.out⟩
    · have hkI : (k : Int) = (l.length : Int) := by omega
      rw [hkI]
      clear hlt hk1 hk12 hk hkI
      go_wp2_with fail
      refine (lknown2_calls _).mono ?_
      rintro e w3 ⟨rfl, hb3⟩
      have T3 := hide (HB.out.trans (hb3.mono HB.out.size))
      clear hb3
      go_wp2_with fail
      go_ret
      exact ⟨rfl, T3.out⟩
end Go.Proofs.Ytmfpiidldplmfaa
