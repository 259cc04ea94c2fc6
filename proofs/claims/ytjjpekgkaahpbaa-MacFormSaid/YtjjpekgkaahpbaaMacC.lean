/- Chapter 3: mixer, mac's Of, walked. -/
import Derived.Test.YtjjpekgkaahpbaaMacB
namespace Go.Proofs.Ytjjpekgkaahpbaa
open Go.RowKit Zb

def MixerPost (w : World) (s : ByteArray) (e : Ending) (w' : World) : Prop :=
  ∃ bx, e = .returned (.func (.func 24) #[] #[.pointer (some ⟨bx, 0, none⟩)]) ∧ w'.cell? ⟨bx, 0, none⟩ = some (.string ⟨(keyM s.data.toList).toArray⟩) ∧ Below w.heap.size w w'
theorem mmixer_calls (s : ByteArray) (hs : s.size ≤ 50000000000) (w : World) : Calls Try.prog 18 #[.string s] w (MixerPost w s) := by
  have HK := hide (mKey_calls s hs)
  clear hs
  go_enter Try.func18, Try.ntmps18
  go_wp2_with fail
  refine (HK.out _).mono ?_
  rintro e w1 ⟨rfl, hb1⟩
  have HB1 := hide hb1
  clear hb1
  go_wp2_with fail
  go_ret
  exact ⟨w1.heap.size, rfl, (Blk.new w1 9 _).cell 0, HB1.out.alloc HB1.out.size _⟩
theorem mix_of (bx : Nat) (c : UInt8) (k : List UInt8) (hk : k.length = 64) (w : World) (h : w.cell? ⟨bx, 0, none⟩ = some (.string ⟨k.toArray⟩)) :
    Calls Try.prog 24 #[.int .u8 (c.toNat : Int), .pointer (some ⟨bx, 0, none⟩)] w (MixPost w k c) :=
  mmixer1_calls c ⟨k.toArray⟩ (by show 0 < k.toArray.size; rw [List.size_toArray]; omega) (by show k.toArray.size ≤ 1000; rw [List.size_toArray]; omega) bx w h
theorem mix_of54 (bx : Nat) (k : List UInt8) (hk : k.length = 64) (w : World) (h : w.cell? ⟨bx, 0, none⟩ = some (.string ⟨k.toArray⟩)) :
    Calls Try.prog 24 #[.int .u8 54, .pointer (some ⟨bx, 0, none⟩)] w (MixPost w k 0x36) := mix_of bx 0x36 k hk w h
theorem mix_of92 (bx : Nat) (k : List UInt8) (hk : k.length = 64) (w : World) (h : w.cell? ⟨bx, 0, none⟩ = some (.string ⟨k.toArray⟩)) :
    Calls Try.prog 24 #[.int .u8 92, .pointer (some ⟨bx, 0, none⟩)] w (MixPost w k 0x5c) := mix_of bx 0x5c k hk w h
def MacPost (w : World) (k s : List UInt8) (e : Ending) (w' : World) : Prop := e = .returned (.string ⟨(macM k s).toArray⟩) ∧ Below w.heap.size w w'
set_option maxRecDepth 20000 in
set_option maxHeartbeats 2000000 in
theorem mOf_calls (k s : ByteArray) (hk : k.size ≤ 50000000000) (hs : s.size ≤ 1000000000) (w : World) : Calls Try.prog 9 #[.string k, .string s] w (MacPost w k.data.toList s.data.toList) := by
  have HK := hide (mmixer_calls k hk)
  have HKL := hide (keyM_length k.data.toList)
  have HM : Hid (macM k.data.toList s.data.toList = digW (mixL (keyM k.data.toList) 0x5c ++ digW (mixL (keyM k.data.toList) 0x36 ++ s.data.toList))) := hide rfl
  have HSS := hide hs
  obtain ⟨kk, hkk⟩ : ∃ kk, keyM k.data.toList = kk := ⟨_, rfl⟩
  have HKK := hide hkk
  rw [hkk] at HKL HM
  clear hk hs hkk
  go_enter Try.func9, Try.ntmps9
  go_wp2_with fail
  refine (HK.out _).mono ?_
  rintro e w1 ⟨bx, rfl, hc1, hb1⟩
  rw [HKK.out] at hc1
  have HC1 := hide hc1
  have HB1 := hide hb1
  clear hc1 hb1
  go_wp2_with fail
  refine (gNew_calls _).mono ?_
  rintro e w2 ⟨b, rfl, hge, hh2, hb2⟩
  have HH2 := hide hh2
  have HC2 := hide ((hb2.cell (p := ⟨bx, 0, none⟩) (lt_of_cell HC1.out)).trans HC1.out)
  have HB2 := hide (HB1.out.trans (hb2.mono HB1.out.size))
  have HGE : Hid (w.heap.size ≤ b ∧ bx ≠ b) := hide ⟨Nat.le_trans HB1.out.size hge, by have := lt_of_cell HC1.out; omega⟩
  clear hge hh2 hb2 HB1 HC1
  go_wp2_with fail
  refine (mix_of54 bx kk HKL.out _ HC2.out).mono ?_
  rintro e w3 ⟨rfl, hb3⟩
  have HH3 := hide (HH2.out.below hb3)
  have HC3 := hide ((hb3.cell (p := ⟨bx, 0, none⟩) (lt_of_cell HC2.out)).trans HC2.out)
  have HB3 := hide (HB2.out.trans (hb3.mono HB2.out.size))
  clear hb3 HH2 HC2 HB2
  go_wp2_with fail
  refine (hWrite_calls HH3.out ⟨(mixL kk 0x36).toArray⟩ (by
    show 0 + (mixL kk 0x36).toArray.size ≤ _
    rw [List.size_toArray, mixL_length, HKL.out]
    omega)).mono ?_
  rintro e w4 ⟨rfl, ht4, hh4⟩
  have HH4 : Hid (HashOf w4 b (mixL kk 0x36)) := hide hh4
  have HC4 := hide ((World.cell?_of_block (a := ⟨bx, 0, none⟩) (ht4.block bx (lt_of_cell HC3.out) (fun e => HGE.out.2 e))).trans HC3.out)
  have HB4 := hide (HB3.out.trans (ht4.below HB3.out.size (fun y hy => by rw [hy]; exact HGE.out.1)))
  clear ht4 hh4 HH3 HC3 HB3
  go_wp2_with fail
  refine (hWrite_calls HH4.out s (by rw [mixL_length, HKL.out]; have h1 := HSS.out; omega)).mono ?_
  rintro e w5 ⟨rfl, ht5, hh5⟩
  have HH5 := hide hh5
  have HC5 := hide ((World.cell?_of_block (a := ⟨bx, 0, none⟩) (ht5.block bx (lt_of_cell HC4.out) (fun e => HGE.out.2 e))).trans HC4.out)
  have HB5 := hide (HB4.out.trans (ht5.below HB4.out.size (fun y hy => by rw [hy]; exact HGE.out.1)))
  clear ht5 hh5 HH4 HC4 HB4
  go_wp2_with fail
  refine (mix_of92 bx kk HKL.out _ HC5.out).mono ?_
  rintro e w6 ⟨rfl, hb6⟩
  have HH6 := hide (HH5.out.below hb6)
  have HB6 := hide (HB5.out.trans (hb6.mono HB5.out.size))
  clear hb6 HH5 HC5 HB5
  obtain ⟨P1, hP1⟩ : ∃ P1 : ByteArray, (⟨(mixL kk 0x5c).toArray⟩ : ByteArray) = P1 := ⟨_, rfl⟩
  have HP1 : Hid (P1.data.toList = mixL kk 0x5c) := hide (by rw [← hP1])
  have hP1s : P1.size ≤ 64 := by rw [← size_toList', HP1.out, mixL_length, HKL.out]; omega
  rw [hP1]
  clear hP1
  go_wp2_with fail
  refine (gSum_calls HH6.out (by rw [List.length_append, mixL_length, HKL.out, size_toList']; have h1 := HSS.out; omega)).mono ?_
  rintro e w7 ⟨rfl, hb7⟩
  have HB7 := hide (HB6.out.trans (hb7.mono HB6.out.size))
  clear hb7 HH6 HB6
  obtain ⟨P2, hP2⟩ : ∃ P2 : ByteArray, (⟨(digW (mixL kk 0x36 ++ s.data.toList)).toArray⟩ : ByteArray) = P2 := ⟨_, rfl⟩
  have HP2 : Hid (P2.data.toList = digW (mixL kk 0x36 ++ s.data.toList)) := hide (by rw [← hP2])
  have hP2s : P2.size ≤ 32 := by rw [← size_toList', HP2.out, digW_length]; omega
  rw [hP2]
  clear hP2
  obtain ⟨X, hX⟩ : ∃ X : ByteArray, P1 ++ P2 = X := ⟨_, rfl⟩
  have HXL : Hid (X.data.toList = mixL kk 0x5c ++ digW (mixL kk 0x36 ++ s.data.toList)) := hide (by rw [← hX, toList_append, HP1.out, HP2.out])
  have HXS : Hid (X.size ≤ 1000) := hide (by rw [← hX, ByteArray.size_append]; omega)
  go_wp2_with fail
  refine (gOf_calls X (by have h1 := HXS.out; omega) _).mono ?_
  rintro e w8 ⟨rfl, hb8⟩
  have HB8 := hide (HB7.out.trans (hb8.mono HB7.out.size))
  clear hb8
  go_wp2_with fail
  go_ret
  refine ⟨?_, HB8.out⟩
  rw [HM.out, ← HXL.out]
  rfl
end Go.Proofs.Ytjjpekgkaahpbaa
