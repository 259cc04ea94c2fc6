/- Chapter 3: the document's Key and Of, walked. -/
import Derived.Test.YtjjpekgkaahpbaaMacD
namespace Go.Proofs.Ytjjpekgkaahpbaa
open Go.RowKit Zb

set_option maxRecDepth 20000 in
set_option maxHeartbeats 2000000 in
theorem rmKey_calls (s : ByteArray) (hs : s.size ≤ 50000000000) (w : World) : Calls Try.prog 12 #[.string s] w (KeyPost w s) := by
  by_cases hl : 64 < s.size
  · have hlI : (64 : Int) < (s.size : Int) := by omega
    have HK : Hid (keyM s.data.toList = padK (digW s.data.toList)) := hide (by unfold keyM longK; rw [if_pos (show 64 < s.data.toList.length from hl)])
    have HO := hide (rgOf_calls s hs)
    have HDL := hide (digW_length s.data.toList)
    clear hs hl
    go_enter Try.func12, Try.ntmps12
    go_wp2_with fail
    refine (HO.out _).mono ?_
    rintro e w1 ⟨rfl, hb1⟩
    have HI0 : ∃ (j : Nat) (T : ByteArray), Value.string ⟨(digW s.data.toList).toArray⟩ = .string T ∧ T.size ≤ 64 ∧ Hid (T.data.toList = digW s.data.toList ++ List.replicate j 0) ∧ Hid (Below w.heap.size w w1) :=
      ⟨0, _, rfl, by show (digW s.data.toList).toArray.size ≤ 64; rw [List.size_toArray, HDL.out]; omega, hide (by simp), hide hb1⟩
    have HB1 := hide hb1
    clear hb1
    go_wp2_with fail
    go_loopw [0] (fun v wr => ∃ (j : Nat) (T : ByteArray), v = .string T ∧ T.size ≤ 64 ∧ Hid (T.data.toList = digW s.data.toList ++ List.replicate j 0) ∧ Hid (Below w.heap.size w wr)) (fun v _ => 64 - (match v with | .string s => s.size | _ => 0))
    case atStart => exact HI0
    case round =>
    clear HI0
    obtain ⟨j, T, rfl, hT, hTL, HB⟩ := hrel
    by_cases hlt : T.size < 64
    · have hI : (T.size : Int) < 64 := by omega
      obtain ⟨X, hX⟩ : ∃ X : ByteArray, T ++ ⟨#[0]⟩ = X := ⟨_, rfl⟩
      have hXs : X.size = T.size + 1 := by rw [← hX, ByteArray.size_append]; rfl
      have HXS := hide hXs
      have HXL : Hid (X.data.toList = digW s.data.toList ++ List.replicate (j + 1) 0) := hide (by rw [← hX, toList_append, hTL.out, List.replicate_succ', List.append_assoc])
      clear hXs
      go_wp2_with fail
      have hXs := HXS.out
      go_roundw
      case rel => exact ⟨j + 1, X, rfl, by omega, HXL, HB⟩
      case measure => simp only; omega
    · have hI : (64 : Int) ≤ (T.size : Int) := by omega
      have HE : Hid (padK (digW s.data.toList) = T.data.toList) := hide (by
        have h1 : T.size = 64 := by omega
        have h2 : (digW s.data.toList).length + j = 64 := by rw [← h1, ← size_toList', hTL.out, List.length_append, List.length_replicate]
        rw [hTL.out, padK]
        congr 2
        omega)
      clear hlt
      go_wp2_with fail
      go_ret
      refine ⟨?_, HB.out⟩
      rw [HK.out, HE.out]
      rfl
  · have hlI : (s.size : Int) ≤ 64 := by omega
    have HK : Hid (keyM s.data.toList = padK s.data.toList) := hide (by unfold keyM longK; rw [if_neg (show ¬ 64 < s.data.toList.length from hl)])
    have HI0 : ∃ (j : Nat) (T : ByteArray), Value.string s = .string T ∧ T.size ≤ 64 ∧ Hid (T.data.toList = s.data.toList ++ List.replicate j 0) ∧ Hid (Below w.heap.size w w) :=
      ⟨0, _, rfl, by omega, hide (by simp), hide (Below.refl _ _)⟩
    clear hs hl
    go_enter Try.func12, Try.ntmps12
    go_wp2_with fail
    go_loopw [0] (fun v wr => ∃ (j : Nat) (T : ByteArray), v = .string T ∧ T.size ≤ 64 ∧ Hid (T.data.toList = s.data.toList ++ List.replicate j 0) ∧ Hid (Below w.heap.size w wr)) (fun v _ => 64 - (match v with | .string s => s.size | _ => 0))
    case atStart => exact HI0
    case round =>
    clear HI0
    obtain ⟨j, T, rfl, hT, hTL, HB⟩ := hrel
    by_cases hlt : T.size < 64
    · have hI : (T.size : Int) < 64 := by omega
      obtain ⟨X, hX⟩ : ∃ X : ByteArray, T ++ ⟨#[0]⟩ = X := ⟨_, rfl⟩
      have hXs : X.size = T.size + 1 := by rw [← hX, ByteArray.size_append]; rfl
      have HXS := hide hXs
      have HXL : Hid (X.data.toList = s.data.toList ++ List.replicate (j + 1) 0) := hide (by rw [← hX, toList_append, hTL.out, List.replicate_succ', List.append_assoc])
      clear hXs
      go_wp2_with fail
      have hXs := HXS.out
      go_roundw
      case rel => exact ⟨j + 1, X, rfl, by omega, HXL, HB⟩
      case measure => simp only; omega
    · have hI : (64 : Int) ≤ (T.size : Int) := by omega
      have HE : Hid (padK s.data.toList = T.data.toList) := hide (by
        have h1 : T.size = 64 := by omega
        have h2 : (s.data.toList).length + j = 64 := by rw [← h1, ← size_toList', hTL.out, List.length_append, List.length_replicate]
        rw [hTL.out, padK]
        congr 2
        omega)
      clear hlt
      go_wp2_with fail
      go_ret
      refine ⟨?_, HB.out⟩
      rw [HK.out, HE.out]
      rfl

def keyB (k : ByteArray) : ByteArray := ⟨(keyM k.data.toList).toArray⟩
theorem keyB_size (k : ByteArray) : (keyB k).size = 64 := by
  show (keyM k.data.toList).toArray.size = 64
  rw [List.size_toArray, keyM_length]
theorem keyB_list (k : ByteArray) : (keyB k).data.toList = keyM k.data.toList := rfl
theorem mKey_keyB (k : ByteArray) (hk : k.size ≤ 50000000000) (w : World) : Calls Try.prog 11 #[.string k] w fun e w' => e = .returned (.string (keyB k)) ∧ Below w.heap.size w w' := mKey_calls k hk w
theorem rmKey_keyB (k : ByteArray) (hk : k.size ≤ 50000000000) (w : World) : Calls Try.prog 12 #[.string k] w fun e w' => e = .returned (.string (keyB k)) ∧ Below w.heap.size w w' := rmKey_calls k hk w
def mixB (k : ByteArray) (c : UInt8) : ByteArray := ⟨(mixL k.data.toList c).toArray⟩
theorem mixB_size (k : ByteArray) (c : UInt8) : (mixB k c).size = k.size := by
  show (mixL k.data.toList c).toArray.size = k.size
  rw [List.size_toArray, mixL_length, size_toList']
theorem rmix92 (k : ByteArray) (hk : k.size ≤ 1000) (w : World) : Calls Try.prog 23 #[.string k, .int .u8 92] w fun e w' => e = .returned (.string (mixB k 0x5c)) ∧ Below w.heap.size w w' := rmmixed_calls 0x5c k hk w
theorem rmix54 (k : ByteArray) (hk : k.size ≤ 1000) (w : World) : Calls Try.prog 23 #[.string k, .int .u8 54] w fun e w' => e = .returned (.string (mixB k 0x36)) ∧ Below w.heap.size w w' := rmmixed_calls 0x36 k hk w
theorem lmix92 (k : ByteArray) (h0 : 0 < k.size) (hk : k.size ≤ 1000) (w : World) : Calls Try.prog 16 #[.string k, .int .u8 92] w fun e w' => e = .returned (.string (mixB k 0x5c)) ∧ Below w.heap.size w w' := lmixed3_calls 0x5c k h0 hk w
theorem lmix54 (k : ByteArray) (h0 : 0 < k.size) (hk : k.size ≤ 1000) (w : World) : Calls Try.prog 16 #[.string k, .int .u8 54] w fun e w' => e = .returned (.string (mixB k 0x36)) ∧ Below w.heap.size w w' := lmixed3_calls 0x36 k h0 hk w
def digB (s : ByteArray) : ByteArray := ⟨(digW s.data.toList).toArray⟩
theorem digB_size (s : ByteArray) : (digB s).size = 32 := by
  show (digW s.data.toList).toArray.size = 32
  rw [List.size_toArray, digW_length]
theorem macB_eq (k s : ByteArray) : macB k s = digB (mixB (keyB k) 0x5c ++ digB (mixB (keyB k) 0x36 ++ s)) := by
  unfold macB macM digB
  rw [toList_append, toList_append]
  rfl
theorem rgOf_digB (s : ByteArray) (hs : s.size ≤ 50000000000) (w : World) : Calls Try.prog 22 #[.string s] w fun e w' => e = .returned (.string (digB s)) ∧ Below w.heap.size w w' := rgOf_calls s hs w
theorem gOf_digB (s : ByteArray) (hs : s.size ≤ 50000000000) (w : World) : Calls Try.prog 15 #[.string s] w fun e w' => e = .returned (.string (digB s)) ∧ Below w.heap.size w w' := gOf_calls s hs w
set_option maxRecDepth 20000 in
set_option maxHeartbeats 2000000 in
theorem rmOf_calls (k s : ByteArray) (hk : k.size ≤ 50000000000) (hs : s.size ≤ 1000000000) (w : World) : Calls Try.prog 10 #[.string k, .string s] w fun e w' => e = .returned (.string (macB k s)) ∧ Below w.heap.size w w' := by
  have HK := hide (rmKey_keyB k hk)
  have HKS := hide (keyB_size k)
  have HM := hide (macB_eq k s)
  have hsI : (s.size : Int) ≤ 1000000000 := by omega
  generalize keyB k = kk at *
  have HM1 := hide (rmix92 kk (by rw [HKS.out]; omega))
  have HM2 := hide (rmix54 kk (by rw [HKS.out]; omega))
  have HS1 := hide (mixB_size kk 0x5c)
  have HS2 := hide (mixB_size kk 0x36)
  clear hk
  go_enter Try.func10, Try.ntmps10
  go_wp2_with fail
  refine (HK.out _).mono ?_
  rintro e w1 ⟨rfl, hb1⟩
  have HB1 := hide hb1
  clear hb1
  go_wp2_with fail
  refine (HM1.out _).mono ?_
  rintro e w2 ⟨rfl, hb2⟩
  have HB2 := hide (HB1.out.trans (hb2.mono HB1.out.size))
  clear hb2 HB1
  go_wp2_with fail
  refine (HM2.out _).mono ?_
  rintro e w3 ⟨rfl, hb3⟩
  have HB3 := hide (HB2.out.trans (hb3.mono HB2.out.size))
  clear hb3 HB2
  generalize mixB kk 0x5c = P1 at *
  generalize mixB kk 0x36 = P2 at *
  have hP1 : P1.size ≤ 64 := by rw [HS1.out, HKS.out]; omega
  have hP2 : P2.size ≤ 64 := by rw [HS2.out, HKS.out]; omega
  obtain ⟨X, hX⟩ : ∃ X : ByteArray, P2 ++ s = X := ⟨_, rfl⟩
  have HXS : Hid (X.size ≤ 50000000000) := hide (by rw [← hX, ByteArray.size_append]; omega)
  have HD := hide (rgOf_digB X HXS.out)
  have HDS := hide (digB_size X)
  rw [hX] at HM
  go_wp2_with fail
  refine (HD.out _).mono ?_
  rintro e w4 ⟨rfl, hb4⟩
  have HB4 := hide (HB3.out.trans (hb4.mono HB3.out.size))
  clear hb4 HB3 HD hX
  generalize digB X = D at *
  have hDs : D.size ≤ 32 := by rw [HDS.out]; omega
  obtain ⟨Y, hY⟩ : ∃ Y : ByteArray, P1 ++ D = Y := ⟨_, rfl⟩
  have HYS : Hid (Y.size ≤ 50000000000) := hide (by rw [← hY, ByteArray.size_append]; omega)
  rw [hY] at HM
  go_wp2_with fail
  refine (rgOf_digB Y HYS.out _).mono ?_
  rintro e w5 ⟨rfl, hb5⟩
  have HB5 := hide (HB4.out.trans (hb5.mono HB4.out.size))
  clear hb5 HB4
  go_wp2_with fail
  go_ret
  exact ⟨by rw [HM.out]; rfl, HB5.out⟩
end Go.Proofs.Ytjjpekgkaahpbaa
