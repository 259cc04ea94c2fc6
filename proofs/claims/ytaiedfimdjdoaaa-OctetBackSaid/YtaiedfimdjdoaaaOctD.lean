/- Chapter 1: octet's Text and Next, and the document's. -/
import Derived.Test.YtaiedfimdjdoaaaOctC
import Derived.OwnWalk
namespace Go.Proofs.Ytaiedfimdjdoaaa
open Go.RowKit Zb

def NextPost (s : ByteArray) (at_ : Int) (w : World) (e : Ending) (w' : World) : Prop := e = .returned (.tuple #[.string (nextM s at_).1, .int .i64 (nextM s at_).2.1, .int .i64 (nextM s at_).2.2]) ∧ w = w'
theorem getN_lim (s : ByteArray) (a : Nat) : 0 ≤ getN s a 4 ∧ getN s a 4 ≤ 4294967295 := by
  unfold getN
  split
  · have h : leN (cutL s (a : Int).toNat (4 : Int).toNat) < 4294967296 := by
      have h1 := leN_lt (cutL s (a : Int).toNat (4 : Int).toNat)
      have h2 : (cutL s (a : Int).toNat (4 : Int).toNat).length ≤ 4 := List.length_take_le _ _
      exact Nat.lt_of_lt_of_le h1 (Nat.pow_le_pow_right (by omega) h2)
    generalize leN (cutL s (a : Int).toNat (4 : Int).toNat) = x at *
    unfold wrap64
    omega
  · omega
theorem extract_extract (s : ByteArray) (a n : Nat) (h : a + n ≤ s.size) : (s.extract a s.size).extract 0 n = s.extract a (a + n) := by
  apply ByteArray.ext
  simp only [ByteArray.data_extract, Array.extract_extract]
  congr 1
  omega
def nextYes (s : ByteArray) (a : Nat) (n : Nat) : ByteArray × Int × Int := (s.extract (a + 4) (a + 4 + n), (a : Int) + 4 + n, 0)

set_option maxRecDepth 100000 in
theorem oNext_calls (s : ByteArray) (hs : s.size ≤ 140737488351232) (at_ : Int) (h0 : -9223372036854775808 ≤ at_) (h1 : at_ < 9223372036854775808) (w : World) : Calls Try.prog 14 #[.string s, .int .i64 at_] w (NextPost s at_ w) := by
  have HG := hide (oGet_calls s hs at_ 4 h0 h1)
  by_cases hE : getE s at_ 4 = 0
  · obtain ⟨a, rfl⟩ : ∃ a : Nat, at_ = a := ⟨at_.toNat, by unfold getE at hE; split at hE <;> omega⟩
    have hl : a + 4 ≤ s.size := by unfold getE at hE; split at hE; omega; split at hE <;> omega
    obtain ⟨n, hn⟩ : ∃ n : Nat, getN s a 4 = n := ⟨(getN s a 4).toNat, by have := getN_lim s a; omega⟩
    have hn1 : n ≤ 4294967295 := by have := getN_lim s a; omega
    have hsI : (s.size : Int) ≤ 140737488351232 := by omega
    have hlI : (a : Int) + 4 ≤ (s.size : Int) := by omega
    have HE := hide hE; clear hE
    have HN := hide hn; clear hn
    have HS := hide hs; clear hs
    have HL := hide hl; clear hl h0 h1
    by_cases hle : a + 4 + n ≤ s.size
    · have hleI : (a : Int) + 4 + (n : Int) ≤ (s.size : Int) := by omega
      have HM : Hid (nextM s a = nextYes s a n) := hide (by
        have h3 : ((a : Int) + 4).toNat = a + 4 := by omega
        have h4 : ((a : Int) + 4 + n).toNat = a + 4 + n := by omega
        rw [nextM, if_pos HE.out, HN.out, if_pos (by omega), h3, h4]; rfl)
      have HX := hide (extract_extract s (a + 4) n hle)
      go_enter Try.func14, Try.ntmps14
      go_wp2_with fail
      refine (HG.out _).mono ?_
      rintro e w' ⟨rfl, rfl⟩
      rw [HE.out, HN.out]
      go_wp2_with fail
      go_ret3
      refine ⟨?_, rfl⟩
      rw [HM.out]
      exact congrArg (fun z => Ending.returned (.tuple #[.string z, .int .i64 ((a : Int) + 4 + n), .int .i64 0])) HX.out
    · have hleI : ¬ (a : Int) + 4 + (n : Int) ≤ (s.size : Int) := by omega
      have HM : Hid (nextM s a = (⟨#[]⟩, 0, 2)) := hide (by rw [nextM, if_pos HE.out, HN.out, if_neg (by omega)])
      go_enter Try.func14, Try.ntmps14
      go_wp2_with fail
      refine (HG.out _).mono ?_
      rintro e w' ⟨rfl, rfl⟩
      rw [HE.out, HN.out]
      go_wp2_with fail
      go_ret3
      refine ⟨?_, rfl⟩
      rw [HM.out]
      rfl
  · have HM : Hid (nextM s at_ = (⟨#[]⟩, 0, getE s at_ 4)) := hide (by rw [nextM, if_neg hE])
    have hq : (getE s at_ 4 != 0) = true := by simp [hE]
    clear hE
    go_enter Try.func14, Try.ntmps14
    go_wp2_with fail
    refine (HG.out _).mono ?_
    rintro e w' ⟨rfl, rfl⟩
    go_wp2_with fail
    go_ret3
    refine ⟨?_, rfl⟩
    rw [HM.out]
    rfl
set_option maxRecDepth 100000 in
theorem roNext_calls (s : ByteArray) (hs : s.size ≤ 140737488351232) (at_ : Int) (h0 : -9223372036854775808 ≤ at_) (h1 : at_ < 9223372036854775808) (w : World) : Calls Try.prog 15 #[.string s, .int .i64 at_] w (NextPost s at_ w) := by
  have HG := hide (roGet_calls s hs at_ 4 h0 h1)
  by_cases hE : getE s at_ 4 = 0
  · obtain ⟨a, rfl⟩ : ∃ a : Nat, at_ = a := ⟨at_.toNat, by unfold getE at hE; split at hE <;> omega⟩
    have hl : a + 4 ≤ s.size := by unfold getE at hE; split at hE; omega; split at hE <;> omega
    obtain ⟨n, hn⟩ : ∃ n : Nat, getN s a 4 = n := ⟨(getN s a 4).toNat, by have := getN_lim s a; omega⟩
    have hn1 : n ≤ 4294967295 := by have := getN_lim s a; omega
    have hsI : (s.size : Int) ≤ 140737488351232 := by omega
    have hlI : (a : Int) + 4 ≤ (s.size : Int) := by omega
    have HE := hide hE; clear hE
    have HN := hide hn; clear hn
    have HS := hide hs; clear hs
    have HL := hide hl; clear hl h0 h1
    by_cases hle : a + 4 + n ≤ s.size
    · have hleI : (a : Int) + 4 + (n : Int) ≤ (s.size : Int) := by omega
      have HM : Hid (nextM s a = nextYes s a n) := hide (by
        have h3 : ((a : Int) + 4).toNat = a + 4 := by omega
        have h4 : ((a : Int) + 4 + n).toNat = a + 4 + n := by omega
        rw [nextM, if_pos HE.out, HN.out, if_pos (by omega), h3, h4]; rfl)
      go_enter Try.func15, Try.ntmps15
      go_wp2_with fail
      refine (HG.out _).mono ?_
      rintro e w' ⟨rfl, rfl⟩
      rw [HE.out, HN.out]
      go_wp2_with fail
      go_ret3
      refine ⟨?_, rfl⟩
      rw [HM.out]
      rfl
    · have hleI : ¬ (a : Int) + 4 + (n : Int) ≤ (s.size : Int) := by omega
      have HM : Hid (nextM s a = (⟨#[]⟩, 0, 2)) := hide (by rw [nextM, if_pos HE.out, HN.out, if_neg (by omega)])
      go_enter Try.func15, Try.ntmps15
      go_wp2_with fail
      refine (HG.out _).mono ?_
      rintro e w' ⟨rfl, rfl⟩
      rw [HE.out, HN.out]
      go_wp2_with fail
      go_ret3
      refine ⟨?_, rfl⟩
      rw [HM.out]
      rfl
  · have HM : Hid (nextM s at_ = (⟨#[]⟩, 0, getE s at_ 4)) := hide (by rw [nextM, if_neg hE])
    have hq : (getE s at_ 4 != 0) = true := by simp [hE]
    clear hE
    go_enter Try.func15, Try.ntmps15
    go_wp2_with fail
    refine (HG.out _).mono ?_
    rintro e w' ⟨rfl, rfl⟩
    go_wp2_with fail
    go_ret3
    refine ⟨?_, rfl⟩
    rw [HM.out]
    rfl

set_option maxRecDepth 100000 in
theorem oText_calls (s : ByteArray) (hs : s.size ≤ 140737488351232) (w : World) : Calls Try.prog 18 #[.string s] w fun e w' => e = .returned (.string (textB s)) ∧ Below w.heap.size w w' := by
  have HP := hide (oPut_calls s.size (by omega) (by omega) 4)
  have hsI : (s.size : Int) ≤ 140737488351232 := by omega
  have hz : (putB s.size 4).size ≤ 4 := by
    unfold putB
    split
    · show (leL _ _).toArray.size ≤ 4
      rw [List.size_toArray, leL_length]
      decide
    · decide
  have HS := hide hs; clear hs
  obtain ⟨t, HT⟩ : ∃ t, Hid (putB s.size 4 = t) := ⟨_, hide rfl⟩
  rw [HT.out] at hz
  rw [show textB s = t ++ s by rw [textB, HT.out]]
  go_enter Try.func18, Try.ntmps18
  go_wp2_with fail
  refine (HP.out _).mono ?_
  rintro e w' ⟨rfl, hb⟩
  rw [HT.out]
  have HB := hide hb; clear hb
  go_wp2_with fail
  go_ret
  exact ⟨rfl, HB.out⟩
set_option maxRecDepth 100000 in
theorem roText_calls (s : ByteArray) (hs : s.size ≤ 140737488351232) (w : World) : Calls Try.prog 19 #[.string s] w fun e w' => e = .returned (.string (textB s)) ∧ Below w.heap.size w w' := by
  have HP := hide (roPut_calls s.size (by omega) (by omega) 4)
  have hsI : (s.size : Int) ≤ 140737488351232 := by omega
  have hz : (putB s.size 4).size ≤ 4 := by
    unfold putB
    split
    · show (leL _ _).toArray.size ≤ 4
      rw [List.size_toArray, leL_length]
      decide
    · decide
  have HS := hide hs; clear hs
  obtain ⟨t, HT⟩ : ∃ t, Hid (putB s.size 4 = t) := ⟨_, hide rfl⟩
  rw [HT.out] at hz
  rw [show textB s = t ++ s by rw [textB, HT.out]]
  go_enter Try.func19, Try.ntmps19
  go_wp2_with fail
  refine (HP.out _).mono ?_
  rintro e w' ⟨rfl, hb⟩
  rw [HT.out]
  have HB := hide hb; clear hb
  go_wp2_with fail
  go_ret
  exact ⟨rfl, HB.out⟩
end Go.Proofs.Ytaiedfimdjdoaaa
