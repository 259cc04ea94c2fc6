/- Names of the language: word, Key, Name of the program, walked. -/
import Derived.Test.YtkipmbnmmbeeaaaLexB
namespace Go.Proofs.Ytkipmbnmmbeeaaa
open Go.RowKit Zb

set_option maxRecDepth 20000 in
theorem head_get (s : ByteArray) (h : 0 < s.size) : s.data.toList.headD 0 = s[0] := by
  have hl : 0 < s.data.toList.length := h
  have e : s.data.toList[0]? = some s[0] := by rw [List.getElem?_eq_getElem hl]; rfl
  cases hs : s.data.toList with
  | nil => rw [hs] at hl; simp at hl
  | cons c r => rw [hs] at e; exact Option.some.inj e
set_option maxRecDepth 20000 in
theorem xword_calls (s : ByteArray) (hs : s.size ≤ 140737488351232) (w : World) : Calls Try.prog 64 #[.string s] w fun e w' => e = .returned (.bool (wordM s)) ∧ Below w.heap.size w w' := by
  by_cases h0 : 0 < s.size
  · have HH := hide (fun w1 => xhead_calls s hs w1)
    have hg := head_get s h0
    have HL := hide (fun w1 => xletter_calls (s[0]).toNat (by have := (s[0]).toNat_lt; omega) w1)
    have HW : Hid (wordM s = (lexL (s[0]).toNat && decide (runI s.data.toList = s.size))) := hide (by unfold wordM; rw [hg, decide_eq_true h0, Bool.true_and])
    have hne : s ≠ ⟨#[]⟩ := by intro e; rw [e] at h0; exact absurd h0 (by decide)
    have hemp : s.toList.isEmpty = false := by
      rw [ByteArray.toList_eq]
      cases hl : s.data.toList with
      | nil => have : s.data.toList.length = s.size := rfl; rw [hl] at this; simp at this; omega
      | cons _ _ => rfl
    have hrl := hide (runI_le s.data.toList)
    have h0I : (0 : Int) < (s.size : Int) := by omega
    obtain ⟨c, hc⟩ : ∃ c : UInt8, s[0] = c := ⟨_, rfl⟩
    have hw32 : wrap32 (c.toNat : Int) = (c.toNat : Int) := by
      have := c.toNat_lt
      unfold wrap32
      omega
    rw [hc] at HL HW
    obtain ⟨n, hn⟩ : ∃ n, runI s.data.toList = n := ⟨_, rfl⟩
    rw [hn] at HH HW hrl
    have hes : Hid ((s.extract 0 n).size = n) := hide (by
      rw [ByteArray.size_extract]
      have : n ≤ s.size := hrl.out
      omega)
    obtain ⟨u, hu⟩ : ∃ u, s.extract 0 n = u := ⟨_, rfl⟩
    rw [hu] at HH hes
    clear hn hu hg hne
    go_enter Try.func64, Try.ntmps64
    go_wp2_with fail
    refine (HL.out _).mono ?_
    rintro e w' ⟨rfl, rfl⟩
    cases hl : lexL c.toNat
    · have HE := hide (show wordM s = false by rw [HW.out, hl]; rfl)
      clear hl
      go_wp2_with fail
      go_ret
      exact ⟨by rw [HE.out]; rfl, Below.refl _ _⟩
    · rw [hl] at HW
      clear hl
      go_wp2_with fail
      refine (HH.out _).mono ?_
      rintro e w1 ⟨rfl, hb1⟩
      have HB := hide hb1
      clear hb1
      by_cases hq : n = s.size
      · have HE := hide (show wordM s = true by rw [HW.out, hq]; simp)
        have hq2 : (u.size : Int) = (s.size : Int) := by rw [hes.out, hq]
        clear hq
        go_wp2_with fail
        go_ret
        exact ⟨by rw [HE.out]; rfl, HB.out⟩
      · have HE := hide (show wordM s = false by rw [HW.out]; simp [hq])
        have hq2 : ((u.size : Int) == (s.size : Int)) = false := by rw [hes.out]; simp; omega
        clear hq
        go_wp2_with fail
        go_ret
        exact ⟨by rw [HE.out]; rfl, HB.out⟩
  · have HE := hide (show wordM s = false by unfold wordM; rw [decide_eq_false h0]; rfl)
    obtain rfl : s = ⟨#[]⟩ := by
      obtain ⟨⟨l⟩⟩ := s
      have : l.length = 0 := by
        have h1 : (⟨⟨l⟩⟩ : ByteArray).size = l.length := rfl
        omega
      rw [List.eq_nil_of_length_eq_zero this]
    clear h0
    go_enter Try.func64, Try.ntmps64
    go_wp2_with fail
    go_ret
    exact ⟨by rw [HE.out]; rfl, Below.refl _ _⟩
/-- the row of all keys, as the program has it -/
def keysB : ByteArray := ⟨keysL.toArray⟩
set_option maxRecDepth 20000 in
theorem xKey_calls (s : ByteArray) (hs : s.size ≤ 140737488351232) (w : World) : Calls Try.prog 65 #[.string s] w fun e w' => e = .returned (.bool (wordM s && isKey s)) ∧ Below w.heap.size w w' := by
  have HW := hide (fun w1 => xword_calls s hs w1)
  have hsz : ((⟨#[32]⟩ : ByteArray) ++ s ++ ⟨#[32]⟩).size ≤ 140737488351234 := by
    rw [ByteArray.size_append, ByteArray.size_append]
    show 1 + s.size + 1 ≤ _
    omega
  have HI := hide (fun w1 => xwithin_calls keysB ((⟨#[32]⟩ : ByteArray) ++ s ++ ⟨#[32]⟩) (by decide) hsz w1)
  have HK : Hid (wordM s = true → withinL keysL ((⟨#[32]⟩ : ByteArray) ++ s ++ ⟨#[32]⟩).data.toList = isKey s) := hide (by
    intro h
    unfold wordM at h
    rw [Bool.and_eq_true, decide_eq_true_eq] at h
    have ha := (runI_all s.data.toList).1 h.2
    have hl : ((⟨#[32]⟩ : ByteArray) ++ s ++ ⟨#[32]⟩).data.toList = 32 :: s.data.toList ++ [32] := by
      simp [ByteArray.data_append, Array.toList_append]
    rw [hl]
    exact key_within _ fun c hc => lexI_blank c (ha c hc))
  have hK0 : keysB.data.toList = keysL := rfl
  rw [hK0] at HI
  generalize withinL keysL ((⟨#[32]⟩ : ByteArray) ++ s ++ ⟨#[32]⟩).data.toList = r at HI HK
  have hsI : (1 : Int) + (s.size : Int) + 1 ≤ 140737488351234 := by omega
  obtain ⟨t, ht⟩ : ∃ t, (⟨#[32]⟩ : ByteArray) ++ s ++ ⟨#[32]⟩ = t := ⟨_, rfl⟩
  rw [ht] at HI
  clear hsz hK0
  obtain ⟨b, hb⟩ : ∃ b, wordM s = b := ⟨_, rfl⟩
  rw [hb] at HW HK ⊢
  clear hb
  go_enter Try.func65, Try.ntmps65
  go_wp2_with fail
  refine (HW.out _).mono ?_
  rintro e w' ⟨rfl, hb1⟩
  have HB := hide hb1
  clear hb1
  cases b
  · go_wp2_with fail
    go_ret
    exact ⟨rfl, HB.out⟩
  · go_wp2_with fail
    refine (HI.out _).mono ?_
    rintro e w2 ⟨rfl, rfl⟩
    go_wp2_with fail
    go_ret
    have hk := HK.out (by simp)
    subst hk
    exact ⟨rfl, HB.out⟩
set_option maxRecDepth 20000 in
theorem xName_calls (s : ByteArray) (hs : s.size ≤ 140737488351232) (w : World) : Calls Try.prog 42 #[.string s] w fun e w' => e = .returned (.bool (nameM s)) ∧ Below w.heap.size w w' := by
  have HW := hide (fun w1 => xword_calls s hs w1)
  have HK := hide (fun w1 => xKey_calls s hs w1)
  have HN : Hid (nameM s = (wordM s && decide (s.size ≤ 16) && !isKey s)) := hide rfl
  obtain ⟨b, hb⟩ : ∃ b, wordM s = b := ⟨_, rfl⟩
  obtain ⟨k, hk⟩ : ∃ k, isKey s = k := ⟨_, rfl⟩
  obtain ⟨n, hn⟩ : ∃ n, nameM s = n := ⟨_, rfl⟩
  rw [hb] at HW HK HN
  rw [hk] at HK HN
  rw [hn] at HN
  rw [hn]
  clear hb hk hn
  have H16 : Hid (decide (s.size ≤ 16) = decide ((s.size : Int) ≤ 16)) := hide (by rw [decide_eq_decide]; omega)
  rw [H16.out] at HN
  go_enter Try.func42, Try.ntmps42
  go_wp2_with fail
  refine (HW.out _).mono ?_
  rintro e w1 ⟨rfl, hb1⟩
  have HB := hide hb1
  clear hb1
  cases b
  · go_wp2_with fail
    go_ret
    exact ⟨by rw [HN.out]; rfl, HB.out⟩
  · by_cases h16 : (s.size : Int) ≤ 16
    · rw [decide_eq_true h16] at HN
      go_wp2_with fail
      refine (HK.out _).mono ?_
      rintro e w2 ⟨rfl, hb2⟩
      have HB2 := hide (HB.out.trans (hb2.mono HB.out.size))
      clear hb2
      cases k
      · go_wp2_with fail
        go_ret
        exact ⟨by rw [HN.out]; rfl, HB2.out⟩
      · go_wp2_with fail
        go_ret
        exact ⟨by rw [HN.out]; rfl, HB2.out⟩
    · rw [decide_eq_false h16] at HN
      have h16b : decide ((s.size : Int) ≤ 16) = false := decide_eq_false h16
      go_wp2_with fail
      go_ret
      exact ⟨by rw [HN.out]; rfl, HB.out⟩
end Go.Proofs.Ytkipmbnmmbeeaaa
