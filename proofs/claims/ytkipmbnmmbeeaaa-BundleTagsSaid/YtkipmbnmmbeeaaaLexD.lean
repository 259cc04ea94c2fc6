/- Names of the language: the document's side, walked. -/
import Derived.Test.YtkipmbnmmbeeaaaLexC
namespace Go.Proofs.Ytkipmbnmmbeeaaa
open Go.RowKit Zb

set_option maxRecDepth 20000 in
theorem rxletter_calls (c : UInt8) (w : World) : Calls Try.prog 66 #[.int .u8 (c.toNat : Int)] w fun e w' => e = .returned (.bool (lexL c.toNat)) ∧ w = w' := by
  by_cases h0 : 97 ≤ c.toNat
  · have h0I : (97 : Int) ≤ (c.toNat : Int) := by omega
    by_cases h1 : c.toNat ≤ 122
    · have h1I : (c.toNat : Int) ≤ 122 := by omega
      have E := hide (show lexL c.toNat = true by simp [lexL, h0, h1])
      clear h0 h1
      go_enter Try.func66, Try.ntmps66
      go_wp2_with fail
      go_ret
      exact ⟨by rw [E.out]; rfl, rfl⟩
    · have h1I : ¬ (c.toNat : Int) ≤ 122 := by omega
      have E := hide (show lexL c.toNat = false by simp [lexL]; omega)
      clear h0 h1
      go_enter Try.func66, Try.ntmps66
      go_wp2_with fail
      go_ret
      exact ⟨by rw [E.out]; rfl, rfl⟩
  · have h0I : ¬ (97 : Int) ≤ (c.toNat : Int) := by omega
    have E := hide (show lexL c.toNat = false by simp [lexL]; omega)
    clear h0
    go_enter Try.func66, Try.ntmps66
    go_wp2_with fail
    go_ret
    exact ⟨by rw [E.out]; rfl, rfl⟩
set_option maxRecDepth 20000 in
theorem rxdigit_calls (c : UInt8) (w : World) : Calls Try.prog 67 #[.int .u8 (c.toNat : Int)] w fun e w' => e = .returned (.bool (lexD c.toNat)) ∧ w = w' := by
  by_cases h0 : 48 ≤ c.toNat
  · have h0I : (48 : Int) ≤ (c.toNat : Int) := by omega
    by_cases h1 : c.toNat ≤ 57
    · have h1I : (c.toNat : Int) ≤ 57 := by omega
      have E := hide (show lexD c.toNat = true by simp [lexD, h0, h1])
      clear h0 h1
      go_enter Try.func67, Try.ntmps67
      go_wp2_with fail
      go_ret
      exact ⟨by rw [E.out]; rfl, rfl⟩
    · have h1I : ¬ (c.toNat : Int) ≤ 57 := by omega
      have E := hide (show lexD c.toNat = false by simp [lexD]; omega)
      clear h0 h1
      go_enter Try.func67, Try.ntmps67
      go_wp2_with fail
      go_ret
      exact ⟨by rw [E.out]; rfl, rfl⟩
  · have h0I : ¬ (48 : Int) ≤ (c.toNat : Int) := by omega
    have E := hide (show lexD c.toNat = false by simp [lexD]; omega)
    clear h0
    go_enter Try.func67, Try.ntmps67
    go_wp2_with fail
    go_ret
    exact ⟨by rw [E.out]; rfl, rfl⟩
/-- how many bytes of a word stand at the beginning -/
def wordRun (s : ByteArray) : Nat := if lexL (s.data.toList.headD 0).toNat then runI s.data.toList else 0
set_option maxRecDepth 20000 in
set_option maxHeartbeats 2000000 in
theorem rxword_calls (s : ByteArray) (hs : s.size ≤ 140737488351232) (w : World) : Calls Try.prog 43 #[.string s, .int .i64 0] w fun e w' => e = .returned (.int .i64 (wordRun s : Int)) ∧ w = w' := by
  have hsz : s.data.toList.length = s.size := rfl
  have hsI : (s.size : Int) ≤ 140737488351232 := by omega
  go_enter Try.func43, Try.ntmps43
  go_wp2_with fail
  go_loopw [5] (fun i wr => ∃ k : Nat, k ≤ s.size ∧ i = .int .i64 (k : Int) ∧ wr = w ∧ Hid (∀ j, j < k → ∀ c, s.data.toList[j]? = some c → lexI c.toNat = true) ∧ Hid (0 < k → lexL (s.data.toList.headD 0).toNat = true)) (fun i _ => s.size - (intOf i).toNat)
  case atStart => exact ⟨0, by omega, rfl, rfl, hide fun j hj => by omega, hide fun h => by omega⟩
  case round =>
    obtain ⟨k, hk, rfl, rfl, hall, hfst⟩ := hrel
    by_cases hp : k < s.size
    · have hget : s.data.toList[k]? = some s[k] := by
        rw [List.getElem?_eq_getElem (by rw [hsz]; exact hp)]
        rfl
      have hpI : (k : Int) < (s.size : Int) := by omega
      have hk0 : (0 : Int) ≤ (k : Int) := by omega
      have HG := hide hget
      obtain ⟨c, hc⟩ : ∃ c : UInt8, s[k] = c := ⟨_, rfl⟩
      rw [hc] at HG
      have HL := hide (fun w1 => rxletter_calls c w1)
      have HD := hide (fun w1 => rxdigit_calls c w1)
      have HI : Hid (lexI c.toNat = (lexL c.toNat || lexD c.toNat || decide (c.toNat = 95))) := hide rfl
      have H95 : Hid (decide (c.toNat = 95) = decide ((c.toNat : Int) = 95)) := hide (by rw [decide_eq_decide]; omega)
      rw [H95.out] at HI
      obtain ⟨b1, hb1⟩ : ∃ b, lexL c.toNat = b := ⟨_, rfl⟩
      obtain ⟨b2, hb2⟩ : ∃ b, lexD c.toNat = b := ⟨_, rfl⟩
      have HB1 := hide hb1
      rw [hb1] at HL HI
      rw [hb2] at HD HI
      clear hget hb1 hb2
      have hgo : Hid (lexI c.toNat = true → ∀ j, j < k + 1 → ∀ d, s.data.toList[j]? = some d → lexI d.toNat = true) := hide fun h j hj d hd => by
        by_cases hjk : j = k
        · subst hjk
          rw [HG.out] at hd
          obtain rfl := Option.some.inj hd
          exact h
        · exact hall.out j (by omega) d hd
      have hstop : Hid (0 < k → lexI c.toNat = false → wordRun s = k) := hide fun h0 h => by
        unfold wordRun
        rw [if_pos (hfst.out h0)]
        rcases runI_drop s.data.toList k hall.out with e | e
        · rw [e, runI_stop _ k c HG.out h]; rfl
        · rw [hsz] at e; omega
      have hstop0 : Hid (k = 0 → lexL c.toNat = false → wordRun s = k) := hide fun h0 h => by
        subst h0
        unfold wordRun
        have : s.data.toList.headD 0 = c := by
          have e := HG.out
          cases hl : s.data.toList with
          | nil => rw [hl] at e; cases e
          | cons a r => rw [hl] at e; exact Option.some.inj e
        rw [this, h]
        rfl
      have hhd : Hid (k = 0 → s.data.toList.headD 0 = c) := hide fun h0 => by
        subst h0
        have e := HG.out
        cases hl : s.data.toList with
        | nil => rw [hl] at e; cases e
        | cons a r => rw [hl] at e; exact Option.some.inj e
      go_wp2_with fail
      refine (HL.out _).mono ?_
      rintro e w' ⟨rfl, rfl⟩
      cases b1
      · by_cases hk1 : (0 : Int) < (k : Int)
        · go_wp2_with fail
          refine (HD.out _).mono ?_
          rintro e w' ⟨rfl, rfl⟩
          cases b2
          · by_cases h : (c.toNat : Int) = 95
            · have hb : ((c.toNat : Int) == 95) = true := by simp [h]
              have E := hide (hgo.out (show lexI c.toNat = true by rw [HI.out]; simp [h]))
              have E2 := hide (hfst.out (by omega))
              clear h
              go_wp2_with fail
              refine ⟨⟨k + 1, by omega, by go_num, trivial, E, hide fun _ => E2.out⟩, ?_⟩
              simp [intOf]
              omega
            · have hb : ((c.toNat : Int) == 95) = false := by simp [h]
              have E := hide (hstop.out (by omega) (show lexI c.toNat = false by rw [HI.out]; simp [h]))
              clear h
              go_wp2_with fail
              go_ret
              exact ⟨by rw [E.out]; rfl, rfl⟩
          · have E := hide (hgo.out (show lexI c.toNat = true by rw [HI.out]; rfl))
            have E2 := hide (hfst.out (by omega))
            go_wp2_with fail
            refine ⟨⟨k + 1, by omega, by go_num, trivial, E, hide fun _ => E2.out⟩, ?_⟩
            simp [intOf]
            omega
        · have hk2 : decide ((0 : Int) < (k : Int)) = false := decide_eq_false hk1
          have E := hide (hstop0.out (by omega) HB1.out)
          obtain rfl : k = 0 := by omega
          clear hk1 hk2
          go_wp2_with fail
          go_ret
          exact ⟨by rw [E.out]; rfl, rfl⟩
      · have E := hide (hgo.out (show lexI c.toNat = true by rw [HI.out]; rfl))
        have E2 : Hid (lexL (s.data.toList.headD 0).toNat = true) := hide (by
          by_cases h0 : 0 < k
          · exact hfst.out h0
          · rw [hhd.out (by omega)]; exact HB1.out)
        go_wp2_with fail
        refine ⟨⟨k + 1, by omega, by go_num, trivial, E, hide fun _ => E2.out⟩, ?_⟩
        simp [intOf]
        omega
    · obtain rfl : k = s.size := by omega
      have E : Hid (wordRun s = s.size) := hide (by
        have e1 : runI s.data.toList = s.size := (runI_all _).2 fun c hc => by
          obtain ⟨j, hj, rfl⟩ := List.mem_iff_getElem.1 hc
          exact hall.out j (by rw [hsz] at hj; omega) _ (List.getElem?_eq_getElem hj)
        unfold wordRun
        by_cases h0 : 0 < s.size
        · rw [if_pos (hfst.out h0)]; exact e1
        · have : s.size = 0 := by omega
          split <;> omega)
      clear hall hfst
      go_wp2_with fail
      go_ret
      exact ⟨by rw [E.out]; rfl, rfl⟩
/-- the keys, as texts -/
def keyBs : List ByteArray := keyLs.map fun l => ⟨l.toArray⟩
set_option maxRecDepth 20000 in
theorem isKey_iff (s : ByteArray) : isKey s = true ↔ s ∈ keyBs := by
  unfold isKey keyBs
  rw [List.contains_iff_mem, List.mem_map]
  constructor
  · intro h
    exact ⟨_, h, ByteArray.ext (by simp)⟩
  · rintro ⟨l, h, rfl⟩
    simpa using h
set_option maxRecDepth 20000 in
set_option maxHeartbeats 2000000 in
theorem rxKey_calls (s : ByteArray) (hs : s.size ≤ 140737488351232) (w : World) : Calls Try.prog 44 #[.string s] w fun e w' => e = .returned (.bool (isKey s)) ∧ Below w.heap.size w w' := by
  have hl20 : keyBs.length = 20 := rfl
  go_enter Try.func44, Try.ntmps44
  go_wp2_with fail
  go_loopw [4] (fun i wr => ∃ k : Nat, k ≤ 20 ∧ i = .int .i64 (k : Int) ∧ Hid (Blk wr w.heap.size 9 (keyBs.map Value.string).toArray) ∧ Hid (Below w.heap.size w wr) ∧ Hid (∀ j, j < k → keyBs[j]? ≠ some s)) (fun i _ => 20 - (intOf i).toNat)
  case atStart => exact ⟨0, by omega, rfl, hide (Blk.new _ _ _), hide ((Below.refl _ _).alloc (Nat.le_refl _) _), hide fun j hj => by omega⟩
  case round =>
    obtain ⟨k, hk, rfl, HB, HW, hno⟩ := hrel
    by_cases hlt : k < 20
    · have hI : (k : Int) < 20 := by omega
      have hk0 : (0 : Int) ≤ (k : Int) := by omega
      obtain ⟨x, hx⟩ : ∃ x, keyBs[k]? = some x := ⟨_, List.getElem?_eq_getElem (by rw [hl20]; exact hlt)⟩
      have hc : wr.cell? ⟨w.heap.size, k, none⟩ = some (.string x) := by
        rw [HB.out.cell]
        simp [hx]
      have HX := hide hx
      clear hx
      by_cases he : x = s
      · have HE : Hid (isKey s = true) := hide (by
          rw [isKey_iff]
          exact List.mem_of_getElem? (by rw [HX.out, he]))
        subst he
        go_wp2_with fail
        go_ret
        exact ⟨by rw [HE.out]; rfl, HW.out⟩
      · obtain ⟨n1, n2⟩ := lbytes_ne he
        have HN2 := hide (show ∀ j, j < k + 1 → keyBs[j]? ≠ some s from fun j hj => by
          by_cases hjk : j = k
          · subst hjk
            rw [HX.out]
            exact fun e => he (Option.some.inj e)
          · exact hno.out j (by omega))
        clear hno he
        go_wp2_with fail
        refine ⟨⟨k + 1, by omega, by go_num, HB, HW, HN2⟩, ?_⟩
        simp [intOf]
        omega
    · obtain rfl : k = 20 := by omega
      have HE : Hid (isKey s = false) := hide (by
        cases h : isKey s
        · rfl
        · rw [isKey_iff] at h
          obtain ⟨j, hj, he⟩ := List.mem_iff_getElem.1 h
          exact absurd (by rw [List.getElem?_eq_getElem hj, he]) (hno.out j (by rw [hl20] at hj; exact hj)))
      clear hno
      go_wp2_with fail
      go_ret
      exact ⟨by rw [HE.out]; rfl, HW.out⟩
set_option maxRecDepth 20000 in
theorem nameM_wordRun (s : ByteArray) : nameM s = (decide (0 < s.size) && decide (s.size ≤ 16) && decide (wordRun s = s.size) && !isKey s) := by
  unfold nameM wordM wordRun
  by_cases h0 : 0 < s.size
  · cases hl : lexL (s.data.toList.headD 0).toNat
    · have : decide (0 = s.size) = false := by simp; omega
      simp [h0, this]
    · simp [h0]
      rw [Bool.and_comm (decide (runI s.data.toList = s.size))]
  · simp [h0]
set_option maxRecDepth 20000 in
theorem rxName_calls (s : ByteArray) (hs : s.size ≤ 140737488351232) (w : World) : Calls Try.prog 27 #[.string s] w fun e w' => e = .returned (.bool (nameM s)) ∧ Below w.heap.size w w' := by
  have HW := hide (fun w1 => rxword_calls s hs w1)
  have HK := hide (fun w1 => rxKey_calls s hs w1)
  have HN := hide (nameM_wordRun s)
  obtain ⟨n, hn⟩ : ∃ n, nameM s = n := ⟨_, rfl⟩
  obtain ⟨r, hr⟩ : ∃ r, wordRun s = r := ⟨_, rfl⟩
  obtain ⟨k, hk⟩ : ∃ r, isKey s = r := ⟨_, rfl⟩
  rw [hn, hr, hk] at HN
  rw [hr] at HW
  rw [hk] at HK
  rw [hn]
  clear hn hr hk
  rw [show decide (0 < s.size) = decide ((0 : Int) < (s.size : Int)) by rw [decide_eq_decide]; omega, show decide (s.size ≤ 16) = decide ((s.size : Int) ≤ 16) by rw [decide_eq_decide]; omega, show decide (r = s.size) = decide ((r : Int) = (s.size : Int)) by rw [decide_eq_decide]; omega] at HN
  by_cases h0 : (0 : Int) < (s.size : Int)
  · rw [decide_eq_true h0] at HN
    by_cases h16 : (s.size : Int) ≤ 16
    · rw [decide_eq_true h16] at HN
      by_cases hq : (r : Int) = (s.size : Int)
      · rw [decide_eq_true hq] at HN
        go_enter Try.func27, Try.ntmps27
        go_wp2_with fail
        refine (HW.out _).mono ?_
        rintro e w' ⟨rfl, rfl⟩
        go_wp2_with fail
        refine (HK.out _).mono ?_
        rintro e w1 ⟨rfl, hb1⟩
        have HB := hide hb1
        clear hb1
        cases k
        · go_wp2_with fail
          go_ret
          exact ⟨by rw [HN.out]; rfl, HB.out⟩
        · go_wp2_with fail
          go_ret
          exact ⟨by rw [HN.out]; rfl, HB.out⟩
      · rw [decide_eq_false hq] at HN
        have hqb : ((r : Int) == (s.size : Int)) = false := by simp; omega
        go_enter Try.func27, Try.ntmps27
        go_wp2_with fail
        refine (HW.out _).mono ?_
        rintro e w' ⟨rfl, rfl⟩
        go_wp2_with fail
        go_ret
        exact ⟨by rw [HN.out]; rfl, Below.refl _ _⟩
    · rw [decide_eq_false h16] at HN
      have h16b := decide_eq_false h16
      go_enter Try.func27, Try.ntmps27
      go_wp2_with fail
      go_ret
      exact ⟨by rw [HN.out]; rfl, Below.refl _ _⟩
  · rw [decide_eq_false h0] at HN
    have h0b := decide_eq_false h0
    go_enter Try.func27, Try.ntmps27
    go_wp2_with fail
    go_ret
    exact ⟨by rw [HN.out]; rfl, Below.refl _ _⟩
end Go.Proofs.Ytkipmbnmmbeeaaa
