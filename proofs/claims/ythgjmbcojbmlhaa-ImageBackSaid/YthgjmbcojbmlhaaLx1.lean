/- Several texts in one: LexM, LexA, LexB, LexC, LexD. -/
import Derived.Test.YthgjmbcojbmlhaaBase
import Derived.Test.YthgjmbcojbmlhaaProg
import Derived.Deep.LoopGhost
import Derived.Laws.RangeString
import Derived.Laws.RangeAny
import Derived.LoopTactic
import Derived.WalkLawsBesides
import Derived.Outline
/- Names and keys of the language: plain. No program's text. -/
namespace Go.Proofs.Ythgjmbcojbmlhaa
open Go.RowKit Zb

def lexL (c : Nat) : Bool := decide (97 ≤ c) && decide (c ≤ 122)
def lexI (c : Nat) : Bool := lexL c || (decide (48 ≤ c) && decide (c ≤ 57)) || decide (c = 95)
/-- how many bytes at the beginning may stand in a word -/
def runI : List UInt8 → Nat
  | [] => 0
  | c :: r => if lexI c.toNat then runI r + 1 else 0
set_option maxRecDepth 20000 in
theorem runI_le : ∀ l : List UInt8, runI l ≤ l.length
  | [] => Nat.le_refl _
  | c :: r => by
    unfold runI
    split
    · have := runI_le r; simp; omega
    · exact Nat.zero_le _
set_option maxRecDepth 20000 in
theorem runI_all : ∀ l : List UInt8, runI l = l.length ↔ ∀ c ∈ l, lexI c.toNat = true
  | [] => by simp [runI]
  | c :: r => by
    unfold runI
    have ih := runI_all r
    have hl := runI_le r
    split
    · next h =>
      rw [List.length_cons, Nat.add_right_cancel_iff, ih]
      simp [h]
    · next h =>
      simp [h]
def wordM (s : ByteArray) : Bool := decide (0 < s.size) && lexL (s.data.toList.headD 0).toNat && decide (runI s.data.toList = s.size)
def keyLs : List (List UInt8) := [[109, 111, 100, 117, 108, 101], [117, 115, 101], [102, 110], [108, 101, 116], [105, 102], [101, 108, 115, 101], [119, 104, 105, 108, 101], [98, 114, 101, 97, 107], [99, 111, 110, 116, 105, 110, 117, 101], [114, 101, 116, 117, 114, 110], [112, 117, 116], [101, 109, 105, 116], [121, 105, 101, 108, 100], [110, 105, 108], [115, 116, 97, 116, 101], [115, 112, 97, 119, 110], [108, 101, 110], [110, 111, 116], [97, 110, 100], [111, 114]]
def keysL : List UInt8 := [32, 109, 111, 100, 117, 108, 101, 32, 117, 115, 101, 32, 102, 110, 32, 108, 101, 116, 32, 105, 102, 32, 101, 108, 115, 101, 32, 119, 104, 105, 108, 101, 32, 98, 114, 101, 97, 107, 32, 99, 111, 110, 116, 105, 110, 117, 101, 32, 114, 101, 116, 117, 114, 110, 32, 112, 117, 116, 32, 101, 109, 105, 116, 32, 121, 105, 101, 108, 100, 32, 110, 105, 108, 32, 115, 116, 97, 116, 101, 32, 115, 112, 97, 119, 110, 32, 108, 101, 110, 32, 110, 111, 116, 32, 97, 110, 100, 32, 111, 114, 32]
def withinL (K T : List UInt8) : Bool := (List.range (K.length + 1)).any fun i => decide (i + T.length ≤ K.length) && decide ((K.drop i).take T.length = T)
def isKey (s : ByteArray) : Bool := keyLs.contains s.data.toList
set_option maxRecDepth 20000 in
theorem withinL_iff (K T : List UInt8) : withinL K T = true ↔ ∃ i, i + T.length ≤ K.length ∧ (K.drop i).take T.length = T := by
  unfold withinL
  rw [List.any_eq_true]
  constructor
  · rintro ⟨i, _, h⟩
    rw [Bool.and_eq_true, decide_eq_true_eq, decide_eq_true_eq] at h
    exact ⟨i, h⟩
  · rintro ⟨i, h1, h2⟩
    exact ⟨i, List.mem_range.2 (by omega), by rw [Bool.and_eq_true, decide_eq_true_eq, decide_eq_true_eq]; exact ⟨h1, h2⟩⟩
/-- the word behind a blank -/
def wordAt (i : Nat) : List UInt8 := (keysL.drop (i + 1)).takeWhile (fun c => decide (c ≠ 32))
set_option maxRecDepth 20000 in
theorem keys_words : (List.range keysL.length).all (fun i => !(decide (keysL[i]? = some 32) && decide (i + 1 < keysL.length)) || keyLs.contains (wordAt i)) = true := by decide +kernel
set_option maxRecDepth 20000 in
theorem keys_there : keyLs.all (fun k => withinL keysL (32 :: k ++ [32])) = true := by decide +kernel
set_option maxRecDepth 20000 in
theorem takeWhile_until (S R : List UInt8) (h : ∀ c ∈ S, c ≠ 32) : (S ++ 32 :: R).takeWhile (fun c => decide (c ≠ 32)) = S := by
  induction S with
  | nil => simp
  | cons c S ih =>
    have h1 := h c (by simp)
    rw [List.cons_append, List.takeWhile_cons]
    rw [if_pos (by simpa using h1), ih fun d hd => h d (by simp [hd])]
/-- a text without blanks is a key just if it stands between blanks in the row of all keys -/
theorem key_within (S : List UInt8) (h : ∀ c ∈ S, c ≠ 32) : withinL keysL (32 :: S ++ [32]) = keyLs.contains S := by
  rw [Bool.eq_iff_iff, withinL_iff]
  constructor
  · rintro ⟨i, h1, h2⟩
    simp only [List.cons_append, List.length_cons, List.length_append, List.length_nil] at h1 h2
    have hi : i < keysL.length := by omega
    rw [List.drop_eq_getElem_cons hi, List.take_succ_cons] at h2
    injection h2 with h3 h4
    have hR : ∃ R, keysL.drop (i + 1) = S ++ 32 :: R := by
      refine ⟨(keysL.drop (i + 1)).drop (S.length + 1), ?_⟩
      have e := List.take_append_drop (S.length + 1) (keysL.drop (i + 1))
      rw [h4] at e
      rw [← e]
      simp
    obtain ⟨R, hR⟩ := hR
    have hw : wordAt i = S := by unfold wordAt; rw [hR]; exact takeWhile_until S R h
    have hk := List.all_eq_true.1 keys_words i (List.mem_range.2 hi)
    rw [List.getElem?_eq_getElem hi, h3, hw] at hk
    simpa [show i + 1 < keysL.length by omega] using hk
  · intro hk
    have := List.all_eq_true.1 keys_there S (by simpa using hk)
    exact (withinL_iff _ _).1 this
set_option maxRecDepth 20000 in
theorem lexI_blank (c : UInt8) (h : lexI c.toNat = true) : c ≠ 32 := by
  intro e
  subst e
  exact absurd h (by decide)
def nameM (s : ByteArray) : Bool := wordM s && decide (s.size ≤ 16) && !isKey s
end Go.Proofs.Ythgjmbcojbmlhaa

/- Names of the language: the program's side, walked. -/
namespace Go.Proofs.Ythgjmbcojbmlhaa
open Go.RowKit Zb

set_option maxRecDepth 20000 in
theorem xletter_calls (c : Nat) (hc : c ≤ 2147483647) (w : World) : Calls Try.prog 74 #[.int .i32 (c : Int)] w fun e w' => e = .returned (.bool (lexL c)) ∧ w = w' := by
  by_cases h0 : 97 ≤ c
  · have h0I : (97 : Int) ≤ (c : Int) := by omega
    by_cases h1 : c ≤ 122
    · have h1I : (c : Int) ≤ 122 := by omega
      have E := hide (show lexL c = true by simp [lexL, h0, h1])
      clear h0 h1
      go_enter Try.func74, Try.ntmps74
      go_wp2_with fail
      go_ret
      exact ⟨by rw [E.out]; rfl, rfl⟩
    · have h1I : ¬ (c : Int) ≤ 122 := by omega
      have E := hide (show lexL c = false by simp [lexL]; omega)
      clear h0 h1
      go_enter Try.func74, Try.ntmps74
      go_wp2_with fail
      go_ret
      exact ⟨by rw [E.out]; rfl, rfl⟩
  · have h0I : ¬ (97 : Int) ≤ (c : Int) := by omega
    have E := hide (show lexL c = false by simp [lexL]; omega)
    clear h0
    go_enter Try.func74, Try.ntmps74
    go_wp2_with fail
    go_ret
    exact ⟨by rw [E.out]; rfl, rfl⟩
def lexD (c : Nat) : Bool := decide (48 ≤ c) && decide (c ≤ 57)
set_option maxRecDepth 20000 in
theorem xdigit_calls (c : Nat) (hc : c ≤ 2147483647) (w : World) : Calls Try.prog 84 #[.int .i32 (c : Int)] w fun e w' => e = .returned (.bool (lexD c)) ∧ w = w' := by
  by_cases h0 : 48 ≤ c
  · have h0I : (48 : Int) ≤ (c : Int) := by omega
    by_cases h1 : c ≤ 57
    · have h1I : (c : Int) ≤ 57 := by omega
      have E := hide (show lexD c = true by simp [lexD, h0, h1])
      clear h0 h1
      go_enter Try.func84, Try.ntmps84
      go_wp2_with fail
      go_ret
      exact ⟨by rw [E.out]; rfl, rfl⟩
    · have h1I : ¬ (c : Int) ≤ 57 := by omega
      have E := hide (show lexD c = false by simp [lexD]; omega)
      clear h0 h1
      go_enter Try.func84, Try.ntmps84
      go_wp2_with fail
      go_ret
      exact ⟨by rw [E.out]; rfl, rfl⟩
  · have h0I : ¬ (48 : Int) ≤ (c : Int) := by omega
    have E := hide (show lexD c = false by simp [lexD]; omega)
    clear h0
    go_enter Try.func84, Try.ntmps84
    go_wp2_with fail
    go_ret
    exact ⟨by rw [E.out]; rfl, rfl⟩
set_option maxRecDepth 20000 in
theorem xinner_calls (c : Nat) (hc : c ≤ 2147483647) (w : World) : Calls Try.prog 76 #[.int .i32 (c : Int)] w fun e w' => e = .returned (.bool (lexI c)) ∧ w = w' := by
  have HL := hide (xletter_calls c hc w)
  have HD := hide (xdigit_calls c hc w)
  have HI : Hid (lexI c = (lexL c || lexD c || decide (c = 95))) := hide rfl
  have H95 : Hid (decide (c = 95) = decide ((c : Int) = 95)) := hide (by rw [decide_eq_decide]; omega)
  rw [H95.out] at HI
  generalize lexL c = b1 at *
  generalize lexD c = b2 at *
  go_enter Try.func76, Try.ntmps76
  go_wp2_with fail
  refine HL.out.mono ?_
  rintro e w' ⟨rfl, rfl⟩
  cases b1
  · go_wp2_with fail
    refine HD.out.mono ?_
    rintro e w' ⟨rfl, rfl⟩
    cases b2
    · by_cases h : (c : Int) = 95
      · have hb : ((c : Int) == 95) = true := by simp [h]
        have E := hide (show lexI c = true by rw [HI.out]; simp [h])
        clear h
        go_wp2_with fail
        go_ret
        exact ⟨by rw [E.out]; rfl, rfl⟩
      · have hb : ((c : Int) == 95) = false := by simp [h]
        have E := hide (show lexI c = false by rw [HI.out]; simp [h])
        clear h
        go_wp2_with fail
        go_ret
        exact ⟨by rw [E.out]; rfl, rfl⟩
    · go_wp2_with fail
      go_ret
      exact ⟨by rw [HI.out]; rfl, rfl⟩
  · go_wp2_with fail
    go_ret
    exact ⟨by rw [HI.out]; rfl, rfl⟩
end Go.Proofs.Ythgjmbcojbmlhaa

/- Names of the language: head, within, word, Key, Name of the program, walked. -/
namespace Go.Proofs.Ythgjmbcojbmlhaa
open Go.RowKit Zb

set_option maxRecDepth 20000 in
theorem runI_drop (l : List UInt8) (k : Nat) (h : ∀ j, j < k → ∀ c, l[j]? = some c → lexI c.toNat = true) : runI l = k + runI (l.drop k) ∨ l.length < k := by
  induction k generalizing l with
  | zero => left; simp
  | succ k ih =>
    cases l with
    | nil => right; simp
    | cons c r =>
      have h0 := h 0 (by omega) c rfl
      rcases ih r (fun j hj d hd => h (j + 1) (by omega) d hd) with h1 | h1
      · left
        have e : runI (c :: r) = runI r + 1 := by
          show (if lexI c.toNat = true then runI r + 1 else 0) = _
          rw [if_pos h0]
        rw [e, List.drop_succ_cons, h1]
        omega
      · right
        simp; omega
set_option maxRecDepth 20000 in
theorem runI_stop (l : List UInt8) (k : Nat) (c : UInt8) (hc : l[k]? = some c) (hn : lexI c.toNat = false) : runI (l.drop k) = 0 := by
  have hk : k < l.length := (List.getElem?_eq_some_iff.1 hc).1
  rw [List.drop_eq_getElem_cons hk]
  have : l[k] = c := by rw [List.getElem?_eq_getElem hk] at hc; exact Option.some.inj hc
  unfold runI
  rw [this, if_neg (by rw [hn]; decide)]
set_option maxRecDepth 20000 in
theorem lexI_high (c : Nat) (h : 128 ≤ c) : lexI c = false := by
  unfold lexI lexL
  simp
  omega
set_option maxRecDepth 20000 in
set_option maxHeartbeats 2000000 in
theorem xhead_calls (s : ByteArray) (hs : s.size ≤ 140737488351232) (w : World) : Calls Try.prog 75 #[.string s, .func (.func 76) #[] #[]] w fun e w' => e = .returned (.string (s.extract 0 (runI s.data.toList))) ∧ Below w.heap.size w w' := by
  have hsz : s.data.toList.length = s.size := rfl
  go_enter Try.func75, Try.ntmps75
  go_wp2_with fail
  go_loopw [5] (fun _ wr => ∃ k : Nat, k ≤ s.size ∧ wr = w.iter s k ∧ ∀ j, j < k → ∀ c, s.data.toList[j]? = some c → lexI c.toNat = true) (fun _ wr => s.size - wr.iterPos w.heap.size)
  case atStart => exact ⟨0, by omega, rfl, fun j hj => by omega⟩
  case round =>
    obtain ⟨k, hk, rfl, hall⟩ := hrel
    by_cases hp : k < s.size
    · have hget : s.data.toList[k]? = some s[k] := by
        rw [List.getElem?_eq_getElem (by rw [hsz]; exact hp)]
        rfl
      have hcut : ∀ n : Nat, runI (s.data.toList.drop k) = 0 → s.extract 0 (runI s.data.toList) = s.extract 0 k := fun _ h0 => by
        rcases runI_drop s.data.toList k hall with h | h
        · rw [h, h0]; rfl
        · rw [hsz] at h; omega
      by_cases ha : (s[k]).toNat < 128
      · have hnx : ∀ ty, (Instr.next (.pointer (some ⟨w.heap.size, 0, none⟩)) true ty).run Try.prog (w.iter s k) = _ := fun ty => run_next_ascii w s k ty hp ha
        have HI := hide (fun w1 => xinner_calls (s[k]).toNat (by omega) w1)
        obtain ⟨c, hc⟩ : ∃ c : UInt8, s[k] = c := ⟨_, rfl⟩
        rw [hc] at hnx HI hget
        have HALL := hide hall
        have HG := hide hget
        have HC := hide hcut
        have hkI : (k : Int) ≤ (s.size : Int) := by omega
        clear hall hget hcut ha
        go_wp2_with fail
        refine (HI.out _).mono ?_
        rintro e w' ⟨rfl, rfl⟩
        cases hi : lexI c.toNat
        · have HE := hide (HC.out 0 (runI_stop _ k c HG.out hi))
          clear hi
          go_wp2_with fail
          go_ret
          rw [HE.out]
          exact ⟨rfl, (Below.refl _ _).alloc (Nat.le_refl _) _⟩
        · have HN := hide hi
          clear hi
          go_wp2_with fail
          refine ⟨⟨k + 1, by omega, rfl, fun j hj d hd => ?_⟩, ?_⟩
          · by_cases hjk : j = k
            · subst hjk
              rw [HG.out] at hd
              obtain rfl := Option.some.inj hd
              exact HN.out
            · exact HALL.out j (by omega) d hd
          · simp
            omega
      · have hnx : ∀ ty, (Instr.next (.pointer (some ⟨w.heap.size, 0, none⟩)) true ty).run Try.prog (w.iter s k) = _ := fun ty => run_next_any w s k ty hp
        have hd := (decode_high s k hp (by omega)).1
        have hle := decode_le s k
        have HE := hide (hcut 0 (runI_stop _ k _ hget (lexI_high _ (by omega))))
        obtain ⟨r, hr⟩ : ∃ r, (Utf8.decode s k).1 = r := ⟨_, rfl⟩
        obtain ⟨W, hW⟩ : ∃ W, k + (Utf8.decode s k).2 = W := ⟨_, rfl⟩
        rw [hr, hW] at hnx
        rw [hr] at hd hle
        have HI := hide (fun w1 => xinner_calls r hle w1)
        rw [lexI_high r hd] at HI
        have hkI : (k : Int) ≤ (s.size : Int) := by omega
        clear hall hget hcut ha hr hW hd hle
        go_wp2_with fail
        refine (HI.out _).mono ?_
        rintro e w' ⟨rfl, rfl⟩
        go_wp2_with fail
        go_ret
        rw [HE.out]
        exact ⟨rfl, (Below.refl _ _).alloc (Nat.le_refl _) _⟩
    · have hke : k = s.size := by omega
      subst hke
      have hnx : ∀ ty, (Instr.next (.pointer (some ⟨w.heap.size, 0, none⟩)) true ty).run Try.prog (w.iter s s.size) = _ := fun ty => run_next_end w s s.size ty hp
      have HE : Hid (s.extract 0 (runI s.data.toList) = s) := hide (by
        have e : runI s.data.toList = s.data.toList.length := (runI_all _).2 fun c hc => by
          obtain ⟨j, hj, rfl⟩ := List.mem_iff_getElem.1 hc
          exact hall j (by rw [hsz] at hj; omega) _ (List.getElem?_eq_getElem hj)
        rw [e, hsz]
        exact ByteArray.extract_zero_size)
      clear hall
      go_wp2_with fail
      go_ret
      rw [HE.out]
      exact ⟨rfl, (Below.refl _ _).alloc (Nat.le_refl _) _⟩
set_option maxRecDepth 20000 in
theorem lbytes_ne {n m : ByteArray} (h : n ≠ m) : (¬ n.toList = m.toList) ∧ (n.toList == m.toList) = false := by
  have h1 : ¬ n.toList = m.toList := by
    intro e
    rw [ByteArray.toList_eq, ByteArray.toList_eq] at e
    exact h (ByteArray.ext (Array.toList_inj.1 e))
  exact ⟨h1, by simpa using h1⟩
set_option maxRecDepth 20000 in
set_option maxHeartbeats 2000000 in
theorem xwithin_calls (a t : ByteArray) (ha : a.size ≤ 1000000) (ht : t.size ≤ 140737488351234) (w : World) : Calls Try.prog 77 #[.string a, .string t] w fun e w' => e = .returned (.bool (withinL a.data.toList t.data.toList)) ∧ w = w' := by
  have hsa : a.data.toList.length = a.size := rfl
  have hst : t.data.toList.length = t.size := rfl
  go_enter Try.func77, Try.ntmps77
  go_wp2_with fail
  go_loopw [5] (fun i wr => ∃ k : Nat, k ≤ a.size + 1 ∧ i = .int .i64 (k : Int) ∧ wr = w ∧ Hid (∀ j, j < k → ¬ (j + t.size ≤ a.size ∧ (a.data.toList.drop j).take t.size = t.data.toList))) (fun i _ => a.size + 2 - (intOf i).toNat)
  case atStart => exact ⟨0, by omega, rfl, rfl, hide fun j hj => by omega⟩
  case round =>
    obtain ⟨k, hk, rfl, rfl, hno⟩ := hrel
    by_cases hlt : k + t.size ≤ a.size
    · have hI : (k : Int) + (t.size : Int) ≤ (a.size : Int) := by omega
      have hk0 : (0 : Int) ≤ (k : Int) := by omega
      have hw1 : IntKind.i64.wrap ((k : Int) + (t.size : Int)) = (k : Int) + (t.size : Int) := IntWalk.i64_in _ (by omega)
      have hext : (a.extract k (k + t.size)).data.toList = (a.data.toList.drop k).take t.size := by
        simp only [ByteArray.data_extract, Array.toList_extract, List.extract_eq_take_drop]
        rw [show k + t.size - k = t.size by omega]
      by_cases he : a.extract k (k + t.size) = t
      · have HE := hide (show withinL a.data.toList t.data.toList = true from (withinL_iff _ _).2 ⟨k, by rw [hsa, hst]; exact hlt, by rw [hst, ← hext, he]⟩)
        clear hno hlt hext
        go_wp2_with fail
        go_ret
        exact ⟨by rw [HE.out]; rfl, rfl⟩
      · obtain ⟨n1, n2⟩ := lbytes_ne he
        have HN2 := hide (show ∀ j, j < k + 1 → ¬ (j + t.size ≤ a.size ∧ (a.data.toList.drop j).take t.size = t.data.toList) from fun j hj => by
          by_cases hjk : j = k
          · subst hjk
            rintro ⟨_, h2⟩
            rw [← hext] at h2
            exact he (ByteArray.ext (Array.toList_inj.1 h2))
          · exact hno.out j (by omega))
        have hkl := hide hlt
        clear hno hlt hext he
        go_wp2_with fail
        have hkl' := hkl.out
        refine ⟨⟨k + 1, by omega, by go_num, trivial, HN2⟩, ?_⟩
        simp [intOf]
        omega
    · have hI : ¬ ((k : Int) + (t.size : Int) ≤ (a.size : Int)) := by omega
      have hw1 : IntKind.i64.wrap ((k : Int) + (t.size : Int)) = (k : Int) + (t.size : Int) := IntWalk.i64_in _ (by omega)
      have HE := hide (show withinL a.data.toList t.data.toList = false by
        cases h : withinL a.data.toList t.data.toList
        · rfl
        · obtain ⟨i, h1, h2⟩ := (withinL_iff _ _).1 h
          rw [hsa, hst] at h1
          rw [hst] at h2
          exact absurd ⟨h1, h2⟩ (hno.out i (by omega)))
      clear hno hlt
      go_wp2_with fail
      go_ret
      exact ⟨by rw [HE.out]; rfl, rfl⟩
end Go.Proofs.Ythgjmbcojbmlhaa

/- Names of the language: word, Key, Name of the program, walked. -/
namespace Go.Proofs.Ythgjmbcojbmlhaa
open Go.RowKit Zb

set_option maxRecDepth 20000 in
theorem head_get (s : ByteArray) (h : 0 < s.size) : s.data.toList.headD 0 = s[0] := by
  have hl : 0 < s.data.toList.length := h
  have e : s.data.toList[0]? = some s[0] := by rw [List.getElem?_eq_getElem hl]; rfl
  cases hs : s.data.toList with
  | nil => rw [hs] at hl; simp at hl
  | cons c r => rw [hs] at e; exact Option.some.inj e
set_option maxRecDepth 20000 in
theorem xword_calls (s : ByteArray) (hs : s.size ≤ 140737488351232) (w : World) : Calls Try.prog 49 #[.string s] w fun e w' => e = .returned (.bool (wordM s)) ∧ Below w.heap.size w w' := by
  by_cases h0 : 0 < s.size
  · have HH := hide (fun w1 => xhead_calls s hs w1)
    have hg := head_get s h0
    have HL := hide (fun w1 => xletter_calls (s[0]).toNat (by have := (s[0]).toNat_lt; omega) w1)
    have HW : Hid (wordM s = (lexL (s[0]).toNat && decide (runI s.data.toList = s.size))) := hide (by unfold wordM; rw [hg, decide_eq_true h0, Bool.true_and])
    have hne : s ≠ ⟨#[]⟩ := by intro e; rw [e] at h0; exact absurd h0 (by decide)
    have hemp : s.toList.isEmpty = false := by
      rw [ByteArray.toList_eq]
      cases hl : s.data.toList with
      | nil => have : s.data.toList.length = s.size := rfl; rw [hl] at this; simp at this; omega
      | cons _ _ => rfl
    have hrl := hide (runI_le s.data.toList)
    have h0I : (0 : Int) < (s.size : Int) := by omega
    obtain ⟨c, hc⟩ : ∃ c : UInt8, s[0] = c := ⟨_, rfl⟩
    have hw32 : wrap32 (c.toNat : Int) = (c.toNat : Int) := by
      have := c.toNat_lt
      unfold wrap32
      omega
    rw [hc] at HL HW
    obtain ⟨n, hn⟩ : ∃ n, runI s.data.toList = n := ⟨_, rfl⟩
    rw [hn] at HH HW hrl
    have hes : Hid ((s.extract 0 n).size = n) := hide (by
      rw [ByteArray.size_extract]
      have : n ≤ s.size := hrl.out
      omega)
    obtain ⟨u, hu⟩ : ∃ u, s.extract 0 n = u := ⟨_, rfl⟩
    rw [hu] at HH hes
    clear hn hu hg hne
    go_enter Try.func49, Try.ntmps49
    go_wp2_with fail
    refine (HL.out _).mono ?_
    rintro e w' ⟨rfl, rfl⟩
    cases hl : lexL c.toNat
    · have HE := hide (show wordM s = false by rw [HW.out, hl]; rfl)
      clear hl
      go_wp2_with fail
      go_ret
      exact ⟨by rw [HE.out]; rfl, Below.refl _ _⟩
    · rw [hl] at HW
      clear hl
      go_wp2_with fail
      refine (HH.out _).mono ?_
      rintro e w1 ⟨rfl, hb1⟩
      have HB := hide hb1
      clear hb1
      by_cases hq : n = s.size
      · have HE := hide (show wordM s = true by rw [HW.out, hq]; simp)
        have hq2 : (u.size : Int) = (s.size : Int) := by rw [hes.out, hq]
        clear hq
        go_wp2_with fail
        go_ret
        exact ⟨by rw [HE.out]; rfl, HB.out⟩
      · have HE := hide (show wordM s = false by rw [HW.out]; simp [hq])
        have hq2 : ((u.size : Int) == (s.size : Int)) = false := by rw [hes.out]; simp; omega
        clear hq
        go_wp2_with fail
        go_ret
        exact ⟨by rw [HE.out]; rfl, HB.out⟩
  · have HE := hide (show wordM s = false by unfold wordM; rw [decide_eq_false h0]; rfl)
    obtain rfl : s = ⟨#[]⟩ := by
      obtain ⟨⟨l⟩⟩ := s
      have : l.length = 0 := by
        have h1 : (⟨⟨l⟩⟩ : ByteArray).size = l.length := rfl
        omega
      rw [List.eq_nil_of_length_eq_zero this]
    clear h0
    go_enter Try.func49, Try.ntmps49
    go_wp2_with fail
    go_ret
    exact ⟨by rw [HE.out]; rfl, Below.refl _ _⟩
/-- the row of all keys, as the program has it -/
def keysB : ByteArray := ⟨keysL.toArray⟩
set_option maxRecDepth 20000 in
theorem xKey_calls (s : ByteArray) (hs : s.size ≤ 140737488351232) (w : World) : Calls Try.prog 50 #[.string s] w fun e w' => e = .returned (.bool (wordM s && isKey s)) ∧ Below w.heap.size w w' := by
  have HW := hide (fun w1 => xword_calls s hs w1)
  have hsz : ((⟨#[32]⟩ : ByteArray) ++ s ++ ⟨#[32]⟩).size ≤ 140737488351234 := by
    rw [ByteArray.size_append, ByteArray.size_append]
    show 1 + s.size + 1 ≤ _
    omega
  have HI := hide (fun w1 => xwithin_calls keysB ((⟨#[32]⟩ : ByteArray) ++ s ++ ⟨#[32]⟩) (by decide) hsz w1)
  have HK : Hid (wordM s = true → withinL keysL ((⟨#[32]⟩ : ByteArray) ++ s ++ ⟨#[32]⟩).data.toList = isKey s) := hide (by
    intro h
    unfold wordM at h
    rw [Bool.and_eq_true, decide_eq_true_eq] at h
    have ha := (runI_all s.data.toList).1 h.2
    have hl : ((⟨#[32]⟩ : ByteArray) ++ s ++ ⟨#[32]⟩).data.toList = 32 :: s.data.toList ++ [32] := by
      simp [ByteArray.data_append, Array.toList_append]
    rw [hl]
    exact key_within _ fun c hc => lexI_blank c (ha c hc))
  have hK0 : keysB.data.toList = keysL := rfl
  rw [hK0] at HI
  generalize withinL keysL ((⟨#[32]⟩ : ByteArray) ++ s ++ ⟨#[32]⟩).data.toList = r at HI HK
  have hsI : (1 : Int) + (s.size : Int) + 1 ≤ 140737488351234 := by omega
  obtain ⟨t, ht⟩ : ∃ t, (⟨#[32]⟩ : ByteArray) ++ s ++ ⟨#[32]⟩ = t := ⟨_, rfl⟩
  rw [ht] at HI
  clear hsz hK0
  obtain ⟨b, hb⟩ : ∃ b, wordM s = b := ⟨_, rfl⟩
  rw [hb] at HW HK ⊢
  clear hb
  go_enter Try.func50, Try.ntmps50
  go_wp2_with fail
  refine (HW.out _).mono ?_
  rintro e w' ⟨rfl, hb1⟩
  have HB := hide hb1
  clear hb1
  cases b
  · go_wp2_with fail
    go_ret
    exact ⟨rfl, HB.out⟩
  · go_wp2_with fail
    refine (HI.out _).mono ?_
    rintro e w2 ⟨rfl, rfl⟩
    go_wp2_with fail
    go_ret
    have hk := HK.out (by simp)
    subst hk
    exact ⟨rfl, HB.out⟩
set_option maxRecDepth 20000 in
theorem xName_calls (s : ByteArray) (hs : s.size ≤ 140737488351232) (w : World) : Calls Try.prog 24 #[.string s] w fun e w' => e = .returned (.bool (nameM s)) ∧ Below w.heap.size w w' := by
  have HW := hide (fun w1 => xword_calls s hs w1)
  have HK := hide (fun w1 => xKey_calls s hs w1)
  have HN : Hid (nameM s = (wordM s && decide (s.size ≤ 16) && !isKey s)) := hide rfl
  obtain ⟨b, hb⟩ : ∃ b, wordM s = b := ⟨_, rfl⟩
  obtain ⟨k, hk⟩ : ∃ k, isKey s = k := ⟨_, rfl⟩
  obtain ⟨n, hn⟩ : ∃ n, nameM s = n := ⟨_, rfl⟩
  rw [hb] at HW HK HN
  rw [hk] at HK HN
  rw [hn] at HN
  rw [hn]
  clear hb hk hn
  have H16 : Hid (decide (s.size ≤ 16) = decide ((s.size : Int) ≤ 16)) := hide (by rw [decide_eq_decide]; omega)
  rw [H16.out] at HN
  go_enter Try.func24, Try.ntmps24
  go_wp2_with fail
  refine (HW.out _).mono ?_
  rintro e w1 ⟨rfl, hb1⟩
  have HB := hide hb1
  clear hb1
  cases b
  · go_wp2_with fail
    go_ret
    exact ⟨by rw [HN.out]; rfl, HB.out⟩
  · by_cases h16 : (s.size : Int) ≤ 16
    · rw [decide_eq_true h16] at HN
      go_wp2_with fail
      refine (HK.out _).mono ?_
      rintro e w2 ⟨rfl, hb2⟩
      have HB2 := hide (HB.out.trans (hb2.mono HB.out.size))
      clear hb2
      cases k
      · go_wp2_with fail
        go_ret
        exact ⟨by rw [HN.out]; rfl, HB2.out⟩
      · go_wp2_with fail
        go_ret
        exact ⟨by rw [HN.out]; rfl, HB2.out⟩
    · rw [decide_eq_false h16] at HN
      have h16b : decide ((s.size : Int) ≤ 16) = false := decide_eq_false h16
      go_wp2_with fail
      go_ret
      exact ⟨by rw [HN.out]; rfl, HB.out⟩
end Go.Proofs.Ythgjmbcojbmlhaa

/- Names of the language: the document's side, walked. -/
namespace Go.Proofs.Ythgjmbcojbmlhaa
open Go.RowKit Zb

set_option maxRecDepth 20000 in
theorem rxletter_calls (c : UInt8) (w : World) : Calls Try.prog 80 #[.int .u8 (c.toNat : Int)] w fun e w' => e = .returned (.bool (lexL c.toNat)) ∧ w = w' := by
  by_cases h0 : 97 ≤ c.toNat
  · have h0I : (97 : Int) ≤ (c.toNat : Int) := by omega
    by_cases h1 : c.toNat ≤ 122
    · have h1I : (c.toNat : Int) ≤ 122 := by omega
      have E := hide (show lexL c.toNat = true by simp [lexL, h0, h1])
      clear h0 h1
      go_enter Try.func80, Try.ntmps80
      go_wp2_with fail
      go_ret
      exact ⟨by rw [E.out]; rfl, rfl⟩
    · have h1I : ¬ (c.toNat : Int) ≤ 122 := by omega
      have E := hide (show lexL c.toNat = false by simp [lexL]; omega)
      clear h0 h1
      go_enter Try.func80, Try.ntmps80
      go_wp2_with fail
      go_ret
      exact ⟨by rw [E.out]; rfl, rfl⟩
  · have h0I : ¬ (97 : Int) ≤ (c.toNat : Int) := by omega
    have E := hide (show lexL c.toNat = false by simp [lexL]; omega)
    clear h0
    go_enter Try.func80, Try.ntmps80
    go_wp2_with fail
    go_ret
    exact ⟨by rw [E.out]; rfl, rfl⟩
set_option maxRecDepth 20000 in
theorem rxdigit_calls (c : UInt8) (w : World) : Calls Try.prog 81 #[.int .u8 (c.toNat : Int)] w fun e w' => e = .returned (.bool (lexD c.toNat)) ∧ w = w' := by
  by_cases h0 : 48 ≤ c.toNat
  · have h0I : (48 : Int) ≤ (c.toNat : Int) := by omega
    by_cases h1 : c.toNat ≤ 57
    · have h1I : (c.toNat : Int) ≤ 57 := by omega
      have E := hide (show lexD c.toNat = true by simp [lexD, h0, h1])
      clear h0 h1
      go_enter Try.func81, Try.ntmps81
      go_wp2_with fail
      go_ret
      exact ⟨by rw [E.out]; rfl, rfl⟩
    · have h1I : ¬ (c.toNat : Int) ≤ 57 := by omega
      have E := hide (show lexD c.toNat = false by simp [lexD]; omega)
      clear h0 h1
      go_enter Try.func81, Try.ntmps81
      go_wp2_with fail
      go_ret
      exact ⟨by rw [E.out]; rfl, rfl⟩
  · have h0I : ¬ (48 : Int) ≤ (c.toNat : Int) := by omega
    have E := hide (show lexD c.toNat = false by simp [lexD]; omega)
    clear h0
    go_enter Try.func81, Try.ntmps81
    go_wp2_with fail
    go_ret
    exact ⟨by rw [E.out]; rfl, rfl⟩
/-- how many bytes of a word stand at the beginning -/
def wordRun (s : ByteArray) : Nat := if lexL (s.data.toList.headD 0).toNat then runI s.data.toList else 0
set_option maxRecDepth 20000 in
set_option maxHeartbeats 2000000 in
theorem rxword_calls (s : ByteArray) (hs : s.size ≤ 140737488351232) (w : World) : Calls Try.prog 57 #[.string s, .int .i64 0] w fun e w' => e = .returned (.int .i64 (wordRun s : Int)) ∧ w = w' := by
  have hsz : s.data.toList.length = s.size := rfl
  have hsI : (s.size : Int) ≤ 140737488351232 := by omega
  go_enter Try.func57, Try.ntmps57
  go_wp2_with fail
  go_loopw [5] (fun i wr => ∃ k : Nat, k ≤ s.size ∧ i = .int .i64 (k : Int) ∧ wr = w ∧ Hid (∀ j, j < k → ∀ c, s.data.toList[j]? = some c → lexI c.toNat = true) ∧ Hid (0 < k → lexL (s.data.toList.headD 0).toNat = true)) (fun i _ => s.size - (intOf i).toNat)
  case atStart => exact ⟨0, by omega, rfl, rfl, hide fun j hj => by omega, hide fun h => by omega⟩
  case round =>
    obtain ⟨k, hk, rfl, rfl, hall, hfst⟩ := hrel
    by_cases hp : k < s.size
    · have hget : s.data.toList[k]? = some s[k] := by
        rw [List.getElem?_eq_getElem (by rw [hsz]; exact hp)]
        rfl
      have hpI : (k : Int) < (s.size : Int) := by omega
      have hk0 : (0 : Int) ≤ (k : Int) := by omega
      have HG := hide hget
      obtain ⟨c, hc⟩ : ∃ c : UInt8, s[k] = c := ⟨_, rfl⟩
      rw [hc] at HG
      have HL := hide (fun w1 => rxletter_calls c w1)
      have HD := hide (fun w1 => rxdigit_calls c w1)
      have HI : Hid (lexI c.toNat = (lexL c.toNat || lexD c.toNat || decide (c.toNat = 95))) := hide rfl
      have H95 : Hid (decide (c.toNat = 95) = decide ((c.toNat : Int) = 95)) := hide (by rw [decide_eq_decide]; omega)
      rw [H95.out] at HI
      obtain ⟨b1, hb1⟩ : ∃ b, lexL c.toNat = b := ⟨_, rfl⟩
      obtain ⟨b2, hb2⟩ : ∃ b, lexD c.toNat = b := ⟨_, rfl⟩
      have HB1 := hide hb1
      rw [hb1] at HL HI
      rw [hb2] at HD HI
      clear hget hb1 hb2
      have hgo : Hid (lexI c.toNat = true → ∀ j, j < k + 1 → ∀ d, s.data.toList[j]? = some d → lexI d.toNat = true) := hide fun h j hj d hd => by
        by_cases hjk : j = k
        · subst hjk
          rw [HG.out] at hd
          obtain rfl := Option.some.inj hd
          exact h
        · exact hall.out j (by omega) d hd
      have hstop : Hid (0 < k → lexI c.toNat = false → wordRun s = k) := hide fun h0 h => by
        unfold wordRun
        rw [if_pos (hfst.out h0)]
        rcases runI_drop s.data.toList k hall.out with e | e
        · rw [e, runI_stop _ k c HG.out h]; rfl
        · rw [hsz] at e; omega
      have hstop0 : Hid (k = 0 → lexL c.toNat = false → wordRun s = k) := hide fun h0 h => by
        subst h0
        unfold wordRun
        have : s.data.toList.headD 0 = c := by
          have e := HG.out
          cases hl : s.data.toList with
          | nil => rw [hl] at e; cases e
          | cons a r => rw [hl] at e; exact Option.some.inj e
        rw [this, h]
        rfl
      have hhd : Hid (k = 0 → s.data.toList.headD 0 = c) := hide fun h0 => by
        subst h0
        have e := HG.out
        cases hl : s.data.toList with
        | nil => rw [hl] at e; cases e
        | cons a r => rw [hl] at e; exact Option.some.inj e
      go_wp2_with fail
      refine (HL.out _).mono ?_
      rintro e w' ⟨rfl, rfl⟩
      cases b1
      · by_cases hk1 : (0 : Int) < (k : Int)
        · go_wp2_with fail
          refine (HD.out _).mono ?_
          rintro e w' ⟨rfl, rfl⟩
          cases b2
          · by_cases h : (c.toNat : Int) = 95
            · have hb : ((c.toNat : Int) == 95) = true := by simp [h]
              have E := hide (hgo.out (show lexI c.toNat = true by rw [HI.out]; simp [h]))
              have E2 := hide (hfst.out (by omega))
              clear h
              go_wp2_with fail
              refine ⟨⟨k + 1, by omega, by go_num, trivial, E, hide fun _ => E2.out⟩, ?_⟩
              simp [intOf]
              omega
            · have hb : ((c.toNat : Int) == 95) = false := by simp [h]
              have E := hide (hstop.out (by omega) (show lexI c.toNat = false by rw [HI.out]; simp [h]))
              clear h
              go_wp2_with fail
              go_ret
              exact ⟨by rw [E.out]; rfl, rfl⟩
          · have E := hide (hgo.out (show lexI c.toNat = true by rw [HI.out]; rfl))
            have E2 := hide (hfst.out (by omega))
            go_wp2_with fail
            refine ⟨⟨k + 1, by omega, by go_num, trivial, E, hide fun _ => E2.out⟩, ?_⟩
            simp [intOf]
            omega
        · have hk2 : decide ((0 : Int) < (k : Int)) = false := decide_eq_false hk1
          have E := hide (hstop0.out (by omega) HB1.out)
          obtain rfl : k = 0 := by omega
          clear hk1 hk2
          go_wp2_with fail
          go_ret
          exact ⟨by rw [E.out]; rfl, rfl⟩
      · have E := hide (hgo.out (show lexI c.toNat = true by rw [HI.out]; rfl))
        have E2 : Hid (lexL (s.data.toList.headD 0).toNat = true) := hide (by
          by_cases h0 : 0 < k
          · exact hfst.out h0
          · rw [hhd.out (by omega)]; exact HB1.out)
        go_wp2_with fail
        refine ⟨⟨k + 1, by omega, by go_num, trivial, E, hide fun _ => E2.out⟩, ?_⟩
        simp [intOf]
        omega
    · obtain rfl : k = s.size := by omega
      have E : Hid (wordRun s = s.size) := hide (by
        have e1 : runI s.data.toList = s.size := (runI_all _).2 fun c hc => by
          obtain ⟨j, hj, rfl⟩ := List.mem_iff_getElem.1 hc
          exact hall.out j (by rw [hsz] at hj; omega) _ (List.getElem?_eq_getElem hj)
        unfold wordRun
        by_cases h0 : 0 < s.size
        · rw [if_pos (hfst.out h0)]; exact e1
        · have : s.size = 0 := by omega
          split <;> omega)
      clear hall hfst
      go_wp2_with fail
      go_ret
      exact ⟨by rw [E.out]; rfl, rfl⟩
/-- the keys, as texts -/
def keyBs : List ByteArray := keyLs.map fun l => ⟨l.toArray⟩
set_option maxRecDepth 20000 in
theorem isKey_iff (s : ByteArray) : isKey s = true ↔ s ∈ keyBs := by
  unfold isKey keyBs
  rw [List.contains_iff_mem, List.mem_map]
  constructor
  · intro h
    exact ⟨_, h, ByteArray.ext (by simp)⟩
  · rintro ⟨l, h, rfl⟩
    simpa using h
set_option maxRecDepth 20000 in
set_option maxHeartbeats 2000000 in
theorem rxKey_calls (s : ByteArray) (hs : s.size ≤ 140737488351232) (w : World) : Calls Try.prog 58 #[.string s] w fun e w' => e = .returned (.bool (isKey s)) ∧ Below w.heap.size w w' := by
  have hl20 : keyBs.length = 20 := rfl
  go_enter Try.func58, Try.ntmps58
  go_wp2_with fail
  go_loopw [4] (fun i wr => ∃ k : Nat, k ≤ 20 ∧ i = .int .i64 (k : Int) ∧ Hid (Blk wr w.heap.size 9 (keyBs.map Value.string).toArray) ∧ Hid (Below w.heap.size w wr) ∧ Hid (∀ j, j < k → keyBs[j]? ≠ some s)) (fun i _ => 20 - (intOf i).toNat)
  case atStart => exact ⟨0, by omega, rfl, hide (Blk.new _ _ _), hide ((Below.refl _ _).alloc (Nat.le_refl _) _), hide fun j hj => by omega⟩
  case round =>
    obtain ⟨k, hk, rfl, HB, HW, hno⟩ := hrel
    by_cases hlt : k < 20
    · have hI : (k : Int) < 20 := by omega
      have hk0 : (0 : Int) ≤ (k : Int) := by omega
      obtain ⟨x, hx⟩ : ∃ x, keyBs[k]? = some x := ⟨_, List.getElem?_eq_getElem (by rw [hl20]; exact hlt)⟩
      have hc : wr.cell? ⟨w.heap.size, k, none⟩ = some (.string x) := by
        rw [HB.out.cell]
        simp [hx]
      have HX := hide hx
      clear hx
      by_cases he : x = s
      · have HE : Hid (isKey s = true) := hide (by
          rw [isKey_iff]
          exact List.mem_of_getElem? (by rw [HX.out, he]))
        subst he
        go_wp2_with fail
        go_ret
        exact ⟨by rw [HE.out]; rfl, HW.out⟩
      · obtain ⟨n1, n2⟩ := lbytes_ne he
        have HN2 := hide (show ∀ j, j < k + 1 → keyBs[j]? ≠ some s from fun j hj => by
          by_cases hjk : j = k
          · subst hjk
            rw [HX.out]
            exact fun e => he (Option.some.inj e)
          · exact hno.out j (by omega))
        clear hno he
        go_wp2_with fail
        refine ⟨⟨k + 1, by omega, by go_num, HB, HW, HN2⟩, ?_⟩
        simp [intOf]
        omega
    · obtain rfl : k = 20 := by omega
      have HE : Hid (isKey s = false) := hide (by
        cases h : isKey s
        · rfl
        · rw [isKey_iff] at h
          obtain ⟨j, hj, he⟩ := List.mem_iff_getElem.1 h
          exact absurd (by rw [List.getElem?_eq_getElem hj, he]) (hno.out j (by rw [hl20] at hj; exact hj)))
      clear hno
      go_wp2_with fail
      go_ret
      exact ⟨by rw [HE.out]; rfl, HW.out⟩
set_option maxRecDepth 20000 in
theorem nameM_wordRun (s : ByteArray) : nameM s = (decide (0 < s.size) && decide (s.size ≤ 16) && decide (wordRun s = s.size) && !isKey s) := by
  unfold nameM wordM wordRun
  by_cases h0 : 0 < s.size
  · cases hl : lexL (s.data.toList.headD 0).toNat
    · have : decide (0 = s.size) = false := by simp; omega
      simp [h0, this]
    · simp [h0]
      rw [Bool.and_comm (decide (runI s.data.toList = s.size))]
  · simp [h0]
set_option maxRecDepth 20000 in
theorem rxName_calls (s : ByteArray) (hs : s.size ≤ 140737488351232) (w : World) : Calls Try.prog 32 #[.string s] w fun e w' => e = .returned (.bool (nameM s)) ∧ Below w.heap.size w w' := by
  have HW := hide (fun w1 => rxword_calls s hs w1)
  have HK := hide (fun w1 => rxKey_calls s hs w1)
  have HN := hide (nameM_wordRun s)
  obtain ⟨n, hn⟩ : ∃ n, nameM s = n := ⟨_, rfl⟩
  obtain ⟨r, hr⟩ : ∃ r, wordRun s = r := ⟨_, rfl⟩
  obtain ⟨k, hk⟩ : ∃ r, isKey s = r := ⟨_, rfl⟩
  rw [hn, hr, hk] at HN
  rw [hr] at HW
  rw [hk] at HK
  rw [hn]
  clear hn hr hk
  rw [show decide (0 < s.size) = decide ((0 : Int) < (s.size : Int)) by rw [decide_eq_decide]; omega, show decide (s.size ≤ 16) = decide ((s.size : Int) ≤ 16) by rw [decide_eq_decide]; omega, show decide (r = s.size) = decide ((r : Int) = (s.size : Int)) by rw [decide_eq_decide]; omega] at HN
  by_cases h0 : (0 : Int) < (s.size : Int)
  · rw [decide_eq_true h0] at HN
    by_cases h16 : (s.size : Int) ≤ 16
    · rw [decide_eq_true h16] at HN
      by_cases hq : (r : Int) = (s.size : Int)
      · rw [decide_eq_true hq] at HN
        go_enter Try.func32, Try.ntmps32
        go_wp2_with fail
        refine (HW.out _).mono ?_
        rintro e w' ⟨rfl, rfl⟩
        go_wp2_with fail
        refine (HK.out _).mono ?_
        rintro e w1 ⟨rfl, hb1⟩
        have HB := hide hb1
        clear hb1
        cases k
        · go_wp2_with fail
          go_ret
          exact ⟨by rw [HN.out]; rfl, HB.out⟩
        · go_wp2_with fail
          go_ret
          exact ⟨by rw [HN.out]; rfl, HB.out⟩
      · rw [decide_eq_false hq] at HN
        have hqb : ((r : Int) == (s.size : Int)) = false := by simp; omega
        go_enter Try.func32, Try.ntmps32
        go_wp2_with fail
        refine (HW.out _).mono ?_
        rintro e w' ⟨rfl, rfl⟩
        go_wp2_with fail
        go_ret
        exact ⟨by rw [HN.out]; rfl, Below.refl _ _⟩
    · rw [decide_eq_false h16] at HN
      have h16b := decide_eq_false h16
      go_enter Try.func32, Try.ntmps32
      go_wp2_with fail
      go_ret
      exact ⟨by rw [HN.out]; rfl, Below.refl _ _⟩
  · rw [decide_eq_false h0] at HN
    have h0b := decide_eq_false h0
    go_enter Try.func32, Try.ntmps32
    go_wp2_with fail
    go_ret
    exact ⟨by rw [HN.out]; rfl, Below.refl _ _⟩
end Go.Proofs.Ythgjmbcojbmlhaa
