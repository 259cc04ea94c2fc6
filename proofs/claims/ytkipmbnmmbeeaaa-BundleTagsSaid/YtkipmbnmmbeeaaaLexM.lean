/- Names and keys of the language: plain. No program's text. -/
import Derived.Test.YtkipmbnmmbeeaaaBase
namespace Go.Proofs.Ytkipmbnmmbeeaaa
open Go.RowKit Zb

def lexL (c : Nat) : Bool := decide (97 ≤ c) && decide (c ≤ 122)
def lexI (c : Nat) : Bool := lexL c || (decide (48 ≤ c) && decide (c ≤ 57)) || decide (c = 95)
/-- how many bytes at the beginning may stand in a word -/
def runI : List UInt8 → Nat
  | [] => 0
  | c :: r => if lexI c.toNat then runI r + 1 else 0
set_option maxRecDepth 20000 in
theorem runI_le : ∀ l : List UInt8, runI l ≤ l.length
  | [] => Nat.le_refl _
  | c :: r => by
    unfold runI
    split
    · have := runI_le r; simp; omega
    · exact Nat.zero_le _
set_option maxRecDepth 20000 in
theorem runI_all : ∀ l : List UInt8, runI l = l.length ↔ ∀ c ∈ l, lexI c.toNat = true
  | [] => by simp [runI]
  | c :: r => by
    unfold runI
    have ih := runI_all r
    have hl := runI_le r
    split
    · next h =>
      rw [List.length_cons, Nat.add_right_cancel_iff, ih]
      simp [h]
    · next h =>
      simp [h]
def wordM (s : ByteArray) : Bool := decide (0 < s.size) && lexL (s.data.toList.headD 0).toNat && decide (runI s.data.toList = s.size)
def keyLs : List (List UInt8) := [[109, 111, 100, 117, 108, 101], [117, 115, 101], [102, 110], [108, 101, 116], [105, 102], [101, 108, 115, 101], [119, 104, 105, 108, 101], [98, 114, 101, 97, 107], [99, 111, 110, 116, 105, 110, 117, 101], [114, 101, 116, 117, 114, 110], [112, 117, 116], [101, 109, 105, 116], [121, 105, 101, 108, 100], [110, 105, 108], [115, 116, 97, 116, 101], [115, 112, 97, 119, 110], [108, 101, 110], [110, 111, 116], [97, 110, 100], [111, 114]]
def keysL : List UInt8 := [32, 109, 111, 100, 117, 108, 101, 32, 117, 115, 101, 32, 102, 110, 32, 108, 101, 116, 32, 105, 102, 32, 101, 108, 115, 101, 32, 119, 104, 105, 108, 101, 32, 98, 114, 101, 97, 107, 32, 99, 111, 110, 116, 105, 110, 117, 101, 32, 114, 101, 116, 117, 114, 110, 32, 112, 117, 116, 32, 101, 109, 105, 116, 32, 121, 105, 101, 108, 100, 32, 110, 105, 108, 32, 115, 116, 97, 116, 101, 32, 115, 112, 97, 119, 110, 32, 108, 101, 110, 32, 110, 111, 116, 32, 97, 110, 100, 32, 111, 114, 32]
def withinL (K T : List UInt8) : Bool := (List.range (K.length + 1)).any fun i => decide (i + T.length ≤ K.length) && decide ((K.drop i).take T.length = T)
def isKey (s : ByteArray) : Bool := keyLs.contains s.data.toList
set_option maxRecDepth 20000 in
theorem withinL_iff (K T : List UInt8) : withinL K T = true ↔ ∃ i, i + T.length ≤ K.length ∧ (K.drop i).take T.length = T := by
  unfold withinL
  rw [List.any_eq_true]
  constructor
  · rintro ⟨i, _, h⟩
    rw [Bool.and_eq_true, decide_eq_true_eq, decide_eq_true_eq] at h
    exact ⟨i, h⟩
  · rintro ⟨i, h1, h2⟩
    exact ⟨i, List.mem_range.2 (by omega), by rw [Bool.and_eq_true, decide_eq_true_eq, decide_eq_true_eq]; exact ⟨h1, h2⟩⟩
/-- the word behind a blank -/
def wordAt (i : Nat) : List UInt8 := (keysL.drop (i + 1)).takeWhile (fun c => decide (c ≠ 32))
set_option maxRecDepth 20000 in
theorem keys_words : (List.range keysL.length).all (fun i => !(decide (keysL[i]? = some 32) && decide (i + 1 < keysL.length)) || keyLs.contains (wordAt i)) = true := by decide +kernel
set_option maxRecDepth 20000 in
theorem keys_there : keyLs.all (fun k => withinL keysL (32 :: k ++ [32])) = true := by decide +kernel
set_option maxRecDepth 20000 in
theorem takeWhile_until (S R : List UInt8) (h : ∀ c ∈ S, c ≠ 32) : (S ++ 32 :: R).takeWhile (fun c => decide (c ≠ 32)) = S := by
  induction S with
  | nil => simp
  | cons c S ih =>
    have h1 := h c (by simp)
    rw [List.cons_append, List.takeWhile_cons]
    rw [if_pos (by simpa using h1), ih fun d hd => h d (by simp [hd])]
/-- a text without blanks is a key just if it stands between blanks in the row of all keys -/
theorem key_within (S : List UInt8) (h : ∀ c ∈ S, c ≠ 32) : withinL keysL (32 :: S ++ [32]) = keyLs.contains S := by
  rw [Bool.eq_iff_iff, withinL_iff]
  constructor
  · rintro ⟨i, h1, h2⟩
    simp only [List.cons_append, List.length_cons, List.length_append, List.length_nil] at h1 h2
    have hi : i < keysL.length := by omega
    rw [List.drop_eq_getElem_cons hi, List.take_succ_cons] at h2
    injection h2 with h3 h4
    have hR : ∃ R, keysL.drop (i + 1) = S ++ 32 :: R := by
      refine ⟨(keysL.drop (i + 1)).drop (S.length + 1), ?_⟩
      have e := List.take_append_drop (S.length + 1) (keysL.drop (i + 1))
      rw [h4] at e
      rw [← e]
      simp
    obtain ⟨R, hR⟩ := hR
    have hw : wordAt i = S := by unfold wordAt; rw [hR]; exact takeWhile_until S R h
    have hk := List.all_eq_true.1 keys_words i (List.mem_range.2 hi)
    rw [List.getElem?_eq_getElem hi, h3, hw] at hk
    simpa [show i + 1 < keysL.length by omega] using hk
  · intro hk
    have := List.all_eq_true.1 keys_there S (by simpa using hk)
    exact (withinL_iff _ _).1 this
set_option maxRecDepth 20000 in
theorem lexI_blank (c : UInt8) (h : lexI c.toNat = true) : c ≠ 32 := by
  intro e
  subst e
  exact absurd h (by decide)
def nameM (s : ByteArray) : Bool := wordM s && decide (s.size ≤ 16) && !isKey s
end Go.Proofs.Ytkipmbnmmbeeaaa
