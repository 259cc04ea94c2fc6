/- Chapter 25: bundles, plain: parts, their bytes, what bytes say. No program's text but types' numbers. -/
import Derived.Test.YtkipmbnmmbeeaaaLexM
import Derived.Test.YtkipmbnmmbeeaaaOctP
import Derived.Test.YtkipmbnmmbeeaaaMc1
import Derived.Test.YtkipmbnmmbeeaaaArgs4
namespace Go.Proofs.Ytkipmbnmmbeeaaa
open Go.RowKit Zb

structure PartM where
  name : ByteArray
  version : Int
  text : ByteArray
  state : ByteArray
  deriving DecidableEq
def PartM.cells (p : PartM) : List Value := [.string p.name, .int .i64 p.version, .string p.text, .string p.state]
structure PartM.Ok (p : PartM) : Prop where
  name : p.name.size ≤ maxLen
  version : -9223372036854775808 ≤ p.version ∧ p.version ≤ 9223372036854775807
  text : p.text.size ≤ maxLen
  state : p.state.size ≤ maxLen
/-- a part that can be gone through -/
structure PartM.Mid (p : PartM) : Prop where
  name : p.name.size ≤ 1000000
  version : -9223372036854775808 ≤ p.version ∧ p.version < 9223372036854775808
  text : p.text.size ≤ 1000000
  state : p.state.size ≤ 1000000
def MidL (l : List PartM) : Prop := l.length ≤ 70000 ∧ ∀ p ∈ l, p.Mid
def partOk (p : PartM) : Bool := nameM p.name && decide (1 ≤ p.version) && decide (p.version ≤ 2147483647) && decide (p.text.size ≤ 8192) && decide (p.state = ⟨#[]⟩)
def goodFrom : List ByteArray → List PartM → Bool
  | _, [] => true
  | seen, p :: r => !(seen.any fun n => decide (n = p.name)) && partOk p && goodFrom (seen ++ [p.name]) r
def rightM (l : List PartM) : Bool := goodFrom [] l && decide (1 ≤ l.length) && decide (l.length ≤ 16)
def liteP (p : PartM) : Bool := decide (p.name.size ≤ 100) && decide (p.text.size ≤ 9000) && decide (p.state.size ≤ 5000)
def lightM (l : List PartM) : Bool := decide (l.length ≤ 20) && l.all liteP

/-! ### bytes -/
abbrev Sums := List (PartM × ByteArray)
def partB (x : PartM × ByteArray) : ByteArray := textB x.1.name ++ putB x.1.version 4 ++ textB x.1.text ++ x.2
def partsB : Sums → ByteArray
  | [] => ⟨#[]⟩
  | x :: r => partB x ++ partsB r
def headB (n : Nat) : ByteArray := ⟨#[66, 78, 68, 76]⟩ ++ putB n 2
def bodyB (R : Sums) : ByteArray := headB R.length ++ partsB R
set_option maxRecDepth 20000 in
theorem bemp (s : ByteArray) : s ++ (⟨#[]⟩ : ByteArray) = s := by
  rw [show (⟨#[]⟩ : ByteArray) = ByteArray.empty from rfl, ByteArray.append_empty]
set_option maxRecDepth 20000 in
theorem empb (s : ByteArray) : (⟨#[]⟩ : ByteArray) ++ s = s := by
  rw [show (⟨#[]⟩ : ByteArray) = ByteArray.empty from rfl, ByteArray.empty_append]
set_option maxRecDepth 20000 in
theorem partsB_snoc (x : PartM × ByteArray) : ∀ R, partsB (R ++ [x]) = partsB R ++ partB x
  | [] => by
    show partB x ++ ⟨#[]⟩ = ⟨#[]⟩ ++ partB x
    rw [bemp, empb]
  | y :: r => by
    simp only [List.cons_append, partsB]
    rw [partsB_snoc x r, ByteArray.append_assoc]
set_option maxRecDepth 20000 in
theorem partsB_take (R : Sums) (k : Nat) (x : PartM × ByteArray) (h : R[k]? = some x) : partsB (R.take (k + 1)) = partsB (R.take k) ++ partB x := by
  rw [List.take_add_one, h]
  exact partsB_snoc x _
set_option maxRecDepth 20000 in
theorem partsB_le (R : Sums) (k : Nat) : (partsB (R.take k)).size ≤ (partsB R).size := by
  induction R generalizing k with
  | nil => simp [partsB]
  | cons x r ih =>
    cases k with
    | zero => exact Nat.zero_le _
    | succ k =>
      simp only [List.take_succ_cons, partsB, ByteArray.size_append]
      have := ih k
      omega
/-- the texts' digests beside the parts -/
def withSums (l : List PartM) : Sums := l.map fun p => (p, digB p.text)
set_option maxRecDepth 20000 in
theorem withSums_fst (l : List PartM) : (withSums l).map (·.1) = l := by
  unfold withSums
  rw [List.map_map]
  exact List.map_id l
set_option maxRecDepth 20000 in
theorem withSums_len (l : List PartM) : (withSums l).length = l.length := by simp [withSums]
def buildM (key : ByteArray) (l : List PartM) : ByteArray × Int :=
  if rightM l then (bodyB (withSums l) ++ macB key (bodyB (withSums l)), 0) else (⟨#[]⟩, 4)

/-! ### what bytes say -/
def stepR (s : ByteArray) (at_ : Int) : Option (PartM × ByteArray × Int) :=
  if (nextM s at_).2.2 ≠ 0 then none
  else if getE s (nextM s at_).2.1 4 ≠ 0 then none
  else if (nextM s ((nextM s at_).2.1 + 4)).2.2 ≠ 0 then none
  else if (s.size : Int) - (nextM s ((nextM s at_).2.1 + 4)).2.1 < 32 then none
  else some (⟨(nextM s at_).1, getN s (nextM s at_).2.1 4, (nextM s ((nextM s at_).2.1 + 4)).1, ⟨#[]⟩⟩, s.extract (nextM s ((nextM s at_).2.1 + 4)).2.1.toNat ((nextM s ((nextM s at_).2.1 + 4)).2.1 + 32).toNat, (nextM s ((nextM s at_).2.1 + 4)).2.1 + 32)
def readN (s : ByteArray) : Nat → Int → Option Sums
  | 0, _ => some []
  | n + 1, at_ => match stepR s at_ with
    | none => none
    | some x => (readN s n x.2.2).map ((x.1, x.2.1) :: ·)
def readM (s : ByteArray) : Option Sums := if getE s 4 2 ≠ 0 then none else readN s (getN s 4 2).toNat 6
def sumsOk (R : Sums) : Bool := R.all fun x => decide (digB x.1.text = x.2)
def parseM (key s : ByteArray) : List PartM × Int :=
  if s.size < 38 then ([], 2)
  else if s.extract (s.size - 32) s.size ≠ macB key (s.extract 0 (s.size - 32)) then ([], 17)
  else match readM (s.extract 0 (s.size - 32)) with
    | none => ([], 4)
    | some R => if rightM (R.map (·.1)) = false ∨ bodyB R ≠ s.extract 0 (s.size - 32) then ([], 4) else if sumsOk R then (R.map (·.1), 0) else ([], 5)

/-! ### bounds -/
theorem nextM_lim {s : ByteArray} {a : Nat} (h : (nextM s a).2.2 = 0) : ∃ b : Nat, (nextM s a).2.1 = b ∧ b = a + 4 + (nextM s a).1.size ∧ b ≤ s.size := by
  unfold nextM at h ⊢
  by_cases hE : getE s a 4 = 0
  · rw [if_pos hE] at h ⊢
    by_cases hN : getN s a 4 ≤ s.size - (a : Int) - 4
    · rw [if_pos hN]
      have h0 := (getN_lim s a).1
      refine ⟨a + 4 + (getN s a 4).toNat, ?_, ?_, ?_⟩
      · dsimp only; omega
      · dsimp only
        rw [ByteArray.size_extract]
        omega
      · omega
    · rw [if_neg hN] at h
      exact absurd h (by decide)
  · rw [if_neg hE] at h
    exact absurd h hE
set_option maxRecDepth 20000 in
theorem getE_lim {s : ByteArray} {a : Nat} {k : Nat} (h : getE s a k = 0) : a + k ≤ s.size := by
  unfold getE at h
  split at h
  · exact absurd h (by decide)
  · split at h
    · exact absurd h (by decide)
    · omega
set_option maxRecDepth 20000 in
theorem putB_size_le (n : Int) : (putB n 4).size ≤ 4 := by
  unfold putB
  split
  · show (leL n _).toArray.size ≤ 4
    rw [List.size_toArray, leL_length]
    omega
  · exact Nat.zero_le _
set_option maxRecDepth 20000 in
theorem textB_le (s : ByteArray) : (textB s).size ≤ 4 + s.size := by
  unfold textB
  rw [ByteArray.size_append]
  have := putB_size_le s.size
  omega
set_option maxRecDepth 20000 in
theorem partB_le (x : PartM × ByteArray) : (partB x).size ≤ 12 + x.1.name.size + x.1.text.size + x.2.size := by
  unfold partB
  rw [ByteArray.size_append, ByteArray.size_append, ByteArray.size_append]
  have h1 := textB_le x.1.name
  have h2 := textB_le x.1.text
  have h3 := putB_size_le x.1.version
  omega
set_option maxRecDepth 20000 in
theorem getN_bounds (s : ByteArray) (a : Nat) : -9223372036854775808 ≤ getN s a 4 ∧ getN s a 4 < 9223372036854775808 := by
  have := getN_lim s a
  omega
set_option maxRecDepth 20000 in
theorem stepR_lim {s : ByteArray} (hs : s.size ≤ 1000000) {a : Nat} {x : PartM × ByteArray × Int} (h : stepR s a = some x) :
    ∃ b : Nat, x.2.2 = b ∧ b ≤ s.size ∧ a + 12 + x.1.name.size + x.1.text.size + x.2.1.size = b ∧ x.2.1.size = 32 ∧ x.1.Mid := by
  unfold stepR at h
  by_cases h1 : (nextM s a).2.2 = 0
  · rw [if_neg (by simp [h1])] at h
    obtain ⟨b, hb, hb2, hb3⟩ := nextM_lim h1
    rw [hb] at h
    by_cases h2 : getE s b 4 = 0
    · rw [if_neg (by simp [h2])] at h
      rw [show ((b : Int) + 4) = ((b + 4 : Nat) : Int) by omega] at h
      have h4 := getE_lim (k := 4) h2
      by_cases h3 : (nextM s ((b + 4 : Nat) : Int)).2.2 = 0
      · rw [if_neg (fun e => e h3)] at h
        obtain ⟨c, hc, hc2, hc3⟩ := nextM_lim h3
        rw [hc] at h
        by_cases h5 : (s.size : Int) - (c : Int) < 32
        · rw [if_pos h5] at h; cases h
        · rw [if_neg h5] at h
          injection h with h
          subst h
          dsimp only
          have hx : (s.extract (c : Int).toNat ((c : Int) + 32).toNat).size = 32 := by
            rw [ByteArray.size_extract]; omega
          refine ⟨c + 32, by omega, by omega, by rw [hx]; omega, hx, ⟨by dsimp only; omega, getN_bounds s b, by dsimp only; omega, Nat.zero_le _⟩⟩
      · rw [if_pos (by simpa using h3)] at h; cases h
    · rw [if_pos (by simpa using h2)] at h; cases h
  · rw [if_pos (by simpa using h1)] at h; cases h
set_option maxRecDepth 20000 in
theorem readN_lim {s : ByteArray} (hs : s.size ≤ 1000000) : ∀ (n : Nat) (a : Nat) (R : Sums), a ≤ s.size → readN s n a = some R → R.length = n ∧ (∀ x ∈ R, x.1.Mid ∧ x.2.size = 32) ∧ a + (partsB R).size ≤ s.size
  | 0, a, R, ha, h => by
    simp only [readN, Option.some.injEq] at h
    subst h
    exact ⟨rfl, fun x hx => by simp at hx, ha⟩
  | n + 1, a, R, ha, h => by
    simp only [readN] at h
    cases hx : stepR s a with
    | none => rw [hx] at h; cases h
    | some x =>
      rw [hx] at h
      obtain ⟨b, hb, hb2, hb3, hb4, hb5⟩ := stepR_lim hs hx
      dsimp only at h
      rw [hb] at h
      obtain ⟨R', hR', rfl⟩ := Option.map_eq_some_iff.1 h
      obtain ⟨i1, i2, i3⟩ := readN_lim hs n b R' hb2 hR'
      refine ⟨by simp [i1], fun y hy => ?_, ?_⟩
      · rcases List.mem_cons.1 hy with rfl | hy
        · exact ⟨hb5, hb4⟩
        · exact i2 y hy
      · simp only [partsB, ByteArray.size_append]
        have := partB_le (x.1, x.2.1)
        dsimp only at this
        omega
set_option maxRecDepth 20000 in
theorem readM_lim {s : ByteArray} (hs : s.size ≤ 1000000) {R : Sums} (h : readM s = some R) : R.length ≤ 65535 ∧ (∀ x ∈ R, x.1.Mid ∧ x.2.size = 32) ∧ 6 + (partsB R).size ≤ s.size := by
  unfold readM at h
  by_cases hE : getE s 4 2 = 0
  · rw [if_neg (by simp [hE])] at h
    have h6 := getE_lim (s := s) (a := 4) (k := 2) hE
    obtain ⟨i1, i2, i3⟩ := readN_lim hs _ 6 R (by omega) h
    have hn : getN s 4 2 ≤ 65535 := by
      unfold getN
      rw [if_pos hE]
      have h1 := leN_lt (cutL s (4 : Int).toNat (2 : Int).toNat)
      have h2 : (cutL s (4 : Int).toNat (2 : Int).toNat).length ≤ 2 := List.length_take_le _ _
      have h3 : leN (cutL s (4 : Int).toNat (2 : Int).toNat) < 65536 := Nat.lt_of_lt_of_le h1 (Nat.le_trans (Nat.pow_le_pow_right (by omega) h2) (by decide))
      unfold wrap64
      omega
    exact ⟨by omega, i2, by omega⟩
  · rw [if_pos (by simpa using hE)] at h; cases h
end Go.Proofs.Ytkipmbnmmbeeaaa
