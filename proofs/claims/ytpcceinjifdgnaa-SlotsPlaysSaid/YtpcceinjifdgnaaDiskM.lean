/- The disk as a model in plain Lean: lists, no memory, no program. -/
import Derived.Test.YtpcceinjifdgnaaBase
namespace Go.Proofs.Ytpcceinjifdgnaa
open Go.RowKit Zb

/-! ### the disk's model -/
structure DiskM where
  lasts : List ByteArray
  waits : List (Int × ByteArray)
  off : Bool
  ops : Int
  pon : Bool
  after : Int
  mask : Int

/-- the number of the last write to x, the first of the list having number k -/
def lastIdx : Nat → List (Int × ByteArray) → Int → Option Int
  | _, [], _ => none
  | k, p :: r, x => match lastIdx (k + 1) r x with
    | some j => some j
    | none => if x = p.1 then some (k : Int) else none

theorem lastIdx_snoc : ∀ (k : Nat) (l : List (Int × ByteArray)) (p : Int × ByteArray) (x : Int), lastIdx k (l ++ [p]) x = if x = p.1 then some ((k : Int) + l.length) else lastIdx k l x
  | k, [], p, x => by simp [lastIdx]
  | k, q :: r, p, x => by
    simp only [List.cons_append, lastIdx]
    rw [lastIdx_snoc (k + 1) r p x]
    by_cases h : x = p.1
    · simp only [if_pos h, List.length_cons]
      congr 1
      omega
    · simp only [if_neg h]

theorem lastIdx_some : ∀ (k : Nat) (l : List (Int × ByteArray)) (x : Int) (j : Int), lastIdx k l x = some j → ∃ i : Nat, j = k + i ∧ i < l.length ∧ ∃ s, l[i]? = some (x, s)
  | k, [], x, j, h => by simp [lastIdx] at h
  | k, p :: r, x, j, h => by
    simp only [lastIdx] at h
    cases hr : lastIdx (k + 1) r x with
    | some j' =>
      rw [hr] at h
      obtain rfl : j' = j := by simpa using h
      obtain ⟨i, rfl, hi, s, hs⟩ := lastIdx_some (k + 1) r x j' hr
      exact ⟨i + 1, by omega, by simp; omega, s, by simpa using hs⟩
    | none =>
      rw [hr] at h
      by_cases hx : x = p.1
      · simp only [if_pos hx, Option.some.injEq] at h
        exact ⟨0, by omega, by simp, p.2, by simp [hx]⟩
      · simp only [if_neg hx] at h
        cases h

/-- what x holds behind these writes, s ahead of them -/
def seen (x : Int) : List (Int × ByteArray) → ByteArray → ByteArray
  | [], s => s
  | p :: r, s => seen x r (if p.1 = x then p.2 else s)
theorem seen_snoc (x : Int) : ∀ (l : List (Int × ByteArray)) (p : Int × ByteArray) (s : ByteArray), seen x (l ++ [p]) s = if p.1 = x then p.2 else seen x l s
  | [], p, s => rfl
  | q :: r, p, s => by simp only [List.cons_append, seen]; rw [seen_snoc x r p]
theorem lastIdx_seen : ∀ (k : Nat) (l : List (Int × ByteArray)) (x : Int) (s : ByteArray), match lastIdx k l x with
    | some j => ∃ i : Nat, j = k + i ∧ l[i]? = some (x, seen x l s)
    | none => seen x l s = s
  | k, [], x, s => by simp [lastIdx, seen]
  | k, p :: r, x, s => by
    simp only [lastIdx, seen]
    have ih := lastIdx_seen (k + 1) r x (if p.1 = x then p.2 else s)
    cases hr : lastIdx (k + 1) r x with
    | some j =>
      rw [hr] at ih
      obtain ⟨i, rfl, hi⟩ := ih
      exact ⟨i + 1, by omega, by simpa using hi⟩
    | none =>
      rw [hr] at ih
      by_cases hx : x = p.1
      · subst hx
        simp only [if_true] at ih ⊢
        exact ⟨0, by omega, by simp [ih]⟩
      · simp only [if_neg hx]
        rw [if_neg (fun e => hx e.symm)] at ih ⊢
        exact ih

/-- the writes become what lasts, as far as f says so of their numbers -/
def settleTo (f : Nat → Bool) : Nat → List (Int × ByteArray) → List ByteArray → List ByteArray
  | _, [], L => L
  | k, p :: r, L => settleTo f (k + 1) r (if f k then L.set p.1.toNat p.2 else L)
theorem settleTo_snoc (f : Nat → Bool) : ∀ (k : Nat) (l : List (Int × ByteArray)) (p : Int × ByteArray) (L : List ByteArray), settleTo f k (l ++ [p]) L = if f (k + l.length) then (settleTo f k l L).set p.1.toNat p.2 else settleTo f k l L
  | k, [], p, L => by simp [settleTo]
  | k, q :: r, p, L => by
    simp only [List.cons_append, settleTo]
    rw [settleTo_snoc f (k + 1) r p]
    simp only [List.length_cons]
    rw [show k + 1 + r.length = k + (r.length + 1) by omega]
theorem settleTo_length (f : Nat → Bool) : ∀ (k : Nat) (l : List (Int × ByteArray)) (L : List ByteArray), (settleTo f k l L).length = L.length
  | _, [], _ => rfl
  | k, p :: r, L => by
    simp only [settleTo]
    rw [settleTo_length f (k + 1) r]
    split <;> simp

def maskBit (m : Int) (k : Nat) : Bool := bits BinOp.and IntKind.u64 (m / 2 ^ (k % 64)) 1 == 1

/-! ### the operations -/
def DiskM.wrong (D : DiskM) (i : Int) : Int := if D.off then 7 else if i < 0 ∨ D.lasts.length ≤ i then 1 else 0
def DiskM.read (D : DiskM) (i : Int) : ByteArray × Int := if D.wrong i = 0 then (seen i D.waits (D.lasts.getD i.toNat ⟨#[]⟩), 0) else (⟨#[]⟩, D.wrong i)
def DiskM.fail (D : DiskM) (m : Int) : DiskM := if D.off then D else { D with lasts := settleTo (maskBit m) 0 D.waits D.lasts, waits := [], off := true }
def DiskM.cut (D : DiskM) : DiskM × Bool :=
  if D.pon = false then ({ D with ops := wrap64 (D.ops + 1) }, false)
  else if 0 < D.after then ({ D with ops := wrap64 (D.ops + 1), after := wrap64 (D.after - 1) }, false)
  else (({ D with ops := wrap64 (D.ops + 1), pon := false } : DiskM).fail D.mask, true)
def DiskM.write (D : DiskM) (i : Int) (s : ByteArray) : DiskM × Int :=
  if D.wrong i ≠ 0 then (D, D.wrong i) else if s.size ≠ 64 then (D, 1)
  else ((({ D with waits := D.waits ++ [(i, s)] } : DiskM).cut).1, if (({ D with waits := D.waits ++ [(i, s)] } : DiskM).cut).2 then 7 else 0)
def DiskM.sync (D : DiskM) : DiskM × Int :=
  if D.wrong 0 ≠ 0 then (D, D.wrong 0)
  else if D.cut.2 then (D.cut.1, 7)
  else ({ D.cut.1 with lasts := settleTo (fun _ => true) 0 D.cut.1.waits D.cut.1.lasts, waits := [] }, 0)
def DiskM.plan (D : DiskM) (k m : Int) : DiskM × Int := if k < 0 then (D, 1) else ({ D with pon := true, after := k, mask := m }, 0)
def DiskM.start (D : DiskM) : DiskM := { D with off := false }
def zeros (n : Nat) : ByteArray := ⟨Array.replicate n 0⟩
def DiskM.new (n : Nat) : DiskM := ⟨List.replicate n (zeros 64), [], false, 0, false, 0, 0⟩

/-- What holds of every disk that New gave, whatever was done. -/
structure DiskM.Ok (D : DiskM) : Prop where
  len : 16 ≤ D.lasts.length ∧ D.lasts.length ≤ 512
  inr : ∀ p ∈ D.waits, 0 ≤ p.1 ∧ p.1 < D.lasts.length

/-! ### cells -/
def strs (l : List ByteArray) : List Value := l.map fun s => .string s
def wcells (l : List (Int × ByteArray)) : List Value := l.flatMap fun p => [.int .i64 p.1, .string p.2]
theorem strs_len (l : List ByteArray) : (strs l).length = l.length := by simp [strs]
theorem strs_get (l : List ByteArray) (k : Nat) (h : k < l.length) : (strs l)[k]? = some (.string (l.getD k ⟨#[]⟩)) := by
  simp [strs, h]
theorem wcells_len : ∀ l : List (Int × ByteArray), (wcells l).length = l.length * 2
  | [] => rfl
  | p :: r => by simp [wcells] at *; have := wcells_len r; simp [wcells] at this; omega
theorem wcells_get : ∀ (l : List (Int × ByteArray)) (k : Nat) (p : Int × ByteArray), l[k]? = some p → (wcells l)[k * 2]? = some (.int .i64 p.1) ∧ (wcells l)[k * 2 + 1]? = some (.string p.2)
  | [], k, p, h => by simp at h
  | q :: r, 0, p, h => by simp at h; subst h; simp [wcells]
  | q :: r, k + 1, p, h => by
    have := wcells_get r k p (by simpa using h)
    have e1 : (k + 1) * 2 = k * 2 + 2 := by omega
    have e2 : (k + 1) * 2 + 1 = k * 2 + 1 + 2 := by omega
    rw [e2, e1]
    simpa [wcells] using this
theorem wcells_snoc (l : List (Int × ByteArray)) (i : Int) (s : ByteArray) : wcells (l ++ [(i, s)]) = wcells l ++ [.int .i64 i, .string s] := by simp [wcells]
theorem strs_set (l : List ByteArray) (k : Nat) (s : ByteArray) : strs (l.set k s) = (strs l).set k (.string s) := by simp [strs, List.map_set]
end Go.Proofs.Ytpcceinjifdgnaa
