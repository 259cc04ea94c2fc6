/- DiskLasts, walked: what was synced lasts, whatever fails behind it; each block has then what lasted, or the bytes of one of the writes to it that waited. -/
import Derived.Test.YtfdikdacknfoeaaDiskO
import Derived.Test.YtfdikdacknfoeaaArgs
namespace Go.Proofs.Ytfdikdacknfoeaa
open Go.RowKit Zb

def mkD (L : List ByteArray) (W : List (Int × ByteArray)) (o : Int) : DiskM := ⟨L, W, false, o, false, 0, 0⟩
theorem mkD_write (L : List ByteArray) (W : List (Int × ByteArray)) (o i : Int) (s : ByteArray) (h0 : 0 ≤ i) (h1 : i < L.length) (hs : s.size = 64) : (mkD L W o).write i s = (mkD L (W ++ [(i, s)]) (wrap64 (o + 1)), 0) := by
  have hwr : (mkD L W o).wrong i = 0 := by
    unfold DiskM.wrong
    rw [if_neg (by simp [mkD]), if_neg (by simp only [mkD]; omega)]
  unfold DiskM.write
  rw [if_neg (by rw [hwr]; omega), if_neg (by omega)]
  simp [DiskM.cut, mkD]
theorem mkD_sync (L : List ByteArray) (W : List (Int × ByteArray)) (o : Int) (h1 : 0 < L.length) : (mkD L W o).sync = (mkD (settleTo (fun _ => true) 0 W L) [] (wrap64 (o + 1)), 0) := by
  have hwr : (mkD L W o).wrong 0 = 0 := by
    unfold DiskM.wrong
    rw [if_neg (by simp [mkD]), if_neg (by simp only [mkD]; omega)]
  unfold DiskM.sync
  rw [if_neg (by rw [hwr]; omega)]
  simp [DiskM.cut, mkD]
theorem mkD_read (L : List ByteArray) (W : List (Int × ByteArray)) (o i : Int) (h0 : 0 ≤ i) (h1 : i < L.length) : (mkD L W o).read i = (seen i W (L.getD i.toNat ⟨#[]⟩), 0) := by
  have hwr : (mkD L W o).wrong i = 0 := by
    unfold DiskM.wrong
    rw [if_neg (by simp [mkD]), if_neg (by simp only [mkD]; omega)]
  unfold DiskM.read
  rw [if_pos hwr]
  rfl
theorem mkD_fail (L : List ByteArray) (W : List (Int × ByteArray)) (o m : Int) : ((mkD L W o).fail m).start = mkD (settleTo (maskBit m) 0 W L) [] o := by simp [DiskM.fail, mkD, DiskM.start]
theorem mkD_fail_off (L : List ByteArray) (W : List (Int × ByteArray)) (o m : Int) : ((mkD L W o).fail m).off = true := by simp [DiskM.fail, mkD]

/-- the writes to block k -/
def mayOf (W : List (Int × ByteArray)) (k : Nat) : List ByteArray := (W.filter fun p => p.1 == (k : Int)).map (·.2)
theorem mayOf_snoc (W : List (Int × ByteArray)) (i : Int) (s : ByteArray) (k : Nat) : mayOf (W ++ [(i, s)]) k = if i = (k : Int) then mayOf W k ++ [s] else mayOf W k := by
  unfold mayOf
  rw [List.filter_append]
  by_cases h : i = (k : Int)
  · simp [h]
  · simp [h]
theorem mayOf_le (W : List (Int × ByteArray)) (k : Nat) : (mayOf W k).length ≤ W.length := by unfold mayOf; rw [List.length_map]; exact List.length_filter_le _ _
theorem settle_may (f : Nat → Bool) : ∀ (W : List (Int × ByteArray)) (n : Nat) (L : List ByteArray) (k : Nat), k < L.length → (∀ p ∈ W, 0 ≤ p.1) → (settleTo f n W L).getD k ⟨#[]⟩ = L.getD k ⟨#[]⟩ ∨ (settleTo f n W L).getD k ⟨#[]⟩ ∈ mayOf W k
  | [], _, _, _, _, _ => .inl rfl
  | p :: r, n, L, k, hk, h0 => by
    simp only [settleTo]
    have hp := h0 p (by simp)
    have hm : ∀ s, s ∈ mayOf r k → s ∈ mayOf (p :: r) k := fun s hs => by
      unfold mayOf at *
      rw [List.filter_cons]
      split
      · simp at hs ⊢; exact .inr hs
      · exact hs
    rcases settle_may f r (n + 1) (if f n = true then L.set p.1.toNat p.2 else L) k (by split <;> simpa using hk) (fun q hq => h0 q (by simp [hq])) with h | h
    · rw [h]
      split
      · by_cases hpk : p.1.toNat = k
        · right
          have : (L.set p.1.toNat p.2).getD k ⟨#[]⟩ = p.2 := by simp [List.getD, hpk, hk]
          rw [this]
          unfold mayOf
          rw [List.filter_cons, if_pos (by simp; omega)]
          simp
        · left
          simp [List.getD, hpk]
      · exact .inl rfl
    · exact .inr (hm _ h)
theorem maskBit_zero (k : Nat) : maskBit 0 k = false := by
  unfold maskBit
  rw [Int.zero_ediv]
  rfl
theorem settle_zero : ∀ (W : List (Int × ByteArray)) (n : Nat) (L : List ByteArray), settleTo (maskBit 0) n W L = L
  | [], _, _ => rfl
  | p :: r, n, L => by simp [settleTo, maskBit_zero, settle_zero r (n + 1) L]

structure Ls0Inv (w : World) (b g g2 : Nat) (k : Nat) (wr : World) : Prop where
  d : DO w.heap.size w wr b (DiskM.new 16) (fun x => x = g ∨ x = g2)
  c : Blk wr g 28 (strs (List.replicate k (zeros 64) ++ List.replicate (16 - k) ⟨#[]⟩)).toArray
  c2 : Blk wr g2 30 (List.replicate 16 (.slice none 0 0)).toArray
structure Ls1Inv (w : World) (b g g2 : Nat) (k : Nat) (wr : World) : Prop where
  ex : ∃ W o, W.length = k ∧ DO w.heap.size w wr b (mkD (List.replicate 16 (zeros 64)) W o) (fun x => x = g ∨ x = g2) ∧
    Blk wr g 28 (strs (settleTo (fun _ => true) 0 W (List.replicate 16 (zeros 64)))).toArray ∧ Blk wr g2 30 (List.replicate 16 (.slice none 0 0)).toArray
structure MayRows (g2 : Nat) (W : List (Int × ByteArray)) (mv : Nat → Value) (wr : World) : Prop where
  c2 : Blk wr g2 30 ((List.range 16).map mv).toArray
  rows : ∀ k, k < 16 → Row wr 9 1 (mv k) (mayOf W k).length (strs (mayOf W k))
  ne : ∀ k k', k < 16 → k' < 16 → k ≠ k' → ∀ x, (mv k).ownBlock = some x → (mv k').ownBlock ≠ some x
def mayG (g g2 : Nat) (mv : Nat → Value) (x : Nat) : Prop := x = g ∨ x = g2 ∨ ∃ k, k < 16 ∧ (mv k).ownBlock = some x
structure Ls2Inv (w : World) (b g g2 : Nat) (L : List ByteArray) (k : Nat) (wr : World) : Prop where
  ex : ∃ W o mv, W.length = k ∧ (∀ p ∈ W, 0 ≤ p.1) ∧ DO w.heap.size w wr b (mkD L W o) (mayG g g2 mv) ∧ Blk wr g 28 (strs L).toArray ∧ MayRows g2 W mv wr

theorem MayRows.keeps {g g2 : Nat} {W : List (Int × ByteArray)} {mv : Nat → Value} {w w' : World} (h : MayRows g2 W mv w) (k : Keeps (mayG g g2 mv) w w') : MayRows g2 W mv w' :=
  ⟨(k g2 (.inr (.inl rfl))).trans h.c2, fun j hj => row_of (h.rows j hj) fun x hx => k x (.inr (.inr ⟨j, hj, hx⟩)), h.ne⟩
/-- one more write to block i: its slice's new value v' lies in the row that it had, or in a new block -/
theorem MayRows.app {g2 : Nat} {W : List (Int × ByteArray)} {mv : Nat → Value} {w wa w2 : World} (h : MayRows g2 W mv w) {i : Nat} (hi : i < 16) {s : ByteArray} {v' : Value}
    (ha : ∀ x, x < w.heap.size → wa.heap[x]? = w.heap[x]?) (hsz : w.heap.size ≤ wa.heap.size) (hr : Row w2 9 1 v' ((mayOf W i).length + 1) (strs (mayOf W i) ++ [.string s])) (hg : wa.grownBy w2 (mv i).ownBlock)
    (hat : v'.ownBlock = (mv i).ownBlock ∨ v'.ownBlock = some wa.heap.size) :
    MayRows g2 (W ++ [((i : Int), s)]) (fun j => if j = i then v' else mv j) (w2.setCell ⟨g2, i, none⟩ v') := by
  have hc2a : Blk wa g2 30 ((List.range 16).map mv).toArray := (ha g2 h.c2.lt).trans h.c2
  have hrow : (mv i).ownBlock ≠ some g2 := row_blk_ne (h.rows i hi) h.c2 (by decide)
  have hc2b := hc2a.grown hg (fun e => hrow e.symm)
  have hv2 : v'.ownBlock ≠ some g2 := by
    rcases hat with e | e
    · rw [e]; exact hrow
    · rw [e]; intro e2; have := hc2a.lt; simp at e2; omega
  refine ⟨?_, fun k hk => ?_, fun k k' hk hk' hne x hx => ?_⟩
  · have := hc2b.set_ i v'
    have e : (((List.range 16).map mv).toArray).setIfInBounds i v' = ((List.range 16).map fun j => if j = i then v' else mv j).toArray := by
      rw [List.setIfInBounds_toArray]
      congr 1
      apply List.ext_getElem?
      intro j
      rw [List.getElem?_set]
      by_cases hji : i = j
      · subst hji; simp [hi]
      · rw [if_neg hji]
        simp only [List.getElem?_map]
        cases hr : (List.range 16)[j]? with
        | none => rfl
        | some y =>
          have hy : y = j := by
            rw [List.getElem?_eq_some_iff] at hr
            obtain ⟨_, h2⟩ := hr
            simpa using h2.symm
          subst hy
          simp [Ne.symm hji]
    rw [e] at this
    exact this
  · by_cases hki : k = i
    · subst hki
      rw [if_pos rfl, mayOf_snoc, if_pos rfl]
      have := row_set (p := ⟨g2, k, none⟩) hr hv2 v'
      simpa [strs] using this
    · rw [if_neg hki, mayOf_snoc, if_neg (by omega)]
      have h1 : Row wa 9 1 (mv k) (mayOf W k).length (strs (mayOf W k)) := row_of (h.rows k hk) fun x hx => ha x (row_lt (h.rows k hk) x hx)
      have h2 : Row w2 9 1 (mv k) (mayOf W k).length (strs (mayOf W k)) := row_of h1 fun x hx => hg.block x (row_lt h1 x hx) (fun e => h.ne k i hk hi hki x hx e.symm)
      exact row_set h2 (row_blk_ne h2 hc2b (by decide)) v'
  · have hnew : ∀ j, j < 16 → ∀ y, (mv j).ownBlock = some y → y ≠ wa.heap.size := fun j hj y hy e => by have := row_lt (h.rows j hj) y hy; omega
    by_cases hki : k = i
    · subst hki
      rw [if_pos rfl] at hx
      rw [if_neg (Ne.symm hne)]
      rcases hat with e | e
      · rw [e] at hx; exact h.ne k k' hk hk' hne x hx
      · rw [e] at hx; obtain rfl := Option.some.inj hx; exact fun e2 => hnew k' hk' _ e2 rfl
    · rw [if_neg hki] at hx
      by_cases hk'i : k' = i
      · subst hk'i
        rw [if_pos rfl]
        rcases hat with e | e
        · rw [e]; exact h.ne k k' hk hk' hne x hx
        · rw [e]; intro e2; exact hnew k hk x hx (Option.some.inj e2).symm
      · rw [if_neg hk'i]; exact h.ne k k' hk hk' hne x hx
end Go.Proofs.Ytfdikdacknfoeaa
