/- Chapter 6: the pure model of slots over the disk's model. No program's text. -/
import Derived.Test.YtpcceinjifdgnaaDiskM
namespace Go.Proofs.Ytpcceinjifdgnaa
open Go.RowKit Zb

/-- block i of a text: its 64 bytes from there on, or what is left of it and bytes 0 -/
def blockB (s : ByteArray) (i : Nat) : ByteArray := ⟨((s.data.toList.drop (64 * i)).take 64 ++ List.replicate (64 - ((s.data.toList.drop (64 * i)).take 64).length) 0).toArray⟩
theorem blockB_size (s : ByteArray) (i : Nat) : (blockB s i).size = 64 := by
  show ((s.data.toList.drop (64 * i)).take 64 ++ _).toArray.size = 64
  have : ((s.data.toList.drop (64 * i)).take 64).length ≤ 64 := List.length_take_le _ _
  rw [List.size_toArray, List.length_append, List.length_replicate]
  omega
def cntB (n : Nat) : Nat := (n + 63) / 64
def blocksB (s : ByteArray) : List ByteArray := (List.range (cntB s.size)).map (blockB s)
theorem blocksB_length (s : ByteArray) : (blocksB s).length = cntB s.size := by simp [blocksB]
theorem blocksB_drop (s : ByteArray) (k : Nat) (h : k < cntB s.size) : (blocksB s).drop k = blockB s k :: (blocksB s).drop (k + 1) := by
  have hl : k < (blocksB s).length := by rw [blocksB_length]; exact h
  rw [List.drop_eq_getElem_cons hl]
  congr 1
  simp [blocksB]
theorem blocksB_end (s : ByteArray) (k : Nat) (h : cntB s.size ≤ k) : (blocksB s).drop k = [] := List.drop_eq_nil_of_le (by rw [blocksB_length]; exact h)

/-- blocks of a slot -/
def slotN (D : DiskM) : Nat := (D.lasts.length - 8) / 2
/-- blocks are written one behind the other; then they are made to last -/
def writeLoop : DiskM → Nat → List ByteArray → DiskM × Int
  | D, _, [] => D.sync
  | D, at_, b :: r => if (D.write at_ b).2 = 0 then writeLoop (D.write at_ b).1 (at_ + 1) r else D.write at_ b
def slotWrite (D : DiskM) (slot : Int) (s : ByteArray) : DiskM × Int :=
  if slot < 0 ∨ 2 ≤ slot then (D, 1) else if slotN D * 64 < s.size then (D, 6) else writeLoop D (8 + slot.toNat * slotN D) (blocksB s)
/-- so many blocks from a place on, one behind the other -/
def readLoop : DiskM → Nat → Nat → ByteArray → ByteArray × Int
  | _, _, 0, acc => (acc, 0)
  | D, at_, k + 1, acc => if (D.read at_).2 = 0 then readLoop D (at_ + 1) k (acc ++ (D.read at_).1) else (⟨#[]⟩, (D.read at_).2)
def slotRead (D : DiskM) (slot size : Int) : ByteArray × Int :=
  if slot < 0 ∨ 2 ≤ slot then (⟨#[]⟩, 1) else if size < 0 ∨ slotN D * 64 < size.toNat then (⟨#[]⟩, 1)
  else if (readLoop D (8 + slot.toNat * slotN D) (cntB size.toNat) ⟨#[]⟩).2 = 0 then ((readLoop D (8 + slot.toNat * slotN D) (cntB size.toNat) ⟨#[]⟩).1.extract 0 size.toNat, 0)
  else (⟨#[]⟩, (readLoop D (8 + slot.toNat * slotN D) (cntB size.toNat) ⟨#[]⟩).2)

/-- each block has 64 bytes -/
structure Full64 (D : DiskM) : Prop where
  l : ∀ b ∈ D.lasts, b.size = 64
  w : ∀ p ∈ D.waits, p.2.size = 64

theorem settleTo_mem (f : Nat → Bool) : ∀ (k : Nat) (W : List (Int × ByteArray)) (L : List ByteArray), (∀ b ∈ L, b.size = 64) → (∀ p ∈ W, p.2.size = 64) → ∀ b ∈ settleTo f k W L, b.size = 64
  | _, [], _, hL, _ => hL
  | k, p :: W, L, hL, hW => by
    refine settleTo_mem f (k + 1) W _ ?_ (fun q hq => hW q (List.mem_cons_of_mem _ hq))
    split
    · intro b hb
      rcases List.mem_or_eq_of_mem_set hb with h | h
      · exact hL b h
      · rw [h]; exact hW p (List.mem_cons_self ..)
    · exact hL
section
variable {D : DiskM}
theorem Full64.new (n : Nat) : Full64 (DiskM.new n) := ⟨by
  intro b hb
  have : b = zeros 64 := List.eq_of_mem_replicate hb
  rw [this]
  simp [zeros, ByteArray.size], by simp [DiskM.new]⟩
theorem Full64.fail (h : Full64 D) (m : Int) : Full64 (D.fail m) := by
  unfold DiskM.fail
  split
  · exact h
  · exact ⟨settleTo_mem _ _ _ _ h.l h.w, by simp⟩
theorem Full64.cut (h : Full64 D) : Full64 D.cut.1 := by
  unfold DiskM.cut
  split
  · exact ⟨h.l, h.w⟩
  · split
    · exact ⟨h.l, h.w⟩
    · exact Full64.fail (D := { D with ops := wrap64 (D.ops + 1), pon := false }) ⟨h.l, h.w⟩ _
theorem Full64.write (h : Full64 D) (i : Int) (s : ByteArray) : Full64 (D.write i s).1 := by
  unfold DiskM.write
  split
  · exact h
  · split
    · exact h
    · rename_i hs
      refine Full64.cut ⟨h.l, fun p hp => ?_⟩
      rcases List.mem_append.1 hp with hp | hp
      · exact h.w p hp
      · obtain rfl : p = (i, s) := by simpa using hp
        simpa using hs
theorem Full64.sync (h : Full64 D) : Full64 D.sync.1 := by
  unfold DiskM.sync
  split
  · exact h
  · split
    · exact h.cut
    · exact ⟨settleTo_mem _ _ _ _ h.cut.l h.cut.w, by simp⟩
theorem Full64.plan (h : Full64 D) (k m : Int) : Full64 (D.plan k m).1 := by
  unfold DiskM.plan
  split
  · exact h
  · exact ⟨h.l, h.w⟩
theorem Full64.start (h : Full64 D) : Full64 D.start := ⟨h.l, h.w⟩
theorem seen_size (x : Int) : ∀ (W : List (Int × ByteArray)) (s : ByteArray), s.size = 64 → (∀ p ∈ W, p.2.size = 64) → (seen x W s).size = 64
  | [], _, h, _ => h
  | p :: W, s, h, hW => by
    refine seen_size x W _ ?_ (fun q hq => hW q (List.mem_cons_of_mem _ hq))
    split
    · exact hW p (List.mem_cons_self ..)
    · exact h
theorem Full64.read (h : Full64 D) (i : Int) (h0 : (D.read i).2 = 0) : (D.read i).1.size = 64 := by
  unfold DiskM.read at h0 ⊢
  split at h0
  · rename_i hw
    rw [if_pos hw]
    have hi : 0 ≤ i ∧ i < D.lasts.length := by
      unfold DiskM.wrong at hw
      split at hw
      · omega
      · split at hw
        · omega
        · omega
    refine seen_size _ _ _ ?_ h.w
    have hlt : i.toNat < D.lasts.length := by omega
    rw [List.getD_eq_getElem?_getD, List.getElem?_eq_getElem hlt]
    exact h.l _ (List.getElem_mem hlt)
  · rename_i hw
    exact absurd h0 hw
theorem write_len (i : Int) (s : ByteArray) : (D.write i s).1.lasts.length = D.lasts.length := by
  unfold DiskM.write
  split
  · rfl
  · split
    · rfl
    · unfold DiskM.cut
      split
      · rfl
      · split
        · rfl
        · unfold DiskM.fail
          split
          · rfl
          · simp only [settleTo_length]
theorem write_grows (i : Int) (s : ByteArray) : (D.write i s).1.waits.length ≤ D.waits.length + 1 := by
  unfold DiskM.write
  split
  · simp
  · split
    · simp
    · unfold DiskM.cut
      split
      · simp
      · split
        · simp
        · unfold DiskM.fail
          split <;> simp
end
/-- the whole of a loop is what is left of it -/
theorem writeLoop_step (D : DiskM) (at_ : Nat) (s : ByteArray) (k : Nat) (h : k < cntB s.size) : writeLoop D at_ ((blocksB s).drop k) = if (D.write at_ (blockB s k)).2 = 0 then writeLoop (D.write at_ (blockB s k)).1 (at_ + 1) ((blocksB s).drop (k + 1)) else D.write at_ (blockB s k) := by
  rw [blocksB_drop s k h]
  rfl
end Go.Proofs.Ytpcceinjifdgnaa
