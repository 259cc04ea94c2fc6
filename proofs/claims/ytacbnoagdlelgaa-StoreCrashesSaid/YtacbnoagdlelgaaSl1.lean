/- Several texts in one: SlotM, SlotA, SlotB, SlotC. -/
import Derived.Test.YtacbnoagdlelgaaDk1
import Derived.Test.YtacbnoagdlelgaaBufC
import Derived.Test.YtacbnoagdlelgaaHeld
import Derived.IntWalk
/- Chapter 6: the pure model of slots over the disk's model. No program's text. -/
namespace Go.Proofs.Ytacbnoagdlelgaa
open Go.RowKit Zb

/-- block i of a text: its 64 bytes from there on, or what is left of it and bytes 0 -/
def blockB (s : ByteArray) (i : Nat) : ByteArray := ⟨((s.data.toList.drop (64 * i)).take 64 ++ List.replicate (64 - ((s.data.toList.drop (64 * i)).take 64).length) 0).toArray⟩
set_option maxRecDepth 20000 in
theorem blockB_size (s : ByteArray) (i : Nat) : (blockB s i).size = 64 := by
  show ((s.data.toList.drop (64 * i)).take 64 ++ _).toArray.size = 64
  have : ((s.data.toList.drop (64 * i)).take 64).length ≤ 64 := List.length_take_le _ _
  rw [List.size_toArray, List.length_append, List.length_replicate]
  omega
def cntB (n : Nat) : Nat := (n + 63) / 64
def blocksB (s : ByteArray) : List ByteArray := (List.range (cntB s.size)).map (blockB s)
set_option maxRecDepth 20000 in
theorem blocksB_length (s : ByteArray) : (blocksB s).length = cntB s.size := by simp [blocksB]
set_option maxRecDepth 20000 in
theorem blocksB_drop (s : ByteArray) (k : Nat) (h : k < cntB s.size) : (blocksB s).drop k = blockB s k :: (blocksB s).drop (k + 1) := by
  have hl : k < (blocksB s).length := by rw [blocksB_length]; exact h
  rw [List.drop_eq_getElem_cons hl]
  congr 1
  simp [blocksB]
set_option maxRecDepth 20000 in
theorem blocksB_end (s : ByteArray) (k : Nat) (h : cntB s.size ≤ k) : (blocksB s).drop k = [] := List.drop_eq_nil_of_le (by rw [blocksB_length]; exact h)

/-- blocks of a slot -/
def slotN (D : DiskM) : Nat := (D.lasts.length - 8) / 2
/-- blocks are written one behind the other; then they are made to last -/
def writeLoop : DiskM → Nat → List ByteArray → DiskM × Int
  | D, _, [] => D.sync
  | D, at_, b :: r => if (D.write at_ b).2 = 0 then writeLoop (D.write at_ b).1 (at_ + 1) r else D.write at_ b
def slotWrite (D : DiskM) (slot : Int) (s : ByteArray) : DiskM × Int :=
  if slot < 0 ∨ 2 ≤ slot then (D, 1) else if slotN D * 64 < s.size then (D, 6) else writeLoop D (8 + slot.toNat * slotN D) (blocksB s)
/-- so many blocks from a place on, one behind the other -/
def readLoop : DiskM → Nat → Nat → ByteArray → ByteArray × Int
  | _, _, 0, acc => (acc, 0)
  | D, at_, k + 1, acc => if (D.read at_).2 = 0 then readLoop D (at_ + 1) k (acc ++ (D.read at_).1) else (⟨#[]⟩, (D.read at_).2)
def slotRead (D : DiskM) (slot size : Int) : ByteArray × Int :=
  if slot < 0 ∨ 2 ≤ slot then (⟨#[]⟩, 1) else if size < 0 ∨ slotN D * 64 < size.toNat then (⟨#[]⟩, 1)
  else if (readLoop D (8 + slot.toNat * slotN D) (cntB size.toNat) ⟨#[]⟩).2 = 0 then ((readLoop D (8 + slot.toNat * slotN D) (cntB size.toNat) ⟨#[]⟩).1.extract 0 size.toNat, 0)
  else (⟨#[]⟩, (readLoop D (8 + slot.toNat * slotN D) (cntB size.toNat) ⟨#[]⟩).2)

/-- each block has 64 bytes -/
structure Full64 (D : DiskM) : Prop where
  l : ∀ b ∈ D.lasts, b.size = 64
  w : ∀ p ∈ D.waits, p.2.size = 64

set_option maxRecDepth 20000 in
theorem settleTo_mem (f : Nat → Bool) : ∀ (k : Nat) (W : List (Int × ByteArray)) (L : List ByteArray), (∀ b ∈ L, b.size = 64) → (∀ p ∈ W, p.2.size = 64) → ∀ b ∈ settleTo f k W L, b.size = 64
  | _, [], _, hL, _ => hL
  | k, p :: W, L, hL, hW => by
    refine settleTo_mem f (k + 1) W _ ?_ (fun q hq => hW q (List.mem_cons_of_mem _ hq))
    split
    · intro b hb
      rcases List.mem_or_eq_of_mem_set hb with h | h
      · exact hL b h
      · rw [h]; exact hW p (List.mem_cons_self ..)
    · exact hL
section
variable {D : DiskM}
set_option maxRecDepth 20000 in
theorem Full64.new (n : Nat) : Full64 (DiskM.new n) := ⟨by
  intro b hb
  have : b = zeros 64 := List.eq_of_mem_replicate hb
  rw [this]
  simp [zeros, ByteArray.size], by simp [DiskM.new]⟩
set_option maxRecDepth 20000 in
theorem Full64.fail (h : Full64 D) (m : Int) : Full64 (D.fail m) := by
  unfold DiskM.fail
  split
  · exact h
  · exact ⟨settleTo_mem _ _ _ _ h.l h.w, by simp⟩
set_option maxRecDepth 20000 in
theorem Full64.cut (h : Full64 D) : Full64 D.cut.1 := by
  unfold DiskM.cut
  split
  · exact ⟨h.l, h.w⟩
  · split
    · exact ⟨h.l, h.w⟩
    · exact Full64.fail (D := { D with ops := wrap64 (D.ops + 1), pon := false }) ⟨h.l, h.w⟩ _
set_option maxRecDepth 20000 in
theorem Full64.write (h : Full64 D) (i : Int) (s : ByteArray) : Full64 (D.write i s).1 := by
  unfold DiskM.write
  split
  · exact h
  · split
    · exact h
    · rename_i hs
      refine Full64.cut ⟨h.l, fun p hp => ?_⟩
      rcases List.mem_append.1 hp with hp | hp
      · exact h.w p hp
      · obtain rfl : p = (i, s) := by simpa using hp
        simpa using hs
set_option maxRecDepth 20000 in
theorem Full64.sync (h : Full64 D) : Full64 D.sync.1 := by
  unfold DiskM.sync
  split
  · exact h
  · split
    · exact h.cut
    · exact ⟨settleTo_mem _ _ _ _ h.cut.l h.cut.w, by simp⟩
set_option maxRecDepth 20000 in
theorem Full64.plan (h : Full64 D) (k m : Int) : Full64 (D.plan k m).1 := by
  unfold DiskM.plan
  split
  · exact h
  · exact ⟨h.l, h.w⟩
set_option maxRecDepth 20000 in
theorem Full64.start (h : Full64 D) : Full64 D.start := ⟨h.l, h.w⟩
set_option maxRecDepth 20000 in
theorem seen_size (x : Int) : ∀ (W : List (Int × ByteArray)) (s : ByteArray), s.size = 64 → (∀ p ∈ W, p.2.size = 64) → (seen x W s).size = 64
  | [], _, h, _ => h
  | p :: W, s, h, hW => by
    refine seen_size x W _ ?_ (fun q hq => hW q (List.mem_cons_of_mem _ hq))
    split
    · exact hW p (List.mem_cons_self ..)
    · exact h
set_option maxRecDepth 20000 in
theorem Full64.read (h : Full64 D) (i : Int) (h0 : (D.read i).2 = 0) : (D.read i).1.size = 64 := by
  unfold DiskM.read at h0 ⊢
  split at h0
  · rename_i hw
    rw [if_pos hw]
    have hi : 0 ≤ i ∧ i < D.lasts.length := by
      unfold DiskM.wrong at hw
      split at hw
      · omega
      · split at hw
        · omega
        · omega
    refine seen_size _ _ _ ?_ h.w
    have hlt : i.toNat < D.lasts.length := by omega
    rw [List.getD_eq_getElem?_getD, List.getElem?_eq_getElem hlt]
    exact h.l _ (List.getElem_mem hlt)
  · rename_i hw
    exact absurd h0 hw
set_option maxRecDepth 20000 in
theorem write_len (i : Int) (s : ByteArray) : (D.write i s).1.lasts.length = D.lasts.length := by
  unfold DiskM.write
  split
  · rfl
  · split
    · rfl
    · unfold DiskM.cut
      split
      · rfl
      · split
        · rfl
        · unfold DiskM.fail
          split
          · rfl
          · simp only [settleTo_length]
set_option maxRecDepth 20000 in
theorem write_grows (i : Int) (s : ByteArray) : (D.write i s).1.waits.length ≤ D.waits.length + 1 := by
  unfold DiskM.write
  split
  · simp
  · split
    · simp
    · unfold DiskM.cut
      split
      · simp
      · split
        · simp
        · unfold DiskM.fail
          split <;> simp
end
/-- the whole of a loop is what is left of it -/
theorem writeLoop_step (D : DiskM) (at_ : Nat) (s : ByteArray) (k : Nat) (h : k < cntB s.size) : writeLoop D at_ ((blocksB s).drop k) = if (D.write at_ (blockB s k)).2 = 0 then writeLoop (D.write at_ (blockB s k)).1 (at_ + 1) ((blocksB s).drop (k + 1)) else D.write at_ (blockB s k) := by
  rw [blocksB_drop s k h]
  rfl
end Go.Proofs.Ytacbnoagdlelgaa

/- Chapter 6: slots' small functions, Write. -/
namespace Go.Proofs.Ytacbnoagdlelgaa
open Go.RowKit Zb

/-- The disk D, at b, behind w: only F's blocks and new ones have turned. -/
def DSt (F : Nat → Prop) (w : World) (b : Nat) (D : DiskM) (wr : World) : Prop := Turned F w wr ∧ ∃ F', (∀ x, F' x → F x ∨ w.heap.size ≤ x) ∧ DiskAt wr b F' D
section
variable {F : Nat → Prop} {w wr w' : World} {b : Nat} {D D' : DiskM}
set_option maxRecDepth 20000 in
theorem DSt.refl (h : DiskAt w b F D) : DSt F w b D w := ⟨.refl _ _, F, fun _ h => .inl h, h⟩
set_option maxRecDepth 20000 in
theorem DSt.below (h : DSt F w b D wr) (k : Below wr.heap.size wr w') : DSt F w b D w' := by
  obtain ⟨tu, F', hF, hd⟩ := h
  exact ⟨tu.then_below k, F', hF, hd.below k⟩
set_option maxRecDepth 20000 in
theorem DSt.op {f : FuncId} {args : Array Value} {v : Value} (h : DSt F w b D wr) (hc : ∀ G, DiskAt wr b G D → Calls Try.prog f args wr (DPost G wr b v D')) :
    Calls Try.prog f args wr fun e w' => e = .returned v ∧ Hid (DSt F w b D' w') := by
  obtain ⟨tu, F', hF, hd⟩ := h
  refine (hc F' hd).mono ?_
  rintro e w1 ⟨rfl, tu2, F2, hF2, hd2⟩
  have := tu.size
  refine ⟨rfl, hide ⟨tu.trans tu2 hF, F2, fun x hx => ?_, hd2⟩⟩
  rcases hF2 x hx with h | h
  · exact hF x h
  · exact .inr (by omega)
set_option maxRecDepth 20000 in
theorem DSt.quiet {f : FuncId} {args : Array Value} {v : Value} (h : DSt F w b D wr) (hc : ∀ G, DiskAt wr b G D → Calls Try.prog f args wr fun e w' => e = .returned v ∧ wr = w') :
    Calls Try.prog f args wr fun e w' => e = .returned v ∧ wr = w' := by
  obtain ⟨_, F', _, hd⟩ := h
  exact hc F' hd
set_option maxRecDepth 20000 in
theorem DSt.post {v : Value} (h : DSt F w b D wr) : DPost F w b v D (.returned v) wr := ⟨rfl, h.1, h.2⟩
set_option maxRecDepth 20000 in
theorem DSt.at_ (h : DSt F w b D wr) : ∃ G, DiskAt wr b G D := by obtain ⟨_, F', _, hd⟩ := h; exact ⟨F', hd⟩
end

set_option maxRecDepth 20000 in
theorem ret_int9 {k : IntKind} {a b : Int} (h : a = b) : Ending.returned (.int k a) = Ending.returned (.int k b) := by rw [h]
section
variable {w : World} {b : Nat} {F : Nat → Prop} {D : DiskM}
set_option maxRecDepth 20000 in
theorem slotN_lim (h : DiskAt w b F D) : 4 ≤ slotN D ∧ slotN D ≤ 252 := by
  have := h.ok.len
  unfold slotN
  omega
set_option maxRecDepth 20000 in
theorem sblocks_calls (h : DiskAt w b F D) : Calls Try.prog 54 #[.pointer (some ⟨b, 0, none⟩)] w fun e w' => e = .returned (.int .i64 (slotN D)) ∧ w = w' := by
  have hl := h.ok.len
  have E : Hid (((D.lasts.length : Int) - 8) / 2 = (slotN D : Int)) := hide (by unfold slotN; omega)
  go_enter Try.func54, Try.ntmps54
  go_wp2_with fail
  refine (dblocks_calls h).mono ?_
  rintro e w' ⟨rfl, rfl⟩
  go_wp2_with fail
  go_ret
  exact ⟨ret_int9 (by rw [← E.out]), rfl⟩
set_option maxRecDepth 20000 in
theorem sRoom_calls (h : DiskAt w b F D) : Calls Try.prog 41 #[.pointer (some ⟨b, 0, none⟩)] w fun e w' => e = .returned (.int .i64 ((slotN D * 64 : Nat) : Int)) ∧ w = w' := by
  have hl := slotN_lim h
  have E : Hid ((slotN D : Int) * 64 = ((slotN D * 64 : Nat) : Int)) := hide (by omega)
  go_enter Try.func41, Try.ntmps41
  go_wp2_with fail
  refine (sblocks_calls h).mono ?_
  rintro e w' ⟨rfl, rfl⟩
  go_wp2_with fail
  go_ret
  exact ⟨ret_int9 E.out, rfl⟩
set_option maxRecDepth 20000 in
theorem sfirst_calls (h : DiskAt w b F D) (slot : Int) (h0 : 0 ≤ slot) (h1 : slot < 2) : Calls Try.prog 44 #[.pointer (some ⟨b, 0, none⟩), .int .i64 slot] w fun e w' => e = .returned (.int .i64 ((8 + slot.toNat * slotN D : Nat) : Int)) ∧ w = w' := by
  have hl := slotN_lim h
  have : slot = 0 ∨ slot = 1 := by omega
  rcases this with rfl | rfl
  · have E : Hid ((8 : Int) = ((8 + (0 : Int).toNat * slotN D : Nat) : Int)) := hide (by simp)
    clear h0 h1
    go_enter Try.func44, Try.ntmps44
    go_wp2_with fail
    refine (sblocks_calls h).mono ?_
    rintro e w' ⟨rfl, rfl⟩
    go_wp2_with fail
    go_ret
    exact ⟨ret_int9 E.out, rfl⟩
  · have E : Hid ((8 : Int) + (slotN D : Int) = ((8 + (1 : Int).toNat * slotN D : Nat) : Int)) := hide (by simp)
    clear h0 h1
    go_enter Try.func44, Try.ntmps44
    go_wp2_with fail
    refine (sblocks_calls h).mono ?_
    rintro e w' ⟨rfl, rfl⟩
    go_wp2_with fail
    go_ret
    exact ⟨ret_int9 E.out, rfl⟩
set_option maxRecDepth 20000 in
theorem scount_calls (n : Nat) (hn : n ≤ 1000000000000) (w : World) : Calls Try.prog 42 #[.int .i64 n] w fun e w' => e = .returned (.int .i64 ((cntB n : Nat) : Int)) ∧ w = w' := by
  have E : Hid (((n : Int) + 64 - 1) / 64 = ((cntB n : Nat) : Int)) := hide (by unfold cntB; omega)
  have hnI : (n : Int) ≤ 1000000000000 := by omega
  clear hn
  go_enter Try.func42, Try.ntmps42
  go_wp2_with fail
  go_ret
  exact ⟨ret_int9 E.out, rfl⟩
def swrongM (slot : Int) : Int := if slot < 0 ∨ 2 ≤ slot then 1 else 0
set_option maxRecDepth 20000 in
theorem swrong_calls (h : DiskAt w b F D) (slot : Int) : Calls Try.prog 40 #[.pointer (some ⟨b, 0, none⟩), .int .i64 slot] w fun e w' => e = .returned (.int .i64 (swrongM slot)) ∧ w = w' := by
  have hl := h.ok.len
  unfold swrongM
  by_cases h0 : slot < 0
  · rw [if_pos (.inl h0)]
    go_enter Try.func40, Try.ntmps40
    go_wp2_with fail
    refine (dblocks_calls h).mono ?_
    rintro e w' ⟨rfl, rfl⟩
    go_wp2_with fail
    go_ret
    exact ⟨rfl, rfl⟩
  · by_cases h1 : 2 ≤ slot
    · rw [if_pos (.inr h1)]
      go_enter Try.func40, Try.ntmps40
      go_wp2_with fail
      refine (dblocks_calls h).mono ?_
      rintro e w' ⟨rfl, rfl⟩
      go_wp2_with fail
      go_ret
      exact ⟨rfl, rfl⟩
    · rw [if_neg (by omega)]
      go_enter Try.func40, Try.ntmps40
      go_wp2_with fail
      refine (dblocks_calls h).mono ?_
      rintro e w' ⟨rfl, rfl⟩
      go_wp2_with fail
      go_ret
      exact ⟨rfl, rfl⟩
end
set_option maxRecDepth 20000 in
theorem block_copied (s : ByteArray) (k : Nat) : (⟨(copied (List.replicate 64 0) (s.extract (64 * k) s.size).data.toList).toArray⟩ : ByteArray) = blockB s k := by
  have e : (s.extract (64 * k) s.size).data.toList = s.data.toList.drop (64 * k) := by
    have hl : s.data.toList.length = s.size := rfl
    simp only [ByteArray.data_extract, Array.toList_extract, List.extract_eq_take_drop]
    exact List.take_of_length_le (by simp)
  rw [e]
  unfold blockB copied
  simp only [List.length_replicate, List.drop_replicate]
end Go.Proofs.Ytacbnoagdlelgaa

/- Chapter 6: slots.Write. -/
namespace Go.Proofs.Ytacbnoagdlelgaa
open Go.RowKit Zb

set_option maxRecDepth 20000 in
theorem DSt.more {F F' F3 : Nat → Prop} {w wr w2 w3 : World} {b : Nat} {D3 : DiskM} (h : Turned F w wr) (hF : ∀ x, F' x → F x ∨ w.heap.size ≤ x) (hb : Below wr.heap.size wr w2) (h3 : Turned F' w2.drew w3) (hF3 : ∀ x, F3 x → F' x ∨ w2.drew.heap.size ≤ x) (hd : DiskAt w3 b F3 D3) : DSt F w b D3 w3 := by
  have s1 := h.size
  have s2 := hb.size
  refine ⟨((h.then_below hb).drew).trans h3 hF, F3, fun x hx => ?_, hd⟩
  rcases hF3 x hx with h | h
  · exact hF x h
  · have h' : w2.heap.size ≤ x := h
    exact .inr (by omega)
set_option maxRecDepth 20000 in
theorem buf_keep {w0 w w' : World} {g n c : Nat} {l : List UInt8} (h : Buf w0 w (.slice (some ⟨g, 0, none⟩) n c) l) (hk : w'.heap[g]? = w.heap[g]?) : (convert 32 9 (.slice (some ⟨g, 0, none⟩) n c)).run Try.prog w' = .ok (.string ⟨l.toArray⟩) w' := by
  have hr : Row w' 5 1 (.slice (some ⟨g, 0, none⟩) n c) l.length (bytesVals l) := row_of h.row fun x hx => by
    have : x = g := by simpa [Value.ownBlock] using hx.symm
    rw [this, hk]
  exact (Buf.conv (w0 := { w' with heap := #[] }) (w := w') ⟨⟨rfl, rfl, rfl, by simp, fun i hi => by simp at hi⟩, hr, fun x _ => by simp⟩)

def SW (F : Nat → Prop) (w : World) (b : Nat) (D : DiskM) (at_ : Nat) (s : ByteArray) (k : Nat) (Dk : DiskM) (wr : World) : Prop :=
  DSt F w b Dk wr ∧ Dk.lasts.length = D.lasts.length ∧ Dk.waits.length ≤ D.waits.length + k ∧ writeLoop D at_ (blocksB s) = writeLoop Dk (at_ + k) ((blocksB s).drop k)

set_option maxRecDepth 100000 in
set_option maxHeartbeats 2000000 in
theorem sWrite_calls {w : World} {b : Nat} {F : Nat → Prop} {D : DiskM} (h : DiskAt w b F D) (hW : D.waits.length ≤ 4294960000) (slot : Int) (s : ByteArray) :
    Calls Try.prog 27 #[.pointer (some ⟨b, 0, none⟩), .int .i64 slot, .string s] w (DPost F w b (.int .i64 (slotWrite D slot s).2) (slotWrite D slot s).1) := by
  have HWR := hide (swrong_calls h slot)
  by_cases hsl : slot < 0 ∨ 2 ≤ slot
  · have E := hide (show slotWrite D slot s = (D, 1) by unfold slotWrite; rw [if_pos hsl])
    have E2 := hide (show swrongM slot = 1 by unfold swrongM; rw [if_pos hsl])
    have HS := hide (DSt.refl h)
    clear hsl h
    go_enter Try.func27, Try.ntmps27
    go_wp2_with fail
    refine HWR.out.mono ?_
    rintro e w' ⟨rfl, rfl⟩
    rw [E2.out]
    go_wp2_with fail
    go_ret
    rw [E.out]
    exact HS.out.post
  · have h0 : 0 ≤ slot := by omega
    have h1 : slot < 2 := by omega
    have E2 := hide (show swrongM slot = 0 by unfold swrongM; rw [if_neg hsl])
    have HR := hide (sRoom_calls h)
    have hlim := slotN_lim h
    by_cases hroom : slotN D * 64 < s.size
    · have E := hide (show slotWrite D slot s = (D, 6) by unfold slotWrite; rw [if_neg hsl, if_pos hroom])
      have HS := hide (DSt.refl h)
      have hroomI : ((slotN D * 64 : Nat) : Int) < (s.size : Int) := by omega
      clear hsl h hroom
      go_enter Try.func27, Try.ntmps27
      go_wp2_with fail
      refine HWR.out.mono ?_
      rintro e w' ⟨rfl, rfl⟩
      rw [E2.out]
      go_wp2_with fail
      refine HR.out.mono ?_
      rintro e w' ⟨rfl, rfl⟩
      generalize ((slotN D * 64 : Nat) : Int) = room at *
      go_wp2_with fail
      go_ret
      rw [E.out]
      exact HS.out.post
    · obtain ⟨at_, hat⟩ : ∃ at_ : Nat, 8 + slot.toNat * slotN D = at_ := ⟨_, rfl⟩
      have E : Hid (slotWrite D slot s = writeLoop D at_ (blocksB s)) := hide (by unfold slotWrite; rw [if_neg hsl, if_neg hroom, hat])
      have hroomI : decide (((slotN D * 64 : Nat) : Int) < (s.size : Int)) = false := by simp only [decide_eq_false_iff_not]; omega
      have hs9 : s.size ≤ 16128 := by omega
      have HI0 : Hid (SW F w b D at_ s 0 D w) := hide ⟨DSt.refl h, rfl, by omega, rfl⟩
      have HC := hide (scount_calls s.size (by omega))
      have hcn : cntB s.size ≤ 252 := by unfold cntB; omega
      have hcs : 64 * cntB s.size ≤ s.size + 63 := by unfold cntB; omega
      have hat9 : at_ ≤ 260 := by
        have : slot.toNat = 0 ∨ slot.toNat = 1 := by omega
        rcases this with e | e <;> rw [e] at hat <;> omega
      have HAT := hide hat
      have hmk2 : ∀ W : World, (Instr.makeSlice 32 (.int .i64 64) (.int .i64 64)).run Try.prog W = .ok (.slice (some ⟨W.heap.size, 0, none⟩) 64 64) (W.alloc (.cells (madeCells #[.int .u8 0] 64) 5)) := fun W => make_row (P := Try.prog) 32 5 _ 1 Try.underlying32 binfo_u8 rfl .i64 .i64 64 (by omega) (by omega) W
      have hD0 := h
      have HD0 := hide hD0
      clear hsl hroom h hD0 hat hlim
      go_enter Try.func27, Try.ntmps27
      go_wp2_with fail
      refine HWR.out.mono ?_
      rintro e w' ⟨rfl, rfl⟩
      rw [E2.out]
      go_wp2_with fail
      refine HR.out.mono ?_
      rintro e w' ⟨rfl, rfl⟩
      generalize hrm : ((slotN D * 64 : Nat) : Int) = room at *
      clear hrm
      go_wp2_with fail
      refine (HC.out _).mono ?_
      rintro e w' ⟨rfl, rfl⟩
      generalize hcnt : cntB s.size = cnt at *
      have HCNT := hide hcnt
      clear hcnt
      go_wp2_with fail
      go_loopw [25] (fun i wr => ∃ (k : Nat) (Dk : DiskM), k ≤ cnt ∧ i = .int .i64 k ∧ Hid (SW F w b D at_ s k Dk wr)) (fun i _ => cnt - (intOf i).toNat)
      case atStart => exact ⟨0, D, Nat.zero_le _, rfl, HI0⟩
      case round =>
      clear HI0
      obtain ⟨k, Dk, hk, rfl, hinv⟩ := hrel
      by_cases hlt : k < cnt
      · have hks : 64 * k < s.size := by omega
        have B0 := hide (Buf.made (Below.refl wr.heap.size wr) 64 (by unfold maxLen; omega))
        have HL := hide (show (List.replicate 64 (0 : UInt8)).length = 64 from List.length_replicate)
        generalize hl0 : List.replicate 64 (0 : UInt8) = l0 at *
        have HL0 := hide hl0
        clear hl0
        have hksI : (64 : Int) * (k : Int) ≤ (s.size : Int) := by omega
        have hksI2 : (k : Int) * 64 ≤ (s.size : Int) := by omega
        go_wp2_with ((with_reducible show wpList _ _ _ (⟨some 34, _, _, _, _, _⟩ :: _) _ _); refine buf_copys rfl (.tmp 29) (.tmp 33) rfl wr.heap.size 64 (l := l0) (hide (by have := B0.out; rw [HL.out]; exact this)) (s.extract (k * 64) s.size) (by rw [HL.out]; rfl) rfl ?_; intro m2 w2 hb2 hg2)
        simp only [Act.put, List.setIfInBounds_toArray, List.set_cons_succ, List.set_cons_zero]
        obtain ⟨hst, hln, hwt, heq⟩ := hinv.out
        have hB : Below wr.heap.size wr w2 := (hb2.out.bel)
        obtain ⟨htu, F', hF', hd'⟩ := hst
        have HB := hide hB
        have HFF := hide hF'
        have HLT : Hid (∀ x, F' x → x < wr.heap.size) := hide fun x hx => hd'.lt x hx
        have HD3 : Hid (DiskAt w2.drew b F' Dk) := hide (hd'.below (hB.trans ⟨rfl, rfl, rfl, Nat.le_refl _, fun _ _ => rfl⟩))
        have HST := hide htu
        have HCV : Hid (∀ w', w'.heap[wr.heap.size]? = w2.heap[wr.heap.size]? → (convert 32 9 (.slice (some ⟨wr.heap.size, 0, none⟩) 64 64)).run Try.prog w' = .ok (.string (blockB s k)) w') := hide fun w' hk' => by
          have h1 := hb2.out
          rw [HL.out] at h1
          have h2 := buf_keep h1 hk'
          rw [← HL0.out, Nat.mul_comm k 64, block_copied] at h2
          exact h2
        have hlt2 : wr.heap.size < w2.heap.size := by
          have := row_lt hb2.out.row wr.heap.size (by simp [Value.ownBlock])
          exact this
        have hW9 : Dk.waits.length ≤ 4294967290 := by omega
        have HLN := hide (show slotN Dk = slotN D by unfold slotN; rw [hln])
        have HEQ := hide heq
        have HWT := hide hwt
        have HLN2 := hide hln
        have hcvv := hlt2
        clear htu hF' hd' hln hwt heq hB hb2 hg2 B0
        obtain ⟨ak, hak⟩ : ∃ ak : Nat, at_ + k = ak := ⟨_, rfl⟩
        have hsum : IntKind.i64.wrap ((at_ : Int) + (k : Int)) = (ak : Int) := by rw [IntWalk.i64_in _ (by omega)]; omega
        have HAK := hide hak
        clear hak
        obtain ⟨g, hg⟩ : ∃ g, wr.heap.size = g := ⟨_, rfl⟩
        rw [hg] at HCV hlt2 HLT
        have HG := hide hg
        rw [hg]
        clear hg
        refine wp_region_heads [0, 1, 2, 4, 6, 7] 4 (fun w' => w'.heap[g]? = w2.heap[g]?) (by kernel_rfl) rfl (by kernel_rfl) (by kernel_rfl) (fun _ _ d _ _ h => by cases d <;> exact h) rfl ?_
        iterate 6
          refine' Heads.step rfl (by rfl) ?_ ?_
          rotate_left
          · intro w' hSw
            have hcvS := HCV.out w' hSw
            go_simp
            try with_reducible rfl
          simp only [Act.put, List.setIfInBounds_toArray, List.set_cons_zero, List.set_cons_succ]
        refine Heads.done ?_
        refine wpAnyH_ready (rs := [3]) (by kernel_rfl) (by simp) (AllReadyH.cons rfl (fun K hK => ?_) AllReadyH.nil)
        go_simp
        refine (sfirst_calls HD3.out slot h0 h1).mono ?_
        rintro e w' ⟨rfl, rfl⟩
        rw [HLN.out, HAT.out]
        refine hK.out _ _ rfl (fun hHeld1 => ?_)
        clear hK K
        refine wpAnyH_more [5] 2 rfl (by kernel_rfl) (by kernel_rfl) (fun _ _ d _ _ h => by cases d <;> exact h) hHeld1 ?_
        iterate 1
          refine' Heads.step rfl (by rfl) ?_ ?_
          rotate_left
          · intro w' hSw
            have hcvS := HCV.out w' hSw
            go_simp
            try with_reducible rfl
          simp only [Act.put, List.setIfInBounds_toArray, List.set_cons_zero, List.set_cons_succ]
        refine Heads.done ?_
        refine wpAnyH_ready (rs := [8]) (by kernel_rfl) (by simp) (AllReadyH.cons rfl (fun K hK => ?_) AllReadyH.nil)
        go_simp
        refine (dwrite_calls HD3.out hW9 (ak : Int) (blockB s k)).mono ?_
        rintro e w3 ⟨rfl, tu3, F3, hF3, hd3⟩
        refine hK.out _ _ (tu3.block g hlt2 (fun hf => Nat.lt_irrefl _ (HLT.out g hf))) (fun hHeld2 => ?_)
        clear hK K
        have D4 := hide (DSt.more HST.out HFF.out HB.out tu3 hF3 hd3)
        clear tu3 hF3 hd3 hcvv
        refine wpAnyH_more [9] 0 rfl (by kernel_rfl) (by kernel_rfl) (fun _ _ d _ _ h => by cases d <;> exact h) hHeld2 ?_
        iterate 1
          refine' Heads.step rfl (by rfl) ?_ ?_
          rotate_left
          · intro w' hSw
            have hcvS := HCV.out w' hSw
            go_simp
            try with_reducible rfl
          simp only [Act.put, List.setIfInBounds_toArray, List.set_cons_zero, List.set_cons_succ]
        refine Heads.done ?_
        refine wpAnyH_done (by kernel_rfl) ?_ _
        have hstep := writeLoop_step Dk (at_ + k) s k (by rw [HCNT.out]; exact hlt)
        rw [HAK.out] at hstep
        have HSTEP := hide hstep
        have HWL := hide (write_len (D := Dk) (ak : Int) (blockB s k))
        have HWG := hide (write_grows (D := Dk) (ak : Int) (blockB s k))
        clear hstep hsum
        generalize hDn : Dk.write (ak : Int) (blockB s k) = R at *
        obtain ⟨D', v'⟩ := R
        clear hDn
        by_cases hv : v' = 0
        · subst hv
          have hs : Hid (SW F w b D at_ s (k + 1) D' w3) := hide ⟨D4.out, by rw [HWL.out, HLN2.out], by have := HWG.out; have := HWT.out; simp only at *; omega, by rw [HEQ.out, HAK.out, HSTEP.out, if_pos rfl, ← HAK.out]; rfl⟩
          go_wp2_with fail
          go_roundw
          case rel => exact ⟨k + 1, D', by omega, by go_num, hs⟩
          case measure => simp [intOf]; omega
        · have hvb : (v' != 0) = true := by simp [hv]
          have E9 : Hid (writeLoop D at_ (blocksB s) = (D', v')) := hide (by rw [HEQ.out, HAK.out, HSTEP.out, if_neg hv])
          clear hv
          go_wp2_with fail
          go_ret
          rw [E.out, E9.out]
          exact D4.out.post
      · obtain rfl : k = cnt := by omega
        obtain ⟨hst, hln, hwt, heq⟩ := hinv.out
        rw [blocksB_end s k (by rw [HCNT.out]; exact Nat.le_refl _)] at heq
        have E9 : Hid (writeLoop D at_ (blocksB s) = Dk.sync) := hide heq
        have HST := hide hst
        have hW9 : Dk.waits.length ≤ 4294967290 := by omega
        clear hst hln hwt heq
        go_wp2_with fail
        refine (HST.out.op (fun G hG => dsync_calls hG hW9)).mono ?_
        rintro e w3 ⟨rfl, D4⟩
        go_wp2_with fail
        go_ret
        rw [E.out, E9.out]
        exact D4.out.post
end Go.Proofs.Ytacbnoagdlelgaa

/- Chapter 6: slots.Read. -/
namespace Go.Proofs.Ytacbnoagdlelgaa
open Go.RowKit Zb

set_option maxRecDepth 20000 in
theorem Buf.convCut {w0 w : World} {A : Option Addr} {c : Nat} {l : List UInt8} (h : Buf w0 w (.slice A l.length c) l) (m : Nat) (hm : m ≤ l.length) : (convert 32 9 (.slice A m c)).run Try.prog w = .ok (.string ⟨(l.take m).toArray⟩) w := by
  rcases Nat.eq_zero_or_pos m with h0 | h0
  · subst h0
    cases A with
    | none => rw [run_convert_bytes_string w 32 9 5 none 0 c Try.underlying32 Try.underlying5 Try.underlying9]; rfl
    | some a => exact conv_bytes w 32 9 5 a c [] Try.underlying32 Try.underlying5 Try.underlying9 (fun j hj => by simp at hj)
  · obtain ⟨g, c', hv, _, _, _, hc⟩ := row_form h.row (by omega)
    obtain ⟨rfl, rfl⟩ : A = some ⟨g, 0, none⟩ ∧ c = c' := by simpa using hv
    have hl : (l.take m).length = m := by rw [List.length_take]; omega
    have := conv_bytes (P := Try.prog) w 32 9 5 ⟨g, 0, none⟩ c (l.take m) Try.underlying32 Try.underlying5 Try.underlying9 fun j hj => by
      rw [add_plain]
      refine (hc j (by omega)).trans ?_
      unfold bytesVals
      rw [List.getElem?_map, List.getElem?_map, List.getElem?_take_of_lt (by omega)]
    rw [hl] at this
    exact this
def SR (w : World) (D : DiskM) (at_ cnt k : Nat) (acc : List UInt8) (v : Value) (wr : World) : Prop :=
  Buf w wr v acc ∧ acc.length = 64 * k ∧ readLoop D at_ cnt ⟨#[]⟩ = readLoop D (at_ + k) (cnt - k) ⟨acc.toArray⟩

def SRPost (D : DiskM) (slot size : Int) (w : World) (e : Ending) (w' : World) : Prop := e = .returned (.tuple #[.string (slotRead D slot size).1, .int .i64 (slotRead D slot size).2]) ∧ Below w.heap.size w w'

set_option maxRecDepth 100000 in
set_option maxHeartbeats 2000000 in
theorem sRead_calls {w : World} {b : Nat} {F : Nat → Prop} {D : DiskM} (h : DiskAt w b F D) (hf : Full64 D) (hW : D.waits.length ≤ 4294967290) (slot size : Int) :
    Calls Try.prog 36 #[.pointer (some ⟨b, 0, none⟩), .int .i64 slot, .int .i64 size] w (SRPost D slot size w) := by
  have HWR := hide (swrong_calls h slot)
  by_cases hsl : slot < 0 ∨ 2 ≤ slot
  · have E := hide (show slotRead D slot size = (⟨#[]⟩, 1) by unfold slotRead; rw [if_pos hsl])
    have E2 := hide (show swrongM slot = 1 by unfold swrongM; rw [if_pos hsl])
    clear hsl h
    go_enter Try.func36, Try.ntmps36
    go_wp2_with fail
    refine HWR.out.mono ?_
    rintro e w' ⟨rfl, rfl⟩
    rw [E2.out]
    go_wp2_with fail
    go_ret2
    unfold SRPost
    rw [E.out]
    exact ⟨rfl, Below.refl _ _⟩
  · have h0 : 0 ≤ slot := by omega
    have h1 : slot < 2 := by omega
    have E2 := hide (show swrongM slot = 0 by unfold swrongM; rw [if_neg hsl])
    have HR := hide (sRoom_calls h)
    have hlim := slotN_lim h
    by_cases hneg : size < 0
    · have E := hide (show slotRead D slot size = (⟨#[]⟩, 1) by unfold slotRead; rw [if_neg hsl, if_pos (.inl hneg)])
      clear hsl h
      go_enter Try.func36, Try.ntmps36
      go_wp2_with fail
      refine HWR.out.mono ?_
      rintro e w' ⟨rfl, rfl⟩
      rw [E2.out]
      go_wp2_with fail
      go_ret2
      unfold SRPost
      rw [E.out]
      exact ⟨rfl, Below.refl _ _⟩
    · obtain ⟨n, rfl⟩ : ∃ n : Nat, size = n := ⟨size.toNat, by omega⟩
      by_cases hroom : slotN D * 64 < n
      · have E := hide (show slotRead D slot n = (⟨#[]⟩, 1) by unfold slotRead; rw [if_neg hsl, if_pos (.inr (by simpa using hroom))])
        have hroomI : ((slotN D * 64 : Nat) : Int) < (n : Int) := by omega
        clear hsl h hroom hneg
        go_enter Try.func36, Try.ntmps36
        go_wp2_with fail
        refine HWR.out.mono ?_
        rintro e w' ⟨rfl, rfl⟩
        rw [E2.out]
        go_wp2_with fail
        refine HR.out.mono ?_
        rintro e w' ⟨rfl, rfl⟩
        generalize ((slotN D * 64 : Nat) : Int) = room at *
        go_wp2_with fail
        go_ret2
        unfold SRPost
        rw [E.out]
        exact ⟨rfl, Below.refl _ _⟩
      · obtain ⟨at_, hat⟩ : ∃ at_ : Nat, 8 + slot.toNat * slotN D = at_ := ⟨_, rfl⟩
        have hroomI : decide (((slotN D * 64 : Nat) : Int) < (n : Int)) = false := by simp only [decide_eq_false_iff_not]; omega
        have hnI : decide ((n : Int) < 0) = false := by simp only [decide_eq_false_iff_not]; omega
        have hn9 : n ≤ 16128 := by omega
        have HC := hide (scount_calls n (by omega))
        obtain ⟨cnt, hcnt⟩ : ∃ cnt, cntB n = cnt := ⟨_, rfl⟩
        have hcn : cnt ≤ 252 := by rw [← hcnt]; unfold cntB; omega
        have hcs : 64 * cnt ≤ n + 63 := by rw [← hcnt]; unfold cntB; omega
        have hcs2 : n ≤ 64 * cnt := by rw [← hcnt]; unfold cntB; omega
        have E : Hid (slotRead D slot n = if (readLoop D at_ cnt ⟨#[]⟩).2 = 0 then ((readLoop D at_ cnt ⟨#[]⟩).1.extract 0 n, 0) else (⟨#[]⟩, (readLoop D at_ cnt ⟨#[]⟩).2)) := hide (by
          unfold slotRead
          rw [if_neg hsl, if_neg (by simp; omega), hat, show (n : Int).toNat = n from rfl, hcnt])
        have hat9 : at_ ≤ 260 := by
          have : slot.toNat = 0 ∨ slot.toNat = 1 := by omega
          rcases this with e | e <;> rw [e] at hat <;> omega
        have HI0 : Hid (SR w D at_ cnt 0 [] (.slice none 0 0) w) := hide ⟨Buf.nil (Below.refl _ _), rfl, rfl⟩
        have HAT := hide hat
        have HD0 := hide h
        have HFU := hide hf
        have HCNT := hide hcnt
        have hcs2' := hide hcs2
        clear hsl hroom h hat hlim hf hcnt hneg hcs2
        go_enter Try.func36, Try.ntmps36
        go_wp2_with fail
        refine HWR.out.mono ?_
        rintro e w' ⟨rfl, rfl⟩
        rw [E2.out]
        go_wp2_with fail
        refine HR.out.mono ?_
        rintro e w' ⟨rfl, rfl⟩
        generalize hrm : ((slotN D * 64 : Nat) : Int) = room at *
        clear hrm
        go_wp2_with fail
        refine (HC.out _).mono ?_
        rintro e w' ⟨rfl, rfl⟩
        rw [HCNT.out]
        go_wp2_with fail
        go_loopw [9, 29] (fun v i wr => ∃ (k : Nat) (acc : List UInt8), k ≤ cnt ∧ i = .int .i64 k ∧ Hid (SR w D at_ cnt k acc v wr)) (fun _ i _ => cnt - (intOf i).toNat)
        case atStart => exact ⟨0, [], Nat.zero_le _, rfl, HI0⟩
        case round =>
        clear HI0
        obtain ⟨k, acc, hk, rfl, hinv⟩ := hrel
        obtain ⟨hbuf, hlen, heq⟩ := hinv.out
        have HBUF := hide hbuf
        have HLEN := hide hlen
        have HEQ := hide heq
        have hl9 : acc.length ≤ 16128 := by omega
        have HD1 := hide (HD0.out.below hbuf.bel)
        obtain ⟨A, c, rfl, hAc⟩ := hbuf.slice
        by_cases hlt : k < cnt
        · have HRD := hide (dread_calls HD1.out hW ((at_ + k : Nat) : Int))
          have hstep : readLoop D (at_ + k) (cnt - k) ⟨acc.toArray⟩ = if (D.read ((at_ + k : Nat) : Int)).2 = 0 then readLoop D (at_ + k + 1) (cnt - (k + 1)) (⟨acc.toArray⟩ ++ (D.read ((at_ + k : Nat) : Int)).1) else (⟨#[]⟩, (D.read ((at_ + k : Nat) : Int)).2) := by
            rw [show cnt - k = (cnt - (k + 1)) + 1 by omega]
            rfl
          have H64 := hide (HFU.out.read ((at_ + k : Nat) : Int))
          have HSTEP := hide hstep
          obtain ⟨ak, hak⟩ : ∃ ak : Nat, at_ + k = ak := ⟨_, rfl⟩
          have hsum : (at_ : Int) + (k : Int) = (ak : Int) := by omega
          have HAK := hide hak
          rw [hak] at HRD HSTEP H64
          have HSUM := hide hsum
          generalize hRd : D.read (ak : Int) = R at *
          obtain ⟨t, v'⟩ := R
          clear hbuf hlen heq hinv hstep hak hsum hRd hcs
          go_wp2_with fail
          refine (sfirst_calls HD1.out slot h0 h1).mono ?_
          rintro e w' ⟨rfl, rfl⟩
          rw [HAT.out]
          go_wp2_with fail
          rw [HSUM.out]
          refine HRD.out.mono ?_
          rintro e w' ⟨rfl, rfl⟩
          by_cases hv : v' = 0
          · subst hv
            have ht64 : t.size = 64 := H64.out rfl
            have HT := hide ht64
            go_wp2_with (at_builtin; refine buf_apps rfl (.tmp 45) (.tmp 46) rfl HBUF t rfl rfl (by rw [HT.out]; omega) ?_; intro v3 w3 hb3 hg3)
            have hs : Hid (SR w D at_ cnt (k + 1) (acc ++ t.data.toList) v3 w3) := hide ⟨hb3.out, by rw [List.length_append, HLEN.out, show t.data.toList.length = t.size from rfl, HT.out]; omega, by
              rw [HEQ.out, HAK.out, HSTEP.out, if_pos trivial, ← HAK.out]
              congr 1⟩
            clear hg3 hb3
            go_roundw
            case rel => exact ⟨k + 1, acc ++ t.data.toList, by omega, by go_num, hs⟩
            case measure => simp [intOf]; omega
          · have hvb : (v' != 0) = true := by simp [hv]
            have E9 : Hid (readLoop D at_ cnt ⟨#[]⟩ = (⟨#[]⟩, v')) := hide (by rw [HEQ.out, HAK.out, HSTEP.out, if_neg hv])
            have HV := hide hv
            clear hv
            go_wp2_with fail
            go_ret2
            unfold SRPost
            rw [E.out, E9.out, if_neg HV.out]
            exact ⟨rfl, HBUF.out.bel⟩
        · obtain rfl : k = cnt := by omega
          rw [Nat.sub_self] at heq
          have E9 : Hid (readLoop D at_ k ⟨#[]⟩ = (⟨acc.toArray⟩, 0)) := hide heq
          have hle := hcs2'.out
          have hnl : n ≤ acc.length := by omega
          have hnc : n ≤ c := by omega
          have hcv := HBUF.out.convCut n hnl
          have hcut : (⟨acc.toArray⟩ : ByteArray).extract 0 n = ⟨(acc.take n).toArray⟩ := by
            apply ByteArray.ext
            simp
          have HCUT := hide hcut
          clear hbuf hlen heq hinv hle hcut
          go_wp2_with fail
          go_ret2
          unfold SRPost
          rw [E.out, E9.out, if_pos rfl]
          exact ⟨congrArg (fun z => Ending.returned (.tuple #[.string z, .int .i64 0])) HCUT.out.symm, HBUF.out.bel⟩
end Go.Proofs.Ytacbnoagdlelgaa
