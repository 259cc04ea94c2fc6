/- Chapter 6: plain facts of slots' model. No program's text. -/
import Derived.Test.YtacbnoagdlelgaaSl1
import Derived.Test.YtacbnoagdlelgaaShim
import Derived.Test.YtacbnoagdlelgaaDk1
import Derived.Test.YtacbnoagdlelgaaApp
import Derived.Test.YtacbnoagdlelgaaHeld
import Derived.WalkSmall
namespace Go.Proofs.Ytacbnoagdlelgaa
open Go.RowKit Zb

/-- these blocks, one behind the other from a place on, as writes -/
def pairsAt : Nat → List ByteArray → List (Int × ByteArray)
  | _, [] => []
  | a, b :: r => ((a : Int), b) :: pairsAt (a + 1) r
set_option maxRecDepth 20000 in
theorem pairsAt_mem : ∀ (bs : List ByteArray) (a : Nat) (p : Int × ByteArray), p ∈ pairsAt a bs → a ≤ p.1.toNat ∧ p.1.toNat < a + bs.length
  | [], _, p, h => by cases h
  | b :: r, a, p, h => by
    rcases List.mem_cons.1 h with h | h
    · subst h
      simp
    · have := pairsAt_mem r (a + 1) p h
      simp only [List.length_cons]
      omega
set_option maxRecDepth 20000 in
theorem settle_other (f : Nat → Bool) : ∀ (k : Nat) (W : List (Int × ByteArray)) (L : List ByteArray) (i : Nat) (d : ByteArray), (∀ p ∈ W, p.1.toNat ≠ i) → (settleTo f k W L).getD i d = L.getD i d
  | _, [], _, _, _, _ => rfl
  | k, p :: W, L, i, d, h => by
    simp only [settleTo]
    rw [settle_other f (k + 1) W _ i d (fun q hq => h q (List.mem_cons_of_mem _ hq))]
    have := h p (List.mem_cons_self ..)
    split
    · simp only [List.getD_eq_getElem?_getD, List.getElem?_set_ne this]
    · rfl
set_option maxRecDepth 20000 in
theorem settle_at : ∀ (bs : List ByteArray) (k a : Nat) (L : List ByteArray) (j : Nat) (d : ByteArray), a + bs.length ≤ L.length → j < bs.length → (settleTo (fun _ => true) k (pairsAt a bs) L).getD (a + j) d = bs.getD j d
  | [], _, _, _, j, _, _, hj => by simp at hj
  | b :: r, k, a, L, 0, d, hl, _ => by
    simp only [pairsAt, settleTo, if_true]
    rw [settle_other _ _ _ _ _ _ (fun p hp => by have := pairsAt_mem r (a + 1) p hp; omega)]
    simp only [List.length_cons] at hl
    simp only [Int.toNat_natCast, Nat.add_zero, List.getD_eq_getElem?_getD, List.getElem?_cons_zero]
    rw [List.getElem?_set_self (by omega)]
  | b :: r, k, a, L, j + 1, d, hl, hj => by
    simp only [pairsAt, settleTo, if_true]
    simp only [List.length_cons] at hl hj
    have := settle_at r (k + 1) (a + 1) (L.set (a : Int).toNat b) j d (by rw [List.length_set]; omega) (by omega)
    rw [show a + (j + 1) = a + 1 + j by omega, this]
    simp [List.getD_eq_getElem?_getD]

set_option maxRecDepth 20000 in
theorem cut_cases (D : DiskM) (h : D.off = false) : (D.cut.2 = false ∧ D.cut.1.off = false ∧ D.cut.1.waits = D.waits ∧ D.cut.1.lasts = D.lasts ∧ D.cut.1.pon = D.pon ∧ D.cut.1.ops = wrap64 (D.ops + 1)) ∨ (D.pon = true ∧ D.cut.2 = true ∧ D.cut.1.off = true ∧ D.cut.1.waits = [] ∧ D.cut.1.pon = false ∧ D.cut.1.lasts = settleTo (maskBit D.mask) 0 D.waits D.lasts) := by
  unfold DiskM.cut
  by_cases hp : D.pon = false
  · rw [if_pos hp]
    exact .inl ⟨rfl, h, rfl, rfl, rfl, rfl⟩
  · rw [if_neg hp]
    by_cases ha : 0 < D.after
    · rw [if_pos ha]
      exact .inl ⟨rfl, h, rfl, rfl, rfl, rfl⟩
    · rw [if_neg ha]
      refine .inr ⟨by simpa using hp, rfl, ?_⟩
      unfold DiskM.fail
      rw [if_neg (by simp [h])]
      exact ⟨rfl, rfl, rfl, rfl⟩
set_option maxRecDepth 20000 in
theorem wrap64_small (x : Int) (h0 : 0 ≤ x) (h1 : x < 4611686018427387904) : wrap64 x = x := by
  unfold wrap64
  omega
set_option maxRecDepth 20000 in
theorem wl_gen : ∀ (bs : List ByteArray) (D : DiskM) (a : Nat), D.off = false → a + bs.length ≤ D.lasts.length → 0 < D.lasts.length → (∀ b ∈ bs, b.size = 64) →
    ∃ D' e, writeLoop D a bs = (D', e) ∧ D'.waits = [] ∧
      ((e = 0 ∧ D'.off = false ∧ D'.lasts = settleTo (fun _ => true) 0 (D.waits ++ pairsAt a bs) D.lasts ∧ (D.pon = false → D'.pon = false ∧ (0 ≤ D.ops → D.ops + bs.length + 1 < 4611686018427387904 → D'.ops = D.ops + bs.length + 1)))
      ∨ (e = 7 ∧ D.pon = true ∧ D'.off = true ∧ D'.pon = false ∧ ∃ f k, D'.lasts = settleTo f 0 (D.waits ++ (pairsAt a bs).take k) D.lasts))
  | [], D, a, h, hl, h0, _ => by
    have hw : D.wrong 0 = 0 := by
      unfold DiskM.wrong
      rw [if_neg (by simp [h]), if_neg (by omega)]
    simp only [writeLoop, DiskM.sync, hw, ne_eq, not_true_eq_false, if_false, pairsAt, List.append_nil]
    rcases cut_cases D h with ⟨h1, h2, h3, h4, h5, h6⟩ | ⟨h1, h2, h3, h4, h5, h6⟩
    · rw [if_neg (by simp [h1])]
      refine ⟨_, _, rfl, rfl, .inl ⟨rfl, h2, by rw [h3, h4], fun hp => ⟨by rw [← hp]; exact h5, fun o0 o1 => ?_⟩⟩⟩
      show D.cut.1.ops = _
      rw [h6]
      simp only [List.length_nil] at o1 ⊢
      rw [wrap64_small (D.ops + 1) (by omega) (by omega)]
      omega
    · rw [if_pos h2]
      exact ⟨_, _, rfl, h4, .inr ⟨rfl, h1, h3, h5, maskBit D.mask, 0, by rw [h6]; simp⟩⟩
  | b :: r, D, a, h, hl, h0, hs => by
    simp only [List.length_cons] at hl
    have hw : D.wrong a = 0 := by
      unfold DiskM.wrong
      rw [if_neg (by simp [h]), if_neg (by omega)]
    have hb : b.size = 64 := hs b (List.mem_cons_self ..)
    have hW : D.write a b = ((({ D with waits := D.waits ++ [((a : Int), b)] } : DiskM).cut).1, if (({ D with waits := D.waits ++ [((a : Int), b)] } : DiskM).cut).2 then 7 else 0) := by
      unfold DiskM.write
      rw [if_neg (by simp [hw]), if_neg (by simp [hb])]
    simp only [writeLoop]
    rw [hW]
    have hcc := cut_cases { D with waits := D.waits ++ [((a : Int), b)] } h
    generalize DiskM.cut { D with waits := D.waits ++ [((a : Int), b)] } = C at hcc
    obtain ⟨C, cb⟩ := C
    rcases hcc with ⟨h1, h2, h3, h4, h5, h6⟩ | ⟨h1, h2, h3, h4, h5, h6⟩
    · simp only at h1 h2 h3 h4 h5 h6
      subst h1
      simp only [Bool.false_eq_true, if_false, if_true]
      obtain ⟨D', e, he, hw', hc⟩ := wl_gen r C (a + 1) h2 (by rw [h4]; omega) (by rw [h4]; omega) (fun x hx => hs x (List.mem_cons_of_mem _ hx))
      refine ⟨D', e, he, hw', ?_⟩
      rcases hc with ⟨e0, k1, k2, k3⟩ | ⟨e0, k1, k2, k3, f, k, k4⟩
      · refine .inl ⟨e0, k1, ?_, fun hp => ?_⟩
        · rw [k2, h3, h4, List.append_assoc]
          rfl
        · obtain ⟨k4, k5⟩ := k3 (by rw [h5]; exact hp)
          refine ⟨k4, fun o0 o1 => ?_⟩
          simp only [List.length_cons] at o1 ⊢
          have ho : C.ops = D.ops + 1 := by rw [h6]; exact wrap64_small _ (by omega) (by omega)
          rw [k5 (by omega) (by omega), ho]
          omega
      · refine .inr ⟨e0, by rw [← h5]; exact k1, k2, k3, f, k + 1, ?_⟩
        rw [k4, h3, h4, List.append_assoc]
        rfl
    · simp only at h1 h2 h3 h4 h5 h6
      subst h2
      simp only [if_true]
      rw [if_neg (by decide)]
      exact ⟨_, _, rfl, h4, .inr ⟨rfl, h1, h3, h5, maskBit D.mask, 1, by rw [h6]; rfl⟩⟩

/-- the blocks of a slot, from its first one on -/
def slotAt (D : DiskM) (slot : Int) : Nat := 8 + slot.toNat * slotN D
set_option maxRecDepth 20000 in
theorem slotAt_lim (D : DiskM) (slot : Int) (h0 : 0 ≤ slot) (h1 : slot < 2) (h2 : 16 ≤ D.lasts.length) : 8 ≤ slotAt D slot ∧ slotAt D slot + slotN D ≤ D.lasts.length := by
  unfold slotAt slotN
  obtain h | h : slot = 0 ∨ slot = 1 := by omega
  · subst h
    simp
    omega
  · subst h
    simp
    omega
set_option maxRecDepth 20000 in
theorem cnt_le (n k : Nat) (h : n ≤ k * 64) : cntB n ≤ k := by unfold cntB; omega
set_option maxRecDepth 20000 in
theorem slotWrite_ok (D : DiskM) (slot : Int) (s : ByteArray) (h0 : 0 ≤ slot) (h1 : slot < 2) (h2 : 16 ≤ D.lasts.length) (hs : s.size ≤ slotN D * 64) (hoff : D.off = false) (hw : D.waits = []) :
    ∃ D' e, slotWrite D slot s = (D', e) ∧ D'.waits = [] ∧ D'.lasts.length = D.lasts.length ∧ (∀ i, i < slotAt D slot ∨ slotAt D slot + cntB s.size ≤ i → D'.lasts.getD i ⟨#[]⟩ = D.lasts.getD i ⟨#[]⟩) ∧
      ((e = 0 ∧ D'.off = false ∧ (∀ j, j < cntB s.size → D'.lasts.getD (slotAt D slot + j) ⟨#[]⟩ = blockB s j) ∧ (D.pon = false → D'.pon = false ∧ (0 ≤ D.ops → D.ops + cntB s.size + 1 < 4611686018427387904 → D'.ops = D.ops + cntB s.size + 1)))
      ∨ (e = 7 ∧ D.pon = true ∧ D'.off = true ∧ D'.pon = false)) := by
  have ⟨l0, l1⟩ := slotAt_lim D slot h0 h1 h2
  have hc := cnt_le _ _ hs
  have hbl := blocksB_length s
  obtain ⟨D', e, he, hw', hx⟩ := wl_gen (blocksB s) D (slotAt D slot) hoff (by omega) (by omega) (fun b hb => by
    simp only [blocksB, List.mem_map] at hb
    obtain ⟨i, _, rfl⟩ := hb
    exact blockB_size s i)
  have hE : slotWrite D slot s = (D', e) := by
    unfold slotWrite
    rw [if_neg (by omega), if_neg (by omega)]
    exact he
  rw [hw, hbl] at hx
  simp only [List.nil_append] at hx
  refine ⟨D', e, hE, hw', ?_⟩
  rcases hx with ⟨e0, k1, k2, k3⟩ | ⟨e0, k1, k2, k3, f, k, k4⟩
  · refine ⟨by rw [k2, settleTo_length], fun i hi => ?_, .inl ⟨e0, k1, fun j hj => ?_, k3⟩⟩
    · rw [k2]
      exact settle_other _ _ _ _ _ _ (fun p hp => by have := pairsAt_mem _ _ p hp; omega)
    · rw [k2, settle_at _ _ _ _ _ _ (by omega) (by omega)]
      rw [List.getD_eq_getElem?_getD, List.getElem?_eq_getElem (by omega)]
      simp [blocksB]
  · refine ⟨by rw [k4, settleTo_length], fun i hi => ?_, .inr ⟨e0, k1, k2, k3⟩⟩
    rw [k4]
    exact settle_other _ _ _ _ _ _ (fun p hp => by have := pairsAt_mem _ _ p (List.mem_of_mem_take hp); omega)
set_option maxRecDepth 20000 in
theorem blockB_take (s : ByteArray) (j : Nat) (h : 64 * j < s.size) : (blockB s j).data.toList.take (s.size - 64 * j) = (s.data.toList.drop (64 * j)).take 64 := by
  have hl : s.data.toList.length = s.size := rfl
  show List.take _ ((s.data.toList.drop (64 * j)).take 64 ++ List.replicate (64 - ((s.data.toList.drop (64 * j)).take 64).length) 0) = _
  have hk : ((s.data.toList.drop (64 * j)).take 64).length = min 64 (s.size - 64 * j) := by rw [List.length_take, List.length_drop, hl]
  rw [List.take_append, hk]
  rw [List.take_of_length_le (by rw [hk]; omega)]
  have : List.take (s.size - 64 * j - min 64 (s.size - 64 * j)) (List.replicate (64 - min 64 (s.size - 64 * j)) (0 : UInt8)) = [] := by
    rw [List.take_replicate, show min (s.size - 64 * j - min 64 (s.size - 64 * j)) (64 - min 64 (s.size - 64 * j)) = 0 by omega]
    rfl
  rw [this, List.append_nil]
set_option maxRecDepth 20000 in
theorem rl_gen (D : DiskM) (s : ByteArray) (a : Nat) (hr : ∀ i, i < cntB s.size → D.read ((a + i : Nat) : Int) = (blockB s i, 0)) : ∀ (k j : Nat) (acc : ByteArray), j + k = cntB s.size → acc.data.toList.length = 64 * j → acc.data.toList.take s.size = s.data.toList.take (64 * j) →
    ∃ r, readLoop D (a + j) k acc = (r, 0) ∧ r.data.toList.take s.size = s.data.toList
  | 0, j, acc, hj, hl, ht => by
    refine ⟨acc, rfl, ?_⟩
    rw [ht]
    refine List.take_of_length_le ?_
    show s.size ≤ _
    unfold cntB at hj
    omega
  | k + 1, j, acc, hj, hl, ht => by
    have hlt : 64 * j < s.size := by unfold cntB at hj; omega
    have hrj := hr j (by omega)
    unfold readLoop
    rw [hrj]
    simp only [if_true]
    have hbz := blockB_size s j
    refine rl_gen D s a hr k (j + 1) (acc ++ blockB s j) (by omega) ?_ ?_
    · rw [ByteArray.data_append, Array.toList_append, List.length_append, hl]
      have : (blockB s j).data.toList.length = 64 := hbz
      omega
    · rw [ByteArray.data_append, Array.toList_append, List.take_append, hl, ht, blockB_take s j hlt, show 64 * (j + 1) = 64 * j + 64 by omega, List.take_add]
set_option maxRecDepth 20000 in
theorem read_still (D : DiskM) (hoff : D.off = false) (hw : D.waits = []) (i : Nat) (hi : i < D.lasts.length) : D.read (i : Int) = (D.lasts.getD i ⟨#[]⟩, 0) := by
  have : D.wrong (i : Int) = 0 := by
    unfold DiskM.wrong
    rw [if_neg (by simp [hoff]), if_neg (by omega)]
  unfold DiskM.read
  rw [if_pos this, hw]
  rfl
set_option maxRecDepth 20000 in
theorem slotRead_ok (D : DiskM) (slot : Int) (s : ByteArray) (h0 : 0 ≤ slot) (h1 : slot < 2) (h2 : 16 ≤ D.lasts.length) (hs : s.size ≤ slotN D * 64) (hoff : D.off = false) (hw : D.waits = []) (hh : ∀ j, j < cntB s.size → D.lasts.getD (slotAt D slot + j) ⟨#[]⟩ = blockB s j) : slotRead D slot s.size = (s, 0) := by
  have ⟨l0, l1⟩ := slotAt_lim D slot h0 h1 h2
  have hc := cnt_le _ _ hs
  obtain ⟨r, hr, ht⟩ := rl_gen D s (slotAt D slot) (fun i hi => by rw [read_still D hoff hw _ (by omega), hh i hi]) (cntB s.size) 0 ⟨#[]⟩ (by omega) rfl (by simp)
  have hr' : readLoop D (8 + slot.toNat * slotN D) (cntB s.size) ⟨#[]⟩ = (r, 0) := hr
  unfold slotRead
  rw [if_neg (by omega), if_neg (by simp only [Int.toNat_natCast]; omega)]
  simp only [Int.toNat_natCast, hr', if_true]
  congr 1
  apply bext
  rw [ext_list]
  simpa using ht
/-- a read of so many bytes comes to an end without a mistake -/
theorem slotRead_any (D : DiskM) (slot : Int) (n : Nat) (h0 : 0 ≤ slot) (h1 : slot < 2) (h2 : 16 ≤ D.lasts.length) (hs : n ≤ slotN D * 64) (hoff : D.off = false) (hw : D.waits = []) : (slotRead D slot n).2 = 0 := by
  have ⟨l0, l1⟩ := slotAt_lim D slot h0 h1 h2
  have hc := cnt_le _ _ hs
  have : ∀ (k a : Nat) (acc : ByteArray), a + k ≤ D.lasts.length → (readLoop D a k acc).2 = 0 := by
    intro k
    induction k with
    | zero => intro a acc _; rfl
    | succ k ih =>
      intro a acc hk
      unfold readLoop
      rw [read_still D hoff hw a (by omega)]
      simp only [if_true]
      exact ih _ _ (by omega)
  have := this (cntB n) (slotAt D slot) ⟨#[]⟩ (by omega)
  have hr' : (readLoop D (8 + slot.toNat * slotN D) (cntB n) ⟨#[]⟩).2 = 0 := this
  unfold slotRead
  rw [if_neg (by omega), if_neg (by simp only [Int.toNat_natCast]; omega)]
  simp only [Int.toNat_natCast, hr', if_true]
set_option maxRecDepth 20000 in
theorem Full64.writeLoop : ∀ (bs : List ByteArray) (D : DiskM) (a : Nat), Full64 D → Full64 (writeLoop D a bs).1
  | [], _, _, h => h.sync
  | b :: r, D, a, h => by
    simp only [Go.Proofs.Ytacbnoagdlelgaa.writeLoop]
    split
    · exact Full64.writeLoop r _ _ (h.write _ _)
    · exact h.write _ _
set_option maxRecDepth 20000 in
theorem Full64.slot {D : DiskM} (h : Full64 D) (slot : Int) (s : ByteArray) : Full64 (slotWrite D slot s).1 := by
  unfold slotWrite
  split
  · exact h
  · split
    · exact h
    · exact Full64.writeLoop _ _ _ h
set_option maxRecDepth 20000 in
theorem slotWrite_full (D : DiskM) (slot : Int) (s : ByteArray) (h0 : 0 ≤ slot) (h1 : slot < 2) (hs : slotN D * 64 < s.size) : slotWrite D slot s = (D, 6) := by
  unfold slotWrite
  rw [if_neg (by omega), if_pos hs]
set_option maxRecDepth 20000 in
theorem slotN_of {D D' : DiskM} (h : D'.lasts.length = D.lasts.length) : slotN D' = slotN D := by unfold slotN; rw [h]
set_option maxRecDepth 20000 in
theorem slotAt_of {D D' : DiskM} (h : D'.lasts.length = D.lasts.length) (slot : Int) : slotAt D' slot = slotAt D slot := by unfold slotAt; rw [slotN_of h]
set_option maxRecDepth 20000 in
theorem slotN_new (n : Nat) : slotN (DiskM.new n) = (n - 8) / 2 := by simp [slotN, DiskM.new]
end Go.Proofs.Ytacbnoagdlelgaa
