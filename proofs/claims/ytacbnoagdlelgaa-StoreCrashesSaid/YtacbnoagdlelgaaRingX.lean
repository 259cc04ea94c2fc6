/- Chapter 5: what Append does to the journal, with and without failures: plain facts of the model. No program's text. -/
import Derived.Test.YtacbnoagdlelgaaRingR
import Derived.Test.YtacbnoagdlelgaaRingQ
import Derived.Test.YtacbnoagdlelgaaCount
namespace Go.Proofs.Ytacbnoagdlelgaa
open Go.RowKit Zb

/-- the power is on, and nothing waits -/
structure Rest (D : DiskM) : Prop where
  off : D.off = false
  wts : D.waits = []
  len : 16 ≤ D.lasts.length
set_option maxRecDepth 20000 in
theorem Calm.rest {D : DiskM} (h : Calm D) : Rest D := ⟨h.off, h.wts, h.len⟩
set_option maxRecDepth 20000 in
theorem Rest.scan {D : DiskM} (h : Rest D) : scanE D = 0 := by
  unfold scanE DiskM.read DiskM.wrong
  have := h.len
  have e : ¬ ((0 : Int) < 0 ∨ (D.lasts.length : Int) ≤ 0) := by omega
  rw [h.off, if_neg e]
  rfl
set_option maxRecDepth 20000 in
theorem Rest.read {D : DiskM} (h : Rest D) {i : Nat} (hi : i < 16) : D.read (i : Int) = (D.lasts.getD i ⟨#[]⟩, 0) := by
  unfold DiskM.read DiskM.wrong
  have := h.len
  have e : ¬ ((i : Int) < 0 ∨ (D.lasts.length : Int) ≤ (i : Int)) := by omega
  rw [h.off, if_neg e, h.wts]
  rfl
set_option maxRecDepth 20000 in
theorem Rest.list {D : DiskM} (h : Rest D) : scanL D = scanTo D 8 := by unfold scanL; rw [if_pos h.scan]
set_option maxRecDepth 20000 in
theorem Rest.inc {D : DiskM} (h : Rest D) : Inc (scanL D) := by rw [h.list]; exact scanTo_incs D 8
set_option maxRecDepth 20000 in
theorem Rest.mem {D : DiskM} (h : Rest D) (x : EntM) : x ∈ scanL D ↔ ∃ i : Nat, i < 8 ∧ parseOk (D.lasts.getD i ⟨#[]⟩) = true ∧ (parseM (D.lasts.getD i ⟨#[]⟩)).number % 8 = i ∧ x = parseM (D.lasts.getD i ⟨#[]⟩) := by
  rw [h.list, scanTo_mem]
  constructor
  · rintro ⟨i, hi, h1⟩
    rw [h.read (by omega)] at h1
    exact ⟨i, hi, h1⟩
  · rintro ⟨i, hi, h1⟩
    refine ⟨i, hi, ?_⟩
    rw [h.read (by omega)]
    exact h1
set_option maxRecDepth 20000 in
theorem Rest.same {D D' : DiskM} (h : Rest D) (h' : Rest D') (e : D'.lasts = D.lasts) : scanL D' = scanL D := by
  refine inc_eq _ _ h'.inc h.inc fun x => ?_
  rw [h.mem, h'.mem, e]
set_option maxRecDepth 20000 in
theorem same_last {D D' : DiskM} (e : scanL D' = scanL D) : lastM D' = lastM D ∧ lastIs D' = lastIs D := by unfold lastM lastIs; rw [e]; exact ⟨rfl, rfl⟩
set_option maxRecDepth 20000 in
theorem Rest.right {D : DiskM} (h : Rest D) {x : EntM} (hx : x ∈ scanL D) : RightE x := by
  obtain ⟨i, hi, h1, h2, rfl⟩ := (h.mem x).1 hx
  exact (parse_right h1).1
/-- a further entry's block is written -/
theorem Rest.set {D D' : DiskM} (h : Rest D) (h' : Rest D') {E : EntM} (hR : RightE E) (hs : D'.lasts = D.lasts.set (E.number % 8).toNat E.block) (x : EntM) : x ∈ scanL D' ↔ x = E ∨ (x ∈ scanL D ∧ x.number % 8 ≠ E.number % 8) := by
  have hl := h.len
  have hp := parse_block hR
  have h8 : 0 ≤ E.number % 8 ∧ E.number % 8 < 8 := by omega
  rw [h'.mem, h.mem, hs]
  constructor
  · rintro ⟨i, hi, h1, h2, rfl⟩
    by_cases e : i = (E.number % 8).toNat
    · subst e
      rw [List.getD_eq_getElem?_getD, List.getElem?_set_self (by omega)]
      exact .inl hp.2
    · rw [List.getD_eq_getElem?_getD, List.getElem?_set_ne (fun h => e h.symm), ← List.getD_eq_getElem?_getD] at h1 h2 ⊢
      refine .inr ⟨⟨i, hi, h1, h2, rfl⟩, ?_⟩
      omega
  · rintro (rfl | ⟨⟨i, hi, h1, h2, rfl⟩, hn⟩)
    · refine ⟨(x.number % 8).toNat, by omega, ?_⟩
      rw [List.getD_eq_getElem?_getD, List.getElem?_set_self (by omega)]
      refine ⟨hp.1, ?_, hp.2.symm⟩
      show (parseM x.block).number % 8 = _
      rw [hp.2]
      omega
    · have e : ¬ i = (E.number % 8).toNat := by omega
      refine ⟨i, hi, ?_⟩
      rw [List.getD_eq_getElem?_getD, List.getElem?_set_ne (fun h => e h.symm), ← List.getD_eq_getElem?_getD]
      exact ⟨h1, h2, rfl⟩
set_option maxRecDepth 20000 in
theorem getLastD_cons (x : EntM) : ∀ (L : List EntM) (z : EntM), (x :: L).getLastD z = L.getLastD x
  | [], _ => rfl
  | _ :: _, _ => rfl
set_option maxRecDepth 20000 in
theorem inc_last : ∀ (L : List EntM) (z E : EntM), Inc L → E ∈ L → (∀ x ∈ L, x.number ≤ E.number) → L.getLastD z = E
  | [], _, _, _, h, _ => by simp at h
  | [x], _, _, _, h, _ => by simp at h; exact h.symm
  | x :: y :: L, z, E, hi, h, hm => by
    rw [getLastD_cons]
    refine inc_last (y :: L) x E hi.2 ?_ fun u hu => hm u (by simp [hu])
    rcases List.mem_cons.1 h with rfl | h
    · have h1 := hi.1 y (by simp)
      have h2 := hm y (by simp)
      omega
    · exact h
set_option maxRecDepth 20000 in
theorem inc_le_last : ∀ (L : List EntM) (z : EntM), Inc L → ∀ x ∈ L, x.number ≤ (L.getLastD z).number
  | [], _, _, _, h => by simp at h
  | [x], _, _, u, h => by simp at h; subst h; exact Int.le_refl _
  | x :: y :: L, z, hi, u, h => by
    rw [getLastD_cons]
    have h3 := inc_le_last (y :: L) x hi.2
    rcases List.mem_cons.1 h with rfl | h
    · have h1 := hi.1 y (by simp)
      have h2 := h3 y (by simp)
      omega
    · exact h3 u h
set_option maxRecDepth 20000 in
theorem Rest.le_last {D : DiskM} (h : Rest D) {x : EntM} (hx : x ∈ scanL D) : x.number ≤ (lastM D).number := inc_le_last _ _ h.inc x hx
set_option maxRecDepth 20000 in
theorem Rest.last {D : DiskM} (h : Rest D) {E : EntM} (hE : E ∈ scanL D) (hm : ∀ x ∈ scanL D, x.number ≤ E.number) : lastM D = E ∧ lastIs D = true := by
  refine ⟨inc_last _ _ E h.inc hE hm, ?_⟩
  unfold lastIs
  cases hl : scanL D with
  | nil => rw [hl] at hE; simp at hE
  | cons _ _ => rfl
set_option maxRecDepth 20000 in
theorem Rest.set_last {D D' : DiskM} (h : Rest D) (h' : Rest D') {E : EntM} (hR : RightE E) (hs : D'.lasts = D.lasts.set (E.number % 8).toNat E.block) (hm : (lastM D).number < E.number) : lastM D' = E ∧ lastIs D' = true := by
  refine h'.last ((h.set h' hR hs E).2 (.inl rfl)) fun x hx => ?_
  rcases (h.set h' hR hs x).1 hx with rfl | ⟨hx, _⟩
  · exact Int.le_refl _
  · have := h.le_last hx; omega
/-! ### RingRow -/
def rowE (c : UInt8) (j : Nat) : EntM := ⟨1 + (j : Int) % 3, (j : Int) + 1, (j : Int) % 3, j, sumB c⟩
def rowIn (c : UInt8) (j : Nat) : EntM := ⟨1 + (j : Int) % 3, 0, (j : Int) % 3, j, sumB c⟩
set_option maxRecDepth 20000 in
theorem sumB_size (c : UInt8) : (sumB c).size = 32 := by
  show (List.replicate 32 c).toArray.size = 32
  simp
set_option maxRecDepth 20000 in
theorem rowE_right (c : UInt8) {j : Nat} (h : j < 1000) : RightE (rowE c j) := by
  constructor <;> simp only [rowE] <;> first | exact sumB_size c | omega
structure RowInv (c : UInt8) (n : Nat) (D : DiskM) : Prop where
  calm : Calm D
  mem : ∀ x, x ∈ scanL D ↔ ∃ j, j < n ∧ n < j + 9 ∧ x = rowE c j
set_option maxRecDepth 20000 in
theorem RowInv.zero (c : UInt8) : RowInv c 0 (DiskM.new 16) := ⟨calm_new, fun x => by rw [scan_new]; simp⟩
set_option maxRecDepth 20000 in
theorem RowInv.num {c : UInt8} {n : Nat} {D : DiskM} (h : RowInv c n D) : (lastM D).number = n := by
  cases n with
  | zero =>
    have : scanL D = [] := List.eq_nil_iff_forall_not_mem.2 fun x hx => by obtain ⟨j, hj, _⟩ := (h.mem x).1 hx; omega
    rw [(last_nil this).1]; rfl
  | succ n =>
    have := h.calm.rest.last (E := rowE c n) ((h.mem _).2 ⟨n, by omega, by omega, rfl⟩) fun x hx => by
      obtain ⟨j, hj, _, rfl⟩ := (h.mem x).1 hx
      simp only [rowE]
      omega
    rw [this.1]; rfl
set_option maxRecDepth 20000 in
theorem RowInv.step {c : UInt8} {n : Nat} {D : DiskM} (h : RowInv c n D) (hn : n < 40) : (appendM D (rowIn c n)).2 = (rowE c n, 0) ∧ RowInv c (n + 1) (appendM D (rowIn c n)).1 := by
  have hR := rowE_right c (j := n) (by omega)
  obtain ⟨h1, h2, h3⟩ := calm_append h.calm (rowIn c n) (E := rowE c n) (by rw [h.num]; rfl) hR
  refine ⟨h1, h2, fun x => ?_⟩
  rw [h.calm.rest.set h2.rest hR h3, h.mem]
  constructor
  · rintro (rfl | ⟨⟨j, hj, hj2, rfl⟩, hne⟩)
    · exact ⟨n, by omega, by omega, rfl⟩
    · simp only [rowE] at hne
      exact ⟨j, by omega, by omega, rfl⟩
  · rintro ⟨j, hj, hj2, rfl⟩
    by_cases e : j = n
    · exact .inl (by rw [e])
    · refine .inr ⟨⟨j, by omega, by omega, rfl⟩, ?_⟩
      simp only [rowE]
      omega
def rowsFrom (c : UInt8) : Nat → Nat → List EntM
  | _, 0 => []
  | a, k + 1 => rowE c a :: rowsFrom c (a + 1) k
set_option maxRecDepth 20000 in
theorem rowsFrom_mem (c : UInt8) (x : EntM) : ∀ k a, x ∈ rowsFrom c a k ↔ ∃ j, a ≤ j ∧ j < a + k ∧ x = rowE c j
  | 0, a => by
    simp [rowsFrom]
    intro j h1 h2
    omega
  | k + 1, a => by
    unfold rowsFrom
    rw [List.mem_cons, rowsFrom_mem c x k (a + 1)]
    constructor
    · rintro (rfl | ⟨j, h1, h2, rfl⟩)
      · exact ⟨a, by omega, by omega, rfl⟩
      · exact ⟨j, by omega, by omega, rfl⟩
    · rintro ⟨j, h1, h2, rfl⟩
      by_cases e : j = a
      · exact .inl (by rw [e])
      · exact .inr ⟨j, by omega, by omega, rfl⟩
set_option maxRecDepth 20000 in
theorem rowsFrom_inc (c : UInt8) : ∀ k a, Inc (rowsFrom c a k)
  | 0, _ => trivial
  | k + 1, a => by
    refine ⟨fun y hy => ?_, rowsFrom_inc c k (a + 1)⟩
    obtain ⟨j, h1, _, rfl⟩ := (rowsFrom_mem c y k (a + 1)).1 hy
    simp only [rowE]
    omega
set_option maxRecDepth 20000 in
theorem rowsFrom_len (c : UInt8) : ∀ k a, (rowsFrom c a k).length = k
  | 0, _ => rfl
  | k + 1, a => by unfold rowsFrom; rw [List.length_cons, rowsFrom_len c k]
set_option maxRecDepth 20000 in
theorem rowsFrom_get (c : UInt8) : ∀ k a i, i < k → (rowsFrom c a k)[i]? = some (rowE c (a + i))
  | k + 1, a, 0, _ => rfl
  | k + 1, a, i + 1, h => by
    show (rowsFrom c (a + 1) k)[i]? = _
    rw [rowsFrom_get c k (a + 1) i (by omega), show a + 1 + i = a + (i + 1) by omega]
set_option maxRecDepth 20000 in
theorem RowInv.list {c : UInt8} {n : Nat} {D : DiskM} (h : RowInv c n D) : scanL D = rowsFrom c (n - min n 8) (min n 8) := by
  refine inc_eq _ _ h.calm.rest.inc (rowsFrom_inc c _ _) fun x => ?_
  rw [h.mem, rowsFrom_mem]
  constructor
  · rintro ⟨j, h1, h2, rfl⟩; exact ⟨j, by omega, by omega, rfl⟩
  · rintro ⟨j, h1, h2, rfl⟩; exact ⟨j, by omega, by omega, rfl⟩
/-! ### RingCrashes -/
theorem wrap64_low {x : Int} (h0 : 0 ≤ x) (h1 : x < 4611686018427387904) : wrap64 x = x := by
  unfold wrap64
  omega
/-- no failure is planned, or one that comes behind so many operations -/
def PlanIn (D : DiskM) : Prop := D.pon = false ∨ (0 ≤ D.after ∧ D.after ≤ 1099511627776)
set_option maxRecDepth 20000 in
theorem cut_rest {D : DiskM} (hp : PlanIn D) : (D.cut.2 = false ∧ D.cut.1.lasts = D.lasts ∧ D.cut.1.waits = D.waits ∧ D.cut.1.off = D.off ∧ PlanIn D.cut.1) ∨ (D.cut.2 = true ∧ (D.off = false → D.cut.1.lasts = settleTo (maskBit D.mask) 0 D.waits D.lasts ∧ D.cut.1.waits = [] ∧ D.cut.1.off = true)) := by
  unfold DiskM.cut
  by_cases h1 : D.pon = false
  · rw [if_pos h1]
    exact .inl ⟨rfl, rfl, rfl, rfl, .inl h1⟩
  · rw [if_neg h1]
    have h2 : 0 ≤ D.after ∧ D.after ≤ 1099511627776 := by rcases hp with h | h; exact absurd h h1; exact h
    by_cases h3 : 0 < D.after
    · rw [if_pos h3]
      refine .inl ⟨rfl, rfl, rfl, rfl, .inr ?_⟩
      show 0 ≤ wrap64 (D.after - 1) ∧ wrap64 (D.after - 1) ≤ 1099511627776
      rw [wrap64_low (by omega) (by omega)]
      omega
    · rw [if_neg h3]
      refine .inr ⟨rfl, fun h4 => ?_⟩
      unfold DiskM.fail
      rw [if_neg (by show ¬ D.off = true; rw [h4]; decide)]
      exact ⟨rfl, rfl, rfl⟩
set_option maxRecDepth 20000 in
theorem settle_one (f : Nat → Bool) (i : Int) (s : ByteArray) (L : List ByteArray) : settleTo f 0 [(i, s)] L = L.set i.toNat s ∨ settleTo f 0 [(i, s)] L = L := by
  show (if f 0 then L.set i.toNat s else L) = _ ∨ (if f 0 then L.set i.toNat s else L) = _
  split
  · exact .inl rfl
  · exact .inr rfl
set_option maxRecDepth 20000 in
theorem crash_append {D : DiskM} (h : Rest D) (hp : PlanIn D) (e : EntM) {E : EntM} (hE : { e with number := (lastM D).number + 1 } = E) (hR : RightE E) :
    ((appendM D e).2 = (E, 0) ∧ (appendM D e).1.lasts = D.lasts.set (E.number % 8).toNat E.block ∧ (appendM D e).1.waits = []) ∨
    ((appendM D e).2 = (EntM.zero, 7) ∧ ((appendM D e).1.lasts = D.lasts.set (E.number % 8).toNat E.block ∨ (appendM D e).1.lasts = D.lasts) ∧ (appendM D e).1.waits = []) := by
  have hn : (lastM D).number ≠ 4294967295 := by
    have h1 := hR.n1
    rw [← hE] at h1
    have : (lastM D).number + 1 ≤ 4294967295 := h1
    omega
  have hl := h.len
  have h8 : 0 ≤ E.number % 8 ∧ E.number % 8 < 8 := by omega
  have hw : D.wrong (E.number % 8) = 0 := by
    unfold DiskM.wrong
    rw [h.off, if_neg (by omega : ¬ (E.number % 8 < 0 ∨ (D.lasts.length : Int) ≤ E.number % 8))]
    rfl
  have hz := block_size hR
  obtain ⟨W, hWe⟩ : ∃ W : DiskM, ({ D with waits := D.waits ++ [(E.number % 8, E.block)] } : DiskM) = W := ⟨_, rfl⟩
  have w1 : W.lasts = D.lasts := by rw [← hWe]
  have w2 : W.waits = [(E.number % 8, E.block)] := by rw [← hWe]; show D.waits ++ _ = _; rw [h.wts]; rfl
  have w3 : W.off = false := by rw [← hWe]; exact h.off
  have w4 : PlanIn W := by rw [← hWe]; exact hp
  have hW : D.write (E.number % 8) E.block = (W.cut.1, if W.cut.2 then 7 else 0) := by
    unfold DiskM.write
    rw [if_neg (by rw [hw]; decide), if_neg (by rw [hz]; decide), hWe]
  rcases cut_rest w4 with ⟨c1, c2, c3, c4, c5⟩ | ⟨c1, c2⟩
  · rw [c1] at hW
    obtain ⟨V, hV⟩ : ∃ V, W.cut.1 = V := ⟨_, rfl⟩
    rw [hV] at c2 c3 c4 c5 hW
    rw [w1] at c2; rw [w2] at c3; rw [w3] at c4
    have h2 : (D.write (E.number % 8) E.block).2 = 0 := by rw [hW]; rfl
    have h1 : (D.write (E.number % 8) E.block).1 = V := by rw [hW]
    have hw0 : V.wrong 0 = 0 := by
      unfold DiskM.wrong
      rw [c4, c2, if_neg (by omega : ¬ ((0 : Int) < 0 ∨ (D.lasts.length : Int) ≤ 0))]
      rfl
    rcases cut_rest c5 with ⟨d1, d2, d3, d4, d5⟩ | ⟨d1, d2⟩
    · have hS : V.sync = ({ V.cut.1 with lasts := settleTo (fun _ => true) 0 V.cut.1.waits V.cut.1.lasts, waits := [] }, 0) := by
        unfold DiskM.sync
        rw [if_neg (by rw [hw0]; decide), if_neg (by rw [d1]; decide)]
      rw [ap_ok h.scan hn hE ((rightE_iff _).2 hR) h2 (by rw [h1, hS]), h1, hS]
      refine .inl ⟨rfl, ?_, rfl⟩
      show settleTo (fun _ => true) 0 V.cut.1.waits V.cut.1.lasts = _
      rw [d2, d3, c2, c3]
      rfl
    · obtain ⟨d3, d4, d5⟩ := d2 c4
      have hS : V.sync = (V.cut.1, 7) := by
        unfold DiskM.sync
        rw [if_neg (by rw [hw0]; decide), if_pos d1]
      rw [ap_sync h.scan hn hE ((rightE_iff _).2 hR) h2 (by rw [h1, hS]; show (7 : Int) ≠ 0; decide), h1, hS]
      refine .inr ⟨rfl, ?_, d4⟩
      show V.cut.1.lasts = _ ∨ V.cut.1.lasts = _
      rw [d3, c2, c3]
      exact settle_one _ _ _ _
  · rw [c1] at hW
    obtain ⟨c3, c4, c5⟩ := c2 w3
    rw [ap_write h.scan hn hE ((rightE_iff _).2 hR) (by rw [hW]; show (7 : Int) ≠ 0; decide), hW]
    refine .inr ⟨rfl, ?_, c4⟩
    show W.cut.1.lasts = _ ∨ W.cut.1.lasts = _
    rw [c3, w1, w2]
    exact settle_one _ _ _ _
def crashWant (i : Nat) (I : Int) (last : EntM) : EntM := ⟨1 + countM I 3, last.number + 1, countM I 2, i, sumB (UInt8.ofNat i)⟩
set_option maxRecDepth 20000 in
theorem countM_rng (I : Int) (m : Int) (h : 0 < m) : 0 ≤ countM I m ∧ countM I m < m := by
  unfold countM
  exact ⟨Int.emod_nonneg _ (by omega), Int.emod_lt_of_pos _ h⟩
/-- the disk ahead of Append; behind it; behind the failure -/
def crashD1 (kind I mask : Int) (D : DiskM) : DiskM := if kind = 2 then (D.plan (countM I 3) mask).1 else D
def crashD3 (mask : Int) (D : DiskM) : DiskM := (((D.plan 1099511627776 0).1).fail mask).start
structure CrInv (i : Nat) (D : DiskM) : Prop where
  rest : Rest D
  plan : PlanIn D
  n0 : 0 ≤ (lastM D).number
  n1 : (lastM D).number ≤ i
set_option maxRecDepth 20000 in
theorem CrInv.zero : CrInv 0 (DiskM.new 16) := ⟨calm_new.rest, .inl rfl, by rw [last_new.1]; decide, by rw [last_new.1]; decide⟩
set_option maxRecDepth 20000 in
theorem crash_d1 {D : DiskM} (h : Rest D) (hp : PlanIn D) (kind I mask : Int) : Rest (crashD1 kind I mask D) ∧ PlanIn (crashD1 kind I mask D) ∧ (crashD1 kind I mask D).lasts = D.lasts := by
  unfold crashD1
  split
  · unfold DiskM.plan
    have := countM_rng I 3 (by decide)
    rw [if_neg (by omega)]
    exact ⟨⟨h.off, h.wts, h.len⟩, .inr ⟨this.1, by show countM I 3 ≤ _; omega⟩, rfl⟩
  · exact ⟨h, hp, rfl⟩
set_option maxRecDepth 20000 in
theorem crash_d3 {D : DiskM} (hw : D.waits = []) (hl : 16 ≤ D.lasts.length) (mask : Int) : Rest (crashD3 mask D) ∧ PlanIn (crashD3 mask D) ∧ (crashD3 mask D).lasts = D.lasts := by
  unfold crashD3 DiskM.plan
  rw [if_neg (by decide)]
  unfold DiskM.fail DiskM.start
  by_cases h : D.off = true
  · rw [if_pos h]
    exact ⟨⟨rfl, hw, hl⟩, .inr ⟨by show (0 : Int) ≤ 1099511627776; decide, by show (1099511627776 : Int) ≤ 1099511627776; decide⟩, rfl⟩
  · rw [if_neg h]
    refine ⟨⟨rfl, rfl, ?_⟩, .inr ⟨by show (0 : Int) ≤ 1099511627776; decide, by show (1099511627776 : Int) ≤ 1099511627776; decide⟩, ?_⟩
    · show 16 ≤ (settleTo (maskBit mask) 0 D.waits D.lasts).length
      rw [hw]; exact hl
    · show settleTo (maskBit mask) 0 D.waits D.lasts = D.lasts
      rw [hw]; rfl
structure CrStep (i : Nat) (D D1 R D3 : DiskM) (x : EntM) (f : Int) (want : EntM) : Prop where
  was : scanL D1 = scanL D
  wts : R.waits = []
  was0 : scanE D1 = 0
  ans : (f = 0 ∧ x = want) ∨ f = 7
  scan0 : scanE D3 = 0
  good : f = 0 → lastIs D3 = true ∧ lastM D3 = want
  bad : f ≠ 0 → (lastIs D3 = true ∧ lastM D3 = want) ∨ (lastIs D3 = lastIs D ∧ lastM D3 = lastM D)
  keeps : ∀ x ∈ scanL D, want.number - 8 < x.number → x ∈ scanL D3
  inv : CrInv (i + 1) D3
set_option maxRecDepth 20000 in
theorem crash_step {i : Nat} {D : DiskM} (h : CrInv i D) (hi : i < 40) (kind I mask : Int) :
    CrStep i D (crashD1 kind I mask D) (appendM (crashD1 kind I mask D) (crashWant i I (lastM D))).1 (crashD3 mask (appendM (crashD1 kind I mask D) (crashWant i I (lastM D))).1)
      (appendM (crashD1 kind I mask D) (crashWant i I (lastM D))).2.1 (appendM (crashD1 kind I mask D) (crashWant i I (lastM D))).2.2 (crashWant i I (lastM D)) := by
  obtain ⟨r1, p1, l1⟩ := crash_d1 h.rest h.plan kind I mask
  have hn0 := h.n0
  have hn1 := h.n1
  generalize crashD1 kind I mask D = D1 at *
  have hsame := h.rest.same r1 l1
  have hlast := same_last hsame
  have hR : RightE (crashWant i I (lastM D)) := by
    have := countM_rng I 3 (by decide)
    have := countM_rng I 2 (by decide)
    constructor <;> simp only [crashWant] <;> first | exact sumB_size _ | omega
  have hE : { crashWant i I (lastM D) with number := (lastM D1).number + 1 } = crashWant i I (lastM D) := by rw [hlast.1]; rfl
  have hnum : (crashWant i I (lastM D)).number = (lastM D).number + 1 := rfl
  generalize hWn : crashWant i I (lastM D) = want at *
  have hA := crash_append r1 p1 want hE hR
  obtain ⟨R, hRe⟩ : ∃ R, appendM D1 want = R := ⟨_, rfl⟩
  rw [hRe] at hA ⊢
  have hlen := h.rest.len
  have hw : R.1.waits = [] := by rcases hA with ⟨_, _, h⟩ | ⟨_, _, h⟩ <;> exact h
  have hll : R.1.lasts = D.lasts.set (want.number % 8).toNat want.block ∨ R.1.lasts = D.lasts := by
    rw [← l1]
    rcases hA with ⟨_, h, _⟩ | ⟨_, h, _⟩
    · exact .inl h
    · exact h
  have hl16 : 16 ≤ R.1.lasts.length := by
    rcases hll with h | h
    · rw [h, List.length_set]; exact hlen
    · rw [h]; exact hlen
  obtain ⟨r3, p3, l3⟩ := crash_d3 hw hl16 mask
  generalize crashD3 mask R.1 = D3 at *
  have hgood : R.1.lasts = D.lasts.set (want.number % 8).toNat want.block → (lastM D3 = want ∧ lastIs D3 = true) ∧ ∀ x ∈ scanL D, want.number - 8 < x.number → x ∈ scanL D3 := fun e => by
    rw [e] at l3
    refine ⟨h.rest.set_last r3 hR l3 (by omega), fun x hx hxn => (h.rest.set r3 hR l3 x).2 (.inr ⟨hx, fun e => ?_⟩)⟩
    have := h.rest.le_last hx
    omega
  have hbad : R.1.lasts = D.lasts → (lastM D3 = lastM D ∧ lastIs D3 = lastIs D) ∧ ∀ x ∈ scanL D, want.number - 8 < x.number → x ∈ scanL D3 := fun e => by
    rw [e] at l3
    have hs := h.rest.same r3 l3
    exact ⟨same_last hs, fun x hx _ => by rw [hs]; exact hx⟩
  have hin : CrInv (i + 1) D3 := by
    refine ⟨r3, p3, ?_, ?_⟩
    · rcases hll with e | e
      · rw [(hgood e).1.1]; omega
      · rw [(hbad e).1.1]; omega
    · rcases hll with e | e
      · rw [(hgood e).1.1]; omega
      · rw [(hbad e).1.1]; omega
  refine ⟨hsame, hw, r1.scan, ?_, r3.scan, fun hf => ?_, fun hf => ?_, fun x hx hxn => ?_, hin⟩
  · rcases hA with ⟨h, _⟩ | ⟨h, _⟩
    · rw [h]; exact .inl ⟨rfl, rfl⟩
    · rw [h]; exact .inr rfl
  · rcases hA with ⟨_, e, _⟩ | ⟨e, _⟩
    · rw [l1] at e
      exact ⟨(hgood e).1.2, (hgood e).1.1⟩
    · rw [e] at hf; exact absurd hf (by decide)
  · rcases hll with e | e
    · exact .inl ⟨(hgood e).1.2, (hgood e).1.1⟩
    · exact .inr ⟨(hbad e).1.2, (hbad e).1.1⟩
  · rcases hll with e | e
    · exact (hgood e).2 x hx hxn
    · exact (hbad e).2 x hx hxn
end Go.Proofs.Ytacbnoagdlelgaa
