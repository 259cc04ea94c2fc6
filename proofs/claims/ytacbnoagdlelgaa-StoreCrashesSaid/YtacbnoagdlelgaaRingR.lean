/- Chapter 5: what a journal says of a disk's blocks: plain facts of the model. No program's text. -/
import Derived.Test.YtacbnoagdlelgaaRg2
namespace Go.Proofs.Ytacbnoagdlelgaa
open Go.RowKit Zb

set_option maxRecDepth 20000 in
theorem parse_zero : parseOk (zeros 64) = false := by kernel_rfl
set_option maxRecDepth 20000 in
theorem scanTo_none {D : DiskM} : ∀ n : Nat, (∀ i : Nat, i < n → parseOk (D.read i).1 = false) → scanTo D n = []
  | 0, _ => rfl
  | n + 1, h => by
    unfold scanTo scanStep
    rw [h n (Nat.lt_succ_self n), scanTo_none n fun i hi => h i (Nat.lt_succ_of_lt hi)]
    rfl
/-- by their numbers, each once -/
def Inc : List EntM → Prop
  | [] => True
  | x :: l => (∀ y ∈ l, x.number < y.number) ∧ Inc l
set_option maxRecDepth 20000 in
theorem insE_mem (x e : EntM) : ∀ L : List EntM, x ∈ insE L e ↔ x = e ∨ x ∈ L
  | [] => by simp [insE]
  | y :: l => by
    unfold insE
    split
    · simp
    · rw [List.mem_cons, insE_mem x e l, List.mem_cons]
      constructor
      · rintro (h | h | h)
        · exact .inr (.inl h)
        · exact .inl h
        · exact .inr (.inr h)
      · rintro (h | h | h)
        · exact .inr (.inl h)
        · exact .inl h
        · exact .inr (.inr h)
set_option maxRecDepth 20000 in
theorem insE_inc (e : EntM) : ∀ L : List EntM, Inc L → (∀ y ∈ L, y.number ≠ e.number) → Inc (insE L e)
  | [], _, _ => ⟨fun y hy => by simp at hy, trivial⟩
  | y :: l, h, hn => by
    unfold insE
    split
    · next hl =>
      refine ⟨fun z hz => ?_, h⟩
      rcases List.mem_cons.1 hz with rfl | hz
      · exact hl
      · have := h.1 z hz; omega
    · next hl =>
      refine ⟨fun z hz => ?_, insE_inc e l h.2 fun z hz => hn z (by simp [hz])⟩
      rcases (insE_mem z e l).1 hz with rfl | hz
      · have := hn y (by simp); omega
      · exact h.1 z hz
set_option maxRecDepth 20000 in
theorem inc_eq : ∀ a b : List EntM, Inc a → Inc b → (∀ x, x ∈ a ↔ x ∈ b) → a = b
  | [], [], _, _, _ => rfl
  | [], y :: l, _, _, h => by have := (h y).2 (by simp); simp at this
  | x :: l, [], _, _, h => by have := (h x).1 (by simp); simp at this
  | x :: l, y :: m, ha, hb, h => by
    have e : x = y := by
      rcases List.mem_cons.1 ((h x).1 (by simp)) with e | e
      · exact e
      · rcases List.mem_cons.1 ((h y).2 (by simp)) with e' | e'
        · exact e'.symm
        · have h1 := hb.1 x e
          have h2 := ha.1 y e'
          omega
    subst e
    congr 1
    refine inc_eq l m ha.2 hb.2 fun z => ⟨fun hz => ?_, fun hz => ?_⟩
    · rcases List.mem_cons.1 ((h z).1 (by simp [hz])) with e | e
      · have := ha.1 z hz; rw [e] at this; omega
      · exact e
    · rcases List.mem_cons.1 ((h z).2 (by simp [hz])) with e | e
      · have := hb.1 z hz; rw [e] at this; omega
      · exact e
set_option maxRecDepth 20000 in
theorem scanTo_mem (D : DiskM) (x : EntM) : ∀ n : Nat, x ∈ scanTo D n ↔ ∃ i : Nat, i < n ∧ parseOk (D.read i).1 = true ∧ (parseM (D.read i).1).number % 8 = i ∧ x = parseM (D.read i).1
  | 0 => by simp [scanTo]
  | n + 1 => by
    unfold scanTo scanStep
    split
    · next h =>
      rw [Bool.and_eq_true, decide_eq_true_eq] at h
      rw [insE_mem, scanTo_mem D x n]
      constructor
      · rintro (e | ⟨i, hi, h1⟩)
        · exact ⟨n, Nat.lt_succ_self n, h.1, h.2, e⟩
        · exact ⟨i, Nat.lt_succ_of_lt hi, h1⟩
      · rintro ⟨i, hi, h1, h2, h3⟩
        by_cases e : i = n
        · subst e; exact .inl h3
        · exact .inr ⟨i, by omega, h1, h2, h3⟩
    · next h =>
      rw [scanTo_mem D x n]
      constructor
      · rintro ⟨i, hi, h1⟩; exact ⟨i, Nat.lt_succ_of_lt hi, h1⟩
      · rintro ⟨i, hi, h1, h2, h3⟩
        by_cases e : i = n
        · subst e; exact absurd (by rw [h1]; simpa using h2) h
        · exact ⟨i, by omega, h1, h2, h3⟩
set_option maxRecDepth 20000 in
theorem scanTo_incs (D : DiskM) : ∀ n : Nat, Inc (scanTo D n)
  | 0 => trivial
  | n + 1 => by
    unfold scanTo scanStep
    split
    · next h =>
      rw [Bool.and_eq_true, decide_eq_true_eq] at h
      refine insE_inc _ _ (scanTo_incs D n) fun y hy e => ?_
      obtain ⟨i, hi, _, h2, rfl⟩ := (scanTo_mem D y n).1 hy
      rw [e, h.2] at h2
      omega
    · exact scanTo_incs D n
/-- on, with no failure planned and nothing that waits -/
structure Calm (D : DiskM) : Prop where
  off : D.off = false
  pon : D.pon = false
  wts : D.waits = []
  len : 16 ≤ D.lasts.length
set_option maxRecDepth 20000 in
theorem Calm.scan {D : DiskM} (h : Calm D) : scanE D = 0 := by
  unfold scanE DiskM.read DiskM.wrong
  have := h.len
  have e : ¬ ((0 : Int) < 0 ∨ (D.lasts.length : Int) ≤ 0) := by omega
  rw [h.off, if_neg e]
  rfl
set_option maxRecDepth 20000 in
theorem Calm.read {D : DiskM} (h : Calm D) {i : Nat} (hi : i < 16) : D.read (i : Int) = (D.lasts.getD i ⟨#[]⟩, 0) := by
  unfold DiskM.read DiskM.wrong
  have := h.len
  have e : ¬ ((i : Int) < 0 ∨ (D.lasts.length : Int) ≤ (i : Int)) := by omega
  rw [h.off, if_neg e, h.wts]
  rfl
set_option maxRecDepth 20000 in
theorem calm_append {D : DiskM} (h : Calm D) (e : EntM) {E : EntM} (hE : { e with number := (lastM D).number + 1 } = E) (hR : RightE E) :
    (appendM D e).2 = (E, 0) ∧ Calm (appendM D e).1 ∧ (appendM D e).1.lasts = D.lasts.set (E.number % 8).toNat E.block := by
  have hn : (lastM D).number ≠ 4294967295 := by
    have h1 := hR.n1
    rw [← hE] at h1
    have : (lastM D).number + 1 ≤ 4294967295 := h1
    omega
  have hl := h.len
  have h8 : 0 ≤ E.number % 8 ∧ E.number % 8 < 8 := by omega
  have hw : D.wrong (E.number % 8) = 0 := by
    unfold DiskM.wrong
    rw [h.off, if_neg (by omega : ¬ (E.number % 8 < 0 ∨ (D.lasts.length : Int) ≤ E.number % 8))]
    rfl
  have hz := block_size hR
  have hW : D.write (E.number % 8) E.block = ({ D with waits := [(E.number % 8, E.block)], ops := wrap64 (D.ops + 1) }, 0) := by
    unfold DiskM.write DiskM.cut
    simp [hw, hz, h.pon, h.wts]
  have hS : (D.write (E.number % 8) E.block).1.sync = ({ D with lasts := D.lasts.set (E.number % 8).toNat E.block, waits := [], ops := wrap64 (wrap64 (D.ops + 1) + 1) }, 0) := by
    rw [hW]
    unfold DiskM.sync DiskM.cut DiskM.wrong
    have e0 : ¬ ((0 : Int) < 0 ∨ (D.lasts.length : Int) ≤ 0) := by omega
    simp [h.off, h.pon, settleTo]
    intro hnil
    rw [hnil] at hl
    simp at hl
  have hA := ap_ok h.scan hn hE ((rightE_iff _).2 hR) (by rw [hW]) (by rw [hS])
  rw [hA, hS]
  exact ⟨rfl, ⟨h.off, h.pon, rfl, by simpa using hl⟩, rfl⟩
set_option maxRecDepth 20000 in
theorem calm_new : Calm (DiskM.new 16) := ⟨rfl, rfl, rfl, by simp [DiskM.new]⟩
set_option maxRecDepth 20000 in
theorem scan_new : scanL (DiskM.new 16) = [] := by
  unfold scanL
  rw [if_pos calm_new.scan]
  refine scanTo_none 8 fun i hi => ?_
  rw [calm_new.read (by omega)]
  have e : (DiskM.new 16).lasts.getD i ⟨#[]⟩ = zeros 64 := by
    show (List.replicate 16 (zeros 64)).getD i ⟨#[]⟩ = zeros 64
    rw [List.getD_eq_getElem?_getD, List.getElem?_replicate, if_pos (by omega)]
    rfl
  rw [e]
  exact parse_zero
set_option maxRecDepth 20000 in
theorem last_new : lastM (DiskM.new 16) = EntM.zero ∧ lastIs (DiskM.new 16) = false := by unfold lastM lastIs; rw [scan_new]; exact ⟨rfl, rfl⟩
end Go.Proofs.Ytacbnoagdlelgaa
