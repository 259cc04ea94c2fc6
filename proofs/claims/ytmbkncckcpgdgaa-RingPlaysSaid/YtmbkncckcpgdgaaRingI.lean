/- Chapter 5: what Append keeps while it works. No program's text. -/
import Derived.Test.YtmbkncckcpgdgaaRingH
namespace Go.Proofs.Ytmbkncckcpgdgaa
open Go.RowKit Zb

/-- a disk's place in memory, the program's or the document's -/
structure Mv (At : World → Nat → (Nat → Prop) → DiskM → Prop) : Prop where
  mv : ∀ {w w1 : World} {b : Nat} {F : Nat → Prop} {D : DiskM}, At w b F D → w.heap.size ≤ w1.heap.size → (∀ x, F x → w1.heap[x]? = w.heap[x]?) → At w1 b F D
  lt : ∀ {w : World} {b : Nat} {F : Nat → Prop} {D : DiskM}, At w b F D → ∀ x, F x → x < w.heap.size
set_option maxRecDepth 20000 in
theorem mvD : Mv DiskAt := ⟨fun h => h.moved, fun h => h.lt⟩
def MPost (At : World → Nat → (Nat → Prop) → DiskM → Prop) (F : Nat → Prop) (w : World) (b : Nat) (v : Value) (D' : DiskM) (e : Ending) (w' : World) : Prop :=
  e = .returned v ∧ Turned F w w' ∧ ∃ F', (∀ x, F' x → F x ∨ w.heap.size ≤ x) ∧ At w' b F' D'
structure ApS (At : World → Nat → (Nat → Prop) → DiskM → Prop) (T : TypeId) (w wr : World) (b : Nat) (F : Nat → Prop) (D : DiskM) (e : EntM) : Prop where
  tur : Turned F w wr
  dk : ∃ F', (∀ x, F' x → (F x ∨ w.heap.size ≤ x) ∧ x ≠ w.heap.size ∧ x ≠ w.heap.size + 1) ∧ At wr b F' D
  b3 : Blk wr w.heap.size T e.cells.toArray
  b4 : Blk wr (w.heap.size + 1) T EntM.zero.cells.toArray
section
variable {At : World → Nat → (Nat → Prop) → DiskM → Prop} {T : TypeId} {w wr w1 : World} {b : Nat} {F : Nat → Prop} {D D' : DiskM} {e : EntM}
set_option maxRecDepth 20000 in
theorem ApS.start (M : Mv At) (h : At w b F D) (T : TypeId) (e : EntM) : ApS At T w ((w.alloc (.cells e.cells.toArray T)).alloc (.cells EntM.zero.cells.toArray T)) b F D e := by
  have h1 : Below w.heap.size w ((w.alloc (.cells e.cells.toArray T)).alloc (.cells EntM.zero.cells.toArray T)) := ((Below.refl _ _).alloc (Nat.le_refl _) _).alloc (by simp) _
  refine ⟨Turned.of_below h1, ⟨F, fun x hx => ⟨.inl hx, ?_⟩, M.mv h h1.size fun x hx => h1.block x (M.lt h x hx)⟩, (Blk.new w T _).alloc _, ?_⟩
  · have := M.lt h x hx; omega
  · have := Blk.new (w.alloc (.cells e.cells.toArray T)) T EntM.zero.cells.toArray
    simpa using this
set_option maxRecDepth 20000 in
theorem ApS.sz (h : ApS At T w wr b F D e) : w.heap.size + 1 < wr.heap.size := h.b4.lt
set_option maxRecDepth 20000 in
theorem ApS.below (M : Mv At) (h : ApS At T w wr b F D e) (k : Below wr.heap.size wr w1) : ApS At T w w1 b F D e := by
  obtain ⟨F', hF, hd⟩ := h.dk
  exact ⟨h.tur.then_below k, ⟨F', hF, M.mv hd k.size fun x hx => k.block x (M.lt hd x hx)⟩, h.b3.below k h.b3.lt, h.b4.below k h.b4.lt⟩
set_option maxRecDepth 20000 in
theorem ApS.num (M : Mv At) (h : ApS At T w wr b F D e) (n : Int) : ApS At T w (wr.setCell ⟨w.heap.size, 1, none⟩ (.int .i64 n)) b F D { e with number := n } := by
  obtain ⟨F', hF, hd⟩ := h.dk
  refine ⟨h.tur.setCell (.inr (Nat.le_refl _)) _, ⟨F', hF, M.mv hd (by simp [World.setCell]) fun x hx => Below.heap_setCell _ _ _ _ (hF x hx).2.1⟩, h.b3.set_ 1 _, ?_⟩
  exact (Below.heap_setCell _ _ _ _ (by simp)).trans h.b4
set_option maxRecDepth 20000 in
theorem ApS.call {f : FuncId} {args : Array Value} {v : Value} (h : ApS At T w wr b F D e) (hc : ∀ F', At wr b F' D → Calls Try.prog f args wr (MPost At F' wr b v D')) : Calls Try.prog f args wr fun r w' => r = .returned v ∧ Hid (ApS At T w w' b F D' e) := by
  obtain ⟨F', hF, hd⟩ := h.dk
  have hs := h.tur.size
  have hz := h.sz
  refine (hc F' hd).mono ?_
  rintro r w' ⟨rfl, tu, F2, hF2, hd2⟩
  refine ⟨rfl, hide ⟨h.tur.trans tu fun x hx => (hF x hx).1, ⟨F2, fun x hx => ?_, hd2⟩, (tu.block _ (by omega) fun hx => (hF _ hx).2.1 rfl).trans h.b3, (tu.block _ (by omega) fun hx => (hF _ hx).2.2 rfl).trans h.b4⟩⟩
  rcases hF2 x hx with h1 | h1
  · exact hF x h1
  · exact ⟨.inr (by omega), by omega, by omega⟩
set_option maxRecDepth 20000 in
theorem ApS.fin (M : Mv At) (h : ApS At T w wr b F D e) (cs : Array Value) : Turned F w (wr.setRow (w.heap.size + 1) cs) ∧ ∃ F', (∀ x, F' x → F x ∨ w.heap.size ≤ x) ∧ At (wr.setRow (w.heap.size + 1) cs) b F' D := by
  obtain ⟨F', hF, hd⟩ := h.dk
  have hb : Below (w.heap.size + 1) wr (wr.setRow (w.heap.size + 1) cs) := below_setRow (Below.refl _ _) (Nat.le_refl _) cs
  refine ⟨h.tur.trans (G := fun x => w.heap.size ≤ x) ⟨hb.os, hb.tape, hb.output, hb.size, fun i hi hg => hb.block i (by omega)⟩ (fun x hx => .inr hx), F', fun x hx => (hF x hx).1, M.mv hd hb.size fun x hx => setRow_other _ _ _ _ (hF x hx).2.2⟩
end
/-! ### what Append answers -/
section
variable {D : DiskM} {e : EntM}
set_option maxRecDepth 20000 in
theorem write_waits (D : DiskM) (i : Int) (s : ByteArray) : (D.write i s).1.waits.length ≤ D.waits.length + 1 := by
  have hc : ∀ E : DiskM, E.cut.1.waits.length ≤ E.waits.length := fun E => by
    unfold DiskM.cut DiskM.fail
    split
    · exact Nat.le_refl _
    · split
      · exact Nat.le_refl _
      · split
        · exact Nat.le_refl _
        · exact Nat.zero_le _
  unfold DiskM.write
  split
  · simp
  · split
    · simp
    · refine Nat.le_trans (hc _) ?_
      simp
set_option maxRecDepth 20000 in
theorem ap_err (h : scanE D ≠ 0) : appendM D e = (D, EntM.zero, scanE D) := by unfold appendM; rw [if_pos h]
set_option maxRecDepth 20000 in
theorem ap_full (h : scanE D = 0) (h1 : (lastM D).number = 4294967295) : appendM D e = (D, EntM.zero, 6) := by unfold appendM; rw [if_neg (by simpa using h), if_pos h1]
set_option maxRecDepth 20000 in
theorem ap_bad (h : scanE D = 0) (h1 : (lastM D).number ≠ 4294967295) (h2 : ({ e with number := (lastM D).number + 1 } : EntM).right = false) : appendM D e = (D, EntM.zero, 1) := by
  unfold appendM; rw [if_neg (by simpa using h), if_neg h1]; dsimp only; rw [if_pos h2]
set_option maxRecDepth 20000 in
theorem ap_write (h : scanE D = 0) (h1 : (lastM D).number ≠ 4294967295) {E : EntM} (hE : { e with number := (lastM D).number + 1 } = E) (h2 : E.right = true) (h3 : (D.write (E.number % 8) E.block).2 ≠ 0) : appendM D e = ((D.write (E.number % 8) E.block).1, EntM.zero, (D.write (E.number % 8) E.block).2) := by
  subst hE
  unfold appendM; rw [if_neg (by simpa using h), if_neg h1]; dsimp only; rw [if_neg (by rw [h2]; decide), if_pos h3]
set_option maxRecDepth 20000 in
theorem ap_sync (h : scanE D = 0) (h1 : (lastM D).number ≠ 4294967295) {E : EntM} (hE : { e with number := (lastM D).number + 1 } = E) (h2 : E.right = true) (h3 : (D.write (E.number % 8) E.block).2 = 0) (h4 : (D.write (E.number % 8) E.block).1.sync.2 ≠ 0) :
    appendM D e = ((D.write (E.number % 8) E.block).1.sync.1, EntM.zero, (D.write (E.number % 8) E.block).1.sync.2) := by
  subst hE
  unfold appendM; rw [if_neg (by simpa using h), if_neg h1]; dsimp only; rw [if_neg (by rw [h2]; decide), if_neg (by simpa using h3), if_pos h4]
set_option maxRecDepth 20000 in
theorem ap_ok (h : scanE D = 0) (h1 : (lastM D).number ≠ 4294967295) {E : EntM} (hE : { e with number := (lastM D).number + 1 } = E) (h2 : E.right = true) (h3 : (D.write (E.number % 8) E.block).2 = 0) (h4 : (D.write (E.number % 8) E.block).1.sync.2 = 0) :
    appendM D e = ((D.write (E.number % 8) E.block).1.sync.1, E, 0) := by
  subst hE
  unfold appendM; rw [if_neg (by simpa using h), if_neg h1]; dsimp only; rw [if_neg (by rw [h2]; decide), if_neg (by simpa using h3), if_neg (by simpa using h4)]
set_option maxRecDepth 20000 in
theorem insE_all {p : EntM → Prop} {e : EntM} (he : p e) : ∀ L : List EntM, (∀ x ∈ L, p x) → ∀ x ∈ insE L e, p x
  | [], _, x, hx => by simp [insE] at hx; rw [hx]; exact he
  | y :: l, hL, x, hx => by
    unfold insE at hx
    split at hx
    · rcases List.mem_cons.1 hx with rfl | hx
      · exact he
      · exact hL x hx
    · rcases List.mem_cons.1 hx with rfl | hx
      · exact hL _ (by simp)
      · exact insE_all he l (fun z hz => hL z (by simp [hz])) x hx
set_option maxRecDepth 20000 in
theorem scanTo_right (D : DiskM) : ∀ n, ∀ x ∈ scanTo D n, RightE x
  | 0, x, hx => by simp [scanTo] at hx
  | n + 1, x, hx => by
    unfold scanTo scanStep at hx
    split at hx
    · next h =>
      rw [Bool.and_eq_true] at h
      exact insE_all (p := RightE) (parse_right h.1).1 _ (scanTo_right D n) x hx
    · exact scanTo_right D n x hx
set_option maxRecDepth 20000 in
theorem lastM_range (D : DiskM) : 0 ≤ (lastM D).number ∧ (lastM D).number ≤ 4294967295 := by
  unfold lastM scanL
  split
  · rw [List.getLastD_eq_getLast?]
    cases h : (scanTo D 8).getLast? with
    | none => decide
    | some x =>
      have := scanTo_right D 8 x (List.mem_of_getLast? h)
      exact ⟨by have := this.n0; show 0 ≤ x.number; omega, this.n1⟩
  · decide
end
end Go.Proofs.Ytmbkncckcpgdgaa
