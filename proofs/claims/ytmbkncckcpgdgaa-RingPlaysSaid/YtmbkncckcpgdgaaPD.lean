/- The program's disk and the document's beside one another. -/
import Derived.Test.YtmbkncckcpgdgaaRd1
namespace Go.Proofs.Ytmbkncckcpgdgaa
open Go.RowKit Zb

/-- The program's disk D and the document's R, in blocks of their own; the blocks K are a third's. -/
structure PD (w0 w : World) (b rb : Nat) (D R : DiskM) (K : Nat → Prop) : Prop where
  bel : Below w0.heap.size w0 w
  own : ∀ x, K x → w0.heap.size ≤ x ∧ x < w.heap.size
  dk : ∃ F G, (∀ x, F x → w0.heap.size ≤ x ∧ ¬ K x) ∧ (∀ x, G x → w0.heap.size ≤ x ∧ ¬ K x ∧ ¬ F x) ∧ DiskAt w b F D ∧ RAt w rb G R
def PDPost (w0 w : World) (b rb : Nat) (D' R' : DiskM) (K : Nat → Prop) (v : Value) (e : Ending) (w' : World) : Prop := e = .returned v ∧ Hid (PD w0 w' b rb D' R' K) ∧ Hid (Keeps K w w')
section
variable {w0 w w' : World} {b rb : Nat} {D R D' R' : DiskM} {K : Nat → Prop}
set_option maxRecDepth 20000 in
theorem PD.below (h : PD w0 w b rb D R K) (k : Below w.heap.size w w') : PD w0 w' b rb D R K := by
  obtain ⟨F, G, hF, hG, hd, hr⟩ := h.dk
  exact ⟨h.bel.trans (k.mono h.bel.size), fun x hx => ⟨(h.own x hx).1, Nat.lt_of_lt_of_le (h.own x hx).2 k.size⟩, F, G, hF, hG, hd.below k, hr.below k⟩
set_option maxRecDepth 20000 in
theorem PD.drew (h : PD w0 w b rb D R K) : PD w0 w.drew b rb D R K := h.below ⟨rfl, rfl, rfl, Nat.le_refl _, fun _ _ => rfl⟩
set_option maxRecDepth 20000 in
theorem PD.more (h : PD w0 w b rb D R (fun _ => False)) (o : Obj) : PD w0 (w.alloc o) b rb D R (fun y => y = w.heap.size) := by
  obtain ⟨F, G, hF, hG, hd, hr⟩ := h.dk
  have hb := h.bel.size
  exact ⟨h.bel.alloc hb o, fun x hx => by subst hx; exact ⟨hb, by simp⟩, F, G, fun x hx => ⟨(hF x hx).1, fun e => by have := hd.lt x hx; omega⟩, fun x hx => ⟨(hG x hx).1, fun e => by have := hr.lt x hx; omega, (hG x hx).2.2⟩, hd.alloc o, hr.below ((Below.refl _ _).alloc (Nat.le_refl _) _)⟩
set_option maxRecDepth 20000 in
theorem PD.less (h : PD w0 w b rb D R K) : PD w0 w b rb D R (fun _ => False) := by
  obtain ⟨F, G, hF, hG, hd, hr⟩ := h.dk
  exact ⟨h.bel, fun _ h => h.elim, F, G, fun x hx => ⟨(hF x hx).1, fun h => h⟩, fun x hx => ⟨(hG x hx).1, fun h => h, (hG x hx).2.2⟩, hd, hr⟩
set_option maxRecDepth 20000 in
theorem PD.d {f : FuncId} {args : Array Value} {v : Value} (h : PD w0 w b rb D R K) (hc : ∀ F, DiskAt w b F D → Calls Try.prog f args w (DPost F w b v D')) : Calls Try.prog f args w (PDPost w0 w b rb D' R K v) := by
  obtain ⟨F, G, hF, hG, hd, hr⟩ := h.dk
  refine (hc F hd).mono ?_
  rintro e w1 ⟨rfl, tu, F', hF', hd'⟩
  have hs := h.bel.size
  refine ⟨rfl, hide ⟨h.bel.trans (tu.below hs (fun x hx => (hF x hx).1)), fun x hx => ⟨(h.own x hx).1, Nat.lt_of_lt_of_le (h.own x hx).2 tu.size⟩, F', G, fun x hx => ?_, fun x hx => ⟨(hG x hx).1, (hG x hx).2.1, fun hx' => ?_⟩, hd', hr.turned tu (fun x hx => (hG x hx).2.2)⟩, hide fun x hx => tu.block x (h.own x hx).2 (fun hf => (hF x hf).2 hx)⟩
  · rcases hF' x hx with h1 | h1
    · exact hF x h1
    · exact ⟨by omega, fun hk => by have := (h.own x hk).2; omega⟩
  · rcases hF' x hx' with h1 | h1
    · exact (hG x hx).2.2 h1
    · have := hr.lt x hx; omega
set_option maxRecDepth 20000 in
theorem PD.r {f : FuncId} {args : Array Value} {v : Value} (h : PD w0 w b rb D R K) (hc : ∀ G, RAt w rb G R → Calls Try.prog f args w (RPost G w rb v R')) : Calls Try.prog f args w (PDPost w0 w b rb D R' K v) := by
  obtain ⟨F, G, hF, hG, hd, hr⟩ := h.dk
  refine (hc G hr).mono ?_
  rintro e w1 ⟨rfl, tu, G', hG', hr'⟩
  have hs := h.bel.size
  refine ⟨rfl, hide ⟨h.bel.trans (tu.below hs (fun x hx => (hG x hx).1)), fun x hx => ⟨(h.own x hx).1, Nat.lt_of_lt_of_le (h.own x hx).2 tu.size⟩, F, G', hF, fun x hx => ?_, hd.turned tu (fun x hx hg => (hG x hg).2.2 hx), hr'⟩, hide fun x hx => tu.block x (h.own x hx).2 (fun hg => (hG x hg).2.1 hx)⟩
  rcases hG' x hx with h1 | h1
  · exact hG x h1
  · exact ⟨by omega, fun hk => by have := (h.own x hk).2; omega, fun hf => by have := hd.lt x hf; omega⟩
end
end Go.Proofs.Ytmbkncckcpgdgaa
