/- Arguments of a statement, opened: what a slice that came in holds, element by element. No program's text. -/
import Derived.Test.YthgjmbcojbmlhaaBase
import Derived.Deep.Slices
import Derived.ChangeArms
import Derived.ProofKit
import Derived.OpenShut
import Derived.ShutString
import Derived.ChangeOld
import Derived.SizedLaws
namespace Go.Proofs.Ythgjmbcojbmlhaa.Zb
open Go.RowKit Go.ChangeShapes Go.WideShapes Go.Deep

set_option maxRecDepth 20000 in
theorem block_add (a : Addr) (n : Nat) : (a.add n).block = a.block := by unfold Addr.add; split <;> rfl

section
variable {H : Type} {enc : TypeId × Value → H} {P : Program} {w : World} {base : Nat} {spare : Nat → Bool} {held : Bool} {t e : TypeId} {A : Option Addr} {len cap : Nat} {d : DataW H} {ps : List MemPlace}
/-- A slice: nil, or an address at which each element's cells read as its type's. -/
theorem arg_slice (ht : P.underlying t = some (.slice e)) (h : DataW.Trod enc P w base spare held t (.slice A len cap) d ps) :
    len ≤ cap ∧ cap ≤ maxLen ∧ ∀ i, i < len → ∃ a cs' n y, A = some a ∧ w.cells? base (a.add (i * P.cellsOf e)) (P.cellsOf e) = some cs' ∧ DataW.trod enc P w base spare held n e cs' = some y := by
  obtain ⟨fuel, hf⟩ := h
  rcases open_slice ht hf with ⟨hcs, _⟩ | ⟨a, l, c, m, n, D, Pl, hcs, _, hl, hm, hmm, _, hi⟩
  · simp [Value.cells] at hcs
    obtain ⟨rfl, rfl, rfl⟩ := hcs
    exact ⟨Nat.le_refl _, Nat.zero_le _, fun i hi => by omega⟩
  · simp [Value.cells] at hcs
    obtain ⟨rfl, rfl, rfl⟩ := hcs
    refine ⟨hl, hm, fun i hlt => ?_⟩
    have him : i < m := by rw [hmm]; split <;> omega
    obtain ⟨cs', hc, hy⟩ := hi i him
    exact ⟨a, cs', n, _, rfl, hc, hy⟩
set_option maxRecDepth 20000 in
theorem cells_one {a : Addr} {cs : List Value} (h : w.cells? base a 1 = some cs) {v : Value} (hv : cs = [v]) : a.block < w.heap.size ∧ w.cell? a = some v := by
  obtain ⟨_, _, hat⟩ := World.cells?_some h
  have h0 := hat 0 (by omega)
  subst hv
  have e : a.add 0 = a := by simp [Addr.add]
  rw [e] at h0
  have h1 : w.cell? a = some v := by simpa using h0
  exact ⟨World.block_lt_of_cell? w a h1, h1⟩
end

/-- a slice of bools that came in -/
def ReadsBools (w : World) (A : Option Addr) (l : List Bool) : Prop := ∀ i, i < l.length → ∃ ad, A = some ad ∧ ad.block < w.heap.size ∧ w.cell? (ad.add i) = some (.bool (l.getD i false))
set_option maxRecDepth 20000 in
theorem ReadsBools.below {w w' : World} {A : Option Addr} {l : List Bool} (h : ReadsBools w A l) (hb : Below w.heap.size w w') : ReadsBools w' A l := by
  intro i hi
  obtain ⟨ad, e, hlt, hc⟩ := h i hi
  exact ⟨ad, e, Nat.lt_of_lt_of_le hlt hb.size, (hb.cell (p := ad.add i) (by rw [block_add]; exact hlt)).trans hc⟩
set_option maxRecDepth 20000 in
theorem arg_bools {H : Type} {enc : TypeId × Value → H} {P : Program} {w : World} {base : Nat} {spare : Nat → Bool} {held : Bool} {t e : TypeId} {A : Option Addr} {len cap : Nat} {d : DataW H} {ps : List MemPlace}
    (ht : P.underlying t = some (.slice e)) (he : P.underlying e = some .bool) (hc : P.cellsOf e = 1) (h : DataW.Trod enc P w base spare held t (.slice A len cap) d ps) :
    len ≤ 9223372036854775807 ∧ ∃ l : List Bool, l.length = len ∧ ReadsBools w A l := by
  obtain ⟨h1, h2, h3⟩ := arg_slice ht h
  obtain ⟨f, hf⟩ := choose_lt (p := fun i (x : Bool) => ∃ ad, A = some ad ∧ ad.block < w.heap.size ∧ w.cell? (ad.add i) = some (.bool x)) (fun i hi => by
    obtain ⟨a, cs', n, y, hA, hcs, hy⟩ := h3 i hi
    rw [hc, Nat.mul_one] at hcs
    obtain ⟨x, hx, _⟩ := DataW.trod_bool he hy
    obtain ⟨hb, hcell⟩ := cells_one hcs hx
    exact ⟨x, a, hA, by rw [block_add] at hb; exact hb, hcell⟩)
  refine ⟨by unfold maxLen at h2; omega, (List.range len).map f, by simp, fun i hi => ?_⟩
  have hi' : i < len := by simpa using hi
  obtain ⟨ad, e1, e2, e3⟩ := hf i hi'
  exact ⟨ad, e1, e2, by simpa [hi'] using e3⟩
/-- a slice of whole numbers of one kind that came in -/
def ReadsInts (k : IntKind) (w : World) (A : Option Addr) (l : List Int) : Prop := ∀ i, i < l.length → ∃ ad, A = some ad ∧ ad.block < w.heap.size ∧ w.cell? (ad.add i) = some (.int k (l.getD i 0)) ∧ (Lit.int k (l.getD i 0)).wf = true
set_option maxRecDepth 20000 in
theorem ReadsInts.below {k : IntKind} {w w' : World} {A : Option Addr} {l : List Int} (h : ReadsInts k w A l) (hb : Below w.heap.size w w') : ReadsInts k w' A l := by
  intro i hi
  obtain ⟨ad, e, hlt, hc, hw⟩ := h i hi
  exact ⟨ad, e, Nat.lt_of_lt_of_le hlt hb.size, (hb.cell (p := ad.add i) (by rw [block_add]; exact hlt)).trans hc, hw⟩
set_option maxRecDepth 20000 in
theorem arg_ints {k : IntKind} {H : Type} {enc : TypeId × Value → H} {P : Program} {w : World} {base : Nat} {spare : Nat → Bool} {held : Bool} {t e : TypeId} {A : Option Addr} {len cap : Nat} {d : DataW H} {ps : List MemPlace}
    (ht : P.underlying t = some (.slice e)) (he : P.underlying e = some (.int k)) (hc : P.cellsOf e = 1) (h : DataW.Trod enc P w base spare held t (.slice A len cap) d ps) :
    len ≤ 9223372036854775807 ∧ ∃ l : List Int, l.length = len ∧ ReadsInts k w A l := by
  obtain ⟨h1, h2, h3⟩ := arg_slice ht h
  obtain ⟨f, hf⟩ := choose_lt (p := fun i (x : Int) => ∃ ad, A = some ad ∧ ad.block < w.heap.size ∧ w.cell? (ad.add i) = some (.int k x) ∧ (Lit.int k x).wf = true) (fun i hi => by
    obtain ⟨a, cs', n, y, hA, hcs, hy⟩ := h3 i hi
    rw [hc, Nat.mul_one] at hcs
    obtain ⟨x, hx, _, hw⟩ := DataW.trod_int he hy
    obtain ⟨hb, hcell⟩ := cells_one hcs hx
    exact ⟨x, a, hA, by rw [block_add] at hb; exact hb, hcell, hw⟩)
  refine ⟨by unfold maxLen at h2; omega, (List.range len).map f, by simp, fun i hi => ?_⟩
  have hi' : i < len := by simpa using hi
  obtain ⟨ad, e1, e2, e3, e4⟩ := hf i hi'
  refine ⟨ad, e1, e2, by simpa [hi'] using e3, by simpa [hi'] using e4⟩
/-- a slice of strings that came in -/
def ReadsStrs (w : World) (A : Option Addr) (l : List ByteArray) : Prop := ∀ i, i < l.length → ∃ ad, A = some ad ∧ ad.block < w.heap.size ∧ w.cell? (ad.add i) = some (.string (l.getD i ⟨#[]⟩)) ∧ (l.getD i ⟨#[]⟩).size ≤ maxLen
set_option maxRecDepth 20000 in
theorem ReadsStrs.below {w w' : World} {A : Option Addr} {l : List ByteArray} (h : ReadsStrs w A l) (hb : Below w.heap.size w w') : ReadsStrs w' A l := by
  intro i hi
  obtain ⟨ad, e, hlt, hc, hw⟩ := h i hi
  exact ⟨ad, e, Nat.lt_of_lt_of_le hlt hb.size, (hb.cell (p := ad.add i) (by rw [block_add]; exact hlt)).trans hc, hw⟩
set_option maxRecDepth 20000 in
theorem arg_strs {H : Type} {enc : TypeId × Value → H} {P : Program} {w : World} {base : Nat} {spare : Nat → Bool} {held : Bool} {t e : TypeId} {A : Option Addr} {len cap : Nat} {d : DataW H} {ps : List MemPlace}
    (ht : P.underlying t = some (.slice e)) (he : P.underlying e = some .string) (hc : P.cellsOf e = 1) (h : DataW.Trod enc P w base spare held t (.slice A len cap) d ps) :
    len ≤ 9223372036854775807 ∧ ∃ l : List ByteArray, l.length = len ∧ ReadsStrs w A l := by
  obtain ⟨h1, h2, h3⟩ := arg_slice ht h
  obtain ⟨f, hf⟩ := choose_lt (p := fun i (x : ByteArray) => ∃ ad, A = some ad ∧ ad.block < w.heap.size ∧ w.cell? (ad.add i) = some (.string x) ∧ x.size ≤ maxLen) (fun i hi => by
    obtain ⟨a, cs', n, y, hA, hcs, hy⟩ := h3 i hi
    rw [hc, Nat.mul_one] at hcs
    obtain ⟨x, hx, _, hw⟩ := DataW.trod_string he hy
    obtain ⟨hb, hcell⟩ := cells_one hcs hx
    exact ⟨x, a, hA, by rw [block_add] at hb; exact hb, hcell, hw⟩)
  refine ⟨by unfold maxLen at h2; omega, (List.range len).map f, by simp, fun i hi => ?_⟩
  have hi' : i < len := by simpa using hi
  obtain ⟨ad, e1, e2, e3, e4⟩ := hf i hi'
  refine ⟨ad, e1, e2, by simpa [hi'] using e3, by simpa [hi'] using e4⟩
end Go.Proofs.Ythgjmbcojbmlhaa.Zb
