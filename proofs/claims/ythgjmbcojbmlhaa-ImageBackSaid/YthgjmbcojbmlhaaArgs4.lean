/- Arguments of a statement, opened: a slice of structs. No program's text. -/
import Derived.Test.YthgjmbcojbmlhaaArgs3
namespace Go.Proofs.Ythgjmbcojbmlhaa.Zb
open Go.RowKit Go.ChangeShapes Go.WideShapes Go.Deep

/-- A slice of l.length elements of k cells each: element x has the cells f x. -/
def ReadsRows {α : Type} (k : Nat) (f : α → List Value) (w : World) (A : Option Addr) (l : List α) : Prop :=
  ∀ i x, l[i]? = some x → ∃ b off, A = some ⟨b, off, none⟩ ∧ b < w.heap.size ∧ ∀ j u, (f x)[j]? = some u → w.cell? ⟨b, off + (i * k + j), none⟩ = some u
set_option maxRecDepth 20000 in
theorem ReadsRows.below {α : Type} {k : Nat} {f : α → List Value} {w w' : World} {A : Option Addr} {l : List α} (h : ReadsRows k f w A l) (hb : Below w.heap.size w w') : ReadsRows k f w' A l := by
  intro i x hx
  obtain ⟨b, off, e, hlt, hc⟩ := h i x hx
  exact ⟨b, off, e, Nat.lt_of_lt_of_le hlt hb.size, fun j u hu => (hb.cell (p := ⟨b, off + (i * k + j), none⟩) hlt).trans (hc j u hu)⟩
set_option maxRecDepth 20000 in
theorem ReadsRows.kept {α : Type} {k : Nat} {f : α → List Value} {w w' : World} {A : Option Addr} {l : List α} (h : ReadsRows k f w A l) (hb : Below w.heap.size w w') {i : Nat} {x : α} (hx : l[i]? = some x) :
    ∃ b off, A = some ⟨b, off, none⟩ ∧ b < w.heap.size ∧ ∀ j u, (f x)[j]? = some u → w'.cell? ⟨b, off + (i * k + j), none⟩ = some u := by
  obtain ⟨b, off, e, hlt, hc⟩ := h i x hx
  exact ⟨b, off, e, hlt, fun j u hu => (hb.cell (p := ⟨b, off + (i * k + j), none⟩) hlt).trans (hc j u hu)⟩
set_option maxRecDepth 20000 in
theorem choose_list {α : Type} {p : Nat → α → Prop} : ∀ n : Nat, (∀ i, i < n → ∃ x, p i x) → ∃ l : List α, l.length = n ∧ ∀ i x, l[i]? = some x → p i x
  | 0, _ => ⟨[], rfl, fun i x h => by simp at h⟩
  | n + 1, h => by
    obtain ⟨l, hl, hp⟩ := choose_list n (fun i hi => h i (by omega))
    obtain ⟨x, hx⟩ := h n (by omega)
    refine ⟨l ++ [x], by simp [hl], fun i y hy => ?_⟩
    rcases Nat.lt_trichotomy i n with hi | hi | hi
    · rw [List.getElem?_append_left (by omega)] at hy
      exact hp i y hy
    · subst hi
      rw [List.getElem?_append_right (by omega), hl] at hy
      simp at hy
      subst hy
      exact hx
    · rw [List.getElem?_eq_none (by simp; omega)] at hy
      cases hy
section
variable {H : Type} {enc : TypeId × Value → H} {P : Program} {w : World} {base : Nat} {spare : Nat → Bool} {held : Bool} {t e : TypeId} {A : Option Addr} {len cap : Nat} {d : DataW H} {ps : List MemPlace}
set_option maxRecDepth 20000 in
theorem arg_rows {α : Type} {k : Nat} {f : α → List Value} {R : α → Prop} (ht : P.underlying t = some (.slice e)) (hk : P.cellsOf e = k) (hk0 : 0 < k)
    (hel : ∀ cs n y, cs.length = k → DataW.trod enc P w base spare held n e cs = some y → ∃ x, cs = f x ∧ R x)
    (h : DataW.Trod enc P w base spare held t (.slice A len cap) d ps) : len ≤ 9223372036854775807 ∧ ∃ l : List α, l.length = len ∧ ReadsRows k f w A l ∧ ∀ x ∈ l, R x := by
  obtain ⟨h1, h2, h3⟩ := arg_slice ht h
  obtain ⟨l, hl, hp⟩ := choose_list (p := fun i x => (∃ a, A = some a ∧ a.block < w.heap.size ∧ ∀ j u, (f x)[j]? = some u → w.cell? ((a.add (i * k)).add j) = some u) ∧ R x) len (fun i hi => by
    obtain ⟨a, cs', n, y, hA, hcs, hy⟩ := h3 i hi
    rw [hk] at hcs
    obtain ⟨_, hlen, hat⟩ := World.cells?_some hcs
    obtain ⟨x, hx, hR⟩ := hel cs' n y hlen hy
    refine ⟨x, ⟨a, hA, ?_, fun j u hu => ?_⟩, hR⟩
    · have h0 := hat 0 hk0
      have hlt : 0 < cs'.length := by omega
      rw [List.getElem?_eq_getElem hlt] at h0
      have := World.block_lt_of_cell? w _ h0
      rw [block_add, block_add] at this
      exact this
    · have hj : j < k := by
        have := (List.getElem?_eq_some_iff.1 hu).1
        rw [← hx, hlen] at this
        exact this
      rw [hat j hj, hx]
      exact hu)
  refine ⟨by unfold maxLen at h2; omega, l, hl, fun i x hx => ?_, fun x hx => ?_⟩
  · obtain ⟨⟨a, hA, hb, hc⟩, hR⟩ := hp i x hx
    have hi : i < len := by rw [← hl]; exact (List.getElem?_eq_some_iff.1 hx).1
    -- the address has no spot: the first element's first cell is there
    have h00 : a.spot = none := by
      obtain ⟨a', cs', n, y, hA', hcs, hy⟩ := h3 0 (by omega)
      obtain rfl : a = a' := by rw [hA] at hA'; exact Option.some.inj hA'
      rw [hk] at hcs
      obtain ⟨_, hlen, hat⟩ := World.cells?_some hcs
      have h0 := hat 0 hk0
      rw [List.getElem?_eq_getElem (by omega)] at h0
      have := World.cell?_spot h0
      simpa [Addr.add] using this
    obtain ⟨b, off, sp⟩ := a
    subst h00
    refine ⟨b, off, hA, hb, fun j u hu => ?_⟩
    have := hc j u hu
    rw [Go.WideShapes.add_plain, Go.WideShapes.add_plain] at this
    rw [← Nat.add_assoc]
    exact this
  · obtain ⟨i, hi, rfl⟩ := List.mem_iff_getElem.1 hx
    exact (hp i _ (List.getElem?_eq_getElem hi)).2
set_option maxRecDepth 20000 in
theorem field_bool {fs : Array Field} {cs : List Value} {fuel : Nat} {x : DataW H × List MemPlace} (ht : P.underlying t = some (.struct fs)) (h : DataW.trod enc P w base spare held fuel t cs = some x)
    (i : Nat) (f : Field) (hi : fs[i]? = some f) (hf : P.underlying f.type = some .bool) (hc : P.cellsOf f.type = 1) : ∃ b : Bool, cs[f.offset]? = some (.bool b) := by
  obtain ⟨xs, n, _, _, hl, hlen, hall⟩ := DataW.trod_struct ht h
  have hlt : i < xs.length := by rw [hlen]; exact (Array.getElem?_eq_some_iff.1 hi).1
  have hq := hall i f hi
  rw [List.getElem?_eq_getElem hlt, hc] at hq
  obtain ⟨m, hm, _⟩ := DataW.trod_bool hf hq
  refine ⟨m, ?_⟩
  have : ((cs.drop f.offset).take 1)[0]? = some (.bool m) := by rw [hm]; rfl
  simpa using this
end
end Go.Proofs.Ythgjmbcojbmlhaa.Zb
