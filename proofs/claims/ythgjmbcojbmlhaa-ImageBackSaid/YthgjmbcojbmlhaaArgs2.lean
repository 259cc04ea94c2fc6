/- Arguments of a statement, opened: a struct of four ints. No program's text. -/
import Derived.Test.YthgjmbcojbmlhaaArgs
import Derived.WideShapes
namespace Go.Proofs.Ythgjmbcojbmlhaa.Zb
open Go.RowKit Go.ChangeShapes Go.WideShapes Go.Deep
section
variable {H : Type} {enc : TypeId × Value → H} {P : Program} {w : World} {base : Nat} {spare : Nat → Bool} {held : Bool} {t : TypeId} {d : DataW H} {ps : List MemPlace}
/-- a field of a struct, an int in one cell -/
theorem field_int {fs : Array Field} {k : IntKind} {cs : List Value} {fuel : Nat} {x : DataW H × List MemPlace} (ht : P.underlying t = some (.struct fs)) (h : DataW.trod enc P w base spare held fuel t cs = some x)
    (i : Nat) (f : Field) (hi : fs[i]? = some f) (hf : P.underlying f.type = some (.int k)) (hc : P.cellsOf f.type = 1) : ∃ n, cs[f.offset]? = some (.int k n) ∧ (Lit.int k n).wf = true := by
  obtain ⟨xs, n, _, _, hl, hlen, hall⟩ := DataW.trod_struct ht h
  have hlt : i < xs.length := by rw [hlen]; exact (Array.getElem?_eq_some_iff.1 hi).1
  have hq := hall i f hi
  rw [List.getElem?_eq_getElem hlt, hc] at hq
  obtain ⟨m, hm, _, hw⟩ := DataW.trod_int hf hq
  refine ⟨m, ?_, hw⟩
  have : ((cs.drop f.offset).take 1)[0]? = some (.int k m) := by rw [hm]; rfl
  simpa using this
set_option maxRecDepth 20000 in
theorem arg_int4 {f0 f1 f2 f3 : Field} {ty : TypeId} {k : IntKind} {v : Value} (ht : P.underlying t = some (.struct #[f0, f1, f2, f3])) (hk : P.underlying ty = some (.int k)) (hc : P.cellsOf ty = 1) (hn : P.cellsOf t = 4)
    (h0 : f0.type = ty ∧ f0.offset = 0) (h1 : f1.type = ty ∧ f1.offset = 1) (h2 : f2.type = ty ∧ f2.offset = 2) (h3 : f3.type = ty ∧ f3.offset = 3)
    (hv : Value.okWide P w .any 0 t v) (h : DataW.Trod enc P w base spare held t v d ps) :
    ∃ a b c e : Int, v = .agg #[.int k a, .int k b, .int k c, .int k e] ∧ (Lit.int k a).wf = true ∧ (Lit.int k b).wf = true ∧ (Lit.int k c).wf = true ∧ (Lit.int k e).wf = true := by
  obtain ⟨cs, rfl, hs⟩ := okWide_struct ht hv
  obtain ⟨fuel, hf⟩ := h
  simp only [Value.cells] at hf
  obtain ⟨a, ea, wa⟩ := field_int ht hf 0 f0 rfl (by rw [h0.1]; exact hk) (by rw [h0.1]; exact hc)
  obtain ⟨b, eb, wb⟩ := field_int ht hf 1 f1 rfl (by rw [h1.1]; exact hk) (by rw [h1.1]; exact hc)
  obtain ⟨c, ec, wc⟩ := field_int ht hf 2 f2 rfl (by rw [h2.1]; exact hk) (by rw [h2.1]; exact hc)
  obtain ⟨e, ee, we⟩ := field_int ht hf 3 f3 rfl (by rw [h3.1]; exact hk) (by rw [h3.1]; exact hc)
  rw [h0.2] at ea; rw [h1.2] at eb; rw [h2.2] at ec; rw [h3.2] at ee
  refine ⟨a, b, c, e, ?_, wa, wb, wc, we⟩
  rw [hn] at hs
  obtain ⟨l⟩ := cs
  match l, hs with
  | [x0, x1, x2, x3], _ =>
    simp at ea eb ec ee
    rw [ea, eb, ec, ee]
end
end Go.Proofs.Ythgjmbcojbmlhaa.Zb
