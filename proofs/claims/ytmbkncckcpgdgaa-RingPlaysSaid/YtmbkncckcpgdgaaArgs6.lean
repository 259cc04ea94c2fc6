/- Arguments of a statement, opened: an entry of the journal (a struct of four ints and a string). No program's text. -/
import Derived.Test.YtmbkncckcpgdgaaArgs3
import Derived.Test.YtmbkncckcpgdgaaRingA
namespace Go.Proofs.Ytmbkncckcpgdgaa.Zb
open Go.RowKit Go.ChangeShapes Go.WideShapes Go.Deep
section
variable {H : Type} {enc : TypeId × Value → H} {P : Program} {w : World} {base : Nat} {spare : Nat → Bool} {held : Bool} {t : TypeId} {d : DataW H} {ps : List MemPlace}
set_option maxRecDepth 20000 in
theorem ent_cells {f0 f1 f2 f3 f4 : Field} {ti ts : TypeId} (ht : P.underlying t = some (.struct #[f0, f1, f2, f3, f4])) (hi : P.underlying ti = some (.int .i64)) (hs : P.underlying ts = some .string)
    (hci : P.cellsOf ti = 1) (hcs : P.cellsOf ts = 1)
    (h0 : f0.type = ti ∧ f0.offset = 0) (h1 : f1.type = ti ∧ f1.offset = 1) (h2 : f2.type = ti ∧ f2.offset = 2) (h3 : f3.type = ti ∧ f3.offset = 3) (h4 : f4.type = ts ∧ f4.offset = 4)
    {cs : List Value} {fuel : Nat} {x : DataW H × List MemPlace} (hl : cs.length = 5) (hf : DataW.trod enc P w base spare held fuel t cs = some x) :
    ∃ e : EntM, cs = e.cells ∧ e.sum.size ≤ maxLen ∧ (Lit.int .i64 e.kind).wf = true ∧ (Lit.int .i64 e.number).wf = true ∧ (Lit.int .i64 e.slot).wf = true ∧ (Lit.int .i64 e.size).wf = true := by
  obtain ⟨a, ea, wa⟩ := field_int ht hf 0 f0 rfl (by rw [h0.1]; exact hi) (by rw [h0.1]; exact hci)
  obtain ⟨b, eb, wb⟩ := field_int ht hf 1 f1 rfl (by rw [h1.1]; exact hi) (by rw [h1.1]; exact hci)
  obtain ⟨c, ec, wc⟩ := field_int ht hf 2 f2 rfl (by rw [h2.1]; exact hi) (by rw [h2.1]; exact hci)
  obtain ⟨z, ez, wz⟩ := field_int ht hf 3 f3 rfl (by rw [h3.1]; exact hi) (by rw [h3.1]; exact hci)
  obtain ⟨g, eg, wg⟩ := field_string ht hf 4 f4 rfl (by rw [h4.1]; exact hs) (by rw [h4.1]; exact hcs)
  rw [h0.2] at ea; rw [h1.2] at eb; rw [h2.2] at ec; rw [h3.2] at ez; rw [h4.2] at eg
  refine ⟨⟨a, b, c, z, g⟩, ?_, wg, wa, wb, wc, wz⟩
  match cs, hl with
  | [x0, x1, x2, x3, x4], _ =>
    simp at ea eb ec ez eg
    rw [ea, eb, ec, ez, eg]
    rfl
set_option maxRecDepth 20000 in
theorem arg_ent {f0 f1 f2 f3 f4 : Field} {ti ts : TypeId} {v : Value} (ht : P.underlying t = some (.struct #[f0, f1, f2, f3, f4])) (hi : P.underlying ti = some (.int .i64)) (hs : P.underlying ts = some .string)
    (hn : P.cellsOf t = 5) (hci : P.cellsOf ti = 1) (hcs : P.cellsOf ts = 1)
    (h0 : f0.type = ti ∧ f0.offset = 0) (h1 : f1.type = ti ∧ f1.offset = 1) (h2 : f2.type = ti ∧ f2.offset = 2) (h3 : f3.type = ti ∧ f3.offset = 3) (h4 : f4.type = ts ∧ f4.offset = 4)
    (hv : Value.okWide P w .any 0 t v) (h : DataW.Trod enc P w base spare held t v d ps) :
    ∃ e : EntM, v = .agg #[.int .i64 e.kind, .int .i64 e.number, .int .i64 e.slot, .int .i64 e.size, .string e.sum] ∧ e.sum.size ≤ maxLen := by
  obtain ⟨cs, rfl, hs'⟩ := okWide_struct ht hv
  obtain ⟨fuel, hf⟩ := h
  simp only [Value.cells] at hf
  rw [hn] at hs'
  obtain ⟨e, he, hm, _⟩ := ent_cells ht hi hs hci hcs h0 h1 h2 h3 h4 (by simpa using hs') hf
  refine ⟨e, ?_, hm⟩
  obtain ⟨l⟩ := cs
  simp at he
  rw [he]
  rfl
end
end Go.Proofs.Ytmbkncckcpgdgaa.Zb
