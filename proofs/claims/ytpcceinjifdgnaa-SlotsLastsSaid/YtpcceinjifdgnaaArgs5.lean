/- Arguments of a statement, opened: a struct of two strings, a bool and two ints. No program's text. -/
import Derived.Test.YtpcceinjifdgnaaArgs4
namespace Go.Proofs.Ytpcceinjifdgnaa.Zb
open Go.RowKit Go.ChangeShapes Go.WideShapes Go.Deep
section
variable {H : Type} {enc : TypeId × Value → H} {P : Program} {w : World} {base : Nat} {spare : Nat → Bool} {held : Bool} {t : TypeId} {d : DataW H} {ps : List MemPlace}
theorem arg_ssbii {f0 f1 f2 f3 f4 : Field} {t2 t3 t4 ts : TypeId} {k3 k4 : IntKind} {v : Value} (ht : P.underlying t = some (.struct #[f0, f1, f2, f3, f4])) (hk2 : P.underlying t2 = some .bool) (hk3 : P.underlying t3 = some (.int k3)) (hk4 : P.underlying t4 = some (.int k4)) (hs : P.underlying ts = some .string)
    (hc2 : P.cellsOf t2 = 1) (hc3 : P.cellsOf t3 = 1) (hc4 : P.cellsOf t4 = 1) (hcs : P.cellsOf ts = 1) (hn : P.cellsOf t = 5)
    (h0 : f0.type = ts ∧ f0.offset = 0) (h1 : f1.type = ts ∧ f1.offset = 1) (h2 : f2.type = t2 ∧ f2.offset = 2) (h3 : f3.type = t3 ∧ f3.offset = 3) (h4 : f4.type = t4 ∧ f4.offset = 4)
    (hv : Value.okWide P w .any 0 t v) (h : DataW.Trod enc P w base spare held t v d ps) :
    ∃ (a b : ByteArray) (c : Bool) (e g : Int), v = .agg #[.string a, .string b, .bool c, .int k3 e, .int k4 g] ∧ a.size ≤ maxLen ∧ b.size ≤ maxLen ∧ (Lit.int k3 e).wf = true ∧ (Lit.int k4 g).wf = true := by
  obtain ⟨cs, rfl, hs'⟩ := okWide_struct ht hv
  obtain ⟨fuel, hf⟩ := h
  simp only [Value.cells] at hf
  obtain ⟨a, ea, wa⟩ := field_string ht hf 0 f0 rfl (by rw [h0.1]; exact hs) (by rw [h0.1]; exact hcs)
  obtain ⟨b, eb, wb⟩ := field_string ht hf 1 f1 rfl (by rw [h1.1]; exact hs) (by rw [h1.1]; exact hcs)
  obtain ⟨c, ec⟩ := field_bool ht hf 2 f2 rfl (by rw [h2.1]; exact hk2) (by rw [h2.1]; exact hc2)
  obtain ⟨e, ee, we⟩ := field_int ht hf 3 f3 rfl (by rw [h3.1]; exact hk3) (by rw [h3.1]; exact hc3)
  obtain ⟨g, eg, wg⟩ := field_int ht hf 4 f4 rfl (by rw [h4.1]; exact hk4) (by rw [h4.1]; exact hc4)
  rw [h0.2] at ea; rw [h1.2] at eb; rw [h2.2] at ec; rw [h3.2] at ee; rw [h4.2] at eg
  refine ⟨a, b, c, e, g, ?_, wa, wb, we, wg⟩
  rw [hn] at hs'
  obtain ⟨l⟩ := cs
  match l, hs' with
  | [x0, x1, x2, x3, x4], _ =>
    simp at ea eb ec ee eg
    rw [ea, eb, ec, ee, eg]
end
end Go.Proofs.Ytpcceinjifdgnaa.Zb
