/- Arguments of a statement, opened: a struct of a text, a slice, a number, a byte, a text. No program's text. -/
import Derived.Test.YthgjmbcojbmlhaaArgs4
namespace Go.Proofs.Ythgjmbcojbmlhaa.Zb
open Go.RowKit Go.ChangeShapes Go.WideShapes Go.Deep
section
variable {H : Type} {enc : TypeId × Value → H} {P : Program} {w : World} {base : Nat} {spare : Nat → Bool} {held : Bool} {t : TypeId} {d : DataW H} {ps : List MemPlace}
set_option maxRecDepth 20000 in
theorem field_slice {e : TypeId} {fs : Array Field} {cs : List Value} {fuel : Nat} {x : DataW H × List MemPlace} (ht : P.underlying t = some (.struct fs)) (h : DataW.trod enc P w base spare held fuel t cs = some x)
    (i : Nat) (f : Field) (hi : fs[i]? = some f) (hf : P.underlying f.type = some (.slice e)) (hc : P.cellsOf f.type = 1) : ∃ A len cap d ps, cs[f.offset]? = some (.slice A len cap) ∧ DataW.Trod enc P w base spare held f.type (.slice A len cap) d ps := by
  obtain ⟨xs, n, _, _, hl, hlen, hall⟩ := DataW.trod_struct ht h
  have hlt : i < xs.length := by rw [hlen]; exact (Array.getElem?_eq_some_iff.1 hi).1
  have hq := hall i f hi
  rw [List.getElem?_eq_getElem hlt, hc] at hq
  have key : ∀ m, (cs.drop f.offset).take 1 = [m] → cs[f.offset]? = some m := fun m hm => by
    have : ((cs.drop f.offset).take 1)[0]? = some m := by rw [hm]; rfl
    simpa using this
  rcases DataW.trod_slice hf hq with ⟨hcs, _⟩ | ⟨a, l, c, _, _, _, _, hcs, _⟩
  · refine ⟨none, 0, 0, xs[i].1, xs[i].2, key _ hcs, n, ?_⟩
    rw [hcs] at hq
    exact hq
  · refine ⟨some a, l, c, xs[i].1, xs[i].2, key _ hcs, n, ?_⟩
    rw [hcs] at hq
    exact hq
set_option maxRecDepth 20000 in
theorem arg_case {f0 f1 f2 f3 f4 : Field} {ts tl ti tu e : TypeId} {v : Value} (ht : P.underlying t = some (.struct #[f0, f1, f2, f3, f4])) (hs : P.underlying ts = some .string) (hl : P.underlying tl = some (.slice e)) (hi : P.underlying ti = some (.int .i64)) (hu : P.underlying tu = some (.int .u8))
    (hcs : P.cellsOf ts = 1) (hcl : P.cellsOf tl = 1) (hci : P.cellsOf ti = 1) (hcu : P.cellsOf tu = 1) (hn : P.cellsOf t = 5)
    (h0 : f0.type = ts ∧ f0.offset = 0) (h1 : f1.type = tl ∧ f1.offset = 1) (h2 : f2.type = ti ∧ f2.offset = 2) (h3 : f3.type = tu ∧ f3.offset = 3) (h4 : f4.type = ts ∧ f4.offset = 4)
    (hv : Value.okWide P w .any 0 t v) (h : DataW.Trod enc P w base spare held t v d ps) :
    ∃ (a : ByteArray) (A : Option Addr) (len cap : Nat) (b c : Int) (q : ByteArray) (d' : DataW H) (ps' : List MemPlace), v = .agg #[.string a, .slice A len cap, .int .i64 b, .int .u8 c, .string q] ∧ a.size ≤ maxLen ∧ DataW.Trod enc P w base spare held tl (.slice A len cap) d' ps' ∧ (Lit.int .i64 b).wf = true ∧ (Lit.int .u8 c).wf = true ∧ q.size ≤ maxLen := by
  obtain ⟨cs, rfl, hs'⟩ := okWide_struct ht hv
  obtain ⟨fuel, hf⟩ := h
  simp only [Value.cells] at hf
  obtain ⟨a, ea, wa⟩ := field_string ht hf 0 f0 rfl (by rw [h0.1]; exact hs) (by rw [h0.1]; exact hcs)
  obtain ⟨A, len, cap, d', ps', el, hl'⟩ := field_slice ht hf 1 f1 rfl (by rw [h1.1]; exact hl) (by rw [h1.1]; exact hcl)
  obtain ⟨b, eb, wb⟩ := field_int ht hf 2 f2 rfl (by rw [h2.1]; exact hi) (by rw [h2.1]; exact hci)
  obtain ⟨c, ec, wc⟩ := field_int ht hf 3 f3 rfl (by rw [h3.1]; exact hu) (by rw [h3.1]; exact hcu)
  obtain ⟨q, eq, wq⟩ := field_string ht hf 4 f4 rfl (by rw [h4.1]; exact hs) (by rw [h4.1]; exact hcs)
  rw [h0.2] at ea; rw [h1.2] at el; rw [h2.2] at eb; rw [h3.2] at ec; rw [h4.2] at eq
  rw [h1.1] at hl'
  refine ⟨a, A, len, cap, b, c, q, d', ps', ?_, wa, hl', wb, wc, wq⟩
  rw [hn] at hs'
  obtain ⟨l⟩ := cs
  match l, hs' with
  | [x0, x1, x2, x3, x4], _ =>
    simp at ea el eb ec eq
    rw [ea, el, eb, ec, eq]
end
end Go.Proofs.Ythgjmbcojbmlhaa.Zb
