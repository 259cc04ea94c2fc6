/- Arguments of a statement, opened: what is done to a store (a number, a text, a number, a mask). No program's text. -/
import Derived.Test.YtacbnoagdlelgaaArgs4
import Derived.Test.YtacbnoagdlelgaaStM
import Derived.OpenShut
namespace Go.Proofs.Ytacbnoagdlelgaa
open Go.RowKit Zb Go.ChangeShapes Go.WideShapes Go.Deep

structure QOp where
  kind : Int
  s : ByteArray
  i : Int
  mask : Int
def QOp.cells (o : QOp) : List Value := [.int .i64 o.kind, .string o.s, .int .i64 o.i, .int .u64 o.mask]
structure QOp.Ok (o : QOp) : Prop where
  kind : -9223372036854775808 ≤ o.kind ∧ o.kind ≤ 9223372036854775807
  s : o.s.size ≤ maxLen
  i : -9223372036854775808 ≤ o.i ∧ o.i ≤ 9223372036854775807
  mask : 0 ≤ o.mask ∧ o.mask ≤ 18446744073709551615
set_option maxRecDepth 20000 in
theorem qop_el {H : Type} {enc : TypeId × Value → H} {w : World} {base : Nat} {spare : Nat → Bool} {held : Bool} (cs : List Value) (n : Nat) (y : DataW H × List MemPlace) (hl : cs.length = 4)
    (h : DataW.trod enc Try.prog w base spare held n 39 cs = some y) : ∃ x : QOp, cs = x.cells ∧ x.Ok := by
  obtain ⟨a0, e0, w0⟩ := field_int Try.underlying39 h 0 _ rfl Try.underlying3 (by kernel_rfl)
  obtain ⟨a1, e1, w1⟩ := field_string Try.underlying39 h 1 _ rfl Try.underlying9 (by kernel_rfl)
  obtain ⟨a2, e2, w2⟩ := field_int Try.underlying39 h 2 _ rfl Try.underlying3 (by kernel_rfl)
  obtain ⟨a3, e3, w3⟩ := field_int Try.underlying39 h 3 _ rfl Try.underlying37 (by kernel_rfl)
  have b0 := bounds_i64 w0
  have b2 := bounds_i64 w2
  have b3 := bounds_u64 w3
  refine ⟨⟨a0, a1, a2, a3⟩, ?_, ⟨by dsimp; omega, w1, by dsimp; omega, by dsimp; omega⟩⟩
  match cs, hl with
  | [x0, x1, x2, x3], _ =>
    simp at e0 e1 e2 e3
    rw [e0, e1, e2, e3]
    rfl
set_option maxRecDepth 20000 in
theorem qop_all {w : World} {g : Nat} {x : QOp} (h : Blk w g 39 x.cells.toArray) : w.cell? ⟨g, 0, none⟩ = some (.int .i64 x.kind) ∧ w.cell? ⟨g, 1, none⟩ = some (.string x.s) ∧ w.cell? ⟨g, 2, none⟩ = some (.int .i64 x.i) ∧ w.cell? ⟨g, 3, none⟩ = some (.int .u64 x.mask) :=
  ⟨h.cell 0, h.cell 1, h.cell 2, h.cell 3⟩
end Go.Proofs.Ytacbnoagdlelgaa
