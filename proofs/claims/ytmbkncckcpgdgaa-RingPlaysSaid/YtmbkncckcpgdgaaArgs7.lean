/- Arguments of a statement, opened: what is done to a journal (a number, an entry, a number, a text, a mask). No program's text. -/
import Derived.Test.YtmbkncckcpgdgaaArgs4
import Derived.Test.YtmbkncckcpgdgaaArgs6
import Derived.OpenShut
namespace Go.Proofs.Ytmbkncckcpgdgaa
open Go.RowKit Zb Go.ChangeShapes Go.WideShapes Go.Deep

structure POp where
  kind : Int
  e : EntM
  i : Int
  s : ByteArray
  mask : Int
def POp.cells (o : POp) : List Value := [.int .i64 o.kind, .int .i64 o.e.kind, .int .i64 o.e.number, .int .i64 o.e.slot, .int .i64 o.e.size, .string o.e.sum, .int .i64 o.i, .string o.s, .int .u64 o.mask]
structure POp.Ok (o : POp) : Prop where
  kind : -9223372036854775808 ≤ o.kind ∧ o.kind ≤ 9223372036854775807
  sum : o.e.sum.size ≤ maxLen
  i : -9223372036854775808 ≤ o.i ∧ o.i ≤ 9223372036854775807
  s : o.s.size ≤ maxLen
  mask : 0 ≤ o.mask ∧ o.mask ≤ 18446744073709551615
set_option maxRecDepth 20000 in
theorem field_struct {H : Type} {enc : TypeId × Value → H} {P : Program} {w : World} {base : Nat} {spare : Nat → Bool} {held : Bool} {t : TypeId} {fs : Array Field} {cs : List Value} {fuel : Nat} {x : DataW H × List MemPlace} (ht : P.underlying t = some (.struct fs)) (h : DataW.trod enc P w base spare held fuel t cs = some x)
    (i : Nat) (f : Field) (hi : fs[i]? = some f) {t' : TypeId} {off k : Nat} (hf : f.type = t') (ho : f.offset = off) (hk : P.cellsOf t' = k) : ∃ n y, DataW.trod enc P w base spare held n t' ((cs.drop off).take k) = some y := by
  obtain ⟨xs, n, _, _, hl, hlen, hall⟩ := DataW.trod_struct ht h
  have hlt : i < xs.length := by rw [hlen]; exact (Array.getElem?_eq_some_iff.1 hi).1
  have hq := hall i f hi
  rw [List.getElem?_eq_getElem hlt, hf, ho, hk] at hq
  exact ⟨n, _, hq⟩
set_option maxRecDepth 20000 in
theorem pop_el {H : Type} {enc : TypeId × Value → H} {w : World} {base : Nat} {spare : Nat → Bool} {held : Bool} (cs : List Value) (n : Nat) (y : DataW H × List MemPlace) (hl : cs.length = 9)
    (h : DataW.trod enc Try.prog w base spare held n 59 cs = some y) : ∃ x : POp, cs = x.cells ∧ x.Ok := by
  obtain ⟨a0, e0, w0⟩ := field_int Try.underlying59 h 0 _ rfl Try.underlying3 (by kernel_rfl)
  obtain ⟨a2, e2, w2⟩ := field_int Try.underlying59 h 2 _ rfl Try.underlying3 (by kernel_rfl)
  obtain ⟨a3, e3, w3⟩ := field_string Try.underlying59 h 3 _ rfl Try.underlying9 (by kernel_rfl)
  obtain ⟨a4, e4, w4⟩ := field_int Try.underlying59 h 4 _ rfl Try.underlying57 (by kernel_rfl)
  have b0 := bounds_i64 w0
  have b2 := bounds_i64 w2
  have b4 := bounds_u64 w4
  obtain ⟨m, y1, h1⟩ := field_struct Try.underlying59 h 1 _ rfl (t' := 23) (off := 1) (k := 5) rfl rfl (by kernel_rfl)
  obtain ⟨e, he, hm, _⟩ := ent_cells (cs := (cs.drop 1).take 5) Try.underlying23 Try.underlying3 Try.underlying9 (by kernel_rfl) (by kernel_rfl) ⟨rfl, rfl⟩ ⟨rfl, rfl⟩ ⟨rfl, rfl⟩ ⟨rfl, rfl⟩ ⟨rfl, rfl⟩ (by simp [hl]) h1
  refine ⟨⟨a0, e, a2, a3, a4⟩, ?_, ⟨by dsimp; omega, hm, by dsimp; omega, w3, by dsimp; omega⟩⟩
  match cs, hl with
  | [x0, x1, x2, x3, x4, x5, x6, x7, x8], _ =>
    simp [EntM.cells] at e0 e2 e3 e4 he
    obtain ⟨g1, g2, g3, g4, g5⟩ := he
    rw [e0, e2, e3, e4, g1, g2, g3, g4, g5]
    rfl
set_option maxRecDepth 20000 in
theorem pop_all {w : World} {g : Nat} {x : POp} (h : Blk w g 59 x.cells.toArray) : w.cell? ⟨g, 0, none⟩ = some (.int .i64 x.kind) ∧ w.cell? ⟨g, 5, none⟩ = some (.string x.e.sum) ∧ w.cell? ⟨g, 6, none⟩ = some (.int .i64 x.i) ∧ w.cell? ⟨g, 7, none⟩ = some (.string x.s) ∧ w.cell? ⟨g, 8, none⟩ = some (.int .u64 x.mask) :=
  ⟨h.cell 0, h.cell 5, h.cell 6, h.cell 7, h.cell 8⟩
end Go.Proofs.Ytmbkncckcpgdgaa
