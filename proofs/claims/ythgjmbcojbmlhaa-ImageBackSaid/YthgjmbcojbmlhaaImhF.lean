/- Chapter 14: a unit as an argument of a statement, opened. -/
import Derived.Test.YthgjmbcojbmlhaaImhE
import Derived.Test.YthgjmbcojbmlhaaArgs9
import Derived.OpenShut
namespace Go.Proofs.Ythgjmbcojbmlhaa
open Go.RowKit Zb Go.ChangeShapes Go.WideShapes Go.Deep

/-- the ranges of an argument's numbers -/
def R64 (n : Int) : Prop := -9223372036854775808 ≤ n ∧ n < 9223372036854775808
structure ProtoG (w : World) (v : ProtoV) : Prop where
  reads : v.Reads w
  params : R64 v.p.params
  regs : R64 v.p.regs
  consts : ∀ c ∈ v.p.consts, R64 c.kind ∧ R64 c.n
  caps : ∀ c ∈ v.p.caps, R64 c.index
structure UnitG (w : World) (u : UnitV) : Prop where
  reads : u.Reads w
  version : R64 u.version
  funs : R64 u.funs
  uses : ∀ x ∈ u.uses, R64 x.params
  protos : ∀ v ∈ u.vs, ProtoG w v
section
variable {H : Type} {enc : TypeId × Value → H} {w : World} {base : Nat} {spare : Nat → Bool} {held : Bool}
set_option maxRecDepth 20000 in
theorem cap_el (cs : List Value) (n : Nat) (y : DataW H × List MemPlace) (hl : cs.length = 2) (h : DataW.trod enc Try.prog w base spare held n 75 cs = some y) : ∃ x : CapM, cs = x.cells ∧ R64 x.index := by
  obtain ⟨a0, e0⟩ := field_bool Try.underlying75 h 0 _ rfl Try.underlying4 (by kernel_rfl)
  obtain ⟨a1, e1, w1⟩ := field_int Try.underlying75 h 1 _ rfl Try.underlying3 (by kernel_rfl)
  have b1 := bounds_i64 w1
  refine ⟨⟨a0, a1⟩, ?_, ⟨by dsimp; omega, by dsimp; omega⟩⟩
  match cs, hl with
  | [x0, x1], _ =>
    simp at e0 e1
    rw [e0, e1]
    rfl
set_option maxRecDepth 20000 in
theorem con_el (cs : List Value) (n : Nat) (y : DataW H × List MemPlace) (hl : cs.length = 3) (h : DataW.trod enc Try.prog w base spare held n 45 cs = some y) : ∃ x : ConM, cs = x.cells ∧ R64 x.kind ∧ R64 x.n := by
  obtain ⟨a0, e0, w0⟩ := field_int Try.underlying45 h 0 _ rfl Try.underlying3 (by kernel_rfl)
  obtain ⟨a1, e1, w1⟩ := field_int Try.underlying45 h 1 _ rfl Try.underlying2 (by kernel_rfl)
  obtain ⟨a2, e2, _⟩ := field_string Try.underlying45 h 2 _ rfl Try.underlying9 (by kernel_rfl)
  have b0 := bounds_i64 w0
  have b1 := bounds_i64 w1
  refine ⟨⟨a0, a1, a2⟩, ?_, ⟨by dsimp; omega, by dsimp; omega⟩, ⟨by dsimp; omega, by dsimp; omega⟩⟩
  match cs, hl with
  | [x0, x1, x2], _ =>
    simp at e0 e1 e2
    rw [e0, e1, e2]
    rfl
set_option maxRecDepth 20000 in
theorem ins_el (cs : List Value) (n : Nat) (y : DataW H × List MemPlace) (hl : cs.length = 4) (h : DataW.trod enc Try.prog w base spare held n 78 cs = some y) : ∃ x : InsM, cs = x.cells ∧ True := by
  obtain ⟨a0, e0, _⟩ := field_int Try.underlying78 h 0 _ rfl Try.underlying3 (by kernel_rfl)
  obtain ⟨a1, e1, _⟩ := field_int Try.underlying78 h 1 _ rfl Try.underlying3 (by kernel_rfl)
  obtain ⟨a2, e2, _⟩ := field_int Try.underlying78 h 2 _ rfl Try.underlying3 (by kernel_rfl)
  obtain ⟨a3, e3, _⟩ := field_int Try.underlying78 h 3 _ rfl Try.underlying3 (by kernel_rfl)
  refine ⟨⟨a0, a1, a2, a3⟩, ?_, trivial⟩
  match cs, hl with
  | [x0, x1, x2, x3], _ =>
    simp at e0 e1 e2 e3
    rw [e0, e1, e2, e3]
    rfl
set_option maxRecDepth 20000 in
theorem use_el (cs : List Value) (n : Nat) (y : DataW H × List MemPlace) (hl : cs.length = 3) (h : DataW.trod enc Try.prog w base spare held n 43 cs = some y) : ∃ x : UseM, cs = x.cells ∧ R64 x.params := by
  obtain ⟨a0, e0, _⟩ := field_string Try.underlying43 h 0 _ rfl Try.underlying9 (by kernel_rfl)
  obtain ⟨a1, e1, _⟩ := field_string Try.underlying43 h 1 _ rfl Try.underlying9 (by kernel_rfl)
  obtain ⟨a2, e2, w2⟩ := field_int Try.underlying43 h 2 _ rfl Try.underlying3 (by kernel_rfl)
  have b2 := bounds_i64 w2
  refine ⟨⟨a0, a1, a2⟩, ?_, ⟨by dsimp; omega, by dsimp; omega⟩⟩
  match cs, hl with
  | [x0, x1, x2], _ =>
    simp at e0 e1 e2
    rw [e0, e1, e2]
    rfl
set_option maxRecDepth 20000 in
theorem proto_el (cs : List Value) (n : Nat) (y : DataW H × List MemPlace) (hl : cs.length = 6) (h : DataW.trod enc Try.prog w base spare held n 38 cs = some y) : ∃ v : ProtoV, cs = v.cells ∧ ProtoG w v := by
  obtain ⟨a0, e0, _⟩ := field_string Try.underlying38 h 0 _ rfl Try.underlying9 (by kernel_rfl)
  obtain ⟨a1, e1, w1⟩ := field_int Try.underlying38 h 1 _ rfl Try.underlying3 (by kernel_rfl)
  obtain ⟨a2, e2, w2⟩ := field_int Try.underlying38 h 2 _ rfl Try.underlying3 (by kernel_rfl)
  obtain ⟨A3, n3, c3, d3, p3, e3, t3⟩ := field_slice Try.underlying38 h 3 _ rfl Try.underlying34 (by kernel_rfl)
  obtain ⟨A4, n4, c4, d4, p4, e4, t4⟩ := field_slice Try.underlying38 h 4 _ rfl Try.underlying35 (by kernel_rfl)
  obtain ⟨A5, n5, c5, d5, p5, e5, t5⟩ := field_slice Try.underlying38 h 5 _ rfl Try.underlying36 (by kernel_rfl)
  obtain ⟨_, l3, rfl, r3, _⟩ := arg_rows (f := InsM.cells) (R := fun _ => True) Try.underlying34 (by kernel_rfl) (by decide) ins_el t3
  obtain ⟨_, l4, rfl, r4, g4⟩ := arg_rows (f := ConM.cells) (R := fun x => R64 x.kind ∧ R64 x.n) Try.underlying35 (by kernel_rfl) (by decide) con_el t4
  obtain ⟨_, l5, rfl, r5, g5⟩ := arg_rows (f := CapM.cells) (R := fun x => R64 x.index) Try.underlying36 (by kernel_rfl) (by decide) cap_el t5
  have b1 := bounds_i64 w1
  have b2 := bounds_i64 w2
  refine ⟨⟨⟨a0, a1, a2, l3, l4, l5⟩, A3, c3, A4, c4, A5, c5⟩, ?_, ⟨⟨r3, r4, r5⟩, ⟨by dsimp; omega, by dsimp; omega⟩, ⟨by dsimp; omega, by dsimp; omega⟩, g4, g5⟩⟩
  match cs, hl with
  | [x0, x1, x2, x3, x4, x5], _ =>
    simp at e0 e1 e2 e3 e4 e5
    rw [e0, e1, e2, e3, e4, e5]
    rfl
set_option maxRecDepth 20000 in
theorem arg_unit {v : Value} {d : DataW H} {ps : List MemPlace} (hv : Value.okWide Try.prog w .any 0 25 v) (h : DataW.Trod enc Try.prog w base spare held 25 v d ps) :
    ∃ u : UnitV, v = .agg #[.string u.name, .int .i64 u.version, .slice u.uA u.uses.length u.uc, .int .i64 u.funs, .slice u.rA u.vs.length u.rc] ∧ UnitG w u := by
  obtain ⟨cs, rfl, hs'⟩ := okWide_struct Try.underlying25 hv
  obtain ⟨fuel, hf⟩ := h
  simp only [Value.cells] at hf
  obtain ⟨a0, e0, _⟩ := field_string Try.underlying25 hf 0 _ rfl Try.underlying9 (by kernel_rfl)
  obtain ⟨a1, e1, w1⟩ := field_int Try.underlying25 hf 1 _ rfl Try.underlying3 (by kernel_rfl)
  obtain ⟨A2, n2, c2, d2, p2, e2, t2⟩ := field_slice Try.underlying25 hf 2 _ rfl Try.underlying22 (by kernel_rfl)
  obtain ⟨a3, e3, w3⟩ := field_int Try.underlying25 hf 3 _ rfl Try.underlying3 (by kernel_rfl)
  obtain ⟨A4, n4, c4, d4, p4, e4, t4⟩ := field_slice Try.underlying25 hf 4 _ rfl Try.underlying23 (by kernel_rfl)
  obtain ⟨_, l2, rfl, r2, g2⟩ := arg_rows (f := UseM.cells) (R := fun x => R64 x.params) Try.underlying22 (by kernel_rfl) (by decide) use_el t2
  obtain ⟨_, l4, rfl, r4, g4⟩ := arg_rows (f := ProtoV.cells) (R := fun x => ProtoG w x) Try.underlying23 (by kernel_rfl) (by decide) proto_el t4
  have b1 := bounds_i64 w1
  have b3 := bounds_i64 w3
  refine ⟨⟨a0, a1, l2, A2, c2, a3, l4, A4, c4⟩, ?_, ⟨⟨r2, r4, fun v hv => (g4 v hv).reads⟩, ⟨by dsimp; omega, by dsimp; omega⟩, ⟨by dsimp; omega, by dsimp; omega⟩, g2, g4⟩⟩
  rw [show Try.prog.cellsOf 25 = 5 by kernel_rfl] at hs'
  obtain ⟨l⟩ := cs
  match l, hs' with
  | [x0, x1, x2, x3, x4], _ =>
    simp at e0 e1 e2 e3 e4
    rw [e0, e1, e2, e3, e4]
end
set_option maxRecDepth 20000 in
theorem UnitG.lim {w : World} {u : UnitV} (h : UnitG w u) (hl : UnitLt u.m) : UnitS u.m ∧ UnitR u.m := by
  refine ⟨⟨Nat.le_trans hl.name (by decide), h.version, ⟨Nat.le_trans hl.uses.1 (by decide), fun x hx => ⟨Nat.le_trans (hl.uses.2 x hx).1 (by decide), Nat.le_trans (hl.uses.2 x hx).2 (by decide), h.uses x hx⟩⟩, h.funs, ⟨Nat.le_trans hl.protos.1 (by decide), fun p hp => ?_⟩⟩, fun p hp => ?_⟩
  · obtain ⟨v, hv, rfl⟩ := List.mem_map.1 hp
    have g := h.protos v hv
    have l := hl.protos.2 v.p hp
    exact ⟨Nat.le_trans l.name (by decide), Nat.le_trans l.code (by decide), ⟨Nat.le_trans l.consts.1 (by decide), fun c hc => ⟨Nat.le_trans (l.consts.2 c hc) (by decide), (g.consts c hc).2, (g.consts c hc).1⟩⟩, ⟨Nat.le_trans l.caps (by decide), g.caps⟩, g.params, g.regs⟩
  · obtain ⟨v, hv, rfl⟩ := List.mem_map.1 hp
    exact fun c hc => ((h.protos v hv).consts c hc).2
end Go.Proofs.Ythgjmbcojbmlhaa
