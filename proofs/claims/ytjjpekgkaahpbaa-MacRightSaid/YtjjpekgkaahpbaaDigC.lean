/- Chapter 2: the tables of constants, walked. -/
import Derived.Test.YtjjpekgkaahpbaaDigB
namespace Go.Proofs.Ytjjpekgkaahpbaa
open Go.RowKit Zb

/-- words as cells -/
def wcs (l : List Int) : List Value := l.map fun x => .int .u32 x
/-- one result, which lies in a row of its own -/
theorem ret_cell1 {P : Program} {fn : Func} {p : Tmp} {ty t : TypeId} {R : Ending → World → Prop} {a : Act} {w : World} {g : Nat} {cs : Array Value} {d : TypeDesc} (h : fn.results = #[.cell p ty]) (hd : a.defers = [])
    (hp : a.tmps.getD p undef = .pointer (some ⟨g, 0, none⟩)) (hg : Blk w g t cs) (hu : P.underlying ty = some d) (hs : (match d with | .struct _ | .array _ _ => true | _ => false) = true) (hi : (P.info? ty).map (·.size) = some cs.size)
    (hR : R (.returned (.agg cs)) w) : bodyPost P fn R .ret a w :=
  bodyPost_ret (v := .agg cs) (results_cell_row h _ _ g t cs (0, 0) d hp hg hu hs hi) hd hR
theorem gfirst_calls (w : World) : Calls Try.prog 25 #[] w fun e w' => e = .returned (.agg (wcs firstW).toArray) ∧ Below w.heap.size w w' := by
  go_enter Try.func25, Try.ntmps25
  go_wp2_with fail
  exact ret_cell1 rfl rfl rfl (Blk.new w 43 _) Try.underlying43 rfl (by kernel_rfl) ⟨rfl, (Below.refl _ _).alloc (Nat.le_refl _) _⟩
end Go.Proofs.Ytjjpekgkaahpbaa
