/- A region that draws its order: the operations of a list, each of which yields its value in every world that meets S, are taken first, all at once. No program's text. -/
import Derived.Deep.RegionHeld
namespace Go.Proofs.Ythgjmbcojbmlhaa.Zb
open Go
section
variable {P : Program} {ops : Array Oper} {Q : Exit → Act → World → Prop} {md : Region.Mode} {S : World → Prop}

def nthOp : List Oper → Nat → Option Oper
  | [], _ => none
  | o :: _, 0 => some o
  | _ :: l, n + 1 => nthOp l n
set_option maxRecDepth 20000 in
theorem nthOp_eq : ∀ (l : List Oper) (n : Nat), nthOp l n = l[n]?
  | [], _ => rfl
  | _ :: _, 0 => rfl
  | _ :: l, n + 1 => by simp [nthOp, nthOp_eq l n]

/-- The operations of the list may be taken in this order. -/
def takesB (md : Region.Mode) (ops : Array Oper) : List Nat → Array Bool → Bool
  | [], _ => true
  | i :: is, l => Region.free md ops l i && (Region.ready md ops l).contains i && takesB md ops is (l.setIfInBounds i true)
def listedBy : List Nat → Array Bool → Array Bool
  | [], l => l
  | i :: is, l => listedBy is (l.setIfInBounds i true)

/-- They are run, one behind the other. -/
def Heads (P : Program) (ops : Array Oper) (S : World → Prop) (K : Act → Prop) : List Nat → Act → Prop
  | [], a => K a
  | i :: is, a => ∃ o v, nthOp ops.toList i = some o ∧ YieldsIf P ops S o v a ∧ Heads P ops S K is (a.put o.dst v)

set_option maxRecDepth 20000 in
theorem Heads.done {K : Act → Prop} {a : Act} (h : K a) : Heads P ops S K [] a := h
set_option maxRecDepth 20000 in
theorem Heads.step {K : Act → Prop} {i : Nat} {is : List Nat} {a : Act} {o : Oper} {v : Value} (ho : nthOp ops.toList i = some o) (hw : Region.wanted o (yielded ops a.tmps) = true)
    (hr : ∀ w, S w → (execOp a.eval o).run P w = .ok (.value v) w) (h : Heads P ops S K is (a.put o.dst v)) : Heads P ops S K (i :: is) a :=
  ⟨o, v, ho, Or.inl ⟨hw, hr⟩, h⟩
/-- an operation whose guard is not met -/
theorem Heads.skip {K : Act → Prop} {i : Nat} {is : List Nat} {a : Act} {o : Oper} (ho : nthOp ops.toList i = some o) (hw : Region.wanted o (yielded ops a.tmps) = false)
    (h : Heads P ops S K is (a.put o.dst undef)) : Heads P ops S K (i :: is) a :=
  ⟨o, undef, ho, Or.inr ⟨hw, rfl⟩, h⟩

set_option maxRecDepth 20000 in
theorem wpAnyH_heads (hs : Region.noSelect ops = true) (hQ : ∀ c a d v w, Q (.panic c) (Act.put a d v) w → Q (.panic c) a w) (w : World) (hS : S w) (fuel : Nat) :
    ∀ (is : List Nat) (listed : Array Bool) (a : Act), takesB md ops is listed = true →
      Heads P ops S (fun a' => wpAnyH P md ops Q S fuel (listedBy is listed) a' w) is a → wpAnyH P md ops Q S (fuel + is.length) listed a w
  | [], _, _, _, h => h
  | i :: is, listed, a, hB, ⟨o, v, ho, hy, h⟩ => by
    simp only [takesB, Bool.and_eq_true] at hB
    have hi : ops[i]? = some o := by
      rw [nthOp_eq] at ho
      simpa using ho
    exact wpAnyH_take hi hs hB.1.1 hB.1.2 (fun c a' w' => hQ c a' o.dst v w') hy hS (wpAnyH_heads hs hQ w hS fuel is _ _ hB.2 h)

/-- The beginning: S is shown of the world behind the draw. -/
theorem wp_region_heads {id : Nat} {a : Act} {w : World} (is : List Nat) (fuel : Nat) (S : World → Prop) (hm : P.follows .mixedOrders = true) (hn : fuel + is.length = ops.size) (hs : Region.noSelect ops = true)
    (hB : takesB .any ops is (Array.replicate ops.size false) = true) (hQ : ∀ c a d v w, Q (.panic c) (Act.put a d v) w → Q (.panic c) a w) (hS : S w.drew)
    (h : Heads P ops S (fun a' => wpAnyH P .any ops Q S fuel (listedBy is (Array.replicate ops.size false)) a' w.drew) is a) : (Code.region id ops true).wp P Q a w := by
  refine wp_region_held_drew (S := S) hm hS fun hS' => ?_
  have := wpAnyH_heads (P := P) (md := .any) hs hQ w.drew hS' fuel is (Array.replicate ops.size false) a hB h
  rw [hn] at this
  exact this

/-- In the midst. -/
theorem wpAnyH_more {w : World} {n : Nat} {listed : Array Bool} {a : Act} (is : List Nat) (fuel : Nat) (hn : n = fuel + is.length) (hs : Region.noSelect ops = true)
    (hB : takesB md ops is listed = true) (hQ : ∀ c a d v w, Q (.panic c) (Act.put a d v) w → Q (.panic c) a w) (hS : S w)
    (h : Heads P ops S (fun a' => wpAnyH P md ops Q S fuel (listedBy is listed) a' w) is a) : wpAnyH P md ops Q S n listed a w := by
  subst hn
  exact wpAnyH_heads hs hQ w hS fuel is listed a hB h
end
end Go.Proofs.Ythgjmbcojbmlhaa.Zb
