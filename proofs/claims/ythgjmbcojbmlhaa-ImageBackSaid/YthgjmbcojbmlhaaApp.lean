/- append(s, x...) onto a row of a call's own, at the operation itself; what is appended is another row, or nil, or the cells of a new block. No program's text. -/
import Derived.Test.YthgjmbcojbmlhaaBase
import Derived.Laws.AppendOwnNone
namespace Go.Proofs.Ythgjmbcojbmlhaa.Zb
open Go.RowKit

/-- the blocks G are as they were -/
def Keeps (G : Nat → Prop) (w w' : World) : Prop := ∀ x, G x → w'.heap[x]? = w.heap[x]?
set_option maxRecDepth 20000 in
theorem Keeps.refl (G : Nat → Prop) (w : World) : Keeps G w w := fun _ _ => rfl
set_option maxRecDepth 20000 in
theorem Keeps.trans {G : Nat → Prop} {a b c : World} (h : Keeps G a b) (k : Keeps G b c) : Keeps G a c := fun x hx => (k x hx).trans (h x hx)
set_option maxRecDepth 20000 in
theorem Keeps.blk {G : Nat → Prop} {w w' : World} {g : Nat} {t : TypeId} {cs : Array Value} (h : Keeps G w w') (hb : Blk w g t cs) (hg : G g) : Blk w' g t cs := (h g hg).trans hb
/-- a value whose block, if it has one, is newer than w -/
def OwnNew (w : World) (v : Value) : Prop := ∀ g, v.ownBlock = some g → w.heap.size ≤ g
set_option maxRecDepth 20000 in
theorem own_new {w W : World} {v' : Value} (h : v'.ownBlock = (Value.slice none 0 0).ownBlock ∨ v'.ownBlock = some W.heap.size) (hle : w.heap.size ≤ W.heap.size) : OwnNew w v' := by
  intro g hg
  rcases h with e | e
  · rw [e] at hg; simp [Value.ownBlock] at hg
  · rw [e] at hg; cases hg; exact hle
/-- src is a slice of m elements whose cells are news -/
def Src (w : World) (src : Value) (m : Nat) (news : List Value) : Prop :=
  (∃ ad c, src = .slice (some ad) m c ∧ ∀ j u, news[j]? = some u → w.cell? (ad.add j) = some u) ∨ (src = .slice none 0 0 ∧ m = 0 ∧ news = [])
set_option maxRecDepth 20000 in
theorem Src.row {w : World} {e : TypeId} {size : Nat} {v : Value} {n : Nat} {xs : List Value} (h : Row w e size v n xs) : Src w v n xs := by
  rcases h.2 with ⟨rfl, rfl⟩ | ⟨g, cap, cur, rfl, rest⟩
  · have := h.1
    exact .inr ⟨rfl, rfl, List.eq_nil_of_length_eq_zero (by simpa using this)⟩
  · exact .inl ⟨_, _, rfl, World.ownsRow.cells (g := g) h rfl⟩
set_option maxRecDepth 20000 in
theorem Src.blk {w : World} {g : Nat} {t : TypeId} {cs : Array Value} {m c : Nat} (h : Blk w g t cs) : Src w (.slice (some ⟨g, 0, none⟩) m c) m cs.toList :=
  .inl ⟨_, _, rfl, Blk.news h⟩
set_option maxRecDepth 20000 in
theorem Src.of_block {w w' : World} {src : Value} {m : Nat} {news : List Value} (h : Src w src m news) (hk : ∀ g, src.ownBlock = some g → w'.heap[g]? = w.heap[g]?) : Src w' src m news := by
  rcases h with ⟨ad, c, rfl, hn⟩ | h
  · refine .inl ⟨ad, c, rfl, fun j u hu => ?_⟩
    have := hn j u hu
    rw [← this]
    refine World.cell?_of_block ?_
    have e : (ad.add j).block = ad.block := by unfold Addr.add; split <;> rfl
    rw [e]
    exact hk _ rfl
  · exact .inr h
section
variable {P : Program} {o : Oper} {a : Act} {Q : Exit → Act → World → Prop} {W : World} {v src : Value} {n m : Nat} {xs news : List Value} {e t : TypeId} {size : Nat}
set_option maxRecDepth 20000 in
theorem run_app (ty : TypeId) {z : Value} {bytes : Nat} (ht : P.underlying t = some (.slice e)) (hinfo : (P.info? e).map (fun i => (i.zero, i.size, i.bytes)) = some (some z, size, bytes)) (hzs : z.cells.size = size) (hsz : 0 < size)
    (hown : Row W e size v n xs) (hsrc : Src W src m news) (hl : news.length = m * size) (h1 : ∀ u ∈ news, u.oneCell' = true) (h63 : n + m ≤ maxLen) (hbytes : (n + m) * bytes ≤ 140737488355328) :
    ∃ v' w', (Builtin.append_ #[t, t] ty #[v, src]).run P W = .ok v' w' ∧ Row w' e size v' (n + m) (xs ++ news) ∧ W.grownBy w' v.ownBlock ∧ (v'.ownBlock = v.ownBlock ∨ v'.ownBlock = some W.heap.size) := by
  obtain ⟨i, hi, hz0, hz1, hz2⟩ := info_parts hinfo
  rcases hsrc with ⟨ad, c, rfl, hn⟩ | ⟨rfl, rfl, rfl⟩
  · obtain ⟨v', w', hr, h2, hg, _, hat⟩ := run_append_own_at (P := P) W 0 t ty e i z size bytes ht hi hz0 hz1 hz2 hzs hsz v n xs hown ad m c news hl hn h1 h63 hbytes (Nat.zero_le _)
    exact ⟨v', w', hr, h2, hg, hat⟩
  · refine ⟨v, W, run_append_owned_none (P := P) (w := W) 0 t ty e i size ht hi v n xs hown, ?_, ⟨rfl, rfl, rfl, Nat.le_refl _, fun _ _ _ => rfl⟩, .inl rfl⟩
    rw [Nat.add_zero, List.append_nil]
    exact hown
set_option maxRecDepth 20000 in
theorem app_op (s x : Operand) (t e : TypeId) (ho : o.op = .call { callee := .builtin .append, args := #[s, x], argTypes := #[t, t] }) (z : Value) (size bytes : Nat) (ht : P.underlying t = some (.slice e)) (hinfo : (P.info? e).map (fun i => (i.zero, i.size, i.bytes)) = some (some z, size, bytes)) (hzs : z.cells.size = size) (hsz : 0 < size)
    (v : Value) (n : Nat) (xs : List Value) (hs : a.eval s = v) (hown : Row W e size v n xs) (src : Value) (m : Nat) (news : List Value) (hx : a.eval x = src) (hsrc : Src W src m news) (hl : news.length = m * size) (h1 : ∀ u ∈ news, u.oneCell' = true) (h63 : n + m ≤ maxLen) (hbytes : (n + m) * bytes ≤ 140737488355328)
    {K : Act → World → Prop} (h : ∀ v' w', Hid (Row w' e size v' (n + m) (xs ++ news)) → Hid (W.grownBy w' v.ownBlock) → Hid (v'.ownBlock = v.ownBlock ∨ v'.ownBlock = some W.heap.size) → K (a.put o.dst v') w') : Oper.wp P o a W K Q := by
  obtain ⟨v', w', hr, h2, hg, hat⟩ := run_app (P := P) o.type ht hinfo hzs hsz hown hsrc hl h1 h63 hbytes
  unfold Oper.wp execOp
  simp only [ho, resolve, invoke, builtin, Sem.run_bind, Sem.run_pure, Result.andThen_ok, List.map_toArray, List.map_cons, List.map_nil, hs, hx, hr]
  exact h v' w' (hide h2) (hide hg) (hide hat)
set_option maxRecDepth 20000 in
theorem app_list {ops : Array Oper} {rest : List Oper} (hgd : o.guard = none) (s x : Operand) (t e : TypeId) (ho : o.op = .call { callee := .builtin .append, args := #[s, x], argTypes := #[t, t] }) (z : Value) (size bytes : Nat) (ht : P.underlying t = some (.slice e)) (hinfo : (P.info? e).map (fun i => (i.zero, i.size, i.bytes)) = some (some z, size, bytes)) (hzs : z.cells.size = size) (hsz : 0 < size)
    (v : Value) (n : Nat) (xs : List Value) (hs : a.eval s = v) (hown : Row W e size v n xs) (src : Value) (m : Nat) (news : List Value) (hx : a.eval x = src) (hsrc : Src W src m news) (hl : news.length = m * size) (h1 : ∀ u ∈ news, u.oneCell' = true) (h63 : n + m ≤ maxLen) (hbytes : (n + m) * bytes ≤ 140737488355328)
    (h : ∀ v' w', Hid (Row w' e size v' (n + m) (xs ++ news)) → Hid (W.grownBy w' v.ownBlock) → Hid (v'.ownBlock = v.ownBlock ∨ v'.ownBlock = some W.heap.size) → wpList P ops Q rest (a.put o.dst v') w') : wpList P ops Q (o :: rest) a W :=
  wpList_plain hgd fun _ hK => app_op s x t e ho z size bytes ht hinfo hzs hsz v n xs hs hown src m news hx hsrc hl h1 h63 hbytes fun v' w' a1 a2 a3 => hK _ _ (h v' w' a1 a2 a3)
end
end Go.Proofs.Ythgjmbcojbmlhaa.Zb
