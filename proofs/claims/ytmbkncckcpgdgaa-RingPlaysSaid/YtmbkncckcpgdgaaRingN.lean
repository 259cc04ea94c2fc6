/- Chapter 5: lists of entries as cells; what a scan goes through. No program's text. -/
import Derived.Test.YtmbkncckcpgdgaaRingA
import Derived.Test.YtmbkncckcpgdgaaApp
import Derived.ArgAppend
namespace Go.Proofs.Ytmbkncckcpgdgaa
open Go.RowKit Zb

/-! ### cells -/
def ecells (L : List EntM) : List Value := L.flatMap EntM.cells
set_option maxRecDepth 20000 in
theorem ecells_len : ∀ L : List EntM, (ecells L).length = L.length * 5
  | [] => rfl
  | p :: r => by
    have := ecells_len r
    simp only [ecells, List.flatMap_cons, List.length_append, List.length_cons] at *
    rw [this]
    show 5 + _ = _
    omega
set_option maxRecDepth 20000 in
theorem ecells_app (a b : List EntM) : ecells (a ++ b) = ecells a ++ ecells b := by simp [ecells]
set_option maxRecDepth 20000 in
theorem ecells_snoc (L : List EntM) (e : EntM) : ecells (L ++ [e]) = ecells L ++ e.cells := by simp [ecells]
set_option maxRecDepth 20000 in
theorem ecells_take : ∀ (L : List EntM) (k : Nat), ecells (L.take k) = (ecells L).take (k * 5)
  | [], k => by simp [ecells]
  | e :: r, 0 => by simp [ecells]
  | e :: r, k + 1 => by
    have ih := ecells_take r k
    have h : ecells (e :: r) = e.cells ++ ecells r := by simp [ecells]
    have h2 : (e :: r).take (k + 1) = e :: r.take k := rfl
    rw [h2, h, show ecells (e :: r.take k) = e.cells ++ ecells (r.take k) by simp [ecells], ih]
    have e5 : e.cells.length = 5 := rfl
    rw [List.take_append, List.take_of_length_le (l := e.cells) (by omega), e5, show (k + 1) * 5 - 5 = k * 5 by omega]
set_option maxRecDepth 20000 in
theorem ecells_drop : ∀ (L : List EntM) (k : Nat), ecells (L.drop k) = (ecells L).drop (k * 5)
  | [], k => by simp [ecells]
  | e :: r, 0 => by simp
  | e :: r, k + 1 => by
    have ih := ecells_drop r k
    have h : ecells (e :: r) = e.cells ++ ecells r := by simp [ecells]
    have e5 : e.cells.length = 5 := rfl
    rw [List.drop_succ_cons, h, ih, List.drop_append, List.drop_of_length_le (l := e.cells) (by omega), List.nil_append, e5, show (k + 1) * 5 - 5 = k * 5 by omega]
set_option maxRecDepth 20000 in
theorem ecells_get (L : List EntM) (k : Nat) (e : EntM) (h : L[k]? = some e) (j : Nat) (hj : j < 5) : (ecells L)[k * 5 + j]? = e.cells[j]? := by
  have hk : k < L.length := (List.getElem?_eq_some_iff.1 h).1
  have e1 : (ecells L)[k * 5 + j]? = (ecells (L.drop k))[j]? := by rw [ecells_drop, List.getElem?_drop]
  have e2 : L.drop k = e :: L.drop (k + 1) := by
    rw [List.drop_eq_getElem_cons hk]
    rw [List.getElem?_eq_getElem hk, Option.some.injEq] at h
    rw [h]
  rw [e1, e2]
  show (e.cells ++ ecells (L.drop (k + 1)))[j]? = _
  rw [List.getElem?_append_left (by show j < 5; exact hj)]
set_option maxRecDepth 20000 in
theorem ecells_one (e : EntM) : ∀ u ∈ e.cells, u.oneCell' = true := by
  intro u hu
  simp only [EntM.cells, List.mem_cons, List.not_mem_nil, or_false] at hu
  rcases hu with rfl | rfl | rfl | rfl | rfl <;> rfl
set_option maxRecDepth 20000 in
theorem ecells_ones (L : List EntM) : ∀ u ∈ ecells L, u.oneCell' = true := by
  intro u hu
  simp only [ecells, List.mem_flatMap] at hu
  obtain ⟨e, _, h⟩ := hu
  exact ecells_one e u h

/-! ### the insertion -/
theorem insE_len : ∀ (L : List EntM) (e : EntM), (insE L e).length = L.length + 1
  | [], _ => rfl
  | x :: l, e => by
    unfold insE
    split
    · simp
    · simp [insE_len l e]
set_option maxRecDepth 20000 in
theorem insE_at : ∀ (L : List EntM) (e : EntM) (k : Nat) (x : EntM), L[k]? = some x → e.number < x.number → (∀ (j : Nat) (y : EntM), j < k → L[j]? = some y → y.number ≤ e.number) → insE L e = L.take k ++ e :: L.drop k
  | [], e, k, x, h, _, _ => by simp at h
  | y :: l, e, 0, x, h, hx, _ => by
    obtain rfl : y = x := by simpa using h
    simp [insE, hx]
  | y :: l, e, k + 1, x, h, hx, hl => by
    have h0 := hl 0 y (by omega) rfl
    have ih := insE_at l e k x (by simpa using h) hx (fun j z hj hz => hl (j + 1) z (by omega) (by simpa using hz))
    simp only [insE, if_neg (Int.not_lt.2 h0), ih, List.take_succ_cons, List.drop_succ_cons, List.cons_append]
set_option maxRecDepth 20000 in
theorem insE_end : ∀ (L : List EntM) (e : EntM), (∀ (j : Nat) (y : EntM), L[j]? = some y → y.number ≤ e.number) → insE L e = L ++ [e]
  | [], e, _ => rfl
  | y :: l, e, hl => by
    have h0 := hl 0 y rfl
    have ih := insE_end l e (fun j z hz => hl (j + 1) z (by simpa using hz))
    simp only [insE, if_neg (Int.not_lt.2 h0), ih, List.cons_append]
set_option maxRecDepth 20000 in
theorem scanTo_len (D : DiskM) : ∀ n, (scanTo D n).length ≤ n
  | 0 => Nat.le_refl 0
  | n + 1 => by
    have := scanTo_len D n
    unfold scanTo scanStep
    split
    · rw [insE_len]; omega
    · omega
set_option maxRecDepth 20000 in
theorem read_err {D : DiskM} (hL : 8 ≤ D.lasts.length) {i : Nat} (hi : i < 8) : (D.read i).2 = scanE D := by
  have h1 : D.wrong (i : Int) = D.wrong 0 := by
    unfold DiskM.wrong
    have e1 : ¬ ((i : Int) < 0 ∨ (D.lasts.length : Int) ≤ (i : Int)) := by omega
    have e0 : ¬ ((0 : Int) < 0 ∨ (D.lasts.length : Int) ≤ 0) := by omega
    rw [if_neg e1, if_neg e0]
  unfold scanE DiskM.read
  rw [h1]
  split <;> rfl

/-! ### append onto a shut slice -/
theorem run_append_shut {P : Program} {W : World} {e t : TypeId} {size : Nat} (ty : TypeId) {z : Value} {bytes : Nat} (ht : P.underlying t = some (.slice e)) (hinfo : (P.info? e).map (fun i => (i.zero, i.size, i.bytes)) = some (some z, size, bytes)) (hzs : z.cells.size = size) (hsz : 0 < size)
    {b : Addr} {n m : Nat} {olds news : List Value} {src : Value} (hlo : olds.length = n * size) (holds : ∀ j u, olds[j]? = some u → W.cell? (b.add j) = some u) (hsrc : Zb.Src W src m news) (hl : news.length = m * size) (hm : 0 < m) (h63 : n + m ≤ maxLen) (hbytes : (n + m) * bytes ≤ 140737488355328) :
    ∃ v' w', (Builtin.append_ #[t, t] ty #[.slice (some b) n n, src]).run P W = .ok v' w' ∧ w'.ownsRow W.heap.size e size v' (n + m) (olds ++ news) ∧ W.grownBy w' none := by
  obtain ⟨i, hi, hz0, hz1, hz2⟩ := info_parts hinfo
  rcases hsrc with ⟨ad, c, rfl, hn⟩ | ⟨rfl, rfl, rfl⟩
  · exact run_append_arg_grows (P := P) (w := W) t ty e i z size bytes ht hi hz0 hz1 hz2 hzs hsz b n n olds hlo holds ad m c news hl hn (by omega) h63 hbytes
  · omega
set_option maxRecDepth 20000 in
theorem row_base {w : World} {base : Nat} {e : TypeId} {size : Nat} {v : Value} {n : Nat} {xs : List Value} (h : w.ownsRow base e size v n xs) : Row w e size v n xs := by
  refine ⟨h.1, ?_⟩
  rcases h.2 with h1 | ⟨g, cap, cur, e1, _, rest⟩
  · exact .inl h1
  · exact .inr ⟨g, cap, cur, e1, Nat.zero_le _, rest⟩
set_option maxRecDepth 20000 in
theorem app_shut {P : Program} {o : Oper} {a : Act} {Q : Exit → Act → World → Prop} {W : World} {e t : TypeId} {size : Nat} (s x : Operand) (ho : o.op = .call { callee := .builtin .append, args := #[s, x], argTypes := #[t, t] }) (z : Value) (bytes : Nat) (ht : P.underlying t = some (.slice e)) (hinfo : (P.info? e).map (fun i => (i.zero, i.size, i.bytes)) = some (some z, size, bytes)) (hzs : z.cells.size = size) (hsz : 0 < size)
    (b : Addr) (n m : Nat) (olds news : List Value) (src : Value) (hs : a.eval s = .slice (some b) n n) (hx : a.eval x = src) (hlo : olds.length = n * size) (holds : ∀ j u, olds[j]? = some u → W.cell? (b.add j) = some u) (hsrc : Zb.Src W src m news) (hl : news.length = m * size) (hm : 0 < m) (h63 : n + m ≤ maxLen) (hbytes : (n + m) * bytes ≤ 140737488355328)
    {K : Act → World → Prop} (h : ∀ v' w', Hid (Row w' e size v' (n + m) (olds ++ news)) → Hid (W.grownBy w' none) → Hid (OwnNew W v') → K (a.put o.dst v') w') : Oper.wp P o a W K Q := by
  obtain ⟨v', w', hr, h2, hg⟩ := run_append_shut (P := P) o.type ht hinfo hzs hsz hlo holds hsrc hl hm h63 hbytes
  unfold Oper.wp execOp
  simp only [ho, resolve, invoke, builtin, Sem.run_bind, Sem.run_pure, Result.andThen_ok, List.map_toArray, List.map_cons, List.map_nil, hs, hx, hr]
  exact h v' w' (hide (row_base h2)) (hide hg) (hide fun g hh => (h2.lt g hh).1)
end Go.Proofs.Ytmbkncckcpgdgaa
