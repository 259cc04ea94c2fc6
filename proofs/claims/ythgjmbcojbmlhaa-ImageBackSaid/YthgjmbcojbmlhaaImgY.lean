/- Chapter 14: a proto that the document's reader reads. -/
import Derived.Test.YthgjmbcojbmlhaaImgX
namespace Go.Proofs.Ythgjmbcojbmlhaa
open Go.RowKit Zb

/-- a proto that is being read: the reader, the variable, its rows -/
structure PrR (wp w : World) (g gp : Nat) (s : ByteArray) (t : St) (nm : ByteArray) (pa re : Int) (cv kv pv : Value) (code : List InsM) (cons : List ConM) (caps : List CapM) : Prop where
  rd : Blk w g 71 (rdc s t)
  at_ : t.at_ ≤ s.size
  tu : Turned (TkR g) wp w
  bp : Blk w gp 38 #[.string nm, .int .i64 pa, .int .i64 re, cv, kv, pv]
  leb : wp.heap.size ≤ gp
  oc : Row w 78 4 cv code.length (code.flatMap InsM.cells)
  nc : OwnNew wp cv
  ok : Row w 45 3 kv cons.length (cons.flatMap ConM.cells)
  nk : OwnNew wp kv
  op : Row w 75 2 pv caps.length (caps.flatMap CapM.cells)
  np : OwnNew wp pv
section
variable {wp w w' : World} {g gp : Nat} {s : ByteArray} {t t' : St} {nm : ByteArray} {pa re : Int} {cv kv pv : Value} {code : List InsM} {cons : List ConM} {caps : List CapM}
set_option maxRecDepth 20000 in
theorem PrR.turn (h : PrR wp w g gp s t nm pa re cv kv pv code cons caps) (hr : Blk w' g 71 (rdc s t')) (ha : t'.at_ ≤ s.size) (hT : Turned (TkR g) w w') : PrR wp w' g gp s t' nm pa re cv kv pv code cons caps :=
  ⟨hr, ha, h.tu.trans hT (fun x hx => .inl hx), tkr_blk hT h.bp h.rd (by decide), h.leb, tkr_row hT h.oc h.rd (by decide), h.nc, tkr_row hT h.ok h.rd (by decide), h.nk, tkr_row hT h.op h.rd (by decide), h.np⟩
set_option maxRecDepth 20000 in
theorem PrR.alloc (h : PrR wp w g gp s t nm pa re cv kv pv code cons caps) (o : Obj) : PrR wp (w.alloc o) g gp s t nm pa re cv kv pv code cons caps :=
  ⟨h.rd.alloc o, h.at_, h.tu.alloc o, h.bp.alloc o, h.leb, row_alloc h.oc o, h.nc, row_alloc h.ok o, h.nk, row_alloc h.op o, h.np⟩
/-- a cell of a variable that is none of these -/
theorem PrR.var (h : PrR wp w g gp s t nm pa re cv kv pv code cons caps) {k : Nat} {T : TypeId} {cs : Array Value} (hb : Blk w k T cs) (hg : wp.heap.size ≤ k) (h1 : T ≠ 71) (h2 : T ≠ 38) (hc : cv.ownBlock ≠ some k) (hk : kv.ownBlock ≠ some k) (hp : pv.ownBlock ≠ some k) (i : Nat) (u : Value) : PrR wp (w.setCell ⟨k, i, none⟩ u) g gp s t nm pa re cv kv pv code cons caps :=
  ⟨h.rd.far (p := ⟨k, i, none⟩) (h.rd.ne_ hb (Ne.symm h1)) _, h.at_, h.tu.setCell (p := ⟨k, i, none⟩) (.inr hg) _, h.bp.far (p := ⟨k, i, none⟩) (h.bp.ne_ hb (Ne.symm h2)) _, h.leb, row_set h.oc hc _, h.nc, row_set h.ok hk _, h.nk, row_set h.op hp _, h.np⟩
set_option maxRecDepth 20000 in
theorem PrR.set1 (h : PrR wp w g gp s t nm pa re cv kv pv code cons caps) (x : Int) : PrR wp (w.setCell ⟨gp, 1, none⟩ (.int .i64 x)) g gp s t nm x re cv kv pv code cons caps :=
  ⟨h.rd.far (p := ⟨gp, 1, none⟩) (h.rd.ne_ h.bp (by decide)) _, h.at_, h.tu.setCell (p := ⟨gp, 1, none⟩) (.inr h.leb) _, h.bp.set_ 1 _, h.leb, row_set h.oc (row_blk_ne h.oc h.bp (by decide)) _, h.nc, row_set h.ok (row_blk_ne h.ok h.bp (by decide)) _, h.nk, row_set h.op (row_blk_ne h.op h.bp (by decide)) _, h.np⟩
set_option maxRecDepth 20000 in
theorem PrR.set2 (h : PrR wp w g gp s t nm pa re cv kv pv code cons caps) (x : Int) : PrR wp (w.setCell ⟨gp, 2, none⟩ (.int .i64 x)) g gp s t nm pa x cv kv pv code cons caps :=
  ⟨h.rd.far (p := ⟨gp, 2, none⟩) (h.rd.ne_ h.bp (by decide)) _, h.at_, h.tu.setCell (p := ⟨gp, 2, none⟩) (.inr h.leb) _, h.bp.set_ 2 _, h.leb, row_set h.oc (row_blk_ne h.oc h.bp (by decide)) _, h.nc, row_set h.ok (row_blk_ne h.ok h.bp (by decide)) _, h.nk, row_set h.op (row_blk_ne h.op h.bp (by decide)) _, h.np⟩
set_option maxRecDepth 20000 in
theorem PrR.push_c (h : PrR wp w g gp s t nm pa re cv kv pv code cons caps) {x : InsM} {v' : Value} {w2 : World} (hr : Row w2 78 4 v' (code ++ [x]).length ((code ++ [x]).flatMap InsM.cells)) (hg : w.grownBy w2 cv.ownBlock) (ha : v'.ownBlock = cv.ownBlock ∨ v'.ownBlock = some w.heap.size) : PrR wp (w2.setCell ⟨gp, 3, none⟩ v') g gp s t nm pa re v' kv pv (code ++ [x]) cons caps := by
  have hp2 := h.bp.grown hg (Ne.symm (row_blk_ne h.oc h.bp (by decide)))
  have hr2 := h.rd.grown hg (Ne.symm (row_blk_ne h.oc h.rd (by decide)))
  have hn5 : v'.ownBlock ≠ some gp := row_blk_ne hr hp2 (by decide)
  have hn_k : kv.ownBlock ≠ some gp := row_blk_ne h.ok h.bp (by decide)
  have hn_p : pv.ownBlock ≠ some gp := row_blk_ne h.op h.bp (by decide)
  have hnew : OwnNew wp v' := fun k hg' => by
    rcases ha with e | e
    · exact h.nc k (e ▸ hg')
    · rw [e] at hg'; cases hg'; exact h.tu.size
  have htu : Turned (TkR g) wp (w2.setCell ⟨gp, 3, none⟩ v') := (h.tu.grown hg (fun k e => .inr (h.nc k e))).setCell (p := ⟨gp, 3, none⟩) (.inr h.leb) _
  exact ⟨hr2.far (p := ⟨gp, 3, none⟩) (hr2.ne_ hp2 (by decide)) _, h.at_, htu, hp2.set_ 3 v', h.leb, row_set hr hn5 _, hnew, row_set (grown_row h.ok h.oc (by decide) hg) hn_k _, h.nk, row_set (grown_row h.op h.oc (by decide) hg) hn_p _, h.np⟩
set_option maxRecDepth 20000 in
theorem PrR.push_k (h : PrR wp w g gp s t nm pa re cv kv pv code cons caps) {x : ConM} {v' : Value} {w2 : World} (hr : Row w2 45 3 v' (cons ++ [x]).length ((cons ++ [x]).flatMap ConM.cells)) (hg : w.grownBy w2 kv.ownBlock) (ha : v'.ownBlock = kv.ownBlock ∨ v'.ownBlock = some w.heap.size) : PrR wp (w2.setCell ⟨gp, 4, none⟩ v') g gp s t nm pa re cv v' pv code (cons ++ [x]) caps := by
  have hp2 := h.bp.grown hg (Ne.symm (row_blk_ne h.ok h.bp (by decide)))
  have hr2 := h.rd.grown hg (Ne.symm (row_blk_ne h.ok h.rd (by decide)))
  have hn5 : v'.ownBlock ≠ some gp := row_blk_ne hr hp2 (by decide)
  have hn_c : cv.ownBlock ≠ some gp := row_blk_ne h.oc h.bp (by decide)
  have hn_p : pv.ownBlock ≠ some gp := row_blk_ne h.op h.bp (by decide)
  have hnew : OwnNew wp v' := fun k hg' => by
    rcases ha with e | e
    · exact h.nk k (e ▸ hg')
    · rw [e] at hg'; cases hg'; exact h.tu.size
  have htu : Turned (TkR g) wp (w2.setCell ⟨gp, 4, none⟩ v') := (h.tu.grown hg (fun k e => .inr (h.nk k e))).setCell (p := ⟨gp, 4, none⟩) (.inr h.leb) _
  exact ⟨hr2.far (p := ⟨gp, 4, none⟩) (hr2.ne_ hp2 (by decide)) _, h.at_, htu, hp2.set_ 4 v', h.leb, row_set (grown_row h.oc h.ok (by decide) hg) hn_c _, h.nc, row_set hr hn5 _, hnew, row_set (grown_row h.op h.ok (by decide) hg) hn_p _, h.np⟩
set_option maxRecDepth 20000 in
theorem PrR.push_p (h : PrR wp w g gp s t nm pa re cv kv pv code cons caps) {x : CapM} {v' : Value} {w2 : World} (hr : Row w2 75 2 v' (caps ++ [x]).length ((caps ++ [x]).flatMap CapM.cells)) (hg : w.grownBy w2 pv.ownBlock) (ha : v'.ownBlock = pv.ownBlock ∨ v'.ownBlock = some w.heap.size) : PrR wp (w2.setCell ⟨gp, 5, none⟩ v') g gp s t nm pa re cv kv v' code cons (caps ++ [x]) := by
  have hp2 := h.bp.grown hg (Ne.symm (row_blk_ne h.op h.bp (by decide)))
  have hr2 := h.rd.grown hg (Ne.symm (row_blk_ne h.op h.rd (by decide)))
  have hn5 : v'.ownBlock ≠ some gp := row_blk_ne hr hp2 (by decide)
  have hn_c : cv.ownBlock ≠ some gp := row_blk_ne h.oc h.bp (by decide)
  have hn_k : kv.ownBlock ≠ some gp := row_blk_ne h.ok h.bp (by decide)
  have hnew : OwnNew wp v' := fun k hg' => by
    rcases ha with e | e
    · exact h.np k (e ▸ hg')
    · rw [e] at hg'; cases hg'; exact h.tu.size
  have htu : Turned (TkR g) wp (w2.setCell ⟨gp, 5, none⟩ v') := (h.tu.grown hg (fun k e => .inr (h.np k e))).setCell (p := ⟨gp, 5, none⟩) (.inr h.leb) _
  exact ⟨hr2.far (p := ⟨gp, 5, none⟩) (hr2.ne_ hp2 (by decide)) _, h.at_, htu, hp2.set_ 5 v', h.leb, row_set (grown_row h.oc h.op (by decide) hg) hn_c _, h.nc, row_set (grown_row h.ok h.op (by decide) hg) hn_k _, h.nk, row_set hr hn5 _, hnew⟩
end
set_option maxRecDepth 20000 in
theorem rl_go {α : Type} {one : St → α × St} {n k : Nat} {t : St} (hk : k < n) (hw : t.whole = true) : rlist one (n - k) t = ((one t).1 :: (rlist one (n - (k + 1)) (one t).2).1, (rlist one (n - (k + 1)) (one t).2).2) := by
  rw [show n - k = (n - (k + 1)) + 1 by omega]
  show (if t.whole then _ else _) = _
  rw [if_pos hw]
set_option maxRecDepth 20000 in
theorem rl_cut {α : Type} {one : St → α × St} {t : St} (hw : t.whole = false) : ∀ m : Nat, rlist one m t = ([], t)
  | 0 => rfl
  | m + 1 => by
    show (if t.whole then _ else _) = _
    rw [hw]
    rfl
/-- a list that is read up to its k-th -/
def RL {α : Type} (one : St → α × St) (n : Nat) (t0 : St) (k : Nat) (l : List α) (t : St) : Prop := l.length = k ∧ rlist one n t0 = (l ++ (rlist one (n - k) t).1, (rlist one (n - k) t).2)
set_option maxRecDepth 20000 in
theorem RL.start {α : Type} (one : St → α × St) (n : Nat) (t : St) : RL one n t 0 [] t := ⟨rfl, rfl⟩
set_option maxRecDepth 20000 in
theorem RL.next {α : Type} {one : St → α × St} {n k : Nat} {t0 t t' : St} {l : List α} {x : α} (h : RL one n t0 k l t) (hk : k < n) (hw : t.whole = true) (he : one t = (x, t')) : RL one n t0 (k + 1) (l ++ [x]) t' := by
  refine ⟨by rw [List.length_append, h.1]; rfl, ?_⟩
  rw [h.2, rl_go hk hw, he, List.append_assoc]
  rfl
set_option maxRecDepth 20000 in
theorem RL.done {α : Type} {one : St → α × St} {n : Nat} {t0 t : St} {l : List α} (h : RL one n t0 n l t) : rlist one n t0 = (l, t) := by
  rw [h.2, Nat.sub_self]
  show (l ++ [], t) = _
  rw [List.append_nil]
set_option maxRecDepth 20000 in
theorem RL.cut {α : Type} {one : St → α × St} {n k : Nat} {t0 t : St} {l : List α} (h : RL one n t0 k l t) (hw : t.whole = false) : rlist one n t0 = (l, t) := by
  rw [h.2, rl_cut hw, List.append_nil]
set_option maxRecDepth 20000 in
theorem rn2 (s : ByteArray) (t : St) : ∃ n : Nat, (rnum s 2 t).1 = (n : Int) ∧ n ≤ 65535 := ⟨(rnum s 2 t).1.toNat, by have := rnum_lim2 s t; omega, by have := rnum_lim2 s t; omega⟩
set_option maxRecDepth 20000 in
theorem rls_eq {α : Type} {s : ByteArray} {one : St → α × St} {t t' : St} {n : Nat} (h : (rnum s 2 t).1 = (n : Int)) (h2 : (rnum s 2 t).2 = t') : rlists s one t = rlist one n t' := by
  unfold rlists
  rw [h, h2]
  rfl
end Go.Proofs.Ythgjmbcojbmlhaa
