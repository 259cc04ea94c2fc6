/- Chapter 14: a proto that is being read; the closures that read its lists, walked. -/
import Derived.Test.YthgjmbcojbmlhaaImgI
import Derived.Test.YthgjmbcojbmlhaaApp
namespace Go.Proofs.Ythgjmbcojbmlhaa
open Go.RowKit Zb

set_option maxRecDepth 20000 in
theorem grown_row {w w' : World} {e e' : TypeId} {size size' n n' : Nat} {v v' : Value} {xs xs' : List Value} (h : Row w e' size' v' n' xs') (h2 : Row w e size v n xs) (hne : e' ≠ e) (hg : w.grownBy w' v.ownBlock) : Row w' e' size' v' n' xs' :=
  row_of h fun g hv => hg.block g (row_lt h g hv) (fun k => row_types h h2 hne g hv k.symm)
/-- a proto that is being read: the reader, the variable, its rows -/
structure PrI (w0 wp w : World) (gs ga gw gx gb gp : Nat) (s : ByteArray) (t : St) (nm : ByteArray) (pa re : Int) (cv kv pv : Value) (code : List InsM) (cons : List ConM) (caps : List CapM) : Prop where
  rd : RdS w0 w gs ga gw gx s t
  at_ : t.at_ ≤ s.size
  le0 : w0.heap.size ≤ wp.heap.size
  tu : Turned (TkF ga gw) wp w
  bb : Blk w gb 66 #[.func (.func 61) #[] #[ptrW gs, ptrW ga, ptrW gw], .func (.func 63) #[] #[ptrW gs, ptrW ga, ptrW gw], .func (.func 65) #[] #[ptrW gx, ptrW gw], .func (.func 66) #[] #[ptrW gw]]
  bp : Blk w gp 38 #[.string nm, .int .i64 pa, .int .i64 re, cv, kv, pv]
  leb : wp.heap.size ≤ gp
  oc : Row w 78 4 cv code.length (code.flatMap InsM.cells)
  nc : OwnNew wp cv
  ok : Row w 45 3 kv cons.length (cons.flatMap ConM.cells)
  nk : OwnNew wp kv
  op : Row w 75 2 pv caps.length (caps.flatMap CapM.cells)
  np : OwnNew wp pv
section
variable {w0 wp w w' : World} {gs ga gw gx gb gp : Nat} {s : ByteArray} {t t' : St} {nm : ByteArray} {pa re : Int} {cv kv pv : Value} {code : List InsM} {cons : List ConM} {caps : List CapM}
set_option maxRecDepth 20000 in
theorem PrI.turn (h : PrI w0 wp w gs ga gw gx gb gp s t nm pa re cv kv pv code cons caps) (hr : RdS w0 w' gs ga gw gx s t') (ha : t'.at_ ≤ s.size) (hT : Turned (TkF ga gw) w w') : PrI w0 wp w' gs ga gw gx gb gp s t' nm pa re cv kv pv code cons caps :=
  ⟨hr, ha, h.le0, h.tu.trans hT (fun x hx => .inl hx), tk_blk hT h.bb h.rd.ba h.rd.bw (by decide) (by decide), tk_blk hT h.bp h.rd.ba h.rd.bw (by decide) (by decide), h.leb, tk_row hT h.oc h.rd.ba h.rd.bw (by decide) (by decide), h.nc, tk_row hT h.ok h.rd.ba h.rd.bw (by decide) (by decide), h.nk, tk_row hT h.op h.rd.ba h.rd.bw (by decide) (by decide), h.np⟩
set_option maxRecDepth 20000 in
theorem PrI.alloc (h : PrI w0 wp w gs ga gw gx gb gp s t nm pa re cv kv pv code cons caps) (o : Obj) : PrI w0 wp (w.alloc o) gs ga gw gx gb gp s t nm pa re cv kv pv code cons caps :=
  ⟨h.rd.alloc o, h.at_, h.le0, h.tu.alloc o, h.bb.alloc o, h.bp.alloc o, h.leb, row_alloc h.oc o, h.nc, row_alloc h.ok o, h.nk, row_alloc h.op o, h.np⟩
/-- a cell of a variable that is none of these -/
theorem PrI.var (h : PrI w0 wp w gs ga gw gx gb gp s t nm pa re cv kv pv code cons caps) {g : Nat} {T : TypeId} {cs : Array Value} (hb : Blk w g T cs) (hg : wp.heap.size ≤ g) (h1 : T ≠ 66) (h2 : T ≠ 38) (h3 : T ≠ 9) (h4 : T ≠ 3) (h5 : T ≠ 4) (hc : cv.ownBlock ≠ some g) (hk : kv.ownBlock ≠ some g) (hp : pv.ownBlock ≠ some g) (i : Nat) (u : Value) : PrI w0 wp (w.setCell ⟨g, i, none⟩ u) gs ga gw gx gb gp s t nm pa re cv kv pv code cons caps :=
  ⟨⟨h.rd.bel.setCell (p := ⟨g, i, none⟩) (Nat.le_trans h.le0 hg) _, h.rd.bs.far (p := ⟨g, i, none⟩) (h.rd.bs.ne_ hb (Ne.symm h3)) _, h.rd.ba.far (p := ⟨g, i, none⟩) (h.rd.ba.ne_ hb (Ne.symm h4)) _, h.rd.bw.far (p := ⟨g, i, none⟩) (h.rd.bw.ne_ hb (Ne.symm h5)) _, h.rd.bx.far (p := ⟨g, i, none⟩) (h.rd.bx.ne_ hb (Ne.symm h1)) _, h.rd.lea, h.rd.lew⟩, h.at_, h.le0, h.tu.setCell (p := ⟨g, i, none⟩) (.inr hg) _, h.bb.far (p := ⟨g, i, none⟩) (h.bb.ne_ hb (Ne.symm h1)) _, h.bp.far (p := ⟨g, i, none⟩) (h.bp.ne_ hb (Ne.symm h2)) _, h.leb, row_set h.oc hc _, h.nc, row_set h.ok hk _, h.nk, row_set h.op hp _, h.np⟩
set_option maxRecDepth 20000 in
theorem PrI.push_c (h : PrI w0 wp w gs ga gw gx gb gp s t nm pa re cv kv pv code cons caps) {x : InsM} {v' : Value} {w2 : World} (hr : Row w2 78 4 v' (code ++ [x]).length ((code ++ [x]).flatMap InsM.cells)) (hg : w.grownBy w2 cv.ownBlock) (ha : v'.ownBlock = cv.ownBlock ∨ v'.ownBlock = some w.heap.size) : PrI w0 wp (w2.setCell ⟨gp, 3, none⟩ v') gs ga gw gx gb gp s t nm pa re v' kv pv (code ++ [x]) cons caps := by
  have b1 : ∀ {g : Nat} {T : TypeId} {cs : Array Value}, Blk w g T cs → T ≠ 78 → Blk w2 g T cs := fun hb hT => hb.grown hg (Ne.symm (row_blk_ne h.oc hb (Ne.symm hT)))
  have hp2 := b1 h.bp (by decide)
  have hn5 : v'.ownBlock ≠ some gp := row_blk_ne hr hp2 (by decide)
  have hn_k : kv.ownBlock ≠ some gp := row_blk_ne h.ok h.bp (by decide)
  have hn_p : pv.ownBlock ≠ some gp := row_blk_ne h.op h.bp (by decide)
  have hnew : OwnNew wp v' := fun g hg' => by
    rcases ha with e | e
    · exact h.nc g (e ▸ hg')
    · rw [e] at hg'; cases hg'; exact h.tu.size
  have hle : w0.heap.size ≤ gp := Nat.le_trans h.le0 h.leb
  have q : ∀ {g : Nat} {T : TypeId} {cs : Array Value}, Blk w g T cs → T ≠ 78 → T ≠ 38 → Blk (w2.setCell ⟨gp, 3, none⟩ v') g T cs := fun hb h1 h2 => (b1 hb h1).far (p := ⟨gp, 3, none⟩) ((b1 hb h1).ne_ hp2 h2) _
  have htu : Turned (TkF ga gw) wp (w2.setCell ⟨gp, 3, none⟩ v') := (h.tu.grown hg (fun g e => .inr (h.nc g e))).setCell (p := ⟨gp, 3, none⟩) (.inr h.leb) _
  have hbl : Below w0.heap.size w0 (w2.setCell ⟨gp, 3, none⟩ v') := (h.rd.bel.grown hg h.rd.bel.size (fun g e => Nat.le_trans h.le0 (h.nc g e))).setCell (p := ⟨gp, 3, none⟩) hle _
  exact ⟨⟨hbl, q h.rd.bs (by decide) (by decide), q h.rd.ba (by decide) (by decide), q h.rd.bw (by decide) (by decide), q h.rd.bx (by decide) (by decide), h.rd.lea, h.rd.lew⟩, h.at_, h.le0, htu, q h.bb (by decide) (by decide), hp2.set_ 3 v', h.leb, row_set hr hn5 _, hnew, row_set (grown_row h.ok h.oc (by decide) hg) hn_k _, h.nk, row_set (grown_row h.op h.oc (by decide) hg) hn_p _, h.np⟩
set_option maxRecDepth 20000 in
theorem PrI.push_k (h : PrI w0 wp w gs ga gw gx gb gp s t nm pa re cv kv pv code cons caps) {x : ConM} {v' : Value} {w2 : World} (hr : Row w2 45 3 v' (cons ++ [x]).length ((cons ++ [x]).flatMap ConM.cells)) (hg : w.grownBy w2 kv.ownBlock) (ha : v'.ownBlock = kv.ownBlock ∨ v'.ownBlock = some w.heap.size) : PrI w0 wp (w2.setCell ⟨gp, 4, none⟩ v') gs ga gw gx gb gp s t nm pa re cv v' pv code (cons ++ [x]) caps := by
  have b1 : ∀ {g : Nat} {T : TypeId} {cs : Array Value}, Blk w g T cs → T ≠ 45 → Blk w2 g T cs := fun hb hT => hb.grown hg (Ne.symm (row_blk_ne h.ok hb (Ne.symm hT)))
  have hp2 := b1 h.bp (by decide)
  have hn5 : v'.ownBlock ≠ some gp := row_blk_ne hr hp2 (by decide)
  have hn_c : cv.ownBlock ≠ some gp := row_blk_ne h.oc h.bp (by decide)
  have hn_p : pv.ownBlock ≠ some gp := row_blk_ne h.op h.bp (by decide)
  have hnew : OwnNew wp v' := fun g hg' => by
    rcases ha with e | e
    · exact h.nk g (e ▸ hg')
    · rw [e] at hg'; cases hg'; exact h.tu.size
  have hle : w0.heap.size ≤ gp := Nat.le_trans h.le0 h.leb
  have q : ∀ {g : Nat} {T : TypeId} {cs : Array Value}, Blk w g T cs → T ≠ 45 → T ≠ 38 → Blk (w2.setCell ⟨gp, 4, none⟩ v') g T cs := fun hb h1 h2 => (b1 hb h1).far (p := ⟨gp, 4, none⟩) ((b1 hb h1).ne_ hp2 h2) _
  have htu : Turned (TkF ga gw) wp (w2.setCell ⟨gp, 4, none⟩ v') := (h.tu.grown hg (fun g e => .inr (h.nk g e))).setCell (p := ⟨gp, 4, none⟩) (.inr h.leb) _
  have hbl : Below w0.heap.size w0 (w2.setCell ⟨gp, 4, none⟩ v') := (h.rd.bel.grown hg h.rd.bel.size (fun g e => Nat.le_trans h.le0 (h.nk g e))).setCell (p := ⟨gp, 4, none⟩) hle _
  exact ⟨⟨hbl, q h.rd.bs (by decide) (by decide), q h.rd.ba (by decide) (by decide), q h.rd.bw (by decide) (by decide), q h.rd.bx (by decide) (by decide), h.rd.lea, h.rd.lew⟩, h.at_, h.le0, htu, q h.bb (by decide) (by decide), hp2.set_ 4 v', h.leb, row_set (grown_row h.oc h.ok (by decide) hg) hn_c _, h.nc, row_set hr hn5 _, hnew, row_set (grown_row h.op h.ok (by decide) hg) hn_p _, h.np⟩
set_option maxRecDepth 20000 in
theorem PrI.push_p (h : PrI w0 wp w gs ga gw gx gb gp s t nm pa re cv kv pv code cons caps) {x : CapM} {v' : Value} {w2 : World} (hr : Row w2 75 2 v' (caps ++ [x]).length ((caps ++ [x]).flatMap CapM.cells)) (hg : w.grownBy w2 pv.ownBlock) (ha : v'.ownBlock = pv.ownBlock ∨ v'.ownBlock = some w.heap.size) : PrI w0 wp (w2.setCell ⟨gp, 5, none⟩ v') gs ga gw gx gb gp s t nm pa re cv kv v' code cons (caps ++ [x]) := by
  have b1 : ∀ {g : Nat} {T : TypeId} {cs : Array Value}, Blk w g T cs → T ≠ 75 → Blk w2 g T cs := fun hb hT => hb.grown hg (Ne.symm (row_blk_ne h.op hb (Ne.symm hT)))
  have hp2 := b1 h.bp (by decide)
  have hn5 : v'.ownBlock ≠ some gp := row_blk_ne hr hp2 (by decide)
  have hn_c : cv.ownBlock ≠ some gp := row_blk_ne h.oc h.bp (by decide)
  have hn_k : kv.ownBlock ≠ some gp := row_blk_ne h.ok h.bp (by decide)
  have hnew : OwnNew wp v' := fun g hg' => by
    rcases ha with e | e
    · exact h.np g (e ▸ hg')
    · rw [e] at hg'; cases hg'; exact h.tu.size
  have hle : w0.heap.size ≤ gp := Nat.le_trans h.le0 h.leb
  have q : ∀ {g : Nat} {T : TypeId} {cs : Array Value}, Blk w g T cs → T ≠ 75 → T ≠ 38 → Blk (w2.setCell ⟨gp, 5, none⟩ v') g T cs := fun hb h1 h2 => (b1 hb h1).far (p := ⟨gp, 5, none⟩) ((b1 hb h1).ne_ hp2 h2) _
  have htu : Turned (TkF ga gw) wp (w2.setCell ⟨gp, 5, none⟩ v') := (h.tu.grown hg (fun g e => .inr (h.np g e))).setCell (p := ⟨gp, 5, none⟩) (.inr h.leb) _
  have hbl : Below w0.heap.size w0 (w2.setCell ⟨gp, 5, none⟩ v') := (h.rd.bel.grown hg h.rd.bel.size (fun g e => Nat.le_trans h.le0 (h.np g e))).setCell (p := ⟨gp, 5, none⟩) hle _
  exact ⟨⟨hbl, q h.rd.bs (by decide) (by decide), q h.rd.ba (by decide) (by decide), q h.rd.bw (by decide) (by decide), q h.rd.bx (by decide) (by decide), h.rd.lea, h.rd.lew⟩, h.at_, h.le0, htu, q h.bb (by decide) (by decide), hp2.set_ 5 v', h.leb, row_set (grown_row h.oc h.op (by decide) hg) hn_c _, h.nc, row_set (grown_row h.ok h.op (by decide) hg) hn_k _, h.nk, row_set hr hn5 _, hnew⟩
end
end Go.Proofs.Ythgjmbcojbmlhaa
