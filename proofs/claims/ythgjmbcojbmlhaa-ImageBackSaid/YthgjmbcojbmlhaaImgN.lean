/- Chapter 14: a unit that is being read. -/
import Derived.Test.YthgjmbcojbmlhaaImgL
namespace Go.Proofs.Ythgjmbcojbmlhaa
open Go.RowKit Zb

section
variable {w0 wp w w' : World} {v : ProtoV}
set_option maxRecDepth 20000 in
theorem ProtoV.Own.keep (h : v.Own wp w) (hk : ∀ {e : TypeId} {size n : Nat} {u : Value} {xs : List Value}, Row w e size u n xs → (e = 78 ∨ e = 45 ∨ e = 75) → Row w' e size u n xs) : v.Own wp w' :=
  ⟨hk h.oc (.inl rfl), h.nc, hk h.ok (.inr (.inl rfl)), h.nk, hk h.op (.inr (.inr rfl)), h.np⟩
set_option maxRecDepth 20000 in
theorem ProtoV.Own.base (h : v.Own wp w) (hb : w0.heap.size ≤ wp.heap.size) : v.Own w0 w := ⟨h.oc, fun g hg => Nat.le_trans hb (h.nc g hg), h.ok, fun g hg => Nat.le_trans hb (h.nk g hg), h.op, fun g hg => Nat.le_trans hb (h.np g hg)⟩
end
/-- a unit that is being read: the reader, the variable, its rows -/
structure UnI (w0 w : World) (gs ga gw gx gb gu : Nat) (s : ByteArray) (t : St) (nm : ByteArray) (ver fu : Int) (uv rv : Value) (us : List UseM) (vs : List ProtoV) : Prop where
  rd : RdS w0 w gs ga gw gx s t
  at_ : t.at_ ≤ s.size
  bb : Blk w gb 66 #[.func (.func 61) #[] #[ptrW gs, ptrW ga, ptrW gw], .func (.func 63) #[] #[ptrW gs, ptrW ga, ptrW gw], .func (.func 65) #[] #[ptrW gx, ptrW gw], .func (.func 66) #[] #[ptrW gw]]
  bu : Blk w gu 25 #[.string nm, .int .i64 ver, uv, .int .i64 fu, rv]
  leu : w0.heap.size ≤ gu
  ou : Row w 43 3 uv us.length (us.flatMap UseM.cells)
  nu : OwnNew w0 uv
  or_ : Row w 38 6 rv vs.length (vs.flatMap ProtoV.cells)
  nr : OwnNew w0 rv
  each : ∀ v ∈ vs, v.Own w0 w
section
variable {w0 w w' : World} {gs ga gw gx gb gu : Nat} {s : ByteArray} {t t' : St} {nm : ByteArray} {ver fu : Int} {uv rv : Value} {us : List UseM} {vs : List ProtoV}
set_option maxRecDepth 20000 in
theorem UnI.turn (h : UnI w0 w gs ga gw gx gb gu s t nm ver fu uv rv us vs) (hr : RdS w0 w' gs ga gw gx s t') (ha : t'.at_ ≤ s.size) (hT : Turned (TkF ga gw) w w') : UnI w0 w' gs ga gw gx gb gu s t' nm ver fu uv rv us vs :=
  ⟨hr, ha, tk_blk hT h.bb h.rd.ba h.rd.bw (by decide) (by decide), tk_blk hT h.bu h.rd.ba h.rd.bw (by decide) (by decide), h.leu, tk_row hT h.ou h.rd.ba h.rd.bw (by decide) (by decide), h.nu, tk_row hT h.or_ h.rd.ba h.rd.bw (by decide) (by decide), h.nr, fun v hv => (h.each v hv).keep fun hrow he => tk_row hT hrow h.rd.ba h.rd.bw (by rcases he with rfl | rfl | rfl <;> decide) (by rcases he with rfl | rfl | rfl <;> decide)⟩
set_option maxRecDepth 20000 in
theorem UnI.alloc (h : UnI w0 w gs ga gw gx gb gu s t nm ver fu uv rv us vs) (o : Obj) : UnI w0 (w.alloc o) gs ga gw gx gb gu s t nm ver fu uv rv us vs :=
  ⟨h.rd.alloc o, h.at_, h.bb.alloc o, h.bu.alloc o, h.leu, row_alloc h.ou o, h.nu, row_alloc h.or_ o, h.nr, fun v hv => (h.each v hv).keep fun hrow _ => row_alloc hrow o⟩
/-- a cell of a use's variable -/
theorem UnI.var (h : UnI w0 w gs ga gw gx gb gu s t nm ver fu uv rv us vs) {g : Nat} {cs : Array Value} (hb : Blk w g 43 cs) (hg : w0.heap.size ≤ g) (hn : uv.ownBlock ≠ some g) (i : Nat) (u : Value) : UnI w0 (w.setCell ⟨g, i, none⟩ u) gs ga gw gx gb gu s t nm ver fu uv rv us vs :=
  ⟨⟨h.rd.bel.setCell (p := ⟨g, i, none⟩) hg _, h.rd.bs.far (p := ⟨g, i, none⟩) (h.rd.bs.ne_ hb (by decide)) _, h.rd.ba.far (p := ⟨g, i, none⟩) (h.rd.ba.ne_ hb (by decide)) _, h.rd.bw.far (p := ⟨g, i, none⟩) (h.rd.bw.ne_ hb (by decide)) _, h.rd.bx.far (p := ⟨g, i, none⟩) (h.rd.bx.ne_ hb (by decide)) _, h.rd.lea, h.rd.lew⟩, h.at_, h.bb.far (p := ⟨g, i, none⟩) (h.bb.ne_ hb (by decide)) _, h.bu.far (p := ⟨g, i, none⟩) (h.bu.ne_ hb (by decide)) _, h.leu, row_set h.ou hn _, h.nu, row_set h.or_ (row_blk_ne h.or_ hb (by decide)) _, h.nr, fun v hv => (h.each v hv).keep fun hrow he => row_set hrow (row_blk_ne hrow hb (by rcases he with rfl | rfl | rfl <;> decide)) _⟩
set_option maxRecDepth 20000 in
theorem UnI.push_u (h : UnI w0 w gs ga gw gx gb gu s t nm ver fu uv rv us vs) {x : UseM} {v' : Value} {w2 : World} (hr : Row w2 43 3 v' (us ++ [x]).length ((us ++ [x]).flatMap UseM.cells)) (hg : w.grownBy w2 uv.ownBlock) (ha : v'.ownBlock = uv.ownBlock ∨ v'.ownBlock = some w.heap.size) : UnI w0 (w2.setCell ⟨gu, 2, none⟩ v') gs ga gw gx gb gu s t nm ver fu v' rv (us ++ [x]) vs := by
  have b1 : ∀ {g : Nat} {T : TypeId} {cs : Array Value}, Blk w g T cs → T ≠ 43 → Blk w2 g T cs := fun hb hT => hb.grown hg (Ne.symm (row_blk_ne h.ou hb (Ne.symm hT)))
  have hp2 := b1 h.bu (by decide)
  have hn5 : v'.ownBlock ≠ some gu := row_blk_ne hr hp2 (by decide)
  have hnew : OwnNew w0 v' := fun g hg' => by
    rcases ha with e | e
    · exact h.nu g (e ▸ hg')
    · rw [e] at hg'; cases hg'; exact h.rd.bel.size
  have q : ∀ {g : Nat} {T : TypeId} {cs : Array Value}, Blk w g T cs → T ≠ 43 → T ≠ 25 → Blk (w2.setCell ⟨gu, 2, none⟩ v') g T cs := fun hb h1 h2 => (b1 hb h1).far (p := ⟨gu, 2, none⟩) ((b1 hb h1).ne_ hp2 h2) _
  have qr : ∀ {e : TypeId} {size n : Nat} {u : Value} {xs : List Value}, Row w e size u n xs → e ≠ 43 → e ≠ 25 → Row (w2.setCell ⟨gu, 2, none⟩ v') e size u n xs := fun hrow h1 h2 => row_set (grown_row hrow h.ou h1 hg) (row_blk_ne hrow h.bu h2) _
  have hbl : Below w0.heap.size w0 (w2.setCell ⟨gu, 2, none⟩ v') := (h.rd.bel.grown hg h.rd.bel.size (fun g e => h.nu g e)).setCell (p := ⟨gu, 2, none⟩) h.leu _
  exact ⟨⟨hbl, q h.rd.bs (by decide) (by decide), q h.rd.ba (by decide) (by decide), q h.rd.bw (by decide) (by decide), q h.rd.bx (by decide) (by decide), h.rd.lea, h.rd.lew⟩, h.at_, q h.bb (by decide) (by decide), hp2.set_ 2 v', h.leu, row_set hr hn5 _, hnew, qr h.or_ (by decide) (by decide), h.nr, fun v hv => (h.each v hv).keep fun hrow he => qr hrow (by rcases he with rfl | rfl | rfl <;> decide) (by rcases he with rfl | rfl | rfl <;> decide)⟩
set_option maxRecDepth 20000 in
theorem UnI.push_r (h : UnI w0 w gs ga gw gx gb gu s t nm ver fu uv rv us vs) {x : ProtoV} (hx : x.Own w0 w) {v' : Value} {w2 : World} (hr : Row w2 38 6 v' (vs ++ [x]).length ((vs ++ [x]).flatMap ProtoV.cells)) (hg : w.grownBy w2 rv.ownBlock) (ha : v'.ownBlock = rv.ownBlock ∨ v'.ownBlock = some w.heap.size) : UnI w0 (w2.setCell ⟨gu, 4, none⟩ v') gs ga gw gx gb gu s t nm ver fu uv v' us (vs ++ [x]) := by
  have b1 : ∀ {g : Nat} {T : TypeId} {cs : Array Value}, Blk w g T cs → T ≠ 38 → Blk w2 g T cs := fun hb hT => hb.grown hg (Ne.symm (row_blk_ne h.or_ hb (Ne.symm hT)))
  have hp2 := b1 h.bu (by decide)
  have hn5 : v'.ownBlock ≠ some gu := row_blk_ne hr hp2 (by decide)
  have hnew : OwnNew w0 v' := fun g hg' => by
    rcases ha with e | e
    · exact h.nr g (e ▸ hg')
    · rw [e] at hg'; cases hg'; exact h.rd.bel.size
  have q : ∀ {g : Nat} {T : TypeId} {cs : Array Value}, Blk w g T cs → T ≠ 38 → T ≠ 25 → Blk (w2.setCell ⟨gu, 4, none⟩ v') g T cs := fun hb h1 h2 => (b1 hb h1).far (p := ⟨gu, 4, none⟩) ((b1 hb h1).ne_ hp2 h2) _
  have qr : ∀ {e : TypeId} {size n : Nat} {u : Value} {xs : List Value}, Row w e size u n xs → e ≠ 38 → e ≠ 25 → Row (w2.setCell ⟨gu, 4, none⟩ v') e size u n xs := fun hrow h1 h2 => row_set (grown_row hrow h.or_ h1 hg) (row_blk_ne hrow h.bu h2) _
  have hbl : Below w0.heap.size w0 (w2.setCell ⟨gu, 4, none⟩ v') := (h.rd.bel.grown hg h.rd.bel.size (fun g e => h.nr g e)).setCell (p := ⟨gu, 4, none⟩) h.leu _
  have hk : ∀ v : ProtoV, v.Own w0 w → v.Own w0 (w2.setCell ⟨gu, 4, none⟩ v') := fun v hv => hv.keep fun hrow he => qr hrow (by rcases he with rfl | rfl | rfl <;> decide) (by rcases he with rfl | rfl | rfl <;> decide)
  refine ⟨⟨hbl, q h.rd.bs (by decide) (by decide), q h.rd.ba (by decide) (by decide), q h.rd.bw (by decide) (by decide), q h.rd.bx (by decide) (by decide), h.rd.lea, h.rd.lew⟩, h.at_, q h.bb (by decide) (by decide), hp2.set_ 4 v', h.leu, qr h.ou (by decide) (by decide), h.nu, row_set hr hn5 _, hnew, fun v hv => ?_⟩
  rcases List.mem_append.1 hv with hv | hv
  · exact hk v (h.each v hv)
  · rw [List.mem_singleton] at hv
    subst hv
    exact hk _ hx
end
end Go.Proofs.Ythgjmbcojbmlhaa
