/- Chapter 14: a unit that the document's reader reads. -/
import Derived.Test.YthgjmbcojbmlhaaImgZ
namespace Go.Proofs.Ythgjmbcojbmlhaa
open Go.RowKit Zb

structure UnR (wp w : World) (g gu : Nat) (s : ByteArray) (t : St) (nm : ByteArray) (ver fu : Int) (uv rv : Value) (us : List UseM) (vs : List ProtoV) : Prop where
  rd : Blk w g 71 (rdc s t)
  at_ : t.at_ ≤ s.size
  tu : Turned (TkR g) wp w
  bu : Blk w gu 25 #[.string nm, .int .i64 ver, uv, .int .i64 fu, rv]
  leu : wp.heap.size ≤ gu
  ou : Row w 43 3 uv us.length (us.flatMap UseM.cells)
  nu : OwnNew wp uv
  or_ : Row w 38 6 rv vs.length (vs.flatMap ProtoV.cells)
  nr : OwnNew wp rv
  each : ∀ v ∈ vs, v.Own wp w
section
variable {wp w w' : World} {g gu : Nat} {s : ByteArray} {t t' : St} {nm : ByteArray} {ver fu : Int} {uv rv : Value} {us : List UseM} {vs : List ProtoV}
set_option maxRecDepth 20000 in
theorem UnR.turn (h : UnR wp w g gu s t nm ver fu uv rv us vs) (hr : Blk w' g 71 (rdc s t')) (ha : t'.at_ ≤ s.size) (hT : Turned (TkR g) w w') : UnR wp w' g gu s t' nm ver fu uv rv us vs :=
  ⟨hr, ha, h.tu.trans hT (fun x hx => .inl hx), tkr_blk hT h.bu h.rd (by decide), h.leu, tkr_row hT h.ou h.rd (by decide), h.nu, tkr_row hT h.or_ h.rd (by decide), h.nr, fun v hv => (h.each v hv).keep fun hrow he => tkr_row hT hrow h.rd (by rcases he with rfl | rfl | rfl <;> decide)⟩
set_option maxRecDepth 20000 in
theorem UnR.alloc (h : UnR wp w g gu s t nm ver fu uv rv us vs) (o : Obj) : UnR wp (w.alloc o) g gu s t nm ver fu uv rv us vs :=
  ⟨h.rd.alloc o, h.at_, h.tu.alloc o, h.bu.alloc o, h.leu, row_alloc h.ou o, h.nu, row_alloc h.or_ o, h.nr, fun v hv => (h.each v hv).keep fun hrow _ => row_alloc hrow o⟩
set_option maxRecDepth 20000 in
theorem UnR.drew (h : UnR wp w g gu s t nm ver fu uv rv us vs) : UnR wp w.drew g gu s t nm ver fu uv rv us vs :=
  ⟨h.rd, h.at_, h.tu.drew, h.bu, h.leu, row_of h.ou fun _ _ => rfl, h.nu, row_of h.or_ fun _ _ => rfl, h.nr, fun v hv => (h.each v hv).keep fun hrow _ => row_of hrow fun _ _ => rfl⟩
/-- a cell of a use's variable -/
theorem UnR.var (h : UnR wp w g gu s t nm ver fu uv rv us vs) {k : Nat} {cs : Array Value} (hb : Blk w k 43 cs) (hg : wp.heap.size ≤ k) (hn : uv.ownBlock ≠ some k) (i : Nat) (u : Value) : UnR wp (w.setCell ⟨k, i, none⟩ u) g gu s t nm ver fu uv rv us vs :=
  ⟨h.rd.far (p := ⟨k, i, none⟩) (h.rd.ne_ hb (by decide)) _, h.at_, h.tu.setCell (p := ⟨k, i, none⟩) (.inr hg) _, h.bu.far (p := ⟨k, i, none⟩) (h.bu.ne_ hb (by decide)) _, h.leu, row_set h.ou hn _, h.nu, row_set h.or_ (row_blk_ne h.or_ hb (by decide)) _, h.nr, fun v hv => (h.each v hv).keep fun hrow he => row_set hrow (row_blk_ne hrow hb (by rcases he with rfl | rfl | rfl <;> decide)) _⟩
set_option maxRecDepth 20000 in
theorem UnR.sver (h : UnR wp w g gu s t nm ver fu uv rv us vs) (x : Int) : UnR wp (w.setCell ⟨gu, 1, none⟩ (.int .i64 x)) g gu s t nm x fu uv rv us vs :=
  ⟨h.rd.far (p := ⟨gu, 1, none⟩) (h.rd.ne_ h.bu (by decide)) _, h.at_, h.tu.setCell (p := ⟨gu, 1, none⟩) (.inr h.leu) _, h.bu.set_ 1 _, h.leu, row_set h.ou (row_blk_ne h.ou h.bu (by decide)) _, h.nu, row_set h.or_ (row_blk_ne h.or_ h.bu (by decide)) _, h.nr, fun v hv => (h.each v hv).keep fun hrow he => row_set hrow (row_blk_ne hrow h.bu (by rcases he with rfl | rfl | rfl <;> decide)) _⟩
set_option maxRecDepth 20000 in
theorem UnR.sfun (h : UnR wp w g gu s t nm ver fu uv rv us vs) (x : Int) : UnR wp (w.setCell ⟨gu, 3, none⟩ (.int .i64 x)) g gu s t nm ver x uv rv us vs :=
  ⟨h.rd.far (p := ⟨gu, 3, none⟩) (h.rd.ne_ h.bu (by decide)) _, h.at_, h.tu.setCell (p := ⟨gu, 3, none⟩) (.inr h.leu) _, h.bu.set_ 3 _, h.leu, row_set h.ou (row_blk_ne h.ou h.bu (by decide)) _, h.nu, row_set h.or_ (row_blk_ne h.or_ h.bu (by decide)) _, h.nr, fun v hv => (h.each v hv).keep fun hrow he => row_set hrow (row_blk_ne hrow h.bu (by rcases he with rfl | rfl | rfl <;> decide)) _⟩
set_option maxRecDepth 20000 in
theorem UnR.push_u (h : UnR wp w g gu s t nm ver fu uv rv us vs) {x : UseM} {v' : Value} {w2 : World} (hr : Row w2 43 3 v' (us ++ [x]).length ((us ++ [x]).flatMap UseM.cells)) (hg : w.grownBy w2 uv.ownBlock) (ha : v'.ownBlock = uv.ownBlock ∨ v'.ownBlock = some w.heap.size) : UnR wp (w2.setCell ⟨gu, 2, none⟩ v') g gu s t nm ver fu v' rv (us ++ [x]) vs := by
  have b1 : ∀ {g : Nat} {T : TypeId} {cs : Array Value}, Blk w g T cs → T ≠ 43 → Blk w2 g T cs := fun hb hT => hb.grown hg (Ne.symm (row_blk_ne h.ou hb (Ne.symm hT)))
  have hp2 := b1 h.bu (by decide)
  have hr2 := b1 h.rd (by decide)
  have hn5 : v'.ownBlock ≠ some gu := row_blk_ne hr hp2 (by decide)
  have hnew : OwnNew wp v' := fun g hg' => by
    rcases ha with e | e
    · exact h.nu g (e ▸ hg')
    · rw [e] at hg'; cases hg'; exact h.tu.size
  have qr : ∀ {e : TypeId} {size n : Nat} {u : Value} {xs : List Value}, Row w e size u n xs → e ≠ 43 → e ≠ 25 → Row (w2.setCell ⟨gu, 2, none⟩ v') e size u n xs := fun hrow h1 h2 => row_set (grown_row hrow h.ou h1 hg) (row_blk_ne hrow h.bu h2) _
  have htu : Turned (TkR g) wp (w2.setCell ⟨gu, 2, none⟩ v') := (h.tu.grown hg (fun g e => .inr (h.nu g e))).setCell (p := ⟨gu, 2, none⟩) (.inr h.leu) _
  exact ⟨hr2.far (p := ⟨gu, 2, none⟩) (hr2.ne_ hp2 (by decide)) _, h.at_, htu, hp2.set_ 2 v', h.leu, row_set hr hn5 _, hnew, qr h.or_ (by decide) (by decide), h.nr, fun v hv => (h.each v hv).keep fun hrow he => qr hrow (by rcases he with rfl | rfl | rfl <;> decide) (by rcases he with rfl | rfl | rfl <;> decide)⟩
set_option maxRecDepth 20000 in
theorem UnR.push_r (h : UnR wp w g gu s t nm ver fu uv rv us vs) {x : ProtoV} (hx : x.Own wp w) {v' : Value} {w2 : World} (hr : Row w2 38 6 v' (vs ++ [x]).length ((vs ++ [x]).flatMap ProtoV.cells)) (hg : w.grownBy w2 rv.ownBlock) (ha : v'.ownBlock = rv.ownBlock ∨ v'.ownBlock = some w.heap.size) : UnR wp (w2.setCell ⟨gu, 4, none⟩ v') g gu s t nm ver fu uv v' us (vs ++ [x]) := by
  have b1 : ∀ {g : Nat} {T : TypeId} {cs : Array Value}, Blk w g T cs → T ≠ 38 → Blk w2 g T cs := fun hb hT => hb.grown hg (Ne.symm (row_blk_ne h.or_ hb (Ne.symm hT)))
  have hp2 := b1 h.bu (by decide)
  have hr2 := b1 h.rd (by decide)
  have hn5 : v'.ownBlock ≠ some gu := row_blk_ne hr hp2 (by decide)
  have hnew : OwnNew wp v' := fun g hg' => by
    rcases ha with e | e
    · exact h.nr g (e ▸ hg')
    · rw [e] at hg'; cases hg'; exact h.tu.size
  have qr : ∀ {e : TypeId} {size n : Nat} {u : Value} {xs : List Value}, Row w e size u n xs → e ≠ 38 → e ≠ 25 → Row (w2.setCell ⟨gu, 4, none⟩ v') e size u n xs := fun hrow h1 h2 => row_set (grown_row hrow h.or_ h1 hg) (row_blk_ne hrow h.bu h2) _
  have htu : Turned (TkR g) wp (w2.setCell ⟨gu, 4, none⟩ v') := (h.tu.grown hg (fun g e => .inr (h.nr g e))).setCell (p := ⟨gu, 4, none⟩) (.inr h.leu) _
  have hk : ∀ v : ProtoV, v.Own wp w → v.Own wp (w2.setCell ⟨gu, 4, none⟩ v') := fun v hv => hv.keep fun hrow he => qr hrow (by rcases he with rfl | rfl | rfl <;> decide) (by rcases he with rfl | rfl | rfl <;> decide)
  refine ⟨hr2.far (p := ⟨gu, 4, none⟩) (hr2.ne_ hp2 (by decide)) _, h.at_, htu, hp2.set_ 4 v', h.leu, qr h.ou (by decide) (by decide), h.nu, row_set hr hn5 _, hnew, fun v hv => ?_⟩
  rcases List.mem_append.1 hv with hv | hv
  · exact hk v (h.each v hv)
  · rw [List.mem_singleton] at hv
    subst hv
    exact hk _ hx
set_option maxRecDepth 20000 in
theorem UnR.unit (h : UnR wp w g gu s t nm ver fu uv rv us vs) : ∃ uA uc rA rc, uv = .slice uA us.length uc ∧ rv = .slice rA vs.length rc ∧ UnitV.Reads w ⟨nm, ver, us, uA, uc, fu, vs, rA, rc⟩ ∧ UnitV.Own wp w ⟨nm, ver, us, uA, uc, fu, vs, rA, rc⟩ := by
  obtain ⟨uA, uc, e1, _⟩ := row_slice h.ou
  obtain ⟨rA, rc, e2, _⟩ := row_slice h.or_
  subst e1; subst e2
  have k : UnitV.Own wp w ⟨nm, ver, us, uA, uc, fu, vs, rA, rc⟩ := ⟨h.ou, h.nu, h.or_, h.nr, h.each⟩
  exact ⟨uA, uc, rA, rc, rfl, rfl, k.reads, k⟩
end
set_option maxRecDepth 20000 in
theorem rugBuild_parts {w : World} (nm : ByteArray) (ver : Int) (us : List UseM) (uA : Option Addr) (uc : Nat) (fu : Int) (vs : List ProtoV) (rA : Option Addr) (rc : Nat) (hr : UnitV.Reads w ⟨nm, ver, us, uA, uc, fu, vs, rA, rc⟩) (hs : UnitS (UnitV.m ⟨nm, ver, us, uA, uc, fu, vs, rA, rc⟩)) (hc : UnitR (UnitV.m ⟨nm, ver, us, uA, uc, fu, vs, rA, rc⟩)) :
    Calls Try.prog 11 #[.agg #[.string nm, .int .i64 ver, .slice uA us.length uc, .int .i64 fu, .slice rA vs.length rc]] w fun e w' => e = .returned (.tuple #[.string (ubuild (UnitV.m ⟨nm, ver, us, uA, uc, fu, vs, rA, rc⟩)).1, .int .i64 (ubuild (UnitV.m ⟨nm, ver, us, uA, uc, fu, vs, rA, rc⟩)).2]) ∧ Below w.heap.size w w' := rugBuild_calls ⟨nm, ver, us, uA, uc, fu, vs, rA, rc⟩ hr hs hc
set_option maxRecDepth 20000 in
theorem rugrproto_lit {w : World} {g : Nat} {s : ByteArray} {t : St} (h : Blk w g 71 (rdc s t)) (hs : s.size ≤ 100000000) (hat : t.at_ ≤ s.size) :
    Calls Try.prog 41 #[ptrW g] w fun e w' => ∃ v : ProtoV, e = .returned (.agg #[.string v.p.name, .int .i64 v.p.params, .int .i64 v.p.regs, .slice v.cA v.p.code.length v.cc, .slice v.kA v.p.consts.length v.kc, .slice v.pA v.p.caps.length v.pc]) ∧ v.p = (rproto s t).1 ∧ Blk w' g 71 (rdc s (rproto s t).2) ∧ Turned (TkR g) w w' ∧ v.Own w w' := rugrproto_calls h hs hat
end Go.Proofs.Ythgjmbcojbmlhaa
