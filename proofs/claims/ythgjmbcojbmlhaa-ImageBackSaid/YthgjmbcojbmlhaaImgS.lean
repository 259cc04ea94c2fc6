/- Chapter 14: Parse of the program, walked. -/
import Derived.Test.YthgjmbcojbmlhaaImgO
import Derived.Test.YthgjmbcojbmlhaaImgR
namespace Go.Proofs.Ythgjmbcojbmlhaa.Zb
open Go.RowKit
section
variable {w0 w w' : World}
set_option maxRecDepth 20000 in
theorem flat_get {α : Type} {k : Nat} {f : α → List Value} (hf : ∀ x, (f x).length = k) : ∀ (l : List α) (i : Nat) (x : α), l[i]? = some x → ∀ j, j < k → (l.flatMap f)[i * k + j]? = (f x)[j]?
  | [], _, _, h, _, _ => by simp at h
  | y :: r, 0, x, h, j, hj => by
    simp only [List.getElem?_cons_zero, Option.some.injEq] at h
    subst h
    rw [List.flatMap_cons, Nat.zero_mul, Nat.zero_add, List.getElem?_append_left (by rw [hf]; exact hj)]
  | y :: r, i + 1, x, h, j, hj => by
    rw [List.getElem?_cons_succ] at h
    rw [List.flatMap_cons, List.getElem?_append_right (by rw [hf, Nat.add_mul]; omega), hf, show (i + 1) * k + j - k = i * k + j by rw [Nat.add_mul]; omega]
    exact flat_get hf r i x h j hj
set_option maxRecDepth 20000 in
theorem flat_len {α : Type} {k : Nat} {f : α → List Value} (hf : ∀ x, (f x).length = k) : ∀ (l : List α), (l.flatMap f).length = l.length * k
  | [] => by simp
  | y :: r => by
    rw [List.flatMap_cons, List.length_append, hf, flat_len hf r, List.length_cons, Nat.add_mul]
    omega
set_option maxRecDepth 20000 in
theorem row_rd14 {α : Type} {k : Nat} {f : α → List Value} (hf : ∀ x, (f x).length = k) {e : TypeId} {l : List α} {A : Option Addr} {n c : Nat} (h : Row w e k (.slice A n c) l.length (l.flatMap f)) : ReadsRows k f w A l := by
  cases hl : l with
  | nil => exact fun i x hx => by simp at hx
  | cons y r =>
    rw [← hl]
    obtain ⟨g, c, e, hc, hlt, _, hcell⟩ := row_form h (by rw [hl]; simp)
    cases e
    refine fun i x hx => ⟨g, 0, rfl, hlt, fun j u hu => ?_⟩
    have hi := (List.getElem?_eq_some_iff.1 hx).1
    have hj : j < k := by rw [← hf x]; exact (List.getElem?_eq_some_iff.1 hu).1
    have h2 : (i + 1) * k ≤ l.length * k := Nat.mul_le_mul_right k hi
    rw [Nat.add_mul] at h2
    rw [Nat.zero_add, hcell _ (by omega), flat_get hf l i x hx j hj, hu]
set_option maxRecDepth 20000 in
theorem lbeq14 (a b : ByteArray) : (a.toList == b.toList) = decide (a = b) := by
  by_cases h : a = b
  · rw [decide_eq_true h, h]
    simp
  · rw [decide_eq_false h]
    exact (lbytes_ne h).2
end
end Go.Proofs.Ythgjmbcojbmlhaa.Zb
namespace Go.Proofs.Ythgjmbcojbmlhaa
open Go.RowKit Zb

set_option maxRecDepth 20000 in
theorem ret_cell {P : Program} {fn : Func} {p u : Tmp} {ty t : TypeId} {R : Ending → World → Prop} {a : Act} {w : World} {g : Nat} {cs : Array Value} {d : TypeDesc} (h : fn.results = #[.cell p ty, .tmp u]) (hd : a.defers = [])
    (hp : a.tmps.getD p undef = .pointer (some ⟨g, 0, none⟩)) (hg : Blk w g t cs) (hu : P.underlying ty = some d) (hs : (match d with | .struct _ | .array _ _ => true | _ => false) = true) (hi : (P.info? ty).map (·.size) = some cs.size)
    (hR : R (.returned (.tuple #[.agg cs, a.tmps.getD u undef])) w) : bodyPost P fn R .ret a w := by
  refine bodyPost_ret (v := .tuple #[.agg cs, a.tmps.getD u undef]) ?_ hd hR
  rw [results_cell_tmp h, hp]
  have e : (asAddr (.pointer (some ⟨g, 0, none⟩))).run P w = .ok ⟨g, 0, none⟩ w := rfl
  rw [e]
  simp only [Result.andThen]
  rw [run_loadVar_row w g t ty cs (0, 0) d hg hu hs hi]
set_option maxRecDepth 20000 in
theorem use_len (x : UseM) : x.cells.length = 3 := rfl
set_option maxRecDepth 20000 in
theorem ins_len (x : InsM) : x.cells.length = 4 := rfl
set_option maxRecDepth 20000 in
theorem con_len (x : ConM) : x.cells.length = 3 := rfl
set_option maxRecDepth 20000 in
theorem cap_len (x : CapM) : x.cells.length = 2 := rfl
set_option maxRecDepth 20000 in
theorem proto_len (x : ProtoV) : x.cells.length = 6 := rfl
/-- a unit that came of a call: its rows are the call's own -/
structure UnitV.Own (w0 w : World) (u : UnitV) : Prop where
  ou : Row w 43 3 (.slice u.uA u.uses.length u.uc) u.uses.length (u.uses.flatMap UseM.cells)
  nu : OwnNew w0 (.slice u.uA u.uses.length u.uc)
  or_ : Row w 38 6 (.slice u.rA u.vs.length u.rc) u.vs.length (u.vs.flatMap ProtoV.cells)
  nr : OwnNew w0 (.slice u.rA u.vs.length u.rc)
  each : ∀ v ∈ u.vs, v.Own w0 w
section
variable {w0 wp w w' : World} {gs ga gw gx gb gu : Nat} {s : ByteArray} {t : St} {nm : ByteArray} {ver fu : Int} {uv rv : Value} {us : List UseM} {vs : List ProtoV} {v : ProtoV} {u : UnitV}
set_option maxRecDepth 20000 in
theorem ProtoV.Own.reads (h : v.Own w0 w) : v.Reads w := ⟨row_rd14 ins_len h.oc, row_rd14 con_len h.ok, row_rd14 cap_len h.op⟩
set_option maxRecDepth 20000 in
theorem UnitV.Own.reads (h : u.Own w0 w) : u.Reads w := ⟨row_rd14 use_len h.ou, row_rd14 proto_len h.or_, fun v hv => (h.each v hv).reads⟩
set_option maxRecDepth 20000 in
theorem UnitV.Own.keep (h : u.Own w0 w) (hk : ∀ {e : TypeId} {size n : Nat} {x : Value} {xs : List Value}, Row w e size x n xs → OwnNew w0 x → (e = 78 ∨ e = 45 ∨ e = 75 ∨ e = 43 ∨ e = 38) → Row w' e size x n xs) : u.Own w0 w' :=
  ⟨hk h.ou h.nu (by decide), h.nu, hk h.or_ h.nr (by decide), h.nr, fun v hv => ⟨hk (h.each v hv).oc (h.each v hv).nc (by decide), (h.each v hv).nc, hk (h.each v hv).ok (h.each v hv).nk (by decide), (h.each v hv).nk, hk (h.each v hv).op (h.each v hv).np (by decide), (h.each v hv).np⟩⟩
set_option maxRecDepth 20000 in
theorem UnitV.Own.below (h : u.Own w0 w) (hb : Below w.heap.size w w') : u.Own w0 w' := h.keep fun hr _ _ => row_of hr fun g hg => hb.block g (row_lt hr g hg)
set_option maxRecDepth 20000 in
theorem UnitV.Own.row (h : u.Own w0 w) {g : Nat} {c0 cs : Array Value} (hg : Blk w g 25 c0) : u.Own w0 (w.setRow g cs) := h.keep fun hr _ he => row_of hr fun k hk => setRow_other _ _ _ _ (fun e => row_blk_ne hr hg (by rcases he with rfl | rfl | rfl | rfl | rfl <;> decide) (e ▸ hk))
set_option maxRecDepth 20000 in
theorem UnitV.Own.base (h : u.Own wp w) (hb : w0.heap.size ≤ wp.heap.size) : u.Own w0 w := ⟨h.ou, fun g hg => Nat.le_trans hb (h.nu g hg), h.or_, fun g hg => Nat.le_trans hb (h.nr g hg), fun v hv => (h.each v hv).base hb⟩
set_option maxRecDepth 20000 in
theorem UnI.unit (h : UnI w0 w gs ga gw gx gb gu s t nm ver fu uv rv us vs) : ∃ uA uc rA rc, uv = .slice uA us.length uc ∧ rv = .slice rA vs.length rc ∧ UnitV.Reads w ⟨nm, ver, us, uA, uc, fu, vs, rA, rc⟩ ∧ UnitV.Own w0 w ⟨nm, ver, us, uA, uc, fu, vs, rA, rc⟩ := by
  obtain ⟨uA, uc, e1, _⟩ := row_slice h.ou
  obtain ⟨rA, rc, e2, _⟩ := row_slice h.or_
  subst e1; subst e2
  have k : UnitV.Own w0 w ⟨nm, ver, us, uA, uc, fu, vs, rA, rc⟩ := ⟨h.ou, h.nu, h.or_, h.nr, h.each⟩
  exact ⟨uA, uc, rA, rc, rfl, rfl, k.reads, k⟩
set_option maxRecDepth 20000 in
theorem UnI.sver (h : UnI w0 w gs ga gw gx gb gu s t nm ver fu uv rv us vs) (x : Int) : UnI w0 (w.setCell ⟨gu, 1, none⟩ (.int .i64 x)) gs ga gw gx gb gu s t nm x fu uv rv us vs :=
  ⟨⟨h.rd.bel.setCell (p := ⟨gu, 1, none⟩) h.leu _, h.rd.bs.far (p := ⟨gu, 1, none⟩) (h.rd.bs.ne_ h.bu (by decide)) _, h.rd.ba.far (p := ⟨gu, 1, none⟩) (h.rd.ba.ne_ h.bu (by decide)) _, h.rd.bw.far (p := ⟨gu, 1, none⟩) (h.rd.bw.ne_ h.bu (by decide)) _, h.rd.bx.far (p := ⟨gu, 1, none⟩) (h.rd.bx.ne_ h.bu (by decide)) _, h.rd.lea, h.rd.lew⟩, h.at_, h.bb.far (p := ⟨gu, 1, none⟩) (h.bb.ne_ h.bu (by decide)) _, h.bu.set_ 1 _, h.leu, row_set h.ou (row_blk_ne h.ou h.bu (by decide)) _, h.nu, row_set h.or_ (row_blk_ne h.or_ h.bu (by decide)) _, h.nr, fun v hv => (h.each v hv).keep fun hrow he => row_set hrow (row_blk_ne hrow h.bu (by rcases he with rfl | rfl | rfl <;> decide)) _⟩
set_option maxRecDepth 20000 in
theorem UnI.sfun (h : UnI w0 w gs ga gw gx gb gu s t nm ver fu uv rv us vs) (x : Int) : UnI w0 (w.setCell ⟨gu, 3, none⟩ (.int .i64 x)) gs ga gw gx gb gu s t nm ver x uv rv us vs :=
  ⟨⟨h.rd.bel.setCell (p := ⟨gu, 3, none⟩) h.leu _, h.rd.bs.far (p := ⟨gu, 3, none⟩) (h.rd.bs.ne_ h.bu (by decide)) _, h.rd.ba.far (p := ⟨gu, 3, none⟩) (h.rd.ba.ne_ h.bu (by decide)) _, h.rd.bw.far (p := ⟨gu, 3, none⟩) (h.rd.bw.ne_ h.bu (by decide)) _, h.rd.bx.far (p := ⟨gu, 3, none⟩) (h.rd.bx.ne_ h.bu (by decide)) _, h.rd.lea, h.rd.lew⟩, h.at_, h.bb.far (p := ⟨gu, 3, none⟩) (h.bb.ne_ h.bu (by decide)) _, h.bu.set_ 3 _, h.leu, row_set h.ou (row_blk_ne h.ou h.bu (by decide)) _, h.nu, row_set h.or_ (row_blk_ne h.or_ h.bu (by decide)) _, h.nr, fun v hv => (h.each v hv).keep fun hrow he => row_set hrow (row_blk_ne hrow h.bu (by rcases he with rfl | rfl | rfl <;> decide)) _⟩
end
/-- what Parse tells -/
def PaPost (s : ByteArray) (w : World) : Ending → World → Prop := fun e w' => ∃ u : UnitV, e = .returned (.tuple #[.agg u.cells.toArray, .int .i64 (uparse s).2]) ∧ u.m = (uparse s).1 ∧ Below w.heap.size w w' ∧ u.Own w w' ∧ UnitS u.m ∧ UnitR u.m
set_option maxRecDepth 20000 in
theorem unit0_lim : UnitS unit0 ∧ UnitR unit0 := by
  refine ⟨⟨Nat.zero_le _, by decide, ⟨Nat.zero_le _, fun x hx => absurd hx List.not_mem_nil⟩, by decide, ⟨Nat.zero_le _, fun x hx => absurd hx List.not_mem_nil⟩⟩, fun p hp => absurd hp List.not_mem_nil⟩
set_option maxRecDepth 20000 in
theorem pa_bad {s : ByteArray} {w w' : World} {c : Int} (h : uparse s = (unit0, c)) (hb : Below w.heap.size w w') : PaPost s w (.returned (.tuple #[.agg #[.string ⟨#[]⟩, .int .i64 0, .slice none 0 0, .int .i64 0, .slice none 0 0], .int .i64 c])) w' :=
  ⟨⟨⟨#[]⟩, 0, [], none, 0, 0, [], none, 0⟩, by rw [h]; rfl, by rw [h]; rfl, hb, ⟨row_nil _ _ _, own_nilv _, row_nil _ _ _, own_nilv _, fun v hv => absurd hv List.not_mem_nil⟩, unit0_lim⟩
set_option maxRecDepth 20000 in
set_option maxHeartbeats 4000000 in
theorem ugParse_calls {w : World} (s : ByteArray) (hs : s.size ≤ 100000000) : Calls Try.prog 14 #[.string s] w (PaPost s w) := by
  go_enter Try.func14, Try.ntmps14
  have HG0 := hide (Blk.new w 25 #[.string ⟨#[]⟩, .int .i64 0, .slice none 0 0, .int .i64 0, .slice none 0 0])
  have HLE0 : Hid (w.heap.size < (w.alloc (.cells #[.string ⟨#[]⟩, .int .i64 0, .slice none 0 0, .int .i64 0, .slice none 0 0] 25)).heap.size) := hide (by simp)
  have HBW : Hid (Below w.heap.size w (w.alloc (.cells #[.string ⟨#[]⟩, .int .i64 0, .slice none 0 0, .int .i64 0, .slice none 0 0] 25))) := hide ((Below.refl _ _).alloc (Nat.le_refl _) _)
  go_wp2_with fail
  obtain ⟨wp, hwp⟩ : ∃ z, Hid (w.alloc (.cells #[.string ⟨#[]⟩, .int .i64 0, .slice none 0 0, .int .i64 0, .slice none 0 0] 25) = z) := ⟨_, hide rfl⟩
  obtain ⟨gr, hgr⟩ : ∃ z, Hid (w.heap.size = z) := ⟨_, hide rfl⟩
  rw [hwp.out] at HG0 HLE0 HBW ⊢
  have HGW : Hid (w.heap.size ≤ gr) := hide (Nat.le_of_eq hgr.out)
  rw [hgr.out] at HG0 HLE0 ⊢
  clear hwp hgr
  refine (uopen_calls s wp).mono ?_
  rintro e w1 ⟨gs, ga, gw, gx, rfl, hr1⟩
  have R1 := hide hr1
  have BW1 := hide hr1.bel
  clear hr1
  have BN := hide (Blk.new w1 66 #[.nilFunc, .nilFunc, .nilFunc, .nilFunc])
  have R2 : Hid (RdS wp ((w1.alloc (.cells #[.nilFunc, .nilFunc, .nilFunc, .nilFunc] 66)).setRow w1.heap.size #[(.func (.func 61) #[] #[ptrW gs, ptrW ga, ptrW gw]), (.func (.func 63) #[] #[ptrW gs, ptrW ga, ptrW gw]), (.func (.func 65) #[] #[ptrW gx, ptrW gw]), (.func (.func 66) #[] #[ptrW gw])]) gs ga gw gx s ⟨0, true⟩) := hide (R1.out.below (below_row ((Below.refl _ _).alloc (Nat.le_refl _) (.cells #[.nilFunc, .nilFunc, .nilFunc, .nilFunc] 66)) (Nat.le_refl _) #[(.func (.func 61) #[] #[ptrW gs, ptrW ga, ptrW gw]), (.func (.func 63) #[] #[ptrW gs, ptrW ga, ptrW gw]), (.func (.func 65) #[] #[ptrW gx, ptrW gw]), (.func (.func 66) #[] #[ptrW gw])]))
  have B2 : Hid (Blk ((w1.alloc (.cells #[.nilFunc, .nilFunc, .nilFunc, .nilFunc] 66)).setRow w1.heap.size #[(.func (.func 61) #[] #[ptrW gs, ptrW ga, ptrW gw]), (.func (.func 63) #[] #[ptrW gs, ptrW ga, ptrW gw]), (.func (.func 65) #[] #[ptrW gx, ptrW gw]), (.func (.func 66) #[] #[ptrW gw])]) w1.heap.size 66 #[(.func (.func 61) #[] #[ptrW gs, ptrW ga, ptrW gw]), (.func (.func 63) #[] #[ptrW gs, ptrW ga, ptrW gw]), (.func (.func 65) #[] #[ptrW gx, ptrW gw]), (.func (.func 66) #[] #[ptrW gw])]) := hide (blk_row_same BN.out #[(.func (.func 61) #[] #[ptrW gs, ptrW ga, ptrW gw]), (.func (.func 63) #[] #[ptrW gs, ptrW ga, ptrW gw]), (.func (.func 65) #[] #[ptrW gx, ptrW gw]), (.func (.func 66) #[] #[ptrW gw])])
  have zb : ((w1.alloc (.cells #[.nilFunc, .nilFunc, .nilFunc, .nilFunc] 66)).setRow w1.heap.size #[(.func (.func 61) #[] #[ptrW gs, ptrW ga, ptrW gw]), (.func (.func 63) #[] #[ptrW gs, ptrW ga, ptrW gw]), (.func (.func 65) #[] #[ptrW gx, ptrW gw]), (.func (.func 66) #[] #[ptrW gw])]).cell? ⟨w1.heap.size, 0, none⟩ = some (.func (.func 61) #[] #[ptrW gs, ptrW ga, ptrW gw]) := B2.out.cell 0
  go_wp2_with ((with_reducible show wpList _ _ _ (⟨none, Op.store 66 _ _, _, _, _, _⟩ :: _) _ _); refine wpList_store_row rfl _ _ _ rfl w1.heap.size #[(.func (.func 61) #[] #[ptrW gs, ptrW ga, ptrW gw]), (.func (.func 63) #[] #[ptrW gs, ptrW ga, ptrW gw]), (.func (.func 65) #[] #[ptrW gx, ptrW gw]), (.func (.func 66) #[] #[ptrW gw])] rfl rfl 66 _ BN.out (by kernel_rfl) rfl (by kernel_rfl) ?_)
  obtain ⟨w2, hw2⟩ : ∃ z, Hid (((w1.alloc (.cells #[.nilFunc, .nilFunc, .nilFunc, .nilFunc] 66)).setRow w1.heap.size #[(.func (.func 61) #[] #[ptrW gs, ptrW ga, ptrW gw]), (.func (.func 63) #[] #[ptrW gs, ptrW ga, ptrW gw]), (.func (.func 65) #[] #[ptrW gx, ptrW gw]), (.func (.func 66) #[] #[ptrW gw])]) = z) := ⟨_, hide rfl⟩
  obtain ⟨gb, hgb⟩ : ∃ z, Hid (w1.heap.size = z) := ⟨_, hide rfl⟩
  rw [hw2.out] at R2 B2 zb ⊢
  rw [hgb.out] at B2 zb ⊢
  clear hw2 hgb R1 BW1 BN
  go_wp2_with fail
  clear zb
  obtain ⟨zz, hzz⟩ : ∃ z, (rnum s 4 ⟨0, true⟩).1 = z := ⟨_, rfl⟩
  obtain ⟨t0, ht0⟩ : ∃ z, (rnum s 4 ⟨0, true⟩).2 = z := ⟨_, rfl⟩
  have HC := hide (unum4 R2.out hs (Nat.zero_le _))
  have hlet0 := (Rd.num 4).le s ⟨0, true⟩ ((Nat.zero_le _))
  rw [hzz, ht0] at HC
  rw [ht0] at hlet0
  refine HC.out.mono ?_
  rintro e w3 ⟨rfl, hr, hT⟩
  have R3 := hide hr
  have B3 := hide (tk_blk hT B2.out R2.out.ba R2.out.bw (by decide) (by decide))
  clear HC hr hT R2 B2
  have zb : w3.cell? ⟨gb, 1, none⟩ = some (.func (.func 63) #[] #[ptrW gs, ptrW ga, ptrW gw]) := B3.out.cell 1
  go_wp2_with fail
  clear zb
  obtain ⟨nm, hnm⟩ : ∃ z, (rtext s t0).1 = z := ⟨_, rfl⟩
  obtain ⟨t1, ht1⟩ : ∃ z, (rtext s t0).2 = z := ⟨_, rfl⟩
  have HC := hide (uopen2_calls R3.out hs hlet0)
  have hlet1 := Rd.text.le s t0 (hlet0)
  rw [hnm, ht1] at HC
  rw [ht1] at hlet1
  refine HC.out.mono ?_
  rintro e w4 ⟨rfl, hr, hT⟩
  have R4 := hide hr
  have B4 := hide (tk_blk hT B3.out R3.out.ba R3.out.bw (by decide) (by decide))
  clear HC hr hT R3 B3
  have P5 : Hid (UnI wp (w4.alloc (.cells #[.string nm, .int .i64 0, .slice none 0 0, .int .i64 0, .slice none 0 0] 25)) gs ga gw gx gb w4.heap.size s t1 nm 0 0 (.slice none 0 0) (.slice none 0 0) [] []) := hide ⟨R4.out.alloc (.cells #[.string nm, .int .i64 0, .slice none 0 0, .int .i64 0, .slice none 0 0] 25), hlet1, B4.out.alloc (.cells #[.string nm, .int .i64 0, .slice none 0 0, .int .i64 0, .slice none 0 0] 25), Blk.new w4 25 #[.string nm, .int .i64 0, .slice none 0 0, .int .i64 0, .slice none 0 0], R4.out.bel.size, row_nil _ _ _, own_nilv _, row_nil _ _ _, own_nilv _, fun v hv => absurd hv List.not_mem_nil⟩
  have zb : (w4.alloc (.cells #[.string nm, .int .i64 0, .slice none 0 0, .int .i64 0, .slice none 0 0] 25)).cell? ⟨gb, 0, none⟩ = some (.func (.func 61) #[] #[ptrW gs, ptrW ga, ptrW gw]) := P5.out.bb.cell 0
  go_wp2_with fail
  clear zb
  obtain ⟨w5, hw5⟩ : ∃ z, Hid (w4.alloc (.cells #[.string nm, .int .i64 0, .slice none 0 0, .int .i64 0, .slice none 0 0] 25) = z) := ⟨_, hide rfl⟩
  obtain ⟨gu, hgu⟩ : ∃ z, Hid (w4.heap.size = z) := ⟨_, hide rfl⟩
  rw [hw5.out, hgu.out] at P5
  rw [hw5.out, hgu.out]
  clear hw5 hgu R4 B4
  obtain ⟨ver, hver⟩ : ∃ z, (rnum s 4 t1).1 = z := ⟨_, rfl⟩
  obtain ⟨t2, ht2⟩ : ∃ z, (rnum s 4 t1).2 = z := ⟨_, rfl⟩
  have HC := hide (unum4 P5.out.rd hs hlet1)
  have hlet2 := (Rd.num 4).le s t1 (hlet1)
  rw [hver, ht2] at HC
  rw [ht2] at hlet2
  refine HC.out.mono ?_
  rintro e w6 ⟨rfl, hr, hT⟩
  have P6 := hide (P5.out.turn hr hlet2 hT)
  clear HC hr hT P5
  have q1 : w6.cell? ⟨gu, 1, none⟩ = some (.int .i64 0) := P6.out.bu.cell 1
  have q2 : w6.frozen? ⟨gu, 1, none⟩ = false := P6.out.bu.frozen 1
  have P7 := hide (P6.out.sver ver)
  have zb : (w6.setCell ⟨gu, 1, none⟩ (.int .i64 ver)).cell? ⟨gb, 2, none⟩ = some (.func (.func 65) #[] #[ptrW gx, ptrW gw]) := P7.out.bb.cell 2
  go_wp2_with fail
  clear zb q1 q2
  obtain ⟨w7, hw7⟩ : ∃ z, Hid ((w6.setCell ⟨gu, 1, none⟩ (.int .i64 ver)) = z) := ⟨_, hide rfl⟩
  rw [hw7.out] at P7 ⊢
  clear hw7 P6
  have HC := hide (uopen3_calls hs (ruse s) 36 #[ptrW gb, ptrW gu] (fun w => by kernel_rfl) (fun w t l => ∃ v', UnI wp w gs ga gw gx gb gu s t nm ver 0 v' (.slice none 0 0) l []) (fun w t l ⟨v', h⟩ => ⟨h.rd, h.at_⟩) (fun w w' t t' l ⟨v', h⟩ hr ha hT => ⟨v', h.turn hr ha hT⟩) (fun w t l2 _ hl ⟨v', h⟩ => uParse1_calls h hs (by simp only [List.length_nil] at hl; omega)) (w := w7) (t := t2) (l := []) ⟨_, P7.out⟩)
  obtain ⟨us, hus⟩ : ∃ z, (rlists s (ruse s) t2).1 = z := ⟨_, rfl⟩
  obtain ⟨t3, ht3⟩ : ∃ z, (rlists s (ruse s) t2).2 = z := ⟨_, rfl⟩
  rw [hus, ht3, List.nil_append] at HC
  refine HC.out.mono ?_
  rintro e w8 ⟨rfl, uv, hp8⟩
  have P8 := hide hp8
  clear HC hp8 P7
  have zb : w8.cell? ⟨gb, 0, none⟩ = some (.func (.func 61) #[] #[ptrW gs, ptrW ga, ptrW gw]) := P8.out.bb.cell 0
  go_wp2_with fail
  clear zb
  obtain ⟨fu, hfu⟩ : ∃ z, (rnum s 1 t3).1 = z := ⟨_, rfl⟩
  obtain ⟨t4, ht4⟩ : ∃ z, (rnum s 1 t3).2 = z := ⟨_, rfl⟩
  have HC := hide (unum1 P8.out.rd hs P8.out.at_)
  have hlet4 := (Rd.num 1).le s t3 (P8.out.at_)
  rw [hfu, ht4] at HC
  rw [ht4] at hlet4
  refine HC.out.mono ?_
  rintro e w9 ⟨rfl, hr, hT⟩
  have P9 := hide (P8.out.turn hr hlet4 hT)
  clear HC hr hT P8
  have q1 : w9.cell? ⟨gu, 3, none⟩ = some (.int .i64 0) := P9.out.bu.cell 3
  have q2 : w9.frozen? ⟨gu, 3, none⟩ = false := P9.out.bu.frozen 3
  have PA := hide (P9.out.sfun fu)
  have zb : (w9.setCell ⟨gu, 3, none⟩ (.int .i64 fu)).cell? ⟨gb, 2, none⟩ = some (.func (.func 65) #[] #[ptrW gx, ptrW gw]) := PA.out.bb.cell 2
  go_wp2_with fail
  clear zb q1 q2
  obtain ⟨wA, hwA⟩ : ∃ z, Hid ((w9.setCell ⟨gu, 3, none⟩ (.int .i64 fu)) = z) := ⟨_, hide rfl⟩
  rw [hwA.out] at PA ⊢
  clear hwA P9
  have HC := hide (uopen3_calls hs (rproto s) 37 #[ptrW gu, ptrW gb] (fun w => by kernel_rfl) (fun w t l => ∃ (v' : Value) (vs : List ProtoV), vs.map (·.p) = l ∧ UnI wp w gs ga gw gx gb gu s t nm ver fu uv v' us vs) (fun w t l ⟨v', vs, _, h⟩ => ⟨h.rd, h.at_⟩) (fun w w' t t' l ⟨v', vs, e, h⟩ hr ha hT => ⟨v', vs, e, h.turn hr ha hT⟩) (fun w t l2 _ hl ⟨v', vs, e, h⟩ => (uParse2_calls h hs (by rw [← e] at hl; simp only [List.length_nil, List.length_map] at hl; omega)).mono fun e' w' ⟨e1, v2, x, e2, h2⟩ => ⟨e1, v2, vs ++ [x], by rw [List.map_append, e]; show l2 ++ [x.p] = _; rw [e2], h2⟩) (w := wA) (t := t4) (l := []) ⟨_, [], rfl, PA.out⟩)
  obtain ⟨ps, hps⟩ : ∃ z, (rlists s (rproto s) t4).1 = z := ⟨_, rfl⟩
  obtain ⟨t5, ht5⟩ : ∃ z, (rlists s (rproto s) t4).2 = z := ⟨_, rfl⟩
  rw [hps, ht5, List.nil_append] at HC
  refine HC.out.mono ?_
  rintro e wB ⟨rfl, rv, vs, hvs, hpB⟩
  have HRU : Hid (runit s = (⟨nm, ver, us, fu, vs.map (·.p)⟩, t5)) := hide (by unfold runit; dsimp only; rw [ht0, hnm, ht1, hver, ht2, hus, ht3, hfu, ht4, hps, ht5, hvs])
  have HLM := hide (runit_lim hs)
  rw [HRU.out] at HLM
  obtain ⟨uA, uc, rA, rc, rfl, rfl, hrd, hown⟩ := hpB.unit
  have PB := hide hpB
  have HRD := hide hrd
  have HOW := hide hown
  clear HC hpB PA hrd hown hnm ht0 ht1 hver ht2 hus ht3 hfu ht4 hps ht5 hvs hzz
  have HUP : Hid (uparse s = if t5.whole then if ubuild ⟨nm, ver, us, fu, vs.map (·.p)⟩ = (s, 0) then (⟨nm, ver, us, fu, vs.map (·.p)⟩, 0) else (unit0, 4) else (unit0, 2)) := hide (by unfold uparse; rw [HRU.out])
  have HGB := hide (HG0.out.below PB.out.rd.bel HLE0.out)
  have HBB := hide (HBW.out.trans (PB.out.rd.bel.mono (Nat.le_of_lt (Nat.lt_of_le_of_lt HGW.out HLE0.out))))
  have zb : wB.cell? ⟨gb, 3, none⟩ = some (.func (.func 66) #[] #[ptrW gw]) := PB.out.bb.cell 3
  obtain ⟨wh, hwh⟩ : ∃ z, t5.whole = z := ⟨_, rfl⟩
  have HOK := hide (uopen4_calls PB.out.rd.bw)
  rw [hwh] at HOK HUP
  go_wp2_with fail
  clear zb
  refine HOK.out.mono ?_
  rintro e wx ⟨rfl, rfl⟩
  clear HOK hwh
  cases wh
  · have HE : Hid (uparse s = (unit0, 2)) := hide (by rw [HUP.out]; rfl)
    go_wp2_with ((with_reducible show wpList _ _ _ (⟨none, Op.store 25 _ _, _, _, _, _⟩ :: _) _ _); refine wpList_store_row rfl _ _ _ rfl gr #[.string ⟨#[]⟩, .int .i64 0, .slice none 0 0, .int .i64 0, .slice none 0 0] rfl rfl 25 _ HGB.out (by kernel_rfl) rfl (by kernel_rfl) ?_)
    refine ret_cell rfl rfl rfl (blk_row_same HGB.out #[.string ⟨#[]⟩, .int .i64 0, .slice none 0 0, .int .i64 0, .slice none 0 0]) Try.underlying25 rfl (by kernel_rfl) ?_
    exact pa_bad HE.out (below_row HBB.out HGW.out _)
  have k0 : wx.cell? ⟨gu, 0, none⟩ = some (.string nm) := PB.out.bu.cell 0
  have k1 : wx.cell? ⟨gu, 1, none⟩ = some (.int .i64 ver) := PB.out.bu.cell 1
  have k2 : wx.cell? ⟨gu, 2, none⟩ = some (.slice uA us.length uc) := PB.out.bu.cell 2
  have k3 : wx.cell? ⟨gu, 3, none⟩ = some (.int .i64 fu) := PB.out.bu.cell 3
  have k4 : wx.cell? ⟨gu, 4, none⟩ = some (.slice rA vs.length rc) := PB.out.bu.cell 4
  have HUP2 : Hid (uparse s = if ubuild (UnitV.m ⟨nm, ver, us, uA, uc, fu, vs, rA, rc⟩) = (s, 0) then (UnitV.m ⟨nm, ver, us, uA, uc, fu, vs, rA, rc⟩, 0) else (unit0, 4)) := hide (by rw [HUP.out]; rfl)
  have HBD := hide (ugBuild_parts nm ver us uA uc fu vs rA rc HRD.out HLM.out.1 HLM.out.2)
  obtain ⟨bs, hbs⟩ : ∃ z, (ubuild (UnitV.m ⟨nm, ver, us, uA, uc, fu, vs, rA, rc⟩)).1 = z := ⟨_, rfl⟩
  obtain ⟨be, hbe⟩ : ∃ z, (ubuild (UnitV.m ⟨nm, ver, us, uA, uc, fu, vs, rA, rc⟩)).2 = z := ⟨_, rfl⟩
  rw [hbs, hbe] at HBD
  rw [show ubuild (UnitV.m ⟨nm, ver, us, uA, uc, fu, vs, rA, rc⟩) = (bs, be) from Prod.ext hbs hbe] at HUP2
  clear HUP hbs hbe HRU
  go_wp2_with fail
  clear k0 k1 k2 k3 k4
  refine HBD.out.mono ?_
  rintro e wC ⟨rfl, hbC⟩
  have HGC := hide (HGB.out.below hbC HGB.out.lt)
  have HBC := hide (HBB.out.trans (hbC.mono HBB.out.size))
  have HOC := hide (HOW.out.below hbC)
  have HUC := hide (PB.out.bu.below hbC PB.out.bu.lt)
  clear hbC HBD HRD
  have k0 : wC.cell? ⟨gu, 0, none⟩ = some (.string nm) := HUC.out.cell 0
  have k1 : wC.cell? ⟨gu, 1, none⟩ = some (.int .i64 ver) := HUC.out.cell 1
  have k2 : wC.cell? ⟨gu, 2, none⟩ = some (.slice uA us.length uc) := HUC.out.cell 2
  have k3 : wC.cell? ⟨gu, 3, none⟩ = some (.int .i64 fu) := HUC.out.cell 3
  have k4 : wC.cell? ⟨gu, 4, none⟩ = some (.slice rA vs.length rc) := HUC.out.cell 4
  by_cases he : be = 0
  case neg =>
    have HE : Hid (uparse s = (unit0, 4)) := hide (by rw [HUP2.out, if_neg (fun h => he (congrArg Prod.snd h))])
    have e1 : (be == 0) = false := by simpa using he
    have e2 : decide (be = 0) = false := decide_eq_false he
    clear HUP2
    go_wp2_with ((with_reducible show wpList _ _ _ (⟨none, Op.store 25 _ _, _, _, _, _⟩ :: _) _ _); refine wpList_store_row rfl _ _ _ rfl gr #[.string ⟨#[]⟩, .int .i64 0, .slice none 0 0, .int .i64 0, .slice none 0 0] rfl rfl 25 _ HGC.out (by kernel_rfl) rfl (by kernel_rfl) ?_)
    refine ret_cell rfl rfl rfl (blk_row_same HGC.out #[.string ⟨#[]⟩, .int .i64 0, .slice none 0 0, .int .i64 0, .slice none 0 0]) Try.underlying25 rfl (by kernel_rfl) ?_
    exact pa_bad HE.out (below_row HBC.out HGW.out _)
  subst he
  by_cases ho : bs = s
  case neg =>
    have HE : Hid (uparse s = (unit0, 4)) := hide (by rw [HUP2.out, if_neg (fun h => ho (congrArg Prod.fst h))])
    have e2 : (bs.toList == s.toList) = false := by rw [lbeq14]; exact decide_eq_false ho
    clear HUP2
    go_wp2_with ((with_reducible show wpList _ _ _ (⟨none, Op.store 25 _ _, _, _, _, _⟩ :: _) _ _); refine wpList_store_row rfl _ _ _ rfl gr #[.string ⟨#[]⟩, .int .i64 0, .slice none 0 0, .int .i64 0, .slice none 0 0] rfl rfl 25 _ HGC.out (by kernel_rfl) rfl (by kernel_rfl) ?_)
    refine ret_cell rfl rfl rfl (blk_row_same HGC.out #[.string ⟨#[]⟩, .int .i64 0, .slice none 0 0, .int .i64 0, .slice none 0 0]) Try.underlying25 rfl (by kernel_rfl) ?_
    exact pa_bad HE.out (below_row HBC.out HGW.out _)
  subst ho
  have HE : Hid (uparse bs = (UnitV.m ⟨nm, ver, us, uA, uc, fu, vs, rA, rc⟩, 0)) := hide (by rw [HUP2.out, if_pos rfl])
  clear HUP2
  go_wp2_with ((with_reducible show wpList _ _ _ (⟨none, Op.store 25 _ _, _, _, _, _⟩ :: _) _ _); refine wpList_store_row rfl _ _ _ rfl gr #[.string nm, .int .i64 ver, .slice uA us.length uc, .int .i64 fu, .slice rA vs.length rc] rfl rfl 25 _ HGC.out (by kernel_rfl) rfl (by kernel_rfl) ?_)
  refine ret_cell rfl rfl rfl (blk_row_same HGC.out #[.string nm, .int .i64 ver, .slice uA us.length uc, .int .i64 fu, .slice rA vs.length rc]) Try.underlying25 rfl (by kernel_rfl) ?_
  refine ⟨⟨nm, ver, us, uA, uc, fu, vs, rA, rc⟩, ?_, ?_, below_row HBC.out HGW.out _, ?_, HLM.out⟩
  · rw [HE.out]; rfl
  · rw [HE.out]
  · exact (HOC.out.row (g := gr) HGC.out (cs := #[.string nm, .int .i64 ver, .slice uA us.length uc, .int .i64 fu, .slice rA vs.length rc])).base (Nat.le_of_lt (Nat.lt_of_le_of_lt HGW.out HLE0.out))
end Go.Proofs.Ythgjmbcojbmlhaa
