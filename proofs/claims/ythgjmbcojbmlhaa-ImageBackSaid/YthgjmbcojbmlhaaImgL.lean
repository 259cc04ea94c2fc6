/- Chapter 14: source.proto, walked. -/
import Derived.Test.YthgjmbcojbmlhaaImgK
namespace Go.Proofs.Ythgjmbcojbmlhaa
open Go.RowKit Zb

/-- a proto that was read: its value, its rows -/
structure ProtoV.Own (wp w : World) (v : ProtoV) : Prop where
  oc : Row w 78 4 (.slice v.cA v.p.code.length v.cc) v.p.code.length (v.p.code.flatMap InsM.cells)
  nc : OwnNew wp (.slice v.cA v.p.code.length v.cc)
  ok : Row w 45 3 (.slice v.kA v.p.consts.length v.kc) v.p.consts.length (v.p.consts.flatMap ConM.cells)
  nk : OwnNew wp (.slice v.kA v.p.consts.length v.kc)
  op : Row w 75 2 (.slice v.pA v.p.caps.length v.pc) v.p.caps.length (v.p.caps.flatMap CapM.cells)
  np : OwnNew wp (.slice v.pA v.p.caps.length v.pc)
set_option maxRecDepth 20000 in
theorem turned_row {F : Nat → Prop} {w w' : World} (h : Turned F w w') {g : Nat} (hg : F g ∨ w.heap.size ≤ g) (cs : Array Value) : Turned F w (w'.setRow g cs) :=
  ⟨h.os, h.tape, h.output, Nat.le_trans h.size (Nat.le_of_eq (setRow_size _ _ _).symm), fun i hi hF => (setRow_other _ _ _ _ (fun e => by
    rcases hg with h1 | h1
    · exact hF (e ▸ h1)
    · omega)).trans (h.block i hi hF)⟩
set_option maxRecDepth 20000 in
theorem own_nilv (w : World) : OwnNew w (.slice none 0 0) := fun g hg => by simp [Value.ownBlock] at hg
set_option maxRecDepth 20000 in
set_option maxHeartbeats 4000000 in
theorem usproto_calls {w0 w : World} {gs ga gw gx : Nat} {s : ByteArray} {t : St} (h : RdS w0 w gs ga gw gx s t) (hs : s.size ≤ 100000000) (hat : t.at_ ≤ s.size) :
    Calls Try.prog 38 #[.agg #[.func (.func 61) #[] #[ptrW gs, ptrW ga, ptrW gw], .func (.func 63) #[] #[ptrW gs, ptrW ga, ptrW gw], .func (.func 65) #[] #[ptrW gx, ptrW gw], .func (.func 66) #[] #[ptrW gw]]] w fun e w' => ∃ v : ProtoV, e = .returned (.agg v.cells.toArray) ∧ v.p = (rproto s t).1 ∧ RdS w0 w' gs ga gw gx s (rproto s t).2 ∧ Turned (TkF ga gw) w w' ∧ v.Own w w' := by
  have HR0 := hide ((h.alloc (.cells #[.func (.func 61) #[] #[ptrW gs, ptrW ga, ptrW gw], .func (.func 63) #[] #[ptrW gs, ptrW ga, ptrW gw], .func (.func 65) #[] #[ptrW gx, ptrW gw], .func (.func 66) #[] #[ptrW gw]] 66)).alloc (.cells #[.string ⟨#[]⟩, .int .i64 0, .int .i64 0, .slice none 0 0, .slice none 0 0, .slice none 0 0] 38))
  have HB0 : Hid (Blk ((w.alloc (.cells #[.func (.func 61) #[] #[ptrW gs, ptrW ga, ptrW gw], .func (.func 63) #[] #[ptrW gs, ptrW ga, ptrW gw], .func (.func 65) #[] #[ptrW gx, ptrW gw], .func (.func 66) #[] #[ptrW gw]] 66)).alloc (.cells #[.string ⟨#[]⟩, .int .i64 0, .int .i64 0, .slice none 0 0, .slice none 0 0, .slice none 0 0] 38)) w.heap.size 66 #[.func (.func 61) #[] #[ptrW gs, ptrW ga, ptrW gw], .func (.func 63) #[] #[ptrW gs, ptrW ga, ptrW gw], .func (.func 65) #[] #[ptrW gx, ptrW gw], .func (.func 66) #[] #[ptrW gw]]) := hide ((Blk.new w 66 #[.func (.func 61) #[] #[ptrW gs, ptrW ga, ptrW gw], .func (.func 63) #[] #[ptrW gs, ptrW ga, ptrW gw], .func (.func 65) #[] #[ptrW gx, ptrW gw], .func (.func 66) #[] #[ptrW gw]]).alloc _)
  have HG0 : Hid (Blk ((w.alloc (.cells #[.func (.func 61) #[] #[ptrW gs, ptrW ga, ptrW gw], .func (.func 63) #[] #[ptrW gs, ptrW ga, ptrW gw], .func (.func 65) #[] #[ptrW gx, ptrW gw], .func (.func 66) #[] #[ptrW gw]] 66)).alloc (.cells #[.string ⟨#[]⟩, .int .i64 0, .int .i64 0, .slice none 0 0, .slice none 0 0, .slice none 0 0] 38)) (w.heap.size + 1) 38 #[.string ⟨#[]⟩, .int .i64 0, .int .i64 0, .slice none 0 0, .slice none 0 0, .slice none 0 0]) := hide (by
    have := Blk.new (w.alloc (.cells #[.func (.func 61) #[] #[ptrW gs, ptrW ga, ptrW gw], .func (.func 63) #[] #[ptrW gs, ptrW ga, ptrW gw], .func (.func 65) #[] #[ptrW gx, ptrW gw], .func (.func 66) #[] #[ptrW gw]] 66)) 38 #[.string ⟨#[]⟩, .int .i64 0, .int .i64 0, .slice none 0 0, .slice none 0 0, .slice none 0 0]
    simpa using this)
  have HTW : Hid (Turned (TkF ga gw) w ((w.alloc (.cells #[.func (.func 61) #[] #[ptrW gs, ptrW ga, ptrW gw], .func (.func 63) #[] #[ptrW gs, ptrW ga, ptrW gw], .func (.func 65) #[] #[ptrW gx, ptrW gw], .func (.func 66) #[] #[ptrW gw]] 66)).alloc (.cells #[.string ⟨#[]⟩, .int .i64 0, .int .i64 0, .slice none 0 0, .slice none 0 0, .slice none 0 0] 38))) := hide (((Turned.refl _ _).alloc _).alloc _)
  have z1 : ((w.alloc (.cells #[.func (.func 61) #[] #[ptrW gs, ptrW ga, ptrW gw], .func (.func 63) #[] #[ptrW gs, ptrW ga, ptrW gw], .func (.func 65) #[] #[ptrW gx, ptrW gw], .func (.func 66) #[] #[ptrW gw]] 66)).alloc (.cells #[.string ⟨#[]⟩, .int .i64 0, .int .i64 0, .slice none 0 0, .slice none 0 0, .slice none 0 0] 38)).cell? ⟨w.heap.size, 1, none⟩ = some (.func (.func 63) #[] #[ptrW gs, ptrW ga, ptrW gw]) := HB0.out.cell 1
  have HLE : Hid (w0.heap.size ≤ w.heap.size) := hide h.bel.size
  clear h
  go_enter Try.func38, Try.ntmps38
  go_wp2_with fail
  clear z1
  obtain ⟨wp, hwp⟩ : ∃ z, Hid (((w.alloc (.cells #[.func (.func 61) #[] #[ptrW gs, ptrW ga, ptrW gw], .func (.func 63) #[] #[ptrW gs, ptrW ga, ptrW gw], .func (.func 65) #[] #[ptrW gx, ptrW gw], .func (.func 66) #[] #[ptrW gw]] 66)).alloc (.cells #[.string ⟨#[]⟩, .int .i64 0, .int .i64 0, .slice none 0 0, .slice none 0 0, .slice none 0 0] 38)) = z) := ⟨_, hide rfl⟩
  have hsz : wp.heap.size = w.heap.size + 1 + 1 := by rw [← hwp.out]; simp
  obtain ⟨gr, hgr⟩ : ∃ z, Hid (w.heap.size + 1 = z) := ⟨_, hide rfl⟩
  obtain ⟨gb, hgb⟩ : ∃ z, Hid (w.heap.size = z) := ⟨_, hide rfl⟩
  rw [hwp.out] at HR0 HB0 HG0 HTW ⊢
  rw [hgr.out] at HG0 ⊢
  rw [hgb.out] at HB0 ⊢
  have HWP : Hid (w.heap.size ≤ wp.heap.size) := hide (by omega)
  have hgw0 : w.heap.size ≤ gr := by have := hgr.out; omega
  clear hsz hwp
  have HT0 : Hid (Turned (TkF ga gw) wp wp) := hide (Turned.refl _ _)
  have hat0 := hat
  obtain ⟨nm, hnm⟩ : ∃ z, (rtext s t).1 = z := ⟨_, rfl⟩
  obtain ⟨t1, ht1⟩ : ∃ z, (rtext s t).2 = z := ⟨_, rfl⟩
  have HC := hide (uopen2_calls HR0.out hs hat0)
  have hat1 := Rd.text.le s t hat0
  rw [hnm, ht1] at HC
  rw [ht1] at hat1
  refine HC.out.mono ?_
  rintro e w1 ⟨rfl, hr1, hT1⟩
  have HR1 := hide hr1
  have HT1 := hide (HT0.out.trans hT1 (fun x hx => .inl hx))
  have HB1 := hide (tk_blk hT1 HB0.out HR0.out.ba HR0.out.bw (by decide) (by decide))
  clear HC hr1 hT1
  have HR2 := hide (HR1.out.alloc (.cells #[.string nm, .int .i64 0, .int .i64 0, .slice none 0 0, .slice none 0 0, .slice none 0 0] 38))
  have HT2 := hide (HT1.out.alloc (.cells #[.string nm, .int .i64 0, .int .i64 0, .slice none 0 0, .slice none 0 0, .slice none 0 0] 38))
  have HB2 := hide (HB1.out.alloc (.cells #[.string nm, .int .i64 0, .int .i64 0, .slice none 0 0, .slice none 0 0, .slice none 0 0] 38))
  have HV2 := hide (Blk.new w1 38 #[.string nm, .int .i64 0, .int .i64 0, .slice none 0 0, .slice none 0 0, .slice none 0 0])
  have hleb : wp.heap.size ≤ w1.heap.size := HT1.out.size
  have hat2 := hat1
  have zb : (w1.alloc (.cells #[.string nm, .int .i64 0, .int .i64 0, .slice none 0 0, .slice none 0 0, .slice none 0 0] 38)).cell? ⟨gb, 0, none⟩ = some (.func (.func 61) #[] #[ptrW gs, ptrW ga, ptrW gw]) := HB2.out.cell 0
  go_wp2_with fail
  clear zb
  obtain ⟨w2, hw2⟩ : ∃ z, Hid (w1.alloc (.cells #[.string nm, .int .i64 0, .int .i64 0, .slice none 0 0, .slice none 0 0, .slice none 0 0] 38) = z) := ⟨_, hide rfl⟩
  obtain ⟨gp, hgp⟩ : ∃ z, Hid (w1.heap.size = z) := ⟨_, hide rfl⟩
  rw [hw2.out] at HR2 HT2 HB2 HV2 ⊢
  rw [hgp.out] at HV2 hleb ⊢
  clear hw2 hgp HR1 HT1 HB1 hat1
  obtain ⟨pa, hpa⟩ : ∃ z, (rnum s 1 t1).1 = z := ⟨_, rfl⟩
  obtain ⟨t2, ht2⟩ : ∃ z, (rnum s 1 t1).2 = z := ⟨_, rfl⟩
  have HC := hide (unum1 HR2.out hs hat2)
  have hat3 := (Rd.num 1).le s t1 hat2
  rw [hpa, ht2] at HC
  rw [ht2] at hat3
  refine HC.out.mono ?_
  rintro e w3 ⟨rfl, hr3, hT3⟩
  have HR3 := hide hr3
  have HT3 := hide (HT2.out.trans hT3 (fun x hx => .inl hx))
  have HB3 := hide (tk_blk hT3 HB2.out HR2.out.ba HR2.out.bw (by decide) (by decide))
  have HV3 := hide (tk_blk hT3 HV2.out HR2.out.ba HR2.out.bw (by decide) (by decide))
  clear HC hr3 hT3
  have q1 : w3.cell? ⟨gp, 1, none⟩ = some (.int .i64 0) := HV3.out.cell 1
  have q2 : w3.frozen? ⟨gp, 1, none⟩ = false := HV3.out.frozen 1
  have HV4 : Hid (Blk (w3.setCell ⟨gp, 1, none⟩ (.int .i64 pa)) gp 38 #[.string nm, .int .i64 pa, .int .i64 0, .slice none 0 0, .slice none 0 0, .slice none 0 0]) := hide (HV3.out.set_ 1 (.int .i64 pa))
  have HR4 : Hid (RdS w0 (w3.setCell ⟨gp, 1, none⟩ (.int .i64 pa)) gs ga gw gx s t2) := hide ⟨HR3.out.bel.setCell (p := ⟨gp, 1, none⟩) (Nat.le_trans HLE.out (Nat.le_trans HWP.out hleb)) _, HR3.out.bs.far (p := ⟨gp, 1, none⟩) (HR3.out.bs.ne_ HV3.out (by decide)) _, HR3.out.ba.far (p := ⟨gp, 1, none⟩) (HR3.out.ba.ne_ HV3.out (by decide)) _, HR3.out.bw.far (p := ⟨gp, 1, none⟩) (HR3.out.bw.ne_ HV3.out (by decide)) _, HR3.out.bx.far (p := ⟨gp, 1, none⟩) (HR3.out.bx.ne_ HV3.out (by decide)) _, HR3.out.lea, HR3.out.lew⟩
  have HT4 := hide (HT3.out.setCell (p := ⟨gp, 1, none⟩) (.inr hleb) (.int .i64 pa))
  have HB4 : Hid (Blk (w3.setCell ⟨gp, 1, none⟩ (.int .i64 pa)) gb 66 #[.func (.func 61) #[] #[ptrW gs, ptrW ga, ptrW gw], .func (.func 63) #[] #[ptrW gs, ptrW ga, ptrW gw], .func (.func 65) #[] #[ptrW gx, ptrW gw], .func (.func 66) #[] #[ptrW gw]]) := hide (HB3.out.far (p := ⟨gp, 1, none⟩) (HB3.out.ne_ HV3.out (by decide)) _)
  have hat4 := hat3
  have zb : (w3.setCell ⟨gp, 1, none⟩ (.int .i64 pa)).cell? ⟨gb, 0, none⟩ = some (.func (.func 61) #[] #[ptrW gs, ptrW ga, ptrW gw]) := HB4.out.cell 0
  go_wp2_with fail
  clear zb q1 q2
  obtain ⟨w4, hw4⟩ : ∃ z, Hid ((w3.setCell ⟨gp, 1, none⟩ (.int .i64 pa)) = z) := ⟨_, hide rfl⟩
  rw [hw4.out] at HR4 HT4 HB4 HV4 ⊢
  clear hw4 HR2 HT2 HB2 HV2 HR3 HT3 HB3 HV3
  obtain ⟨re, hre⟩ : ∃ z, (rnum s 1 t2).1 = z := ⟨_, rfl⟩
  obtain ⟨t3, ht3⟩ : ∃ z, (rnum s 1 t2).2 = z := ⟨_, rfl⟩
  have HC := hide (unum1 HR4.out hs hat4)
  have hat5 := (Rd.num 1).le s t2 hat4
  rw [hre, ht3] at HC
  rw [ht3] at hat5
  refine HC.out.mono ?_
  rintro e w5 ⟨rfl, hr5, hT5⟩
  have HR5 := hide hr5
  have HT5 := hide (HT4.out.trans hT5 (fun x hx => .inl hx))
  have HB5 := hide (tk_blk hT5 HB4.out HR4.out.ba HR4.out.bw (by decide) (by decide))
  have HV5 := hide (tk_blk hT5 HV4.out HR4.out.ba HR4.out.bw (by decide) (by decide))
  clear HC hr5 hT5
  have q1 : w5.cell? ⟨gp, 2, none⟩ = some (.int .i64 0) := HV5.out.cell 2
  have q2 : w5.frozen? ⟨gp, 2, none⟩ = false := HV5.out.frozen 2
  have HV6 : Hid (Blk (w5.setCell ⟨gp, 2, none⟩ (.int .i64 re)) gp 38 #[.string nm, .int .i64 pa, .int .i64 re, .slice none 0 0, .slice none 0 0, .slice none 0 0]) := hide (HV5.out.set_ 2 (.int .i64 re))
  have HR6 : Hid (RdS w0 (w5.setCell ⟨gp, 2, none⟩ (.int .i64 re)) gs ga gw gx s t3) := hide ⟨HR5.out.bel.setCell (p := ⟨gp, 2, none⟩) (Nat.le_trans HLE.out (Nat.le_trans HWP.out hleb)) _, HR5.out.bs.far (p := ⟨gp, 2, none⟩) (HR5.out.bs.ne_ HV5.out (by decide)) _, HR5.out.ba.far (p := ⟨gp, 2, none⟩) (HR5.out.ba.ne_ HV5.out (by decide)) _, HR5.out.bw.far (p := ⟨gp, 2, none⟩) (HR5.out.bw.ne_ HV5.out (by decide)) _, HR5.out.bx.far (p := ⟨gp, 2, none⟩) (HR5.out.bx.ne_ HV5.out (by decide)) _, HR5.out.lea, HR5.out.lew⟩
  have HT6 := hide (HT5.out.setCell (p := ⟨gp, 2, none⟩) (.inr hleb) (.int .i64 re))
  have HB6 : Hid (Blk (w5.setCell ⟨gp, 2, none⟩ (.int .i64 re)) gb 66 #[.func (.func 61) #[] #[ptrW gs, ptrW ga, ptrW gw], .func (.func 63) #[] #[ptrW gs, ptrW ga, ptrW gw], .func (.func 65) #[] #[ptrW gx, ptrW gw], .func (.func 66) #[] #[ptrW gw]]) := hide (HB5.out.far (p := ⟨gp, 2, none⟩) (HB5.out.ne_ HV5.out (by decide)) _)
  have hat6 := hat5
  have zb : (w5.setCell ⟨gp, 2, none⟩ (.int .i64 re)).cell? ⟨gb, 2, none⟩ = some (.func (.func 65) #[] #[ptrW gx, ptrW gw]) := HB6.out.cell 2
  go_wp2_with fail
  clear zb q1 q2
  obtain ⟨w6, hw6⟩ : ∃ z, Hid ((w5.setCell ⟨gp, 2, none⟩ (.int .i64 re)) = z) := ⟨_, hide rfl⟩
  rw [hw6.out] at HR6 HT6 HB6 HV6 ⊢
  clear hw6 HR4 HT4 HB4 HV4 HR5 HT5 HB5 HV5
  have P6 : Hid (PrI w0 wp w6 gs ga gw gx gb gp s t3 nm pa re (.slice none 0 0) (.slice none 0 0) (.slice none 0 0) [] [] []) := hide ⟨HR6.out, hat6, Nat.le_trans HLE.out HWP.out, HT6.out, HB6.out, HV6.out, hleb, row_nil _ _ _, own_nilv _, row_nil _ _ _, own_nilv _, row_nil _ _ _, own_nilv _⟩
  clear HR6 HT6 HB6 HV6
  have HC6 := hide (uopen3_calls hs (rcap s) 67 #[ptrW gb, ptrW gp] (fun w => by kernel_rfl) (fun w t l => ∃ v', PrI w0 wp w gs ga gw gx gb gp s t nm pa re (.slice none 0 0) (.slice none 0 0) v' [] [] l) (fun w t l ⟨v', h⟩ => ⟨h.rd, h.at_⟩) (fun w w' t t' l ⟨v', h⟩ hr ha hT => ⟨v', h.turn hr ha hT⟩) (fun w t l2 _ hl ⟨v', h⟩ => usproto1_calls h hs (by simp only [List.length_nil] at hl; omega)) (w := w6) (t := t3) (l := []) ⟨_, P6.out⟩)
  obtain ⟨cps, hcps⟩ : ∃ z, (rlists s (rcap s) t3).1 = z := ⟨_, rfl⟩
  obtain ⟨t4, ht4⟩ : ∃ z, (rlists s (rcap s) t3).2 = z := ⟨_, rfl⟩
  rw [hcps, ht4, List.nil_append] at HC6
  refine HC6.out.mono ?_
  rintro e w7 ⟨rfl, pv, hp7⟩
  have P7 := hide hp7
  clear HC6 hp7 P6
  have zb : w7.cell? ⟨gb, 2, none⟩ = some (.func (.func 65) #[] #[ptrW gx, ptrW gw]) := P7.out.bb.cell 2
  go_wp2_with fail
  clear zb
  have HC7 := hide (uopen3_calls hs (rcon s) 68 #[ptrW gb, ptrW gp] (fun w => by kernel_rfl) (fun w t l => ∃ v', PrI w0 wp w gs ga gw gx gb gp s t nm pa re (.slice none 0 0) v' pv [] l cps) (fun w t l ⟨v', h⟩ => ⟨h.rd, h.at_⟩) (fun w w' t t' l ⟨v', h⟩ hr ha hT => ⟨v', h.turn hr ha hT⟩) (fun w t l2 _ hl ⟨v', h⟩ => usproto2_calls h hs (by simp only [List.length_nil] at hl; omega)) (w := w7) (t := t4) (l := []) ⟨_, P7.out⟩)
  obtain ⟨cns, hcns⟩ : ∃ z, (rlists s (rcon s) t4).1 = z := ⟨_, rfl⟩
  obtain ⟨t5, ht5⟩ : ∃ z, (rlists s (rcon s) t4).2 = z := ⟨_, rfl⟩
  rw [hcns, ht5, List.nil_append] at HC7
  refine HC7.out.mono ?_
  rintro e w8 ⟨rfl, kv, hp8⟩
  have P8 := hide hp8
  clear HC7 hp8 P7
  have zb : w8.cell? ⟨gb, 2, none⟩ = some (.func (.func 65) #[] #[ptrW gx, ptrW gw]) := P8.out.bb.cell 2
  go_wp2_with fail
  clear zb
  have HC8 := hide (uopen3_calls hs (rins s) 69 #[ptrW gb, ptrW gp] (fun w => by kernel_rfl) (fun w t l => ∃ v', PrI w0 wp w gs ga gw gx gb gp s t nm pa re v' kv pv l cns cps) (fun w t l ⟨v', h⟩ => ⟨h.rd, h.at_⟩) (fun w w' t t' l ⟨v', h⟩ hr ha hT => ⟨v', h.turn hr ha hT⟩) (fun w t l2 _ hl ⟨v', h⟩ => usproto3_calls h hs (by simp only [List.length_nil] at hl; omega)) (w := w8) (t := t5) (l := []) ⟨_, P8.out⟩)
  obtain ⟨cde, hcde⟩ : ∃ z, (rlists s (rins s) t5).1 = z := ⟨_, rfl⟩
  obtain ⟨t6, ht6⟩ : ∃ z, (rlists s (rins s) t5).2 = z := ⟨_, rfl⟩
  rw [hcde, ht6, List.nil_append] at HC8
  refine HC8.out.mono ?_
  rintro e w9 ⟨rfl, cv, hp9⟩
  have P9 := hide hp9
  clear HC8 hp9 P8
  obtain ⟨cA, cc, rfl, _⟩ := row_slice P9.out.oc
  obtain ⟨kA, kc, rfl, _⟩ := row_slice P9.out.ok
  obtain ⟨pA, pc, rfl, _⟩ := row_slice P9.out.op
  have HPR0 := hnm
  have HPR : Hid (rproto s t = (⟨nm, pa, re, cde, cns, cps⟩, t6)) := hide (by unfold rproto; dsimp only; rw [hnm, ht1, hpa, ht2, hre, ht3, hcps, ht4, hcns, ht5, hcde, ht6])
  clear HPR0
  have HG9 := hide (tk_blk P9.out.tu HG0.out HR0.out.ba HR0.out.bw (by decide) (by decide))
  have hgrp : gp ≠ gr := by have := HG0.out.lt; omega
  have k0 : w9.cell? ⟨gp, 0, none⟩ = some (.string nm) := P9.out.bp.cell 0
  have k1 : w9.cell? ⟨gp, 1, none⟩ = some (.int .i64 pa) := P9.out.bp.cell 1
  have k2 : w9.cell? ⟨gp, 2, none⟩ = some (.int .i64 re) := P9.out.bp.cell 2
  have k3 : w9.cell? ⟨gp, 3, none⟩ = some (.slice cA cde.length cc) := P9.out.bp.cell 3
  have k4 : w9.cell? ⟨gp, 4, none⟩ = some (.slice kA cns.length kc) := P9.out.bp.cell 4
  have k5 : w9.cell? ⟨gp, 5, none⟩ = some (.slice pA cps.length pc) := P9.out.bp.cell 5
  go_wp2_with ((with_reducible show wpList _ _ _ (⟨none, Op.store 38 _ _, _, _, _, _⟩ :: _) _ _); refine wpList_store_row rfl _ _ _ rfl gr #[.string nm, .int .i64 pa, .int .i64 re, .slice cA cde.length cc, .slice kA cns.length kc, .slice pA cps.length pc] rfl rfl 38 _ HG9.out (by kernel_rfl) rfl (by kernel_rfl) ?_)
  refine ret_cell1 rfl rfl rfl (blk_row_same HG9.out #[.string nm, .int .i64 pa, .int .i64 re, .slice cA cde.length cc, .slice kA cns.length kc, .slice pA cps.length pc]) Try.underlying38 rfl (by kernel_rfl) ⟨⟨⟨nm, pa, re, cde, cns, cps⟩, cA, cc, kA, kc, pA, pc⟩, rfl, ?_, ?_, ?_, ?_⟩
  · rw [HPR.out]
  · rw [HPR.out]
    exact ⟨below_row P9.out.rd.bel (Nat.le_trans HLE.out hgw0) _, blk_row_far P9.out.rd.bs (P9.out.rd.bs.ne_ HG9.out (by decide)) _, blk_row_far P9.out.rd.ba (P9.out.rd.ba.ne_ HG9.out (by decide)) _, blk_row_far P9.out.rd.bw (P9.out.rd.bw.ne_ HG9.out (by decide)) _, blk_row_far P9.out.rd.bx (P9.out.rd.bx.ne_ HG9.out (by decide)) _, P9.out.rd.lea, P9.out.rd.lew⟩
  · exact turned_row (HTW.out.trans P9.out.tu (fun x hx => .inl hx)) (.inr hgw0) _
  · exact ⟨row_of P9.out.oc (fun g hg => setRow_other _ _ _ _ (fun e => row_blk_ne P9.out.oc HG9.out (by decide) (e ▸ hg))), fun g hg => Nat.le_trans HWP.out (P9.out.nc g hg), row_of P9.out.ok (fun g hg => setRow_other _ _ _ _ (fun e => row_blk_ne P9.out.ok HG9.out (by decide) (e ▸ hg))), fun g hg => Nat.le_trans HWP.out (P9.out.nk g hg), row_of P9.out.op (fun g hg => setRow_other _ _ _ _ (fun e => row_blk_ne P9.out.op HG9.out (by decide) (e ▸ hg))), fun g hg => Nat.le_trans HWP.out (P9.out.np g hg)⟩
end Go.Proofs.Ythgjmbcojbmlhaa
