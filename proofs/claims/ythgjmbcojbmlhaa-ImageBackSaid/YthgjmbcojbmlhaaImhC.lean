/- Chapter 14: equality of the small structs; the document's protos, walked. -/
import Derived.Test.YthgjmbcojbmlhaaImhB
namespace Go.Proofs.Ythgjmbcojbmlhaa
open Go.RowKit Zb

set_option maxRecDepth 20000 in
theorem eq_step {P : Program} (w : World) (d : Nat) (cs ds : Array Value) (g : Field) (l : List Field) (t : TypeId) (k : Nat) (u v : Value) (r : Bool) (h0 : (g.name == "_") = false) (h1 : g.type = t) (h2 : g.offset = k) (hp : P.plainKey t = true) (hu : cs[k]? = some u) (hv : ds[k]? = some v) (hr : (Op.equalIn (d + 1) t u v).run P w = .ok r w) :
    (Op.eqFields (d + 1) cs ds (g :: l)).run P w = if r then (Op.eqFields (d + 1) cs ds l).run P w else .ok false w := by
  subst h1; subst h2
  have hn : g.name ≠ "_" := by simpa using h0
  simp only [Op.eqFields, if_pos hn, Sem.run_bind, run_part_plain w hp hu, run_part_plain w hp hv, Result.andThen_ok, hr, Sem.run_ite, Sem.run_pure]
  cases r <;> rfl
set_option maxRecDepth 20000 in
theorem beq_dec14 (u u' : ByteArray) : (u == u') = decide (u = u') := by
  obtain ⟨⟨x⟩⟩ := u
  obtain ⟨⟨y⟩⟩ := u'
  show ((⟨x⟩ : Array UInt8) == ⟨y⟩) = _
  by_cases h : x = y <;> simp [h]
set_option maxRecDepth 20000 in
theorem eqFields_cap {P : Program} (w : World) (d : Nat) (tB : TypeId) (tI : TypeId) (hB : P.underlying tB = some .bool) (hI : P.underlying tI = some (.int .i64)) (fs : List Field) (hf : fs.map (fun f => (f.name == "_", f.type, f.offset)) = [(false, tB, 0), (false, tI, 1)]) (p q : CapM) :
    (Op.eqFields (d + 1) p.cells.toArray q.cells.toArray fs).run P w = .ok (decide (p = q)) w := by
  have pB : P.plainKey tB = true := by unfold Program.plainKey; rw [hB]
  have pI : P.plainKey tI = true := by unfold Program.plainKey; rw [hI]
  have hl : fs.length = 2 := by have := congrArg List.length hf; simpa using this
  match fs, hl, hf with
  | [fa, fb], _, hf =>
    simp only [List.map_cons, List.map_nil, List.cons.injEq, Prod.mk.injEq, and_true] at hf
    obtain ⟨⟨fa0, fa1, fa2⟩, ⟨fb0, fb1, fb2⟩⟩ := hf
    rw [eq_step w d _ _ fa _ tB 0 _ _ _ fa0 fa1 fa2 pB rfl rfl (run_equalIn_bool' w d tB _ _ hB), eq_step w d _ _ fb _ tI 1 _ _ _ fb0 fb1 fb2 pI rfl rfl (run_equalIn_int w d tI .i64 .i64 _ _ hI)]
    simp only [Op.eqFields, Sem.run_pure]
    obtain ⟨x0, x1⟩ := p
    obtain ⟨y0, y1⟩ := q
    simp only [CapM.mk.injEq]
    by_cases h0 : x0 = y0 <;> by_cases h1 : x1 = y1 <;> simp [h0, h1]
set_option maxRecDepth 20000 in
theorem cap_eql {P : Program} (T : TypeId) (w : World) (hT : P.underlying T = some (.struct (P.fieldsOf T))) (hp : P.stoodInHeld T = false) (tB : TypeId) (tI : TypeId) (hB : P.underlying tB = some .bool) (hI : P.underlying tI = some (.int .i64)) (hf : (P.fieldsOf T).toList.map (fun f => (f.name == "_", f.type, f.offset)) = [(false, tB, 0), (false, tI, 1)]) (p q : CapM) :
    (binOp .neq T (.agg p.cells.toArray) (.agg q.cells.toArray)).run P w = .ok (.bool (!decide (p = q))) w := by
  rw [run_neq_struct, run_equalIn_agg w 9999 T _ _ hT hp, eqFields_cap w 9998 tB tI hB hI _ hf]
  rfl
set_option maxRecDepth 20000 in
theorem exec_cap_ne {o : Oper} {a : Act} {w : World} {x y : Operand} {p q : CapM} (ho : o.op = .binOp .neq 75 x y 75) (hx : a.eval x = .agg p.cells.toArray) (hy : a.eval y = .agg q.cells.toArray) : (execOp a.eval o).run Try.prog w = .ok (.value (.bool (!decide (p = q)))) w := by
  unfold execOp
  simp only [ho, hx, hy, Sem.run_bind, run_eqGuard_agg w _ 75 _ _ _ _ (show Try.prog.eqGuardType Try.prog.depth 75 = false by kernel_rfl), Result.andThen_ok, cap_eql (P := Try.prog) 75 w (by kernel_rfl) (by kernel_rfl) 4 3 (by kernel_rfl) (by kernel_rfl) (by kernel_rfl) p q, Sem.run_pure]
set_option maxRecDepth 20000 in
theorem eqFields_ins {P : Program} (w : World) (d : Nat) (tI : TypeId) (hI : P.underlying tI = some (.int .i64)) (fs : List Field) (hf : fs.map (fun f => (f.name == "_", f.type, f.offset)) = [(false, tI, 0), (false, tI, 1), (false, tI, 2), (false, tI, 3)]) (p q : InsM) :
    (Op.eqFields (d + 1) p.cells.toArray q.cells.toArray fs).run P w = .ok (decide (p = q)) w := by
  have pI : P.plainKey tI = true := by unfold Program.plainKey; rw [hI]
  have hl : fs.length = 4 := by have := congrArg List.length hf; simpa using this
  match fs, hl, hf with
  | [fa, fb, fc, fe], _, hf =>
    simp only [List.map_cons, List.map_nil, List.cons.injEq, Prod.mk.injEq, and_true] at hf
    obtain ⟨⟨fa0, fa1, fa2⟩, ⟨fb0, fb1, fb2⟩, ⟨fc0, fc1, fc2⟩, ⟨fe0, fe1, fe2⟩⟩ := hf
    rw [eq_step w d _ _ fa _ tI 0 _ _ _ fa0 fa1 fa2 pI rfl rfl (run_equalIn_int w d tI .i64 .i64 _ _ hI), eq_step w d _ _ fb _ tI 1 _ _ _ fb0 fb1 fb2 pI rfl rfl (run_equalIn_int w d tI .i64 .i64 _ _ hI), eq_step w d _ _ fc _ tI 2 _ _ _ fc0 fc1 fc2 pI rfl rfl (run_equalIn_int w d tI .i64 .i64 _ _ hI), eq_step w d _ _ fe _ tI 3 _ _ _ fe0 fe1 fe2 pI rfl rfl (run_equalIn_int w d tI .i64 .i64 _ _ hI)]
    simp only [Op.eqFields, Sem.run_pure]
    obtain ⟨x0, x1, x2, x3⟩ := p
    obtain ⟨y0, y1, y2, y3⟩ := q
    simp only [InsM.mk.injEq]
    by_cases h0 : x0 = y0 <;> by_cases h1 : x1 = y1 <;> by_cases h2 : x2 = y2 <;> by_cases h3 : x3 = y3 <;> simp [h0, h1, h2, h3]
set_option maxRecDepth 20000 in
theorem ins_eql {P : Program} (T : TypeId) (w : World) (hT : P.underlying T = some (.struct (P.fieldsOf T))) (hp : P.stoodInHeld T = false) (tI : TypeId) (hI : P.underlying tI = some (.int .i64)) (hf : (P.fieldsOf T).toList.map (fun f => (f.name == "_", f.type, f.offset)) = [(false, tI, 0), (false, tI, 1), (false, tI, 2), (false, tI, 3)]) (p q : InsM) :
    (binOp .neq T (.agg p.cells.toArray) (.agg q.cells.toArray)).run P w = .ok (.bool (!decide (p = q))) w := by
  rw [run_neq_struct, run_equalIn_agg w 9999 T _ _ hT hp, eqFields_ins w 9998 tI hI _ hf]
  rfl
set_option maxRecDepth 20000 in
theorem exec_ins_ne {o : Oper} {a : Act} {w : World} {x y : Operand} {p q : InsM} (ho : o.op = .binOp .neq 78 x y 78) (hx : a.eval x = .agg p.cells.toArray) (hy : a.eval y = .agg q.cells.toArray) : (execOp a.eval o).run Try.prog w = .ok (.value (.bool (!decide (p = q)))) w := by
  unfold execOp
  simp only [ho, hx, hy, Sem.run_bind, run_eqGuard_agg w _ 78 _ _ _ _ (show Try.prog.eqGuardType Try.prog.depth 78 = false by kernel_rfl), Result.andThen_ok, ins_eql (P := Try.prog) 78 w (by kernel_rfl) (by kernel_rfl) 3 (by kernel_rfl) (by kernel_rfl) p q, Sem.run_pure]
set_option maxRecDepth 20000 in
theorem eqFields_use {P : Program} (w : World) (d : Nat) (tI : TypeId) (tS : TypeId) (hI : P.underlying tI = some (.int .i64)) (hS : P.underlying tS = some .string) (fs : List Field) (hf : fs.map (fun f => (f.name == "_", f.type, f.offset)) = [(false, tS, 0), (false, tS, 1), (false, tI, 2)]) (p q : UseM) :
    (Op.eqFields (d + 1) p.cells.toArray q.cells.toArray fs).run P w = .ok (decide (p = q)) w := by
  have pI : P.plainKey tI = true := by unfold Program.plainKey; rw [hI]
  have pS : P.plainKey tS = true := by unfold Program.plainKey; rw [hS]
  have hl : fs.length = 3 := by have := congrArg List.length hf; simpa using this
  match fs, hl, hf with
  | [fa, fb, fc], _, hf =>
    simp only [List.map_cons, List.map_nil, List.cons.injEq, Prod.mk.injEq, and_true] at hf
    obtain ⟨⟨fa0, fa1, fa2⟩, ⟨fb0, fb1, fb2⟩, ⟨fc0, fc1, fc2⟩⟩ := hf
    rw [eq_step w d _ _ fa _ tS 0 _ _ _ fa0 fa1 fa2 pS rfl rfl (run_equalIn_string w d tS _ _ hS), eq_step w d _ _ fb _ tS 1 _ _ _ fb0 fb1 fb2 pS rfl rfl (run_equalIn_string w d tS _ _ hS), eq_step w d _ _ fc _ tI 2 _ _ _ fc0 fc1 fc2 pI rfl rfl (run_equalIn_int w d tI .i64 .i64 _ _ hI)]
    simp only [Op.eqFields, Sem.run_pure]
    obtain ⟨x0, x1, x2⟩ := p
    obtain ⟨y0, y1, y2⟩ := q
    simp only [← beq_toListBytes, beq_dec14, UseM.mk.injEq]
    by_cases h0 : x0 = y0 <;> by_cases h1 : x1 = y1 <;> by_cases h2 : x2 = y2 <;> simp [h0, h1, h2]
set_option maxRecDepth 20000 in
theorem use_eql {P : Program} (T : TypeId) (w : World) (hT : P.underlying T = some (.struct (P.fieldsOf T))) (hp : P.stoodInHeld T = false) (tI : TypeId) (tS : TypeId) (hI : P.underlying tI = some (.int .i64)) (hS : P.underlying tS = some .string) (hf : (P.fieldsOf T).toList.map (fun f => (f.name == "_", f.type, f.offset)) = [(false, tS, 0), (false, tS, 1), (false, tI, 2)]) (p q : UseM) :
    (binOp .neq T (.agg p.cells.toArray) (.agg q.cells.toArray)).run P w = .ok (.bool (!decide (p = q))) w := by
  rw [run_neq_struct, run_equalIn_agg w 9999 T _ _ hT hp, eqFields_use w 9998 tI tS hI hS _ hf]
  rfl
set_option maxRecDepth 20000 in
theorem exec_use_ne {o : Oper} {a : Act} {w : World} {x y : Operand} {p q : UseM} (ho : o.op = .binOp .neq 43 x y 43) (hx : a.eval x = .agg p.cells.toArray) (hy : a.eval y = .agg q.cells.toArray) : (execOp a.eval o).run Try.prog w = .ok (.value (.bool (!decide (p = q)))) w := by
  unfold execOp
  simp only [ho, hx, hy, Sem.run_bind, run_eqGuard_agg w _ 43 _ _ _ _ (show Try.prog.eqGuardType Try.prog.depth 43 = false by kernel_rfl), Result.andThen_ok, use_eql (P := Try.prog) 43 w (by kernel_rfl) (by kernel_rfl) 3 9 (by kernel_rfl) (by kernel_rfl) (by kernel_rfl) p q, Sem.run_pure]
set_option maxRecDepth 20000 in
theorem exec_val_ne {o : Oper} {a : Act} {w : World} {x y : Operand} {p q : ConM} (ho : o.op = .binOp .neq 45 x y 45) (hx : a.eval x = .agg p.cells.toArray) (hy : a.eval y = .agg q.cells.toArray) : (execOp a.eval o).run Try.prog w = .ok (.value (.bool (!decide (p = q)))) w := by
  unfold execOp
  simp only [ho, hx, hy, Sem.run_bind, run_eqGuard_agg w _ 45 _ _ _ _ (show Try.prog.eqGuardType Try.prog.depth 45 = false by kernel_rfl), Result.andThen_ok, (con_eql (P := Try.prog) 45 3 2 9 w (by kernel_rfl) (by kernel_rfl) (by kernel_rfl) (by kernel_rfl) (by kernel_rfl) (by kernel_rfl) p q).2, Sem.run_pure]
set_option maxRecDepth 20000 in
theorem ext14 {α : Type} {l m : List α} (hl : l.length = m.length) (h : ∀ j, j < l.length → l[j]? = m[j]?) : l = m := List.ext_getElem? fun j => by
  by_cases hj : j < l.length
  · exact h j hj
  · rw [List.getElem?_eq_none (by omega), List.getElem?_eq_none (by omega)]
set_option maxRecDepth 20000 in
set_option maxHeartbeats 8000000 in
theorem rugprotos_calls {w : World} (x y : ProtoV) (hx : x.Reads w) (hy : y.Reads w) (hs : ProtoS x.p) : Calls Try.prog 42 #[.agg #[.string x.p.name, .int .i64 x.p.params, .int .i64 x.p.regs, .slice x.cA x.p.code.length x.cc, .slice x.kA x.p.consts.length x.kc, .slice x.pA x.p.caps.length x.pc], .agg #[.string y.p.name, .int .i64 y.p.params, .int .i64 y.p.regs, .slice y.cA y.p.code.length y.cc, .slice y.kA y.p.consts.length y.kc, .slice y.pA y.p.caps.length y.pc]] w fun e w' => e = .returned (.bool (decide (x.p = y.p))) ∧ Below w.heap.size w w' := by
  obtain ⟨⟨xnm, xpa, xre, xcd, xks, xcs⟩, xcA, xcc, xkA, xkc, xpA, xpc⟩ := x
  obtain ⟨⟨ynm, ypa, yre, ycd, yks, ycs⟩, ycA, ycc, ykA, ykc, ypA, ypc⟩ := y
  dsimp only at *
  have HCX := hide (show ReadsRows 4 InsM.cells w xcA xcd from hx.code)
  have HKX := hide (show ReadsRows 3 ConM.cells w xkA xks from hx.consts)
  have HPX := hide (show ReadsRows 2 CapM.cells w xpA xcs from hx.caps)
  have HCY := hide (show ReadsRows 4 InsM.cells w ycA ycd from hy.code)
  have HKY := hide (show ReadsRows 3 ConM.cells w ykA yks from hy.consts)
  have HPY := hide (show ReadsRows 2 CapM.cells w ypA ycs from hy.caps)
  have l1 : xcd.length ≤ 100000000 := hs.code
  have l2 : xks.length ≤ 100000000 := hs.consts.1
  have l3 : xcs.length ≤ 100000000 := hs.caps.1
  obtain ⟨r, hr⟩ : ∃ r, decide ((⟨xnm, xpa, xre, xcd, xks, xcs⟩ : ProtoM) = ⟨ynm, ypa, yre, ycd, yks, ycs⟩) = r := ⟨_, rfl⟩
  rw [hr]
  have HE := hide hr
  clear hr hx hy hs
  simp only [ProtoM.mk.injEq] at HE
  by_cases c : xnm = ynm
  case neg =>
    have e : r = false := by rw [← HE.out]; exact decide_eq_false fun e => c (by simp [e])
    subst e
    have HB0 : Hid (Below w.heap.size w ((w.alloc (.cells #[.string xnm, .int .i64 xpa, .int .i64 xre, .slice xcA xcd.length xcc, .slice xkA xks.length xkc, .slice xpA xcs.length xpc] 38)).alloc (.cells #[.string ynm, .int .i64 ypa, .int .i64 yre, .slice ycA ycd.length ycc, .slice ykA yks.length ykc, .slice ypA ycs.length ypc] 38))) := hide (((Below.refl _ _).alloc (Nat.le_refl _) _).alloc (by simp) _)
    obtain ⟨n1, n2⟩ := lbytes_ne c
    go_enter Try.func42, Try.ntmps42
    go_wp2_with fail
    go_ret
    exact ⟨rfl, HB0.out⟩
  subst c
  by_cases c : xpa = ypa
  case neg =>
    have e : r = false := by rw [← HE.out]; exact decide_eq_false fun e => c (by simp [e])
    subst e
    have HB0 : Hid (Below w.heap.size w ((w.alloc (.cells #[.string xnm, .int .i64 xpa, .int .i64 xre, .slice xcA xcd.length xcc, .slice xkA xks.length xkc, .slice xpA xcs.length xpc] 38)).alloc (.cells #[.string xnm, .int .i64 ypa, .int .i64 yre, .slice ycA ycd.length ycc, .slice ykA yks.length ykc, .slice ypA ycs.length ypc] 38))) := hide (((Below.refl _ _).alloc (Nat.le_refl _) _).alloc (by simp) _)
    have c1 : (xpa == ypa) = false := by simpa using c
    have c2 : decide (xpa = ypa) = false := decide_eq_false c
    go_enter Try.func42, Try.ntmps42
    go_wp2_with fail
    go_ret
    exact ⟨rfl, HB0.out⟩
  subst c
  by_cases c : xre = yre
  case neg =>
    have e : r = false := by rw [← HE.out]; exact decide_eq_false fun e => c (by simp [e])
    subst e
    have HB0 : Hid (Below w.heap.size w ((w.alloc (.cells #[.string xnm, .int .i64 xpa, .int .i64 xre, .slice xcA xcd.length xcc, .slice xkA xks.length xkc, .slice xpA xcs.length xpc] 38)).alloc (.cells #[.string xnm, .int .i64 xpa, .int .i64 yre, .slice ycA ycd.length ycc, .slice ykA yks.length ykc, .slice ypA ycs.length ypc] 38))) := hide (((Below.refl _ _).alloc (Nat.le_refl _) _).alloc (by simp) _)
    have c1 : (xre == yre) = false := by simpa using c
    have c2 : decide (xre = yre) = false := decide_eq_false c
    go_enter Try.func42, Try.ntmps42
    go_wp2_with fail
    go_ret
    exact ⟨rfl, HB0.out⟩
  subst c
  by_cases ccs : xcs.length = ycs.length
  case neg =>
    have e : r = false := by rw [← HE.out]; exact decide_eq_false fun e => ccs (by simp [e])
    subst e
    have HB0 : Hid (Below w.heap.size w ((w.alloc (.cells #[.string xnm, .int .i64 xpa, .int .i64 xre, .slice xcA xcd.length xcc, .slice xkA xks.length xkc, .slice xpA xcs.length xpc] 38)).alloc (.cells #[.string xnm, .int .i64 xpa, .int .i64 xre, .slice ycA ycd.length ycc, .slice ykA yks.length ykc, .slice ypA ycs.length ypc] 38))) := hide (((Below.refl _ _).alloc (Nat.le_refl _) _).alloc (by simp) _)
    have c1 : ¬ (xcs.length : Int) = (ycs.length : Int) := by omega
    have c2 : decide (xcs.length = ycs.length) = false := decide_eq_false ccs
    go_enter Try.func42, Try.ntmps42
    go_wp2_with fail
    go_ret
    exact ⟨rfl, HB0.out⟩
  rw [← ccs]
  have HLcs := hide ccs
  clear ccs
  by_cases cks : xks.length = yks.length
  case neg =>
    have e : r = false := by rw [← HE.out]; exact decide_eq_false fun e => cks (by simp [e])
    subst e
    have HB0 : Hid (Below w.heap.size w ((w.alloc (.cells #[.string xnm, .int .i64 xpa, .int .i64 xre, .slice xcA xcd.length xcc, .slice xkA xks.length xkc, .slice xpA xcs.length xpc] 38)).alloc (.cells #[.string xnm, .int .i64 xpa, .int .i64 xre, .slice ycA ycd.length ycc, .slice ykA yks.length ykc, .slice ypA xcs.length ypc] 38))) := hide (((Below.refl _ _).alloc (Nat.le_refl _) _).alloc (by simp) _)
    have c1 : ¬ (xks.length : Int) = (yks.length : Int) := by omega
    have c2 : decide (xks.length = yks.length) = false := decide_eq_false cks
    go_enter Try.func42, Try.ntmps42
    go_wp2_with fail
    go_ret
    exact ⟨rfl, HB0.out⟩
  rw [← cks]
  have HLks := hide cks
  clear cks
  by_cases ccd : xcd.length = ycd.length
  case neg =>
    have e : r = false := by rw [← HE.out]; exact decide_eq_false fun e => ccd (by simp [e])
    subst e
    have HB0 : Hid (Below w.heap.size w ((w.alloc (.cells #[.string xnm, .int .i64 xpa, .int .i64 xre, .slice xcA xcd.length xcc, .slice xkA xks.length xkc, .slice xpA xcs.length xpc] 38)).alloc (.cells #[.string xnm, .int .i64 xpa, .int .i64 xre, .slice ycA ycd.length ycc, .slice ykA xks.length ykc, .slice ypA xcs.length ypc] 38))) := hide (((Below.refl _ _).alloc (Nat.le_refl _) _).alloc (by simp) _)
    have c1 : ¬ (xcd.length : Int) = (ycd.length : Int) := by omega
    have c2 : decide (xcd.length = ycd.length) = false := decide_eq_false ccd
    go_enter Try.func42, Try.ntmps42
    go_wp2_with fail
    go_ret
    exact ⟨rfl, HB0.out⟩
  rw [← ccd]
  have HLcd := hide ccd
  clear ccd
  have HB0 : Hid (Below w.heap.size w ((w.alloc (.cells #[.string xnm, .int .i64 xpa, .int .i64 xre, .slice xcA xcd.length xcc, .slice xkA xks.length xkc, .slice xpA xcs.length xpc] 38)).alloc (.cells #[.string xnm, .int .i64 xpa, .int .i64 xre, .slice ycA xcd.length ycc, .slice ykA xks.length ykc, .slice ypA xcs.length ypc] 38))) := hide (((Below.refl _ _).alloc (Nat.le_refl _) _).alloc (by simp) _)
  have HX0 : Hid (Blk ((w.alloc (.cells #[.string xnm, .int .i64 xpa, .int .i64 xre, .slice xcA xcd.length xcc, .slice xkA xks.length xkc, .slice xpA xcs.length xpc] 38)).alloc (.cells #[.string xnm, .int .i64 xpa, .int .i64 xre, .slice ycA xcd.length ycc, .slice ykA xks.length ykc, .slice ypA xcs.length ypc] 38)) w.heap.size 38 #[.string xnm, .int .i64 xpa, .int .i64 xre, .slice xcA xcd.length xcc, .slice xkA xks.length xkc, .slice xpA xcs.length xpc]) := hide ((Blk.new w 38 #[.string xnm, .int .i64 xpa, .int .i64 xre, .slice xcA xcd.length xcc, .slice xkA xks.length xkc, .slice xpA xcs.length xpc]).alloc _)
  have HY0 : Hid (Blk ((w.alloc (.cells #[.string xnm, .int .i64 xpa, .int .i64 xre, .slice xcA xcd.length xcc, .slice xkA xks.length xkc, .slice xpA xcs.length xpc] 38)).alloc (.cells #[.string xnm, .int .i64 xpa, .int .i64 xre, .slice ycA xcd.length ycc, .slice ykA xks.length ykc, .slice ypA xcs.length ypc] 38)) (w.heap.size + 1) 38 #[.string xnm, .int .i64 xpa, .int .i64 xre, .slice ycA xcd.length ycc, .slice ykA xks.length ykc, .slice ypA xcs.length ypc]) := hide (by have := Blk.new (w.alloc (.cells #[.string xnm, .int .i64 xpa, .int .i64 xre, .slice xcA xcd.length xcc, .slice xkA xks.length xkc, .slice xpA xcs.length xpc] 38)) 38 #[.string xnm, .int .i64 xpa, .int .i64 xre, .slice ycA xcd.length ycc, .slice ykA xks.length ykc, .slice ypA xcs.length ypc]; simpa using this)
  go_enter Try.func42, Try.ntmps42
  go_wp2_with fail
  generalize hgq : w.heap.size + 1 = gq at *
  clear hgq
  go_loopw [5] (fun i wr => ∃ k : Nat, k ≤ xcs.length ∧ i = .int .i64 (k : Int) ∧ Hid (Below w.heap.size w wr) ∧ Hid (Blk wr w.heap.size 38 #[.string xnm, .int .i64 xpa, .int .i64 xre, .slice xcA xcd.length xcc, .slice xkA xks.length xkc, .slice xpA xcs.length xpc]) ∧ Hid (Blk wr gq 38 #[.string xnm, .int .i64 xpa, .int .i64 xre, .slice ycA xcd.length ycc, .slice ykA xks.length ykc, .slice ypA xcs.length ypc]) ∧ Hid (∀ j, j < k → xcs[j]? = ycs[j]?)) (fun i _ => xcs.length - (intOf i).toNat)
  case atStart => exact ⟨0, by omega, rfl, HB0, HX0, HY0, hide (fun j hj => absurd hj (Nat.not_lt_zero _))⟩
  case round =>
    clear HB0 HX0 HY0
    obtain ⟨k, hk, rfl, HB, HX, HY, HD⟩ := hrel
    have s0 : wr.cell? ⟨w.heap.size, 5, none⟩ = some (.slice xpA xcs.length xpc) := HX.out.cell 5
    by_cases hlt : k < xcs.length
    case pos =>
      obtain ⟨p, hp⟩ : ∃ p, xcs[k]? = some p := ⟨_, List.getElem?_eq_getElem hlt⟩
      obtain ⟨q, hq⟩ : ∃ q, ycs[k]? = some q := ⟨_, List.getElem?_eq_getElem (by have := HLcs.out; omega)⟩
      have hkI : (k : Int) < (xcs.length : Int) := by omega
      have hk0 : (0 : Int) ≤ (k : Int) := by omega
      obtain ⟨ba, oa, hA, hal, hc⟩ := HPX.out k p hp
      obtain ⟨bb, ob, hB, hbl, hd⟩ := HPY.out k q hq
      have HC : Hid (∀ w1, Below w.heap.size w w1 → ∀ j u, (CapM.cells p)[j]? = some u → w1.cell? ⟨ba, oa + (k * 2 + j), none⟩ = some u) := hide fun w1 h j u hu => (h.cell (p := ⟨ba, oa + (k * 2 + j), none⟩) hal).trans (hc j u hu)
      have HF : Hid (∀ w1, Below w.heap.size w w1 → ∀ j u, (CapM.cells q)[j]? = some u → w1.cell? ⟨bb, ob + (k * 2 + j), none⟩ = some u) := hide fun w1 h j u hu => (h.cell (p := ⟨bb, ob + (k * 2 + j), none⟩) hbl).trans (hd j u hu)
      have HA := hide hA
      have HBq := hide hB
      clear hc hd hA hB hal hbl
      go_wp2_with fail
      refine wp_region_heads [0, 1, 2, 3, 4, 5, 6, 7, 8, 9] 1 (fun w' => Below w.heap.size w w' ∧ Blk w' w.heap.size 38 #[.string xnm, .int .i64 xpa, .int .i64 xre, .slice xcA xcd.length xcc, .slice xkA xks.length xkc, .slice xpA xcs.length xpc] ∧ Blk w' gq 38 #[.string xnm, .int .i64 xpa, .int .i64 xre, .slice ycA xcd.length ycc, .slice ykA xks.length ykc, .slice ypA xcs.length ypc]) (by kernel_rfl) rfl (by kernel_rfl) (by kernel_rfl) (fun _ _ d _ _ h => by cases d <;> exact h) ⟨HB.out.drew, HX.out, HY.out⟩ ?_
      iterate 10
        refine' Heads.step rfl (by rfl) ?_ ?_
        rotate_left
        · intro w' hSw
          obtain ⟨qb, qx, qy⟩ := hSw
          have r1 : w'.cell? ⟨w.heap.size, 5, none⟩ = some (.slice xpA xcs.length xpc) := qx.cell 5
          have r2 : w'.cell? ⟨gq, 5, none⟩ = some (.slice ypA xcs.length ypc) := qy.cell 5
          rw [HA.out] at r1
          rw [HBq.out] at r2
          have p0 : w'.cell? ⟨ba, oa + k * 2, none⟩ = some (.bool p.up) := HC.out w' qb 0 _ rfl
          have p1 : w'.cell? ⟨ba, oa + k * 2 + 1, none⟩ = some (.int .i64 p.index) := HC.out w' qb 1 _ rfl
          have q0 : w'.cell? ⟨bb, ob + k * 2, none⟩ = some (.bool q.up) := HF.out w' qb 0 _ rfl
          have q1 : w'.cell? ⟨bb, ob + k * 2 + 1, none⟩ = some (.int .i64 q.index) := HF.out w' qb 1 _ rfl
          go_simp
          try with_reducible rfl
        simp only [Act.put, List.setIfInBounds_toArray, List.set_cons_zero, List.set_cons_succ]
      refine Heads.done ?_
      refine wpAnyH_more [10] 0 rfl (by kernel_rfl) (by kernel_rfl) (fun _ _ d _ _ h => by cases d <;> exact h) ⟨HB.out.drew, HX.out, HY.out⟩ ?_
      refine' Heads.step rfl (by rfl) ?_ ?_
      rotate_left
      · intro w' hSw
        exact exec_cap_ne (p := p) (q := q) rfl rfl rfl
      simp only [Act.put, List.setIfInBounds_toArray, List.set_cons_zero, List.set_cons_succ]
      refine Heads.done ?_
      refine wpAnyH_done (by kernel_rfl) ?_ _
      by_cases hpq : p = q
      case neg =>
        have hd : decide (p = q) = false := by simp [hpq]
        have e : r = false := by rw [← HE.out]; exact decide_eq_false fun e => hpq (by rw [e.2.2.2.2.2, hq] at hp; exact (Option.some.inj hp).symm)
        subst e
        rw [hd]
        clear hd hpq
        go_wp2_with fail
        go_ret
        exact ⟨rfl, HB.out.drew⟩
      have hd : decide (p = q) = true := by simp [hpq]
      have HD2 : Hid (∀ j, j < k + 1 → xcs[j]? = ycs[j]?) := hide fun j hj => by
        by_cases h : j < k
        · exact HD.out j h
        · obtain rfl : j = k := by omega
          rw [hp, hq, hpq]
      rw [hd]
      clear hd hpq
      go_wp2_with fail
      refine ⟨⟨k + 1, by omega, by go_num, hide HB.out.drew, hide HX.out, hide HY.out, HD2⟩, ?_⟩
      simp [intOf]
      omega
    obtain rfl : k = xcs.length := by omega
    have Ecs := hide (ext14 HLcs.out HD.out)
    clear HD
    go_wp2_with fail
    clear s0 hlt hk
    have HB0 := HB
    have HX0 := HX
    have HY0 := HY
    clear HB HX HY
    go_loopw [6] (fun i wr => ∃ k : Nat, k ≤ xks.length ∧ i = .int .i64 (k : Int) ∧ Hid (Below w.heap.size w wr) ∧ Hid (Blk wr w.heap.size 38 #[.string xnm, .int .i64 xpa, .int .i64 xre, .slice xcA xcd.length xcc, .slice xkA xks.length xkc, .slice xpA xcs.length xpc]) ∧ Hid (Blk wr gq 38 #[.string xnm, .int .i64 xpa, .int .i64 xre, .slice ycA xcd.length ycc, .slice ykA xks.length ykc, .slice ypA xcs.length ypc]) ∧ Hid (∀ j, j < k → xks[j]? = yks[j]?)) (fun i _ => xks.length - (intOf i).toNat)
    case atStart => exact ⟨0, by omega, rfl, HB0, HX0, HY0, hide (fun j hj => absurd hj (Nat.not_lt_zero _))⟩
    case round =>
      clear HB0 HX0 HY0
      obtain ⟨k, hk, rfl, HB, HX, HY, HD⟩ := hrel
      have s0 : wr.cell? ⟨w.heap.size, 4, none⟩ = some (.slice xkA xks.length xkc) := HX.out.cell 4
      by_cases hlt : k < xks.length
      case pos =>
        obtain ⟨p, hp⟩ : ∃ p, xks[k]? = some p := ⟨_, List.getElem?_eq_getElem hlt⟩
        obtain ⟨q, hq⟩ : ∃ q, yks[k]? = some q := ⟨_, List.getElem?_eq_getElem (by have := HLks.out; omega)⟩
        have hkI : (k : Int) < (xks.length : Int) := by omega
        have hk0 : (0 : Int) ≤ (k : Int) := by omega
        obtain ⟨ba, oa, hA, hal, hc⟩ := HKX.out k p hp
        obtain ⟨bb, ob, hB, hbl, hd⟩ := HKY.out k q hq
        have HC : Hid (∀ w1, Below w.heap.size w w1 → ∀ j u, (ConM.cells p)[j]? = some u → w1.cell? ⟨ba, oa + (k * 3 + j), none⟩ = some u) := hide fun w1 h j u hu => (h.cell (p := ⟨ba, oa + (k * 3 + j), none⟩) hal).trans (hc j u hu)
        have HF : Hid (∀ w1, Below w.heap.size w w1 → ∀ j u, (ConM.cells q)[j]? = some u → w1.cell? ⟨bb, ob + (k * 3 + j), none⟩ = some u) := hide fun w1 h j u hu => (h.cell (p := ⟨bb, ob + (k * 3 + j), none⟩) hbl).trans (hd j u hu)
        have HA := hide hA
        have HBq := hide hB
        clear hc hd hA hB hal hbl
        go_wp2_with fail
        refine wp_region_heads [0, 1, 2, 3, 4, 5, 6, 7, 8, 9] 1 (fun w' => Below w.heap.size w w' ∧ Blk w' w.heap.size 38 #[.string xnm, .int .i64 xpa, .int .i64 xre, .slice xcA xcd.length xcc, .slice xkA xks.length xkc, .slice xpA xcs.length xpc] ∧ Blk w' gq 38 #[.string xnm, .int .i64 xpa, .int .i64 xre, .slice ycA xcd.length ycc, .slice ykA xks.length ykc, .slice ypA xcs.length ypc]) (by kernel_rfl) rfl (by kernel_rfl) (by kernel_rfl) (fun _ _ d _ _ h => by cases d <;> exact h) ⟨HB.out.drew, HX.out, HY.out⟩ ?_
        iterate 10
          refine' Heads.step rfl (by rfl) ?_ ?_
          rotate_left
          · intro w' hSw
            obtain ⟨qb, qx, qy⟩ := hSw
            have r1 : w'.cell? ⟨w.heap.size, 4, none⟩ = some (.slice xkA xks.length xkc) := qx.cell 4
            have r2 : w'.cell? ⟨gq, 4, none⟩ = some (.slice ykA xks.length ykc) := qy.cell 4
            rw [HA.out] at r1
            rw [HBq.out] at r2
            have p0 : w'.cell? ⟨ba, oa + k * 3, none⟩ = some (.int .i64 p.kind) := HC.out w' qb 0 _ rfl
            have p1 : w'.cell? ⟨ba, oa + k * 3 + 1, none⟩ = some (.int .i64 p.n) := HC.out w' qb 1 _ rfl
            have p2 : w'.cell? ⟨ba, oa + k * 3 + 2, none⟩ = some (.string p.s) := HC.out w' qb 2 _ rfl
            have q0 : w'.cell? ⟨bb, ob + k * 3, none⟩ = some (.int .i64 q.kind) := HF.out w' qb 0 _ rfl
            have q1 : w'.cell? ⟨bb, ob + k * 3 + 1, none⟩ = some (.int .i64 q.n) := HF.out w' qb 1 _ rfl
            have q2 : w'.cell? ⟨bb, ob + k * 3 + 2, none⟩ = some (.string q.s) := HF.out w' qb 2 _ rfl
            go_simp
            try with_reducible rfl
          simp only [Act.put, List.setIfInBounds_toArray, List.set_cons_zero, List.set_cons_succ]
        refine Heads.done ?_
        refine wpAnyH_more [10] 0 rfl (by kernel_rfl) (by kernel_rfl) (fun _ _ d _ _ h => by cases d <;> exact h) ⟨HB.out.drew, HX.out, HY.out⟩ ?_
        refine' Heads.step rfl (by rfl) ?_ ?_
        rotate_left
        · intro w' hSw
          exact exec_val_ne (p := p) (q := q) rfl rfl rfl
        simp only [Act.put, List.setIfInBounds_toArray, List.set_cons_zero, List.set_cons_succ]
        refine Heads.done ?_
        refine wpAnyH_done (by kernel_rfl) ?_ _
        by_cases hpq : p = q
        case neg =>
          have hd : decide (p = q) = false := by simp [hpq]
          have e : r = false := by rw [← HE.out]; exact decide_eq_false fun e => hpq (by rw [e.2.2.2.2.1, hq] at hp; exact (Option.some.inj hp).symm)
          subst e
          rw [hd]
          clear hd hpq
          go_wp2_with fail
          go_ret
          exact ⟨rfl, HB.out.drew⟩
        have hd : decide (p = q) = true := by simp [hpq]
        have HD2 : Hid (∀ j, j < k + 1 → xks[j]? = yks[j]?) := hide fun j hj => by
          by_cases h : j < k
          · exact HD.out j h
          · obtain rfl : j = k := by omega
            rw [hp, hq, hpq]
        rw [hd]
        clear hd hpq
        go_wp2_with fail
        refine ⟨⟨k + 1, by omega, by go_num, hide HB.out.drew, hide HX.out, hide HY.out, HD2⟩, ?_⟩
        simp [intOf]
        omega
      obtain rfl : k = xks.length := by omega
      have Eks := hide (ext14 HLks.out HD.out)
      clear HD
      go_wp2_with fail
      clear s0 hlt hk
      have HB0 := HB
      have HX0 := HX
      have HY0 := HY
      clear HB HX HY
      go_loopw [7] (fun i wr => ∃ k : Nat, k ≤ xcd.length ∧ i = .int .i64 (k : Int) ∧ Hid (Below w.heap.size w wr) ∧ Hid (Blk wr w.heap.size 38 #[.string xnm, .int .i64 xpa, .int .i64 xre, .slice xcA xcd.length xcc, .slice xkA xks.length xkc, .slice xpA xcs.length xpc]) ∧ Hid (Blk wr gq 38 #[.string xnm, .int .i64 xpa, .int .i64 xre, .slice ycA xcd.length ycc, .slice ykA xks.length ykc, .slice ypA xcs.length ypc]) ∧ Hid (∀ j, j < k → xcd[j]? = ycd[j]?)) (fun i _ => xcd.length - (intOf i).toNat)
      case atStart => exact ⟨0, by omega, rfl, HB0, HX0, HY0, hide (fun j hj => absurd hj (Nat.not_lt_zero _))⟩
      case round =>
        clear HB0 HX0 HY0
        obtain ⟨k, hk, rfl, HB, HX, HY, HD⟩ := hrel
        have s0 : wr.cell? ⟨w.heap.size, 3, none⟩ = some (.slice xcA xcd.length xcc) := HX.out.cell 3
        by_cases hlt : k < xcd.length
        case pos =>
          obtain ⟨p, hp⟩ : ∃ p, xcd[k]? = some p := ⟨_, List.getElem?_eq_getElem hlt⟩
          obtain ⟨q, hq⟩ : ∃ q, ycd[k]? = some q := ⟨_, List.getElem?_eq_getElem (by have := HLcd.out; omega)⟩
          have hkI : (k : Int) < (xcd.length : Int) := by omega
          have hk0 : (0 : Int) ≤ (k : Int) := by omega
          obtain ⟨ba, oa, hA, hal, hc⟩ := HCX.out k p hp
          obtain ⟨bb, ob, hB, hbl, hd⟩ := HCY.out k q hq
          have HC : Hid (∀ w1, Below w.heap.size w w1 → ∀ j u, (InsM.cells p)[j]? = some u → w1.cell? ⟨ba, oa + (k * 4 + j), none⟩ = some u) := hide fun w1 h j u hu => (h.cell (p := ⟨ba, oa + (k * 4 + j), none⟩) hal).trans (hc j u hu)
          have HF : Hid (∀ w1, Below w.heap.size w w1 → ∀ j u, (InsM.cells q)[j]? = some u → w1.cell? ⟨bb, ob + (k * 4 + j), none⟩ = some u) := hide fun w1 h j u hu => (h.cell (p := ⟨bb, ob + (k * 4 + j), none⟩) hbl).trans (hd j u hu)
          have HA := hide hA
          have HBq := hide hB
          clear hc hd hA hB hal hbl
          go_wp2_with fail
          refine wp_region_heads [0, 1, 2, 3, 4, 5, 6, 7, 8, 9] 1 (fun w' => Below w.heap.size w w' ∧ Blk w' w.heap.size 38 #[.string xnm, .int .i64 xpa, .int .i64 xre, .slice xcA xcd.length xcc, .slice xkA xks.length xkc, .slice xpA xcs.length xpc] ∧ Blk w' gq 38 #[.string xnm, .int .i64 xpa, .int .i64 xre, .slice ycA xcd.length ycc, .slice ykA xks.length ykc, .slice ypA xcs.length ypc]) (by kernel_rfl) rfl (by kernel_rfl) (by kernel_rfl) (fun _ _ d _ _ h => by cases d <;> exact h) ⟨HB.out.drew, HX.out, HY.out⟩ ?_
          iterate 10
            refine' Heads.step rfl (by rfl) ?_ ?_
            rotate_left
            · intro w' hSw
              obtain ⟨qb, qx, qy⟩ := hSw
              have r1 : w'.cell? ⟨w.heap.size, 3, none⟩ = some (.slice xcA xcd.length xcc) := qx.cell 3
              have r2 : w'.cell? ⟨gq, 3, none⟩ = some (.slice ycA xcd.length ycc) := qy.cell 3
              rw [HA.out] at r1
              rw [HBq.out] at r2
              have p0 : w'.cell? ⟨ba, oa + k * 4, none⟩ = some (.int .i64 p.op) := HC.out w' qb 0 _ rfl
              have p1 : w'.cell? ⟨ba, oa + k * 4 + 1, none⟩ = some (.int .i64 p.a) := HC.out w' qb 1 _ rfl
              have p2 : w'.cell? ⟨ba, oa + k * 4 + 2, none⟩ = some (.int .i64 p.b) := HC.out w' qb 2 _ rfl
              have p3 : w'.cell? ⟨ba, oa + k * 4 + 3, none⟩ = some (.int .i64 p.c) := HC.out w' qb 3 _ rfl
              have q0 : w'.cell? ⟨bb, ob + k * 4, none⟩ = some (.int .i64 q.op) := HF.out w' qb 0 _ rfl
              have q1 : w'.cell? ⟨bb, ob + k * 4 + 1, none⟩ = some (.int .i64 q.a) := HF.out w' qb 1 _ rfl
              have q2 : w'.cell? ⟨bb, ob + k * 4 + 2, none⟩ = some (.int .i64 q.b) := HF.out w' qb 2 _ rfl
              have q3 : w'.cell? ⟨bb, ob + k * 4 + 3, none⟩ = some (.int .i64 q.c) := HF.out w' qb 3 _ rfl
              go_simp
              try with_reducible rfl
            simp only [Act.put, List.setIfInBounds_toArray, List.set_cons_zero, List.set_cons_succ]
          refine Heads.done ?_
          refine wpAnyH_more [10] 0 rfl (by kernel_rfl) (by kernel_rfl) (fun _ _ d _ _ h => by cases d <;> exact h) ⟨HB.out.drew, HX.out, HY.out⟩ ?_
          refine' Heads.step rfl (by rfl) ?_ ?_
          rotate_left
          · intro w' hSw
            exact exec_ins_ne (p := p) (q := q) rfl rfl rfl
          simp only [Act.put, List.setIfInBounds_toArray, List.set_cons_zero, List.set_cons_succ]
          refine Heads.done ?_
          refine wpAnyH_done (by kernel_rfl) ?_ _
          by_cases hpq : p = q
          case neg =>
            have hd : decide (p = q) = false := by simp [hpq]
            have e : r = false := by rw [← HE.out]; exact decide_eq_false fun e => hpq (by rw [e.2.2.2.1, hq] at hp; exact (Option.some.inj hp).symm)
            subst e
            rw [hd]
            clear hd hpq
            go_wp2_with fail
            go_ret
            exact ⟨rfl, HB.out.drew⟩
          have hd : decide (p = q) = true := by simp [hpq]
          have HD2 : Hid (∀ j, j < k + 1 → xcd[j]? = ycd[j]?) := hide fun j hj => by
            by_cases h : j < k
            · exact HD.out j h
            · obtain rfl : j = k := by omega
              rw [hp, hq, hpq]
          rw [hd]
          clear hd hpq
          go_wp2_with fail
          refine ⟨⟨k + 1, by omega, by go_num, hide HB.out.drew, hide HX.out, hide HY.out, HD2⟩, ?_⟩
          simp [intOf]
          omega
        obtain rfl : k = xcd.length := by omega
        have Ecd := hide (ext14 HLcd.out HD.out)
        clear HD
        have e : r = true := by rw [← HE.out]; exact decide_eq_true ⟨by trivial, by trivial, by trivial, Ecd.out, Eks.out, Ecs.out⟩
        subst e
        go_wp2_with fail
        go_ret
        exact ⟨rfl, HB.out⟩
end Go.Proofs.Ythgjmbcojbmlhaa
