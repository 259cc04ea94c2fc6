/- Chapter 5: entries held against one another; variables that hold an entry. -/
import Derived.Test.YtmbkncckcpgdgaaRingJ
import Derived.Laws.StructEq
import Derived.ChangeKeysEq
namespace Go.Proofs.Ytmbkncckcpgdgaa.Zb
open Go.RowKit
/-- a drawn region's held word may be made stronger in its midst -/
theorem wpAnyH_weak {P : Program} {md : Region.Mode} {ops : Array Oper} {Q : Exit → Act → World → Prop} {S S' : World → Prop} (hS : ∀ w, S' w → S w) : ∀ {fuel : Nat} {listed : Array Bool} {a : Act} {w : World}, wpAnyH P md ops Q S' fuel listed a w → wpAnyH P md ops Q S fuel listed a w
  | 0, _, _, _, h => h
  | _ + 1, _, _, _, h => ⟨h.1, fun i hi => wpOp_mono (fun _ w' h' => ⟨hS w' h'.1, wpAnyH_weak hS h'.2⟩) (h.2 i hi)⟩
end Go.Proofs.Ytmbkncckcpgdgaa.Zb
namespace Go.Proofs.Ytmbkncckcpgdgaa
open Go.RowKit Zb

set_option maxRecDepth 20000 in
theorem eqFields_ent {P : Program} (w : World) (d : Nat) (tI tS : TypeId) (hI : P.underlying tI = some (.int .i64)) (hS : P.underlying tS = some .string) (fs : List Field)
    (hf : fs.map (fun f => (f.name == "_", f.type, f.offset)) = [(false, tI, 0), (false, tI, 1), (false, tI, 2), (false, tI, 3), (false, tS, 4)]) (p q : EntM) :
    (Op.eqFields (d + 1) p.cells.toArray q.cells.toArray fs).run P w = .ok (decide (p = q)) w := by
  have pI : P.plainKey tI = true := by unfold Program.plainKey; rw [hI]
  have pS : P.plainKey tS = true := by unfold Program.plainKey; rw [hS]
  have hl : fs.length = 5 := by have := congrArg List.length hf; simpa using this
  match fs, hl, hf with
  | [a, b, c, e, f], _, hf =>
    simp only [List.map_cons, List.map_nil, List.cons.injEq, Prod.mk.injEq, and_true] at hf
    obtain ⟨⟨a0, a1, a2⟩, ⟨b0, b1, b2⟩, ⟨c0, c1, c2⟩, ⟨e0, e1, e2⟩, ⟨f0, f1, f2⟩⟩ := hf
    have step : ∀ (g : Field) (l : List Field) (t : TypeId) (k : Nat) (u v : Value) (r : Bool), (g.name == "_") = false → g.type = t → g.offset = k → P.plainKey t = true → p.cells.toArray[k]? = some u → q.cells.toArray[k]? = some v → (Op.equalIn (d + 1) t u v).run P w = .ok r w →
        (Op.eqFields (d + 1) p.cells.toArray q.cells.toArray (g :: l)).run P w = if r then (Op.eqFields (d + 1) p.cells.toArray q.cells.toArray l).run P w else .ok false w := by
      intro g l t k u v r h0 h1 h2 hp hu hv hr
      subst h1; subst h2
      have hn : g.name ≠ "_" := by simpa using h0
      simp only [Op.eqFields, if_pos hn, Sem.run_bind, run_part_plain w hp hu, run_part_plain w hp hv, Result.andThen_ok, hr, Sem.run_ite, Sem.run_pure]
      cases r <;> rfl
    rw [step a _ tI 0 _ _ _ a0 a1 a2 pI rfl rfl (run_equalIn_int w d tI .i64 .i64 _ _ hI), step b _ tI 1 _ _ _ b0 b1 b2 pI rfl rfl (run_equalIn_int w d tI .i64 .i64 _ _ hI), step c _ tI 2 _ _ _ c0 c1 c2 pI rfl rfl (run_equalIn_int w d tI .i64 .i64 _ _ hI), step e _ tI 3 _ _ _ e0 e1 e2 pI rfl rfl (run_equalIn_int w d tI .i64 .i64 _ _ hI), step f _ tS 4 _ _ _ f0 f1 f2 pS rfl rfl (run_equalIn_string w d tS _ _ hS)]
    simp only [Op.eqFields, Sem.run_pure]
    obtain ⟨k, n, s, z, u⟩ := p
    obtain ⟨k', n', s', z', u'⟩ := q
    have hu : (u == u') = decide (u = u') := by
      obtain ⟨⟨x⟩⟩ := u
      obtain ⟨⟨y⟩⟩ := u'
      show ((⟨x⟩ : Array UInt8) == ⟨y⟩) = _
      by_cases h : x = y <;> simp [h]
    simp only [← beq_toListBytes, EntM.mk.injEq, hu]
    clear hu
    by_cases h1 : k = k' <;> by_cases h2 : n = n' <;> by_cases h3 : s = s' <;> by_cases h4 : z = z' <;> by_cases h5 : u = u' <;> simp [h1, h2, h3, h4, h5]
set_option maxRecDepth 20000 in
theorem ent_eql {P : Program} (T tI tS : TypeId) (w : World) (hT : P.underlying T = some (.struct (P.fieldsOf T))) (hp : P.stoodInHeld T = false) (hI : P.underlying tI = some (.int .i64)) (hS : P.underlying tS = some .string)
    (hf : (P.fieldsOf T).toList.map (fun f => (f.name == "_", f.type, f.offset)) = [(false, tI, 0), (false, tI, 1), (false, tI, 2), (false, tI, 3), (false, tS, 4)]) (p q : EntM) :
    (binOp .eql T (.agg p.cells.toArray) (.agg q.cells.toArray)).run P w = .ok (.bool (decide (p = q))) w ∧ (binOp .neq T (.agg p.cells.toArray) (.agg q.cells.toArray)).run P w = .ok (.bool (!decide (p = q))) w := by
  rw [run_eql_struct, run_neq_struct, run_equalIn_agg w 9999 T _ _ hT hp, eqFields_ent w 9998 tI tS hI hS _ hf]
  exact ⟨rfl, rfl⟩
set_option maxRecDepth 20000 in
theorem ent_wp_eq {P : Program} (T tI tS : TypeId) {o : Oper} {a : Act} {w : World} {K : Act → World → Prop} {Q : Exit → Act → World → Prop} (hT : P.underlying T = some (.struct (P.fieldsOf T))) (hp : P.stoodInHeld T = false) (hm : P.eqGuardType P.depth T = false) (hI : P.underlying tI = some (.int .i64)) (hS : P.underlying tS = some .string)
    (hf : (P.fieldsOf T).toList.map (fun f => (f.name == "_", f.type, f.offset)) = [(false, tI, 0), (false, tI, 1), (false, tI, 2), (false, tI, 3), (false, tS, 4)]) {x y : Operand} {p q : EntM} (ho : o.op = .binOp .eql T x y T) (hx : a.eval x = .agg p.cells.toArray) (hy : a.eval y = .agg q.cells.toArray)
    (h : K (a.put o.dst (.bool (decide (p = q)))) w) : o.wp P a w K Q := by
  unfold Oper.wp execOp
  simp only [ho, hx, hy, Sem.run_bind, run_eqGuard_agg w _ T _ _ _ _ hm, Result.andThen_ok, (ent_eql T tI tS w hT hp hI hS hf p q).1, Sem.run_pure]
  exact h
set_option maxRecDepth 20000 in
theorem ent_wp_ne {P : Program} (T tI tS : TypeId) {o : Oper} {a : Act} {w : World} {K : Act → World → Prop} {Q : Exit → Act → World → Prop} (hT : P.underlying T = some (.struct (P.fieldsOf T))) (hp : P.stoodInHeld T = false) (hm : P.eqGuardType P.depth T = false) (hI : P.underlying tI = some (.int .i64)) (hS : P.underlying tS = some .string)
    (hf : (P.fieldsOf T).toList.map (fun f => (f.name == "_", f.type, f.offset)) = [(false, tI, 0), (false, tI, 1), (false, tI, 2), (false, tI, 3), (false, tS, 4)]) {x y : Operand} {p q : EntM} (ho : o.op = .binOp .neq T x y T) (hx : a.eval x = .agg p.cells.toArray) (hy : a.eval y = .agg q.cells.toArray)
    (h : K (a.put o.dst (.bool (!decide (p = q)))) w) : o.wp P a w K Q := by
  unfold Oper.wp execOp
  simp only [ho, hx, hy, Sem.run_bind, run_eqGuard_agg w _ T _ _ _ _ hm, Result.andThen_ok, (ent_eql T tI tS w hT hp hI hS hf p q).2, Sem.run_pure]
  exact h
set_option maxRecDepth 20000 in
theorem ent_eq_op {o : Oper} {a : Act} {w : World} {K : Act → World → Prop} {Q : Exit → Act → World → Prop} {x y : Operand} {p q : EntM} (ho : o.op = .binOp .eql 28 x y 28) (hx : a.eval x = .agg p.cells.toArray) (hy : a.eval y = .agg q.cells.toArray)
    (h : K (a.put o.dst (.bool (decide (p = q)))) w) : o.wp Try.prog a w K Q := ent_wp_eq 28 3 9 (by kernel_rfl) (by kernel_rfl) (by kernel_rfl) (by kernel_rfl) (by kernel_rfl) (by kernel_rfl) ho hx hy h
set_option maxRecDepth 20000 in
theorem ent_ne_op {o : Oper} {a : Act} {w : World} {K : Act → World → Prop} {Q : Exit → Act → World → Prop} {x y : Operand} {p q : EntM} (ho : o.op = .binOp .neq 28 x y 28) (hx : a.eval x = .agg p.cells.toArray) (hy : a.eval y = .agg q.cells.toArray)
    (h : K (a.put o.dst (.bool (!decide (p = q)))) w) : o.wp Try.prog a w K Q := ent_wp_ne 28 3 9 (by kernel_rfl) (by kernel_rfl) (by kernel_rfl) (by kernel_rfl) (by kernel_rfl) (by kernel_rfl) ho hx hy h
set_option maxRecDepth 20000 in
theorem rent_eq_op {o : Oper} {a : Act} {w : World} {K : Act → World → Prop} {Q : Exit → Act → World → Prop} {x y : Operand} {p q : EntM} (ho : o.op = .binOp .eql 23 x y 23) (hx : a.eval x = .agg p.cells.toArray) (hy : a.eval y = .agg q.cells.toArray)
    (h : K (a.put o.dst (.bool (decide (p = q)))) w) : o.wp Try.prog a w K Q := ent_wp_eq 23 3 9 (by kernel_rfl) (by kernel_rfl) (by kernel_rfl) (by kernel_rfl) (by kernel_rfl) (by kernel_rfl) ho hx hy h
set_option maxRecDepth 20000 in
theorem rent_ne_op {o : Oper} {a : Act} {w : World} {K : Act → World → Prop} {Q : Exit → Act → World → Prop} {x y : Operand} {p q : EntM} (ho : o.op = .binOp .neq 23 x y 23) (hx : a.eval x = .agg p.cells.toArray) (hy : a.eval y = .agg q.cells.toArray)
    (h : K (a.put o.dst (.bool (!decide (p = q)))) w) : o.wp Try.prog a w K Q := ent_wp_ne 23 3 9 (by kernel_rfl) (by kernel_rfl) (by kernel_rfl) (by kernel_rfl) (by kernel_rfl) (by kernel_rfl) ho hx hy h
set_option maxRecDepth 20000 in
theorem exec_load_row {P : Program} {o : Oper} {a : Act} {w : World} (ty : TypeId) (x : Operand) (ho : o.op = .load ty x)
    (g : Nat) (hx : a.eval x = .pointer (some ⟨g, 0, none⟩)) (t : TypeId) (cs : Array Value) (fr : Nat × Nat) (d : TypeDesc) (hg : w.heap[g]? = some (.cells cs t fr))
    (hu : P.underlying ty = some d) (hd : (match d with | .struct _ | .array _ _ => true | _ => false) = true) (hi : (P.info? ty).map (·.size) = some cs.size) :
    (execOp a.eval o).run P w = .ok (.value (.agg cs)) w := by
  unfold execOp
  simp only [ho, hx, Instr.loadAt, Instr.sureAddr, Sem.run_bind, Sem.run_pure, Result.andThen_ok, run_loadVar_row w g t ty cs fr d hg hu hd hi]
set_option maxRecDepth 20000 in
theorem exec_ent {P : Program} (T tI tS : TypeId) {o : Oper} {a : Act} {w : World} (hT : P.underlying T = some (.struct (P.fieldsOf T))) (hp : P.stoodInHeld T = false) (hm : P.eqGuardType P.depth T = false) (hI : P.underlying tI = some (.int .i64)) (hS : P.underlying tS = some .string)
    (hf : (P.fieldsOf T).toList.map (fun f => (f.name == "_", f.type, f.offset)) = [(false, tI, 0), (false, tI, 1), (false, tI, 2), (false, tI, 3), (false, tS, 4)]) {x y : Operand} {p q : EntM} (hx : a.eval x = .agg p.cells.toArray) (hy : a.eval y = .agg q.cells.toArray) :
    (o.op = .binOp .eql T x y T → (execOp a.eval o).run P w = .ok (.value (.bool (decide (p = q)))) w) ∧ (o.op = .binOp .neq T x y T → (execOp a.eval o).run P w = .ok (.value (.bool (!decide (p = q)))) w) := by
  constructor <;> intro ho <;> unfold execOp <;>
  simp only [ho, hx, hy, Sem.run_bind, run_eqGuard_agg w _ T _ _ _ _ hm, Result.andThen_ok, ent_eql T tI tS w hT hp hI hS hf p q, Sem.run_pure]
set_option maxRecDepth 20000 in
theorem exec_ent_eq {o : Oper} {a : Act} {w : World} {x y : Operand} {p q : EntM} (ho : o.op = .binOp .eql 28 x y 28) (hx : a.eval x = .agg p.cells.toArray) (hy : a.eval y = .agg q.cells.toArray) : (execOp a.eval o).run Try.prog w = .ok (.value (.bool (decide (p = q)))) w :=
  (exec_ent 28 3 9 (by kernel_rfl) (by kernel_rfl) (by kernel_rfl) (by kernel_rfl) (by kernel_rfl) (by kernel_rfl) hx hy).1 ho
set_option maxRecDepth 20000 in
theorem exec_rent_eq {o : Oper} {a : Act} {w : World} {x y : Operand} {p q : EntM} (ho : o.op = .binOp .eql 23 x y 23) (hx : a.eval x = .agg p.cells.toArray) (hy : a.eval y = .agg q.cells.toArray) : (execOp a.eval o).run Try.prog w = .ok (.value (.bool (decide (p = q)))) w :=
  (exec_ent 23 3 9 (by kernel_rfl) (by kernel_rfl) (by kernel_rfl) (by kernel_rfl) (by kernel_rfl) (by kernel_rfl) hx hy).1 ho
set_option maxRecDepth 20000 in
theorem exec_ent_ne {o : Oper} {a : Act} {w : World} {x y : Operand} {p q : EntM} (ho : o.op = .binOp .neq 28 x y 28) (hx : a.eval x = .agg p.cells.toArray) (hy : a.eval y = .agg q.cells.toArray) : (execOp a.eval o).run Try.prog w = .ok (.value (.bool (!decide (p = q)))) w :=
  (exec_ent 28 3 9 (by kernel_rfl) (by kernel_rfl) (by kernel_rfl) (by kernel_rfl) (by kernel_rfl) (by kernel_rfl) hx hy).2 ho
set_option maxRecDepth 20000 in
theorem exec_rent_ne {o : Oper} {a : Act} {w : World} {x y : Operand} {p q : EntM} (ho : o.op = .binOp .neq 23 x y 23) (hx : a.eval x = .agg p.cells.toArray) (hy : a.eval y = .agg q.cells.toArray) : (execOp a.eval o).run Try.prog w = .ok (.value (.bool (!decide (p = q)))) w :=
  (exec_ent 23 3 9 (by kernel_rfl) (by kernel_rfl) (by kernel_rfl) (by kernel_rfl) (by kernel_rfl) (by kernel_rfl) hx hy).2 ho
set_option maxRecDepth 20000 in
theorem wpList_want_wp {P : Program} {ops : Array Oper} {rest : List Oper} {o : Oper} {a : Act} {w : World} {Q : Exit → Act → World → Prop} {v : Value} (hw : Region.wanted o (yielded ops a.tmps) = true)
    (h : ∀ K : Act → World → Prop, K (a.put o.dst v) w → o.wp P a w K Q) (hr : wpList P ops Q rest (a.put o.dst v) w) : wpList P ops Q (o :: rest) a w :=
  BigFrame.wpList_want hw fun K hK => h K (hK _ _ hr)
set_option maxRecDepth 20000 in
theorem wpList_want_row {P : Program} {ops : Array Oper} {rest : List Oper} {o : Oper} {a : Act} {w : World} {Q : Exit → Act → World → Prop} (hw : Region.wanted o (yielded ops a.tmps) = true) (ty : TypeId) (x : Operand) (ho : o.op = .load ty x)
    (g : Nat) (hx : a.eval x = .pointer (some ⟨g, 0, none⟩)) (t : TypeId) (cs : Array Value) (fr : Nat × Nat) (d : TypeDesc) (hg : w.heap[g]? = some (.cells cs t fr))
    (hu : P.underlying ty = some d) (hd : (match d with | .struct _ | .array _ _ => true | _ => false) = true) (hi : (P.info? ty).map (·.size) = some cs.size)
    (h : wpList P ops Q rest (a.put o.dst (.agg cs)) w) : wpList P ops Q (o :: rest) a w :=
  BigFrame.wpList_want hw fun _ hK => wp_load_row ty x ho g hx t cs fr d hg hu hd hi (hK _ _ h)
def rvarW (w : World) (e : EntM) : World := (w.alloc (.cells #[.int .i64 0, .int .i64 0, .int .i64 0, .int .i64 0, .string ⟨#[]⟩] 23)).setRow w.heap.size e.cells.toArray
set_option maxRecDepth 20000 in
theorem rvarW_new (w : World) : Blk (w.alloc (.cells #[.int .i64 0, .int .i64 0, .int .i64 0, .int .i64 0, .string ⟨#[]⟩] 23)) w.heap.size 23 EntM.zero.cells.toArray := Blk.new w 23 _
set_option maxRecDepth 20000 in
theorem rvarW_blk (w : World) (e : EntM) : Blk (rvarW w e) w.heap.size 23 e.cells.toArray := setRow_heap _ _ _ _ _ _ (rvarW_new w)
set_option maxRecDepth 20000 in
theorem rvarW_below (w : World) (e : EntM) : Below w.heap.size w (rvarW w e) := below_setRow ((Below.refl _ _).alloc (Nat.le_refl _) _) (Nat.le_refl _) _
/-- `var x = e`: a block of an entry's own -/
def varW (w : World) (e : EntM) : World := (w.alloc (.cells #[.int .i64 0, .int .i64 0, .int .i64 0, .int .i64 0, .string ⟨#[]⟩] 28)).setRow w.heap.size e.cells.toArray
set_option maxRecDepth 20000 in
theorem varW_new (w : World) : Blk (w.alloc (.cells #[.int .i64 0, .int .i64 0, .int .i64 0, .int .i64 0, .string ⟨#[]⟩] 28)) w.heap.size 28 EntM.zero.cells.toArray := Blk.new w 28 _
set_option maxRecDepth 20000 in
theorem varW_blk (w : World) (e : EntM) : Blk (varW w e) w.heap.size 28 e.cells.toArray := setRow_heap _ _ _ _ _ _ (varW_new w)
set_option maxRecDepth 20000 in
theorem varW_below (w : World) (e : EntM) : Below w.heap.size w (varW w e) := below_setRow ((Below.refl _ _).alloc (Nat.le_refl _) _) (Nat.le_refl _) _
end Go.Proofs.Ytmbkncckcpgdgaa
