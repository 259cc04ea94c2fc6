/- Chapter 25: Light, Same, num of the document, walked. -/
import Derived.Test.YtkipmbnmmbeeaaaBunB
import Derived.Laws.StructEq
import Derived.ChangeKeysEq
namespace Go.Proofs.Ytkipmbnmmbeeaaa
open Go.RowKit Zb

set_option maxRecDepth 20000 in
theorem eqFields_part {P : Program} (w : World) (d : Nat) (tI tS : TypeId) (hI : P.underlying tI = some (.int .i64)) (hS : P.underlying tS = some .string) (fs : List Field)
    (hf : fs.map (fun f => (f.name == "_", f.type, f.offset)) = [(false, tS, 0), (false, tI, 1), (false, tS, 2), (false, tS, 3)]) (p q : PartM) :
    (Op.eqFields (d + 1) p.cells.toArray q.cells.toArray fs).run P w = .ok (decide (p = q)) w := by
  have pI : P.plainKey tI = true := by unfold Program.plainKey; rw [hI]
  have pS : P.plainKey tS = true := by unfold Program.plainKey; rw [hS]
  have hl : fs.length = 4 := by have := congrArg List.length hf; simpa using this
  match fs, hl, hf with
  | [a, b, c, e], _, hf =>
    simp only [List.map_cons, List.map_nil, List.cons.injEq, Prod.mk.injEq, and_true] at hf
    obtain ⟨⟨a0, a1, a2⟩, ⟨b0, b1, b2⟩, ⟨c0, c1, c2⟩, ⟨e0, e1, e2⟩⟩ := hf
    have step : ∀ (g : Field) (l : List Field) (t : TypeId) (k : Nat) (u v : Value) (r : Bool), (g.name == "_") = false → g.type = t → g.offset = k → P.plainKey t = true → p.cells.toArray[k]? = some u → q.cells.toArray[k]? = some v → (Op.equalIn (d + 1) t u v).run P w = .ok r w →
        (Op.eqFields (d + 1) p.cells.toArray q.cells.toArray (g :: l)).run P w = if r then (Op.eqFields (d + 1) p.cells.toArray q.cells.toArray l).run P w else .ok false w := by
      intro g l t k u v r h0 h1 h2 hp hu hv hr
      subst h1; subst h2
      have hn : g.name ≠ "_" := by simpa using h0
      simp only [Op.eqFields, if_pos hn, Sem.run_bind, run_part_plain w hp hu, run_part_plain w hp hv, Result.andThen_ok, hr, Sem.run_ite, Sem.run_pure]
      cases r <;> rfl
    rw [step a _ tS 0 _ _ _ a0 a1 a2 pS rfl rfl (run_equalIn_string w d tS _ _ hS), step b _ tI 1 _ _ _ b0 b1 b2 pI rfl rfl (run_equalIn_int w d tI .i64 .i64 _ _ hI), step c _ tS 2 _ _ _ c0 c1 c2 pS rfl rfl (run_equalIn_string w d tS _ _ hS), step e _ tS 3 _ _ _ e0 e1 e2 pS rfl rfl (run_equalIn_string w d tS _ _ hS)]
    simp only [Op.eqFields, Sem.run_pure]
    obtain ⟨n, v, t, s⟩ := p
    obtain ⟨n', v', t', s'⟩ := q
    have hu : ∀ u u' : ByteArray, (u == u') = decide (u = u') := fun u u' => by
      obtain ⟨⟨x⟩⟩ := u
      obtain ⟨⟨y⟩⟩ := u'
      show ((⟨x⟩ : Array UInt8) == ⟨y⟩) = _
      by_cases h : x = y <;> simp [h]
    simp only [← beq_toListBytes, PartM.mk.injEq, hu]
    clear hu
    by_cases h1 : n = n' <;> by_cases h2 : v = v' <;> by_cases h3 : t = t' <;> by_cases h4 : s = s' <;> simp [h1, h2, h3, h4]
set_option maxRecDepth 20000 in
theorem part_eql {P : Program} (T tI tS : TypeId) (w : World) (hT : P.underlying T = some (.struct (P.fieldsOf T))) (hp : P.stoodInHeld T = false) (hI : P.underlying tI = some (.int .i64)) (hS : P.underlying tS = some .string)
    (hf : (P.fieldsOf T).toList.map (fun f => (f.name == "_", f.type, f.offset)) = [(false, tS, 0), (false, tI, 1), (false, tS, 2), (false, tS, 3)]) (p q : PartM) :
    (binOp .eql T (.agg p.cells.toArray) (.agg q.cells.toArray)).run P w = .ok (.bool (decide (p = q))) w ∧ (binOp .neq T (.agg p.cells.toArray) (.agg q.cells.toArray)).run P w = .ok (.bool (!decide (p = q))) w := by
  rw [run_eql_struct, run_neq_struct, run_equalIn_agg w 9999 T _ _ hT hp, eqFields_part w 9998 tI tS hI hS _ hf]
  exact ⟨rfl, rfl⟩
set_option maxRecDepth 20000 in
theorem exec_part {P : Program} (T tI tS : TypeId) {o : Oper} {a : Act} {w : World} (hT : P.underlying T = some (.struct (P.fieldsOf T))) (hp : P.stoodInHeld T = false) (hm : P.eqGuardType P.depth T = false) (hI : P.underlying tI = some (.int .i64)) (hS : P.underlying tS = some .string)
    (hf : (P.fieldsOf T).toList.map (fun f => (f.name == "_", f.type, f.offset)) = [(false, tS, 0), (false, tI, 1), (false, tS, 2), (false, tS, 3)]) {x y : Operand} {p q : PartM} (hx : a.eval x = .agg p.cells.toArray) (hy : a.eval y = .agg q.cells.toArray) :
    o.op = .binOp .neq T x y T → (execOp a.eval o).run P w = .ok (.value (.bool (!decide (p = q)))) w := by
  intro ho; unfold execOp
  simp only [ho, hx, hy, Sem.run_bind, run_eqGuard_agg w _ T _ _ _ _ hm, Result.andThen_ok, part_eql T tI tS w hT hp hI hS hf p q, Sem.run_pure]
set_option maxRecDepth 20000 in
theorem exec_part_ne {o : Oper} {a : Act} {w : World} {x y : Operand} {p q : PartM} (ho : o.op = .binOp .neq 34 x y 34) (hx : a.eval x = .agg p.cells.toArray) (hy : a.eval y = .agg q.cells.toArray) : (execOp a.eval o).run Try.prog w = .ok (.value (.bool (!decide (p = q)))) w :=
  exec_part 34 3 9 (by kernel_rfl) (by kernel_rfl) (by kernel_rfl) (by kernel_rfl) (by kernel_rfl) (by kernel_rfl) hx hy ho
set_option maxRecDepth 20000 in
theorem same_drop {l m : List PartM} {k : Nat} {x y : PartM} (hx : l[k]? = some x) (hy : m[k]? = some y) : l.drop k = m.drop k ↔ x = y ∧ l.drop (k + 1) = m.drop (k + 1) := by
  have hk := (List.getElem?_eq_some_iff.1 hx)
  have hj := (List.getElem?_eq_some_iff.1 hy)
  rw [List.drop_eq_getElem_cons hk.1, List.drop_eq_getElem_cons hj.1, hk.2, hj.2, List.cons.injEq]
set_option maxRecDepth 20000 in
set_option maxHeartbeats 2000000 in
theorem rbSame_calls {w : World} {A B : Option Addr} {l m : List PartM} (cap cap' : Nat) (ha : ReadsRows 4 PartM.cells w A l) (hb : ReadsRows 4 PartM.cells w B m) (hl : l.length ≤ 1000000) : Calls Try.prog 17 #[.slice A l.length cap, .slice B m.length cap'] w fun e w' => e = .returned (.bool (decide (l = m))) ∧ Below w.heap.size w w' := by
  have HA := hide ha
  have HB := hide hb
  clear ha hb
  obtain ⟨r, hr⟩ : ∃ r, decide (l = m) = r := ⟨_, rfl⟩
  rw [hr]
  by_cases hlen : l.length = m.length
  case neg =>
    have e : r = false := by rw [← hr]; exact decide_eq_false fun e => hlen (by rw [e])
    subst e
    have hlI : ¬ (l.length : Int) = (m.length : Int) := by omega
    clear hr
    go_enter Try.func17, Try.ntmps17
    go_wp2_with fail
    go_ret
    exact ⟨rfl, Below.refl _ _⟩
  rw [← hlen]
  have HLEN := hide hlen
  have HR : Hid (decide (l.drop 0 = m.drop 0) = r) := hide hr
  clear hr hlen
  go_enter Try.func17, Try.ntmps17
  go_wp2_with fail
  go_loopw [5] (fun i wr => ∃ k : Nat, k ≤ l.length ∧ i = .int .i64 (k : Int) ∧ Hid (Below w.heap.size w wr) ∧ Hid (decide (l.drop k = m.drop k) = r)) (fun i _ => l.length - (intOf i).toNat)
  case atStart => exact ⟨0, by omega, rfl, hide (Below.refl _ _), HR⟩
  case round =>
    obtain ⟨k, hk, rfl, HW, HD⟩ := hrel
    by_cases hlt : k < l.length
    · obtain ⟨x, hx⟩ : ∃ x, l[k]? = some x := ⟨_, List.getElem?_eq_getElem hlt⟩
      obtain ⟨y, hy⟩ : ∃ y, m[k]? = some y := ⟨_, List.getElem?_eq_getElem (by rw [← HLEN.out]; exact hlt)⟩
      have HS := hide (same_drop hx hy)
      have hkI : (k : Int) < (l.length : Int) := by omega
      have hk0 : (0 : Int) ≤ (k : Int) := by omega
      obtain ⟨ba, oa, hA, hal, hc⟩ := HA.out.kept HW.out hx
      obtain ⟨bb, ob, hB, hbl, hd⟩ := HB.out.kept HW.out hy
      subst hA
      subst hB
      have x0 : wr.cell? ⟨ba, oa + k * 4, none⟩ = some (.string x.name) := hc 0 _ rfl
      have x1 : wr.cell? ⟨ba, oa + k * 4 + 1, none⟩ = some (.int .i64 x.version) := hc 1 _ rfl
      have x2 : wr.cell? ⟨ba, oa + k * 4 + 2, none⟩ = some (.string x.text) := hc 2 _ rfl
      have x3 : wr.cell? ⟨ba, oa + k * 4 + 3, none⟩ = some (.string x.state) := hc 3 _ rfl
      have y0 : wr.cell? ⟨bb, ob + k * 4, none⟩ = some (.string y.name) := hd 0 _ rfl
      have y1 : wr.cell? ⟨bb, ob + k * 4 + 1, none⟩ = some (.int .i64 y.version) := hd 1 _ rfl
      have y2 : wr.cell? ⟨bb, ob + k * 4 + 2, none⟩ = some (.string y.text) := hd 2 _ rfl
      have y3 : wr.cell? ⟨bb, ob + k * 4 + 3, none⟩ = some (.string y.state) := hd 3 _ rfl
      clear hc hd hx hy
      go_wp2_with fail
      refine wp_region_heads [0, 1, 2, 3, 4, 5, 6, 7] 1 (fun w' => w'.cell? ⟨ba, oa + k * 4, none⟩ = some (.string x.name) ∧ w'.cell? ⟨ba, oa + k * 4 + 1, none⟩ = some (.int .i64 x.version) ∧ w'.cell? ⟨ba, oa + k * 4 + 2, none⟩ = some (.string x.text) ∧ w'.cell? ⟨ba, oa + k * 4 + 3, none⟩ = some (.string x.state) ∧ w'.cell? ⟨bb, ob + k * 4, none⟩ = some (.string y.name) ∧ w'.cell? ⟨bb, ob + k * 4 + 1, none⟩ = some (.int .i64 y.version) ∧ w'.cell? ⟨bb, ob + k * 4 + 2, none⟩ = some (.string y.text) ∧ w'.cell? ⟨bb, ob + k * 4 + 3, none⟩ = some (.string y.state)) (by kernel_rfl) rfl (by kernel_rfl) (by kernel_rfl) (fun _ _ d _ _ h => by cases d <;> exact h) ⟨x0, x1, x2, x3, y0, y1, y2, y3⟩ ?_
      iterate 8
        refine' Heads.step rfl (by rfl) ?_ ?_
        rotate_left
        · intro w' hSw
          obtain ⟨q0, q1, q2, q3, q4, q5, q6, q7⟩ := hSw
          go_simp
          try with_reducible rfl
        simp only [Act.put, List.setIfInBounds_toArray, List.set_cons_zero, List.set_cons_succ]
      refine Heads.done ?_
      refine wpAnyH_more [8] 0 rfl (by kernel_rfl) (by kernel_rfl) (fun _ _ d _ _ h => by cases d <;> exact h) ⟨x0, x1, x2, x3, y0, y1, y2, y3⟩ ?_
      refine' Heads.step rfl (by rfl) ?_ ?_
      rotate_left
      · intro w' hSw
        exact exec_part_ne (p := x) (q := y) rfl rfl rfl
      simp only [Act.put, List.setIfInBounds_toArray, List.set_cons_zero, List.set_cons_succ]
      refine Heads.done ?_
      refine wpAnyH_done (by kernel_rfl) ?_ _
      by_cases hye : x = y
      · have hd : decide (x = y) = true := by simp [hye]
        have HD2 : Hid (decide (l.drop (k + 1) = m.drop (k + 1)) = r) := hide (by
          rw [← HD.out, decide_eq_decide, HS.out]
          simp [hye])
        rw [hd]
        clear hd hye
        go_wp2_with fail
        refine ⟨⟨k + 1, by omega, by go_num, hide HW.out.drew, HD2⟩, ?_⟩
        simp [intOf]
        omega
      · have hd : decide (x = y) = false := by simp [hye]
        have e : r = false := by
          rw [← HD.out]
          refine decide_eq_false fun e => hye ?_
          exact (HS.out.1 e).1
        subst e
        rw [hd]
        clear hd hye
        go_wp2_with fail
        go_ret
        exact ⟨rfl, HW.out.drew⟩
    · obtain rfl : k = l.length := by omega
      have e : r = true := by
        rw [← HD.out, List.drop_length, HLEN.out, List.drop_length]
        simp
      subst e
      go_wp2_with fail
      go_ret
      exact ⟨rfl, HW.out⟩
set_option maxRecDepth 20000 in
theorem light_drop {l : List PartM} {k : Nat} {x : PartM} (hx : l[k]? = some x) : (l.drop k).all liteP = (liteP x && (l.drop (k + 1)).all liteP) := by
  have hk := (List.getElem?_eq_some_iff.1 hx)
  rw [List.drop_eq_getElem_cons hk.1, hk.2, List.all_cons]
set_option maxRecDepth 20000 in
set_option maxHeartbeats 2000000 in
theorem rbLight_calls {w : World} {A : Option Addr} {l : List PartM} (cap : Nat) (ha : ReadsRows 4 PartM.cells w A l) : Calls Try.prog 8 #[.slice A l.length cap] w fun e w' => e = .returned (.bool (lightM l)) ∧ w' = w := by
  have HA := hide ha
  clear ha
  obtain ⟨r, hr⟩ : ∃ r, lightM l = r := ⟨_, rfl⟩
  rw [hr]
  by_cases hlen : (20 : Int) < (l.length : Int)
  · have e : r = false := by rw [← hr]; unfold lightM; rw [decide_eq_false (by omega)]; rfl
    subst e
    clear hr
    go_enter Try.func8, Try.ntmps8
    go_wp2_with fail
    go_ret
    exact ⟨rfl, rfl⟩
  have HR : Hid ((l.drop 0).all liteP = r) := hide (by rw [← hr]; unfold lightM; rw [decide_eq_true (by omega), List.drop_zero]; rfl)
  have hlenb := decide_eq_false hlen
  clear hr
  go_enter Try.func8, Try.ntmps8
  go_wp2_with fail
  go_loopw [3] (fun i wr => ∃ k : Nat, k ≤ l.length ∧ i = .int .i64 (k : Int) ∧ wr = w ∧ Hid ((l.drop k).all liteP = r)) (fun i _ => l.length - (intOf i).toNat)
  case atStart => exact ⟨0, by omega, rfl, rfl, HR⟩
  case round =>
    obtain ⟨k, hk, rfl, rfl, HD⟩ := hrel
    by_cases hlt : k < l.length
    · obtain ⟨x, hx⟩ : ∃ x, l[k]? = some x := ⟨_, List.getElem?_eq_getElem hlt⟩
      have HS := hide (light_drop hx)
      have hkI : (k : Int) < (l.length : Int) := by omega
      have hk0 : (0 : Int) ≤ (k : Int) := by omega
      obtain ⟨ba, oa, hA, hal, hc⟩ := HA.out.kept (Below.refl _ _) hx
      subst hA
      have x0 : wr.cell? ⟨ba, oa + k * 4, none⟩ = some (.string x.name) := hc 0 _ rfl
      have x2 : wr.cell? ⟨ba, oa + k * 4 + 2, none⟩ = some (.string x.text) := hc 2 _ rfl
      have x3 : wr.cell? ⟨ba, oa + k * 4 + 3, none⟩ = some (.string x.state) := hc 3 _ rfl
      have HP : Hid (liteP x = (decide (x.name.size ≤ 100) && decide (x.text.size ≤ 9000) && decide (x.state.size ≤ 5000))) := hide rfl
      clear hc hx
      by_cases g1 : (100 : Int) < (x.name.size : Int)
      · have e : r = false := by rw [← HD.out, HS.out, HP.out, decide_eq_false (by omega : ¬ x.name.size ≤ 100)]; rfl
        subst e
        go_wp2_with fail
        go_ret
        exact ⟨rfl, rfl⟩
      have g1b := decide_eq_false g1
      by_cases g2 : (9000 : Int) < (x.text.size : Int)
      · have e : r = false := by rw [← HD.out, HS.out, HP.out, decide_eq_false (by omega : ¬ x.text.size ≤ 9000)]; simp
        subst e
        go_wp2_with fail
        go_ret
        exact ⟨rfl, rfl⟩
      have g2b := decide_eq_false g2
      by_cases g3 : (5000 : Int) < (x.state.size : Int)
      · have e : r = false := by rw [← HD.out, HS.out, HP.out, decide_eq_false (by omega : ¬ x.state.size ≤ 5000)]; simp
        subst e
        go_wp2_with fail
        go_ret
        exact ⟨rfl, rfl⟩
      have g3b := decide_eq_false g3
      have HD2 : Hid ((l.drop (k + 1)).all liteP = r) := hide (by
        rw [← HD.out, HS.out, HP.out, decide_eq_true (by omega : x.name.size ≤ 100), decide_eq_true (by omega : x.text.size ≤ 9000), decide_eq_true (by omega : x.state.size ≤ 5000)]
        rfl)
      go_wp2_with fail
      refine ⟨⟨k + 1, by omega, by go_num, by trivial, HD2⟩, ?_⟩
      simp [intOf]
      omega
    · obtain rfl : k = l.length := by omega
      have e : r = true := by
        rw [← HD.out, List.drop_length]
        rfl
      subst e
      go_wp2_with fail
      go_ret
      exact ⟨rfl, rfl⟩
end Go.Proofs.Ytkipmbnmmbeeaaa
