/- Chapter 14: plain, headed, shaped, walked; a proto in memory. -/
import Derived.Test.YthgjmbcojbmlhaaImgA
namespace Go.Proofs.Ythgjmbcojbmlhaa
open Go.RowKit Zb

/-- a proto as a value: its lists lie in rows -/
structure ProtoV where
  p : ProtoM
  cA : Option Addr
  cc : Nat
  kA : Option Addr
  kc : Nat
  pA : Option Addr
  pc : Nat
def ProtoV.cells (v : ProtoV) : List Value := [.string v.p.name, .int .i64 v.p.params, .int .i64 v.p.regs, .slice v.cA v.p.code.length v.cc, .slice v.kA v.p.consts.length v.kc, .slice v.pA v.p.caps.length v.pc]
structure ProtoV.Reads (w : World) (v : ProtoV) : Prop where
  code : ReadsRows 4 InsM.cells w v.cA v.p.code
  consts : ReadsRows 3 ConM.cells w v.kA v.p.consts
  caps : ReadsRows 2 CapM.cells w v.pA v.p.caps
set_option maxRecDepth 20000 in
theorem ProtoV.Reads.below {w w' : World} {v : ProtoV} (h : v.Reads w) (hb : Below w.heap.size w w') : v.Reads w' := ⟨h.code.below hb, h.consts.below hb, h.caps.below hb⟩
/-- a proto that can be gone through -/
structure ProtoS (p : ProtoM) : Prop where
  name : p.name.size ≤ 100000000
  code : p.code.length ≤ 100000000
  consts : p.consts.length ≤ 100000000 ∧ ∀ v ∈ p.consts, v.s.size ≤ 100000000 ∧ ConR v ∧ -9223372036854775808 ≤ v.kind ∧ v.kind < 9223372036854775808
  caps : p.caps.length ≤ 100000000 ∧ ∀ c ∈ p.caps, -9223372036854775808 ≤ c.index ∧ c.index < 9223372036854775808
  params : -9223372036854775808 ≤ p.params ∧ p.params < 9223372036854775808
  regs : -9223372036854775808 ≤ p.regs ∧ p.regs < 9223372036854775808

set_option maxRecDepth 20000 in
theorem isEmpty_ne {s : ByteArray} (h : s ≠ ⟨#[]⟩) : s.toList.isEmpty = false := by
  rw [ByteArray.toList_eq]
  cases hl : s.data.toList with
  | nil => exact absurd (ByteArray.ext (Array.toList_inj.1 hl)) h
  | cons _ _ => rfl
set_option maxRecDepth 20000 in
theorem eqFields_con {P : Program} (w : World) (d : Nat) (tI tJ tS : TypeId) (hI : P.underlying tI = some (.int .i64)) (hJ : P.underlying tJ = some (.int .i64)) (hS : P.underlying tS = some .string) (fs : List Field)
    (hf : fs.map (fun f => (f.name == "_", f.type, f.offset)) = [(false, tI, 0), (false, tJ, 1), (false, tS, 2)]) (p q : ConM) :
    (Op.eqFields (d + 1) p.cells.toArray q.cells.toArray fs).run P w = .ok (decide (p = q)) w := by
  have pI : P.plainKey tI = true := by unfold Program.plainKey; rw [hI]
  have pJ : P.plainKey tJ = true := by unfold Program.plainKey; rw [hJ]
  have pS : P.plainKey tS = true := by unfold Program.plainKey; rw [hS]
  have hl : fs.length = 3 := by have := congrArg List.length hf; simpa using this
  match fs, hl, hf with
  | [a, b, c], _, hf =>
    simp only [List.map_cons, List.map_nil, List.cons.injEq, Prod.mk.injEq, and_true] at hf
    obtain ⟨⟨a0, a1, a2⟩, ⟨b0, b1, b2⟩, ⟨c0, c1, c2⟩⟩ := hf
    have step : ∀ (g : Field) (l : List Field) (t : TypeId) (k : Nat) (u v : Value) (r : Bool), (g.name == "_") = false → g.type = t → g.offset = k → P.plainKey t = true → p.cells.toArray[k]? = some u → q.cells.toArray[k]? = some v → (Op.equalIn (d + 1) t u v).run P w = .ok r w →
        (Op.eqFields (d + 1) p.cells.toArray q.cells.toArray (g :: l)).run P w = if r then (Op.eqFields (d + 1) p.cells.toArray q.cells.toArray l).run P w else .ok false w := by
      intro g l t k u v r h0 h1 h2 hp hu hv hr
      subst h1; subst h2
      have hn : g.name ≠ "_" := by simpa using h0
      simp only [Op.eqFields, if_pos hn, Sem.run_bind, run_part_plain w hp hu, run_part_plain w hp hv, Result.andThen_ok, hr, Sem.run_ite, Sem.run_pure]
      cases r <;> rfl
    rw [step a _ tI 0 _ _ _ a0 a1 a2 pI rfl rfl (run_equalIn_int w d tI .i64 .i64 _ _ hI), step b _ tJ 1 _ _ _ b0 b1 b2 pJ rfl rfl (run_equalIn_int w d tJ .i64 .i64 _ _ hJ), step c _ tS 2 _ _ _ c0 c1 c2 pS rfl rfl (run_equalIn_string w d tS _ _ hS)]
    simp only [Op.eqFields, Sem.run_pure]
    obtain ⟨k, n, s⟩ := p
    obtain ⟨k', n', s'⟩ := q
    have hu : ∀ u u' : ByteArray, (u == u') = decide (u = u') := fun u u' => by
      obtain ⟨⟨x⟩⟩ := u
      obtain ⟨⟨y⟩⟩ := u'
      show ((⟨x⟩ : Array UInt8) == ⟨y⟩) = _
      by_cases h : x = y <;> simp [h]
    simp only [← beq_toListBytes, ConM.mk.injEq, hu]
    clear hu
    by_cases h1 : k = k' <;> by_cases h2 : n = n' <;> by_cases h3 : s = s' <;> simp [h1, h2, h3]
set_option maxRecDepth 20000 in
theorem con_eql {P : Program} (T tI tJ tS : TypeId) (w : World) (hT : P.underlying T = some (.struct (P.fieldsOf T))) (hp : P.stoodInHeld T = false) (hI : P.underlying tI = some (.int .i64)) (hJ : P.underlying tJ = some (.int .i64)) (hS : P.underlying tS = some .string)
    (hf : (P.fieldsOf T).toList.map (fun f => (f.name == "_", f.type, f.offset)) = [(false, tI, 0), (false, tJ, 1), (false, tS, 2)]) (p q : ConM) :
    (binOp .eql T (.agg p.cells.toArray) (.agg q.cells.toArray)).run P w = .ok (.bool (decide (p = q))) w ∧ (binOp .neq T (.agg p.cells.toArray) (.agg q.cells.toArray)).run P w = .ok (.bool (!decide (p = q))) w := by
  rw [run_eql_struct, run_neq_struct, run_equalIn_agg w 9999 T _ _ hT hp, eqFields_con w 9998 tI tJ tS hI hJ hS _ hf]
  exact ⟨rfl, rfl⟩
set_option maxRecDepth 20000 in
theorem con_wp_eq {P : Program} (T tI tJ tS : TypeId) {o : Oper} {a : Act} {w : World} {K : Act → World → Prop} {Q : Exit → Act → World → Prop} (hT : P.underlying T = some (.struct (P.fieldsOf T))) (hp : P.stoodInHeld T = false) (hm : P.eqGuardType P.depth T = false) (hI : P.underlying tI = some (.int .i64)) (hJ : P.underlying tJ = some (.int .i64)) (hS : P.underlying tS = some .string)
    (hf : (P.fieldsOf T).toList.map (fun f => (f.name == "_", f.type, f.offset)) = [(false, tI, 0), (false, tJ, 1), (false, tS, 2)]) {x y : Operand} {p q : ConM} (ho : o.op = .binOp .eql T x y T) (hx : a.eval x = .agg p.cells.toArray) (hy : a.eval y = .agg q.cells.toArray)
    (h : K (a.put o.dst (.bool (decide (p = q)))) w) : o.wp P a w K Q := by
  unfold Oper.wp execOp
  simp only [ho, hx, hy, Sem.run_bind, run_eqGuard_agg w _ T _ _ _ _ hm, Result.andThen_ok, (con_eql T tI tJ tS w hT hp hI hJ hS hf p q).1, Sem.run_pure]
  exact h
set_option maxRecDepth 20000 in
theorem con_eq_op {o : Oper} {a : Act} {w : World} {K : Act → World → Prop} {Q : Exit → Act → World → Prop} {x y : Operand} {p q : ConM} (ho : o.op = .binOp .eql 45 x y 45) (hx : a.eval x = .agg p.cells.toArray) (hy : a.eval y = .agg q.cells.toArray)
    (h : K (a.put o.dst (.bool (decide (p = q)))) w) : o.wp Try.prog a w K Q := con_wp_eq 45 3 2 9 (by kernel_rfl) (by kernel_rfl) (by kernel_rfl) (by kernel_rfl) (by kernel_rfl) (by kernel_rfl) (by kernel_rfl) ho hx hy h
def con0 : ConM := ⟨0, 0, ⟨#[]⟩⟩
set_option maxRecDepth 20000 in
set_option maxHeartbeats 2000000 in
theorem uplain_calls (x : ConM) (w : World) : Calls Try.prog 54 #[.agg #[.int .i64 x.kind, .int .i64 x.n, .string x.s]] w fun e w' => e = .returned (.bool (conOk x)) ∧ Below w.heap.size w w' := by
  have HB := hide ((Below.refl w.heap.size w).alloc (Nat.le_refl _) (.cells #[.int .i64 x.kind, .int .i64 x.n, .string x.s] 45))
  have HX : Hid ((.agg #[.int .i64 x.kind, .int .i64 x.n, .string x.s] : Value) = .agg x.cells.toArray) := hide rfl
  by_cases h0 : x.kind = 0
  · obtain ⟨r, hr⟩ : ∃ r, decide (x = con0) = r := ⟨_, rfl⟩
    have HE : Hid (conOk x = r) := hide (by
      rw [← hr]
      obtain ⟨k, n, s⟩ := x
      dsimp only at h0
      subst h0
      unfold conOk con0
      simp)
    have HR := hide hr
    clear hr
    obtain ⟨k, n, s⟩ := x
    dsimp only at h0 HB HX ⊢
    subst h0
    go_enter Try.func54, Try.ntmps54
    go_wp2_with (first | ((with_reducible show wpList _ _ _ (⟨some 9, _, _, _, _, _⟩ :: _) _ _); refine wpList_plain rfl fun _ hK => con_eq_op (p := ⟨0, n, s⟩) (q := con0) rfl rfl rfl (hK _ _ ?_)))
    rw [HR.out]
    go_wp2_with fail
    go_ret
    rw [HE.out]
    exact ⟨rfl, HB.out⟩
  obtain ⟨kk, n, s⟩ := x
  dsimp only at h0 HB HX ⊢
  have h0b : decide (kk = 0) = false := decide_eq_false h0
  have h0c : (kk == 0) = false := by simpa using h0
  clear HX
  by_cases h1 : kk = 1
  · subst h1
    by_cases hs : s = ⟨#[]⟩
    · subst hs
      have HE : Hid (conOk ⟨1, n, ⟨#[]⟩⟩ = true) := hide (by unfold conOk; simp)
      go_enter Try.func54, Try.ntmps54
      go_wp2_with fail
      go_ret
      rw [HE.out]
      exact ⟨rfl, HB.out⟩
    · have HE : Hid (conOk ⟨1, n, s⟩ = false) := hide (by unfold conOk; simp [hs])
      obtain ⟨n1, n2⟩ := lbytes_ne hs
      have n3 := isEmpty_ne hs
      go_enter Try.func54, Try.ntmps54
      go_wp2_with fail
      go_ret
      rw [HE.out]
      exact ⟨rfl, HB.out⟩
  have h1b : decide (kk = 1) = false := decide_eq_false h1
  have h1c : (kk == 1) = false := by simpa using h1
  by_cases h2 : kk = 2
  · subst h2
    by_cases hn : n = 0
    · subst hn
      by_cases hs : (s.size : Int) ≤ 1024
      · have HE : Hid (conOk ⟨2, 0, s⟩ = true) := hide (by unfold conOk; simp; omega)
        go_enter Try.func54, Try.ntmps54
        go_wp2_with fail
        go_ret
        rw [HE.out]
        exact ⟨rfl, HB.out⟩
      · have HE : Hid (conOk ⟨2, 0, s⟩ = false) := hide (by unfold conOk; simp; omega)
        have hsb := decide_eq_false hs
        go_enter Try.func54, Try.ntmps54
        go_wp2_with fail
        go_ret
        rw [HE.out]
        exact ⟨rfl, HB.out⟩
    · have HE : Hid (conOk ⟨2, n, s⟩ = false) := hide (by unfold conOk; simp [hn])
      have hnb := decide_eq_false hn
      have hnc : (n == 0) = false := by simpa using hn
      go_enter Try.func54, Try.ntmps54
      go_wp2_with fail
      go_ret
      rw [HE.out]
      exact ⟨rfl, HB.out⟩
  · have HE : Hid (conOk ⟨kk, n, s⟩ = false) := hide (by unfold conOk; simp [h0, h1, h2])
    have h2b : decide (kk = 2) = false := decide_eq_false h2
    have h2c : (kk == 2) = false := by simpa using h2
    go_enter Try.func54, Try.ntmps54
    go_wp2_with fail
    go_ret
    rw [HE.out]
    exact ⟨rfl, HB.out⟩
set_option maxRecDepth 20000 in
set_option maxHeartbeats 2000000 in
theorem uheaded_calls {w : World} (v : ProtoV) (hr : v.Reads w) (hs : ProtoS v.p) (top : Bool) : Calls Try.prog 30 #[.agg #[.string v.p.name, .int .i64 v.p.params, .int .i64 v.p.regs, .slice v.cA v.p.code.length v.cc, .slice v.kA v.p.consts.length v.kc, .slice v.pA v.p.caps.length v.pc], .bool top] w fun e w' => e = .returned (.bool (headOk v.p top)) ∧ Below w.heap.size w w' := by
  have HB0 := hide ((Below.refl w.heap.size w).alloc (Nat.le_refl _) (.cells #[.string v.p.name, .int .i64 v.p.params, .int .i64 v.p.regs, .slice v.cA v.p.code.length v.cc, .slice v.kA v.p.consts.length v.kc, .slice v.pA v.p.caps.length v.pc] 38))
  have HBK := hide (Blk.new w 38 #[.string v.p.name, .int .i64 v.p.params, .int .i64 v.p.regs, .slice v.cA v.p.code.length v.cc, .slice v.kA v.p.consts.length v.kc, .slice v.pA v.p.caps.length v.pc])
  have HR := hide (hr.below HB0.out)
  have HN := hide (fun w1 => xName_calls v.p.name (by have := hs.name; omega) w1)
  obtain ⟨nm, hnm⟩ : ∃ n, v.p.name = n := ⟨_, rfl⟩
  rw [hnm] at HB0 HBK HR HN ⊢
  clear hr hs
  cases top
  · by_cases hn : nm = ⟨#[]⟩
    · subst hn
      have HE : Hid (headOk v.p false = (decide (v.p.caps.length ≤ 255) && v.p.caps.all capOk)) := hide (by unfold headOk; rw [if_neg (by simp), hnm, decide_eq_true rfl, Bool.true_and])
      clear hnm
      have HEV := hide (everyCap_calls v.pc 255 255 rfl HR.out.caps (by omega) fun x _ w' => uheadedf_calls x w')
      rw [← HE.out] at HEV
      generalize headOk v.p false = res at *
      go_enter Try.func30, Try.ntmps30
      go_wp2_with fail
      refine HEV.out.mono ?_
      rintro e w1 ⟨rfl, hb1⟩
      go_wp2_with fail
      go_ret
      exact ⟨rfl, HB0.out.trans (hb1.mono HB0.out.size)⟩
    · have HE : Hid (headOk v.p false = false) := hide (by unfold headOk; rw [if_neg (by simp), hnm, decide_eq_false hn, Bool.false_and])
      clear hnm
      obtain ⟨n1, n2⟩ := lbytes_ne hn
      have n3 := isEmpty_ne hn
      go_enter Try.func30, Try.ntmps30
      go_wp2_with fail
      go_ret
      rw [HE.out]
      exact ⟨rfl, HB0.out⟩
  · obtain ⟨g, hg⟩ : ∃ g, nameM nm = g := ⟨_, rfl⟩
    have HE : Hid (headOk v.p true = (g && decide ((v.p.caps.length : Int) = 0))) := hide (by
      unfold headOk
      rw [if_pos rfl, hnm, hg]
      congr 1
      rw [decide_eq_decide]
      omega)
    rw [hg] at HN
    clear hg hnm
    go_enter Try.func30, Try.ntmps30
    go_wp2_with fail
    refine (HN.out _).mono ?_
    rintro e w1 ⟨rfl, hb1⟩
    have HB1 := hide (HB0.out.trans (hb1.mono HB0.out.size))
    have HBK1 := hide (HBK.out.below hb1 HBK.out.lt)
    clear hb1
    have z5 : w1.cell? ⟨w.heap.size, 5, none⟩ = some (.slice v.pA v.p.caps.length v.pc) := HBK1.out.cell 5
    cases g
    · go_wp2_with fail
      go_ret
      rw [HE.out]
      exact ⟨rfl, HB1.out⟩
    · obtain ⟨r, hr⟩ : ∃ r, decide ((v.p.caps.length : Int) = 0) = r := ⟨_, rfl⟩
      rw [hr] at HE
      cases r
      · have hr2 : ((v.p.caps.length : Int) == 0) = false := by simpa using hr
        go_wp2_with fail
        go_ret
        rw [HE.out]
        exact ⟨rfl, HB1.out⟩
      · have hr2 : ((v.p.caps.length : Int) == 0) = true := by simpa using hr
        go_wp2_with fail
        go_ret
        rw [HE.out]
        exact ⟨rfl, HB1.out⟩
set_option maxRecDepth 20000 in
set_option maxHeartbeats 2000000 in
theorem ushaped_calls {w : World} (v : ProtoV) (hr : v.Reads w) : Calls Try.prog 31 #[.agg #[.string v.p.name, .int .i64 v.p.params, .int .i64 v.p.regs, .slice v.cA v.p.code.length v.cc, .slice v.kA v.p.consts.length v.kc, .slice v.pA v.p.caps.length v.pc]] w fun e w' => e = .returned (.bool (shapeOk v.p)) ∧ Below w.heap.size w w' := by
  have HB0 := hide ((Below.refl w.heap.size w).alloc (Nat.le_refl _) (.cells #[.string v.p.name, .int .i64 v.p.params, .int .i64 v.p.regs, .slice v.cA v.p.code.length v.cc, .slice v.kA v.p.consts.length v.kc, .slice v.pA v.p.caps.length v.pc] 38))
  have HBK := hide (Blk.new w 38 #[.string v.p.name, .int .i64 v.p.params, .int .i64 v.p.regs, .slice v.cA v.p.code.length v.cc, .slice v.kA v.p.consts.length v.kc, .slice v.pA v.p.caps.length v.pc])
  have HR := hide (hr.below HB0.out)
  clear hr
  obtain ⟨g1, hg1⟩ : ∃ g, inR v.p.params 0 8 = g := ⟨_, rfl⟩
  obtain ⟨g2, hg2⟩ : ∃ g, inR v.p.regs (max 1 v.p.params) 100 = g := ⟨_, rfl⟩
  obtain ⟨g3, hg3⟩ : ∃ g, (decide (v.p.consts.length ≤ 200) && v.p.consts.all conOk) = g := ⟨_, rfl⟩
  obtain ⟨g4, hg4⟩ : ∃ g, (decide (v.p.code.length ≤ 8000) && v.p.code.all insOk) = g := ⟨_, rfl⟩
  have HE : Hid (shapeOk v.p = (g1 && g2 && g3 && g4)) := hide (by unfold shapeOk; rw [hg1, hg2, hg3, hg4])
  have H1 := hide (ubetween_calls v.p.params 0 8)
  have H2 := hide (ubetween_calls v.p.regs (max 1 v.p.params) 100)
  have H3 := hide (fun w1 (h : v.Reads w1) => everyVal_calls v.kc 200 200 rfl h.consts (by omega) fun x _ w' => uplain_calls x w')
  have H4 := hide (fun w1 (h : v.Reads w1) => everyInst_calls v.cc 8000 8000 rfl h.code (by omega) fun x _ w' => iRight_calls x.op x.a x.b x.c w')
  rw [hg1] at H1
  rw [hg2] at H2
  simp only [hg3] at H3
  simp only [hg4] at H4
  clear hg1 hg2 hg3 hg4
  go_enter Try.func31, Try.ntmps31
  go_wp2_with fail
  refine (H1.out _).mono ?_
  rintro e w1 ⟨rfl, rfl⟩
  cases g1
  · go_wp2_with fail
    go_ret
    rw [HE.out]
    exact ⟨rfl, HB0.out⟩
  go_wp2_with fail
  case inl h =>
    rw [show max 1 v.p.params = v.p.params by omega] at H2
    refine (H2.out _).mono ?_
    rintro e w1 ⟨rfl, rfl⟩
    cases g2
    · go_wp2_with fail
      go_ret
      rw [HE.out]
      exact ⟨rfl, HB0.out⟩
    go_wp2_with fail
    refine (H3.out _ HR.out).mono ?_
    rintro e w3 ⟨rfl, hb3⟩
    have HB3 := hide (HB0.out.trans (hb3.mono HB0.out.size))
    have HBK3 := hide (HBK.out.below hb3 HBK.out.lt)
    have HR3 := hide (HR.out.below hb3)
    clear hb3
    have z3 : w3.cell? ⟨w.heap.size, 3, none⟩ = some (.slice v.cA v.p.code.length v.cc) := HBK3.out.cell 3
    cases g3
    · go_wp2_with fail
      go_ret
      rw [HE.out]
      exact ⟨rfl, HB3.out⟩
    go_wp2_with fail
    refine (H4.out _ HR3.out).mono ?_
    rintro e w4 ⟨rfl, hb4⟩
    have HB4 := hide (HB3.out.trans (hb4.mono HB3.out.size))
    clear hb4
    go_wp2_with fail
    go_ret
    rw [HE.out]
    exact ⟨rfl, HB4.out⟩
  case inr h =>
    rw [show max 1 v.p.params = 1 by omega] at H2
    refine (H2.out _).mono ?_
    rintro e w1 ⟨rfl, rfl⟩
    cases g2
    · go_wp2_with fail
      go_ret
      rw [HE.out]
      exact ⟨rfl, HB0.out⟩
    go_wp2_with fail
    refine (H3.out _ HR.out).mono ?_
    rintro e w3 ⟨rfl, hb3⟩
    have HB3 := hide (HB0.out.trans (hb3.mono HB0.out.size))
    have HBK3 := hide (HBK.out.below hb3 HBK.out.lt)
    have HR3 := hide (HR.out.below hb3)
    clear hb3
    have z3 : w3.cell? ⟨w.heap.size, 3, none⟩ = some (.slice v.cA v.p.code.length v.cc) := HBK3.out.cell 3
    cases g3
    · go_wp2_with fail
      go_ret
      rw [HE.out]
      exact ⟨rfl, HB3.out⟩
    go_wp2_with fail
    refine (H4.out _ HR3.out).mono ?_
    rintro e w4 ⟨rfl, hb4⟩
    have HB4 := hide (HB3.out.trans (hb4.mono HB3.out.size))
    clear hb4
    go_wp2_with fail
    go_ret
    rw [HE.out]
    exact ⟨rfl, HB4.out⟩
end Go.Proofs.Ythgjmbcojbmlhaa
