/- Chapter 14: Right of the program, walked; a unit in memory. -/
import Derived.Test.YthgjmbcojbmlhaaImgB
namespace Go.Proofs.Ythgjmbcojbmlhaa
open Go.RowKit Zb

/-- a unit as a value -/
structure UnitV where
  name : ByteArray
  version : Int
  uses : List UseM
  uA : Option Addr
  uc : Nat
  funs : Int
  vs : List ProtoV
  rA : Option Addr
  rc : Nat
def UnitV.cells (u : UnitV) : List Value := [.string u.name, .int .i64 u.version, .slice u.uA u.uses.length u.uc, .int .i64 u.funs, .slice u.rA u.vs.length u.rc]
def UnitV.m (u : UnitV) : UnitM := ⟨u.name, u.version, u.uses, u.funs, u.vs.map (·.p)⟩
structure UnitV.Reads (w : World) (u : UnitV) : Prop where
  uses : ReadsRows 3 UseM.cells w u.uA u.uses
  protos : ReadsRows 6 ProtoV.cells w u.rA u.vs
  each : ∀ v ∈ u.vs, v.Reads w
set_option maxRecDepth 20000 in
theorem UnitV.Reads.below {w w' : World} {u : UnitV} (h : u.Reads w) (hb : Below w.heap.size w w') : u.Reads w' := ⟨h.uses.below hb, h.protos.below hb, fun v hv => (h.each v hv).below hb⟩
/-- a unit that can be gone through -/
structure UnitS (u : UnitM) : Prop where
  name : u.name.size ≤ 100000000
  version : -9223372036854775808 ≤ u.version ∧ u.version < 9223372036854775808
  uses : u.uses.length ≤ 100000000 ∧ ∀ x ∈ u.uses, x.mod.size ≤ 100000000 ∧ x.name.size ≤ 100000000 ∧ -9223372036854775808 ≤ x.params ∧ x.params < 9223372036854775808
  funs : -9223372036854775808 ≤ u.funs ∧ u.funs < 9223372036854775808
  protos : u.protos.length ≤ 100000000 ∧ ∀ p ∈ u.protos, ProtoS p
set_option maxRecDepth 20000 in
theorem blk_setc {w : World} {g : Nat} {t : TypeId} {x : Value} (h : Blk w g t #[x]) (y : Value) : Blk (w.setCell ⟨g, 0, none⟩ y) g t #[y] := h.set_ 0 y
set_option maxRecDepth 20000 in
set_option maxHeartbeats 2000000 in
theorem ugRightf_calls {w0 w : World} (v : ProtoV) (hr : v.Reads w0) (hs : ProtoS v.p) {gi gu : Nat} {i funs : Int} {cs : List Value} (hb : Below w0.heap.size w0 w) (hgi : w0.heap.size ≤ gi) (hi : Blk w gi 3 #[.int .i64 i]) (hu : Blk w gu 25 cs.toArray) (hf : cs[3]? = some (.int .i64 funs)) (h0 : 0 ≤ i) (h1 : i ≤ 100000000) :
    Calls Try.prog 29 #[.agg #[.string v.p.name, .int .i64 v.p.params, .int .i64 v.p.regs, .slice v.cA v.p.code.length v.cc, .slice v.kA v.p.consts.length v.kc, .slice v.pA v.p.caps.length v.pc], .pointer (some ⟨gi, 0, none⟩), .pointer (some ⟨gu, 0, none⟩)] w fun e w' => e = .returned (.bool (protoOk v.p (decide (i + 1 ≤ funs)))) ∧ Below w0.heap.size w0 w' ∧ Blk w' gi 3 #[.int .i64 (i + 1)] ∧ Blk w' gu 25 cs.toArray := by
  have HBK := hide (Blk.new w 38 #[.string v.p.name, .int .i64 v.p.params, .int .i64 v.p.regs, .slice v.cA v.p.code.length v.cc, .slice v.kA v.p.consts.length v.kc, .slice v.pA v.p.caps.length v.pc])
  have hne : gi ≠ gu := hi.ne_ hu (by decide)
  have HI1 := hide (blk_setc (hi.alloc (.cells #[.string v.p.name, .int .i64 v.p.params, .int .i64 v.p.regs, .slice v.cA v.p.code.length v.cc, .slice v.kA v.p.consts.length v.kc, .slice v.pA v.p.caps.length v.pc] 38)) (.int .i64 (i + 1)))
  have HU1 := hide ((hu.alloc (.cells #[.string v.p.name, .int .i64 v.p.params, .int .i64 v.p.regs, .slice v.cA v.p.code.length v.cc, .slice v.kA v.p.consts.length v.kc, .slice v.pA v.p.caps.length v.pc] 38)).far (p := ⟨gi, 0, none⟩) (Ne.symm hne) (.int .i64 (i + 1)))
  have hng : w.heap.size ≠ gi := by have := hi.lt; omega
  have HK1 := hide (HBK.out.far (p := ⟨gi, 0, none⟩) hng (.int .i64 (i + 1)))
  have HB1 := hide ((hb.alloc hb.size (.cells #[.string v.p.name, .int .i64 v.p.params, .int .i64 v.p.regs, .slice v.cA v.p.code.length v.cc, .slice v.kA v.p.consts.length v.kc, .slice v.pA v.p.caps.length v.pc] 38)).setCell (p := ⟨gi, 0, none⟩) hgi (.int .i64 (i + 1)))
  have z0 : (w.alloc (.cells #[.string v.p.name, .int .i64 v.p.params, .int .i64 v.p.regs, .slice v.cA v.p.code.length v.cc, .slice v.kA v.p.consts.length v.kc, .slice v.pA v.p.caps.length v.pc] 38)).cell? ⟨gi, 0, none⟩ = some (.int .i64 i) := (hi.alloc (.cells #[.string v.p.name, .int .i64 v.p.params, .int .i64 v.p.regs, .slice v.cA v.p.code.length v.cc, .slice v.kA v.p.consts.length v.kc, .slice v.pA v.p.caps.length v.pc] 38)).cell 0
  have z1 : (w.alloc (.cells #[.string v.p.name, .int .i64 v.p.params, .int .i64 v.p.regs, .slice v.cA v.p.code.length v.cc, .slice v.kA v.p.consts.length v.kc, .slice v.pA v.p.caps.length v.pc] 38)).frozen? ⟨gi, 0, none⟩ = false := (hi.alloc (.cells #[.string v.p.name, .int .i64 v.p.params, .int .i64 v.p.regs, .slice v.cA v.p.code.length v.cc, .slice v.kA v.p.consts.length v.kc, .slice v.pA v.p.caps.length v.pc] 38)).frozen 0
  have hiw : IntKind.i64.wrap (i + 1) = i + 1 := IntWalk.i64_in _ (by omega)
  have y0 : ((w.alloc (.cells #[.string v.p.name, .int .i64 v.p.params, .int .i64 v.p.regs, .slice v.cA v.p.code.length v.cc, .slice v.kA v.p.consts.length v.kc, .slice v.pA v.p.caps.length v.pc] 38)).setCell ⟨gi, 0, none⟩ (.int .i64 (i + 1))).cell? ⟨gi, 0, none⟩ = some (.int .i64 (i + 1)) := HI1.out.cell 0
  have y1 : ((w.alloc (.cells #[.string v.p.name, .int .i64 v.p.params, .int .i64 v.p.regs, .slice v.cA v.p.code.length v.cc, .slice v.kA v.p.consts.length v.kc, .slice v.pA v.p.caps.length v.pc] 38)).setCell ⟨gi, 0, none⟩ (.int .i64 (i + 1))).cell? ⟨gu, 3, none⟩ = some (.int .i64 funs) := (HU1.out.cell 3).trans (by simpa using hf)
  have k0 : ((w.alloc (.cells #[.string v.p.name, .int .i64 v.p.params, .int .i64 v.p.regs, .slice v.cA v.p.code.length v.cc, .slice v.kA v.p.consts.length v.kc, .slice v.pA v.p.caps.length v.pc] 38)).setCell ⟨gi, 0, none⟩ (.int .i64 (i + 1))).cell? ⟨w.heap.size, 0, none⟩ = some (.string v.p.name) := HK1.out.cell 0
  have k1 : ((w.alloc (.cells #[.string v.p.name, .int .i64 v.p.params, .int .i64 v.p.regs, .slice v.cA v.p.code.length v.cc, .slice v.kA v.p.consts.length v.kc, .slice v.pA v.p.caps.length v.pc] 38)).setCell ⟨gi, 0, none⟩ (.int .i64 (i + 1))).cell? ⟨w.heap.size, 1, none⟩ = some (.int .i64 v.p.params) := HK1.out.cell 1
  have k2 : ((w.alloc (.cells #[.string v.p.name, .int .i64 v.p.params, .int .i64 v.p.regs, .slice v.cA v.p.code.length v.cc, .slice v.kA v.p.consts.length v.kc, .slice v.pA v.p.caps.length v.pc] 38)).setCell ⟨gi, 0, none⟩ (.int .i64 (i + 1))).cell? ⟨w.heap.size, 2, none⟩ = some (.int .i64 v.p.regs) := HK1.out.cell 2
  have k3 : ((w.alloc (.cells #[.string v.p.name, .int .i64 v.p.params, .int .i64 v.p.regs, .slice v.cA v.p.code.length v.cc, .slice v.kA v.p.consts.length v.kc, .slice v.pA v.p.caps.length v.pc] 38)).setCell ⟨gi, 0, none⟩ (.int .i64 (i + 1))).cell? ⟨w.heap.size, 3, none⟩ = some (.slice v.cA v.p.code.length v.cc) := HK1.out.cell 3
  have k4 : ((w.alloc (.cells #[.string v.p.name, .int .i64 v.p.params, .int .i64 v.p.regs, .slice v.cA v.p.code.length v.cc, .slice v.kA v.p.consts.length v.kc, .slice v.pA v.p.caps.length v.pc] 38)).setCell ⟨gi, 0, none⟩ (.int .i64 (i + 1))).cell? ⟨w.heap.size, 4, none⟩ = some (.slice v.kA v.p.consts.length v.kc) := HK1.out.cell 4
  have k5 : ((w.alloc (.cells #[.string v.p.name, .int .i64 v.p.params, .int .i64 v.p.regs, .slice v.cA v.p.code.length v.cc, .slice v.kA v.p.consts.length v.kc, .slice v.pA v.p.caps.length v.pc] 38)).setCell ⟨gi, 0, none⟩ (.int .i64 (i + 1))).cell? ⟨w.heap.size, 5, none⟩ = some (.slice v.pA v.p.caps.length v.pc) := HK1.out.cell 5
  have HS := hide (fun w1 (h : Below w0.heap.size w0 w1) => ushaped_calls v (hr.below h))
  obtain ⟨top, htop⟩ : ∃ t, decide (i + 1 ≤ funs) = t := ⟨_, rfl⟩
  have HE : Hid (protoOk v.p top = (headOk v.p top && shapeOk v.p)) := hide rfl
  rw [htop]
  have HH := hide (fun w1 (h : Below w0.heap.size w0 w1) => uheaded_calls v (hr.below h) hs top)
  generalize headOk v.p top = ho at *
  clear hr hs hb hi hu hf HBK
  go_enter Try.func29, Try.ntmps29
  go_wp2_with fail
  clear z0 z1 y0 y1 k0 k1 k2 k3 k4 k5
  generalize ((w.alloc (.cells #[.string v.p.name, .int .i64 v.p.params, .int .i64 v.p.regs, .slice v.cA v.p.code.length v.cc, .slice v.kA v.p.consts.length v.kc, .slice v.pA v.p.caps.length v.pc] 38)).setCell ⟨gi, 0, none⟩ (.int .i64 (i + 1))) = w1 at *
  generalize w.heap.size = gp at *
  refine (HH.out _ HB1.out).mono ?_
  rintro e w2 ⟨rfl, hb2⟩
  have HB2 := hide (HB1.out.trans (hb2.mono HB1.out.size))
  have HI2 := hide (HI1.out.below hb2 HI1.out.lt)
  have HU2 := hide (HU1.out.below hb2 HU1.out.lt)
  have HK2 := hide (HK1.out.below hb2 HK1.out.lt)
  clear hb2
  cases ho
  · go_wp2_with fail
    go_ret
    rw [HE.out]
    exact ⟨rfl, HB2.out, HI2.out, HU2.out⟩
  have k0 : w2.cell? ⟨gp, 0, none⟩ = some (.string v.p.name) := HK2.out.cell 0
  have k1 : w2.cell? ⟨gp, 1, none⟩ = some (.int .i64 v.p.params) := HK2.out.cell 1
  have k2 : w2.cell? ⟨gp, 2, none⟩ = some (.int .i64 v.p.regs) := HK2.out.cell 2
  have k3 : w2.cell? ⟨gp, 3, none⟩ = some (.slice v.cA v.p.code.length v.cc) := HK2.out.cell 3
  have k4 : w2.cell? ⟨gp, 4, none⟩ = some (.slice v.kA v.p.consts.length v.kc) := HK2.out.cell 4
  have k5 : w2.cell? ⟨gp, 5, none⟩ = some (.slice v.pA v.p.caps.length v.pc) := HK2.out.cell 5
  go_wp2_with fail
  refine (HS.out _ HB2.out).mono ?_
  rintro e w3 ⟨rfl, hb3⟩
  have HB3 := hide (HB2.out.trans (hb3.mono HB2.out.size))
  have HI3 := hide (HI2.out.below hb3 HI2.out.lt)
  have HU3 := hide (HU2.out.below hb3 HU2.out.lt)
  clear hb3
  go_wp2_with fail
  go_ret
  rw [HE.out]
  exact ⟨rfl, HB3.out, HI3.out, HU3.out⟩
set_option maxRecDepth 20000 in
theorem protos_drop {funs : Int} {l : List ProtoM} {k : Nat} {x : ProtoM} (hx : l[k]? = some x) : protosOk funs k (l.drop k) = (protoOk x (decide ((k : Int) + 1 ≤ funs)) && protosOk funs (k + 1) (l.drop (k + 1))) := by
  have hk := (List.getElem?_eq_some_iff.1 hx)
  rw [List.drop_eq_getElem_cons hk.1, hk.2]
  rfl
set_option maxRecDepth 20000 in
set_option maxHeartbeats 2000000 in
theorem everyProto_calls {w0 w : World} {A : Option Addr} {vs : List ProtoV} (cap : Nat) (hr : ReadsRows 6 ProtoV.cells w0 A vs) (he : ∀ v ∈ vs, v.Reads w0 ∧ ProtoS v.p) {gi gu : Nat} {funs : Int} {cs : List Value} (hb : Below w0.heap.size w0 w) (hgi : w0.heap.size ≤ gi) (hi : Blk w gi 3 #[.int .i64 0]) (hu : Blk w gu 25 cs.toArray) (hf : cs[3]? = some (.int .i64 funs)) :
    Calls Try.prog 28 #[.slice A vs.length cap, .int .i64 64, .func (.func 29) #[] #[.pointer (some ⟨gi, 0, none⟩), .pointer (some ⟨gu, 0, none⟩)]] w fun e w' => e = .returned (.bool (decide (vs.length ≤ 64) && protosOk funs 0 (vs.map (·.p)))) ∧ Below w0.heap.size w0 w' := by
  have HR := hide hr
  have HEE := hide he
  have HF := hide hf
  have HB0 := hide hb
  have HI0 := hide hi
  have HU0 := hide hu
  clear hr he hf hb hi hu
  by_cases h1 : (64 : Int) < (vs.length : Int)
  · have HE : Hid ((decide (vs.length ≤ 64) && protosOk funs 0 (vs.map (·.p))) = false) := hide (by rw [decide_eq_false (by omega), Bool.false_and])
    go_enter Try.func28, Try.ntmps28
    go_wp2_with fail
    go_ret
    rw [HE.out]
    exact ⟨rfl, HB0.out⟩
  have h1b := decide_eq_false h1
  obtain ⟨res, hres⟩ : ∃ b, protosOk funs 0 (vs.map (·.p)) = b := ⟨_, rfl⟩
  have HE : Hid ((decide (vs.length ≤ 64) && protosOk funs 0 (vs.map (·.p))) = res) := hide (by rw [decide_eq_true (by omega), Bool.true_and, hres])
  have HD0 : Hid (protosOk funs 0 ((vs.map (·.p)).drop 0) = res) := hide hres
  clear hres
  go_enter Try.func28, Try.ntmps28
  go_wp2_with fail
  go_loopw [15] (fun i wr => ∃ k : Nat, k ≤ vs.length ∧ i = .int .i64 (k : Int) ∧ Hid (Below w0.heap.size w0 wr) ∧ Hid (Blk wr gi 3 #[.int .i64 (k : Int)]) ∧ Hid (Blk wr gu 25 cs.toArray) ∧ Hid (protosOk funs k ((vs.map (·.p)).drop k) = res)) (fun i _ => vs.length - (intOf i).toNat)
  case atStart => exact ⟨0, by omega, rfl, HB0, HI0, HU0, HD0⟩
  case round =>
    clear HD0 HB0 HI0 HU0
    obtain ⟨k, hk, rfl, HB, HI, HU, HD⟩ := hrel
    by_cases hlt : k < vs.length
    · obtain ⟨v, hv⟩ : ∃ x, vs[k]? = some x := ⟨_, List.getElem?_eq_getElem hlt⟩
      have hkI : (k : Int) < (vs.length : Int) := by omega
      have hk0 : (0 : Int) ≤ (k : Int) := by omega
      have hvm := HEE.out v (List.mem_of_getElem? hv)
      have HS := hide (protos_drop (funs := funs) (l := vs.map (·.p)) (k := k) (x := v.p) (by rw [List.getElem?_map, hv]; rfl))
      have HX := hide (fun w1 (h : Below w0.heap.size w0 w1) h2 h3 => ugRightf_calls v hvm.1 hvm.2 (w := w1) (gi := gi) (gu := gu) (i := (k : Int)) (funs := funs) (cs := cs) h hgi h2 h3 HF.out (by omega) (by omega))
      obtain ⟨ba, oa, hA, _, hc⟩ := HR.out.kept HB.out hv
      subst hA
      have x0 : wr.cell? ⟨ba, oa + k * 6, none⟩ = some (.string v.p.name) := hc 0 _ rfl
      have x1 : wr.cell? ⟨ba, oa + k * 6 + 1, none⟩ = some (.int .i64 v.p.params) := hc 1 _ rfl
      have x2 : wr.cell? ⟨ba, oa + k * 6 + 2, none⟩ = some (.int .i64 v.p.regs) := hc 2 _ rfl
      have x3 : wr.cell? ⟨ba, oa + k * 6 + 3, none⟩ = some (.slice v.cA v.p.code.length v.cc) := hc 3 _ rfl
      have x4 : wr.cell? ⟨ba, oa + k * 6 + 4, none⟩ = some (.slice v.kA v.p.consts.length v.kc) := hc 4 _ rfl
      have x5 : wr.cell? ⟨ba, oa + k * 6 + 5, none⟩ = some (.slice v.pA v.p.caps.length v.pc) := hc 5 _ rfl
      have HB1 := hide (HB.out.alloc HB.out.size (.cells #[.string v.p.name, .int .i64 v.p.params, .int .i64 v.p.regs, .slice v.cA v.p.code.length v.cc, .slice v.kA v.p.consts.length v.kc, .slice v.pA v.p.caps.length v.pc] 38))
      have HI1 := hide (HI.out.alloc (.cells #[.string v.p.name, .int .i64 v.p.params, .int .i64 v.p.regs, .slice v.cA v.p.code.length v.cc, .slice v.kA v.p.consts.length v.kc, .slice v.pA v.p.caps.length v.pc] 38))
      have HU1 := hide (HU.out.alloc (.cells #[.string v.p.name, .int .i64 v.p.params, .int .i64 v.p.regs, .slice v.cA v.p.code.length v.cc, .slice v.kA v.p.consts.length v.kc, .slice v.pA v.p.caps.length v.pc] 38))
      obtain ⟨g, hg⟩ : ∃ g, protoOk v.p (decide ((k : Int) + 1 ≤ funs)) = g := ⟨_, rfl⟩
      rw [hg] at HS
      simp only [hg] at HX
      clear hc hv hg hvm
      go_wp2_with fail
      refine (HX.out _ HB1.out HI1.out HU1.out).mono ?_
      rintro e w2 ⟨rfl, hb2, hi2, hu2⟩
      have HB2 := hide hb2
      have HI2 := hide hi2
      have HU2 := hide hu2
      clear hb2 hi2 hu2
      cases g
      · have hf : res = false := by rw [← HD.out, HS.out, Bool.false_and]
        subst hf
        go_wp2_with fail
        go_ret
        rw [HE.out]
        exact ⟨rfl, HB2.out⟩
      · have HD2 : Hid (protosOk funs (k + 1) ((vs.map (·.p)).drop (k + 1)) = res) := hide (by rw [← HD.out, HS.out, Bool.true_and])
        go_wp2_with fail
        refine ⟨⟨k + 1, by omega, by go_num, HB2, HI2, HU2, HD2⟩, ?_⟩
        simp [intOf]
        omega
    · obtain rfl : k = vs.length := by omega
      have hf : res = true := by rw [← HD.out, List.drop_of_length_le (by rw [List.length_map]; omega)]; rfl
      subst hf
      go_wp2_with fail
      go_ret
      rw [HE.out]
      exact ⟨rfl, HB.out⟩
set_option maxRecDepth 20000 in
set_option maxHeartbeats 2000000 in
theorem ugRight_calls {w : World} (u : UnitV) (hr : u.Reads w) (hs : UnitS u.m) : Calls Try.prog 12 #[.agg #[.string u.name, .int .i64 u.version, .slice u.uA u.uses.length u.uc, .int .i64 u.funs, .slice u.rA u.vs.length u.rc]] w fun e w' => e = .returned (.bool (unitOk u.m)) ∧ Below w.heap.size w w' := by
  have HB0 := hide ((Below.refl w.heap.size w).alloc (Nat.le_refl _) (.cells #[.string u.name, .int .i64 u.version, .slice u.uA u.uses.length u.uc, .int .i64 u.funs, .slice u.rA u.vs.length u.rc] 25))
  have HBK := hide (Blk.new w 25 #[.string u.name, .int .i64 u.version, .slice u.uA u.uses.length u.uc, .int .i64 u.funs, .slice u.rA u.vs.length u.rc])
  have HN := hide (fun w1 => xName_calls u.name (by have := hs.name; show u.name.size ≤ _; exact Nat.le_trans this (by decide)) w1)
  have H2 := hide (ubetween_calls u.version 1 2147483647)
  have H3 := hide (ubetween_calls u.funs 0 (min 32 (u.vs.length : Int)))
  have H4 := hide (fun w1 (h : Below w.heap.size w w1) => everyUse_calls (w := w1) u.uc 16 16 rfl (hr.uses.below h) (by omega) fun x hx w' => uused_calls x (hs.uses.2 x hx).1 (hs.uses.2 x hx).2.1 w')
  have H5 := hide (fun w1 gi (h : Below w.heap.size w w1) (hgi : w.heap.size ≤ gi) (h2 : Blk w1 gi 3 #[.int .i64 0]) (h3 : Blk w1 w.heap.size 25 #[.string u.name, .int .i64 u.version, .slice u.uA u.uses.length u.uc, .int .i64 u.funs, .slice u.rA u.vs.length u.rc]) => everyProto_calls (w0 := w) (w := w1) u.rc hr.protos (fun v hv => ⟨hr.each v hv, hs.protos.2 v.p (List.mem_map_of_mem hv)⟩) (cs := [.string u.name, .int .i64 u.version, .slice u.uA u.uses.length u.uc, .int .i64 u.funs, .slice u.rA u.vs.length u.rc]) (funs := u.funs) h hgi h2 h3 rfl)
  obtain ⟨g1, hg1⟩ : ∃ g, nameM u.name = g := ⟨_, rfl⟩
  obtain ⟨g2, hg2⟩ : ∃ g, inR u.version 1 2147483647 = g := ⟨_, rfl⟩
  obtain ⟨g3, hg3⟩ : ∃ g, inR u.funs 0 (min 32 (u.vs.length : Int)) = g := ⟨_, rfl⟩
  obtain ⟨g4, hg4⟩ : ∃ g, (decide (u.uses.length ≤ 16) && u.uses.all useOk) = g := ⟨_, rfl⟩
  obtain ⟨g5, hg5⟩ : ∃ g, (decide (u.vs.length ≤ 64) && protosOk u.funs 0 (u.vs.map (·.p))) = g := ⟨_, rfl⟩
  have HE : Hid (unitOk u.m = (g1 && g2 && g3 && g4 && g5)) := hide (by
    unfold unitOk UnitV.m
    dsimp only
    rw [hg1, hg2, List.length_map, hg3, hg4, hg5])
  rw [hg1] at HN
  rw [hg2] at H2
  rw [hg3] at H3
  simp only [hg4] at H4
  simp only [hg5] at H5
  clear hr hs hg1 hg2 hg3 hg4 hg5
  go_enter Try.func12, Try.ntmps12
  go_wp2_with fail
  refine (HN.out _).mono ?_
  rintro e w1 ⟨rfl, hb1⟩
  have HB1 := hide (HB0.out.trans (hb1.mono HB0.out.size))
  have HBK1 := hide (HBK.out.below hb1 HBK.out.lt)
  clear hb1
  have z1 : w1.cell? ⟨w.heap.size, 1, none⟩ = some (.int .i64 u.version) := HBK1.out.cell 1
  have z3 : w1.cell? ⟨w.heap.size, 3, none⟩ = some (.int .i64 u.funs) := HBK1.out.cell 3
  have z4 : w1.cell? ⟨w.heap.size, 4, none⟩ = some (.slice u.rA u.vs.length u.rc) := HBK1.out.cell 4
  cases g1
  · go_wp2_with fail
    go_ret
    rw [HE.out]
    exact ⟨rfl, HB1.out⟩
  go_wp2_with fail
  refine (H2.out _).mono ?_
  rintro e w1 ⟨rfl, rfl⟩
  cases g2
  · go_wp2_with fail
    go_ret
    rw [HE.out]
    exact ⟨rfl, HB1.out⟩
  go_wp2_with fail
  case inl h =>
    rw [show min 32 (u.vs.length : Int) = u.vs.length by omega] at H3
    refine (H3.out _).mono ?_
    rintro e w1 ⟨rfl, rfl⟩
    cases g3
    · go_wp2_with fail
      go_ret
      rw [HE.out]
      exact ⟨rfl, HB1.out⟩
    have HBKa := hide (HBK1.out.alloc (.cells #[.int .i64 0] 3))
    have HBI := hide (Blk.new w1 3 #[.int .i64 0])
    have HB2 := hide (HB1.out.alloc HB1.out.size (.cells #[.int .i64 0] 3))
    have hgi : w.heap.size ≤ w1.heap.size := HB1.out.size
    have y2 : (w1.alloc (.cells #[.int .i64 0] 3)).cell? ⟨w.heap.size, 2, none⟩ = some (.slice u.uA u.uses.length u.uc) := HBKa.out.cell 2
    go_wp2_with fail
    clear y2
    generalize (w1.alloc (.cells #[.int .i64 0] 3)) = w2 at *
    generalize w1.heap.size = gi at *
    refine (H4.out _ HB2.out).mono ?_
    rintro e w3 ⟨rfl, hb3⟩
    have HB3 := hide (HB2.out.trans (hb3.mono HB2.out.size))
    have HBK3 := hide (HBKa.out.below hb3 HBKa.out.lt)
    have HBI3 := hide (HBI.out.below hb3 HBI.out.lt)
    clear hb3
    cases g4
    · go_wp2_with fail
      go_ret
      rw [HE.out]
      exact ⟨rfl, HB3.out⟩
    have y4 : w3.cell? ⟨w.heap.size, 4, none⟩ = some (.slice u.rA u.vs.length u.rc) := HBK3.out.cell 4
    go_wp2_with fail
    refine (H5.out w3 gi HB3.out hgi HBI3.out HBK3.out).mono ?_
    rintro e w4 ⟨rfl, hb4⟩
    go_wp2_with fail
    go_ret
    rw [HE.out]
    exact ⟨rfl, hb4⟩
  case inr h =>
    rw [show min 32 (u.vs.length : Int) = 32 by omega] at H3
    refine (H3.out _).mono ?_
    rintro e w1 ⟨rfl, rfl⟩
    cases g3
    · go_wp2_with fail
      go_ret
      rw [HE.out]
      exact ⟨rfl, HB1.out⟩
    have HBKa := hide (HBK1.out.alloc (.cells #[.int .i64 0] 3))
    have HBI := hide (Blk.new w1 3 #[.int .i64 0])
    have HB2 := hide (HB1.out.alloc HB1.out.size (.cells #[.int .i64 0] 3))
    have hgi : w.heap.size ≤ w1.heap.size := HB1.out.size
    have y2 : (w1.alloc (.cells #[.int .i64 0] 3)).cell? ⟨w.heap.size, 2, none⟩ = some (.slice u.uA u.uses.length u.uc) := HBKa.out.cell 2
    go_wp2_with fail
    clear y2
    generalize (w1.alloc (.cells #[.int .i64 0] 3)) = w2 at *
    generalize w1.heap.size = gi at *
    refine (H4.out _ HB2.out).mono ?_
    rintro e w3 ⟨rfl, hb3⟩
    have HB3 := hide (HB2.out.trans (hb3.mono HB2.out.size))
    have HBK3 := hide (HBKa.out.below hb3 HBKa.out.lt)
    have HBI3 := hide (HBI.out.below hb3 HBI.out.lt)
    clear hb3
    cases g4
    · go_wp2_with fail
      go_ret
      rw [HE.out]
      exact ⟨rfl, HB3.out⟩
    have y4 : w3.cell? ⟨w.heap.size, 4, none⟩ = some (.slice u.rA u.vs.length u.rc) := HBK3.out.cell 4
    go_wp2_with fail
    refine (H5.out w3 gi HB3.out hgi HBI3.out HBK3.out).mono ?_
    rintro e w4 ⟨rfl, hb4⟩
    go_wp2_with fail
    go_ret
    rw [HE.out]
    exact ⟨rfl, hb4⟩
end Go.Proofs.Ythgjmbcojbmlhaa
