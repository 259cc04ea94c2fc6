/- Chapter 14: ImageOne, ImageBuilds, walked. -/
import Derived.Test.YthgjmbcojbmlhaaImhF
import Derived.Test.YthgjmbcojbmlhaaHeld
namespace Go.Proofs.Ythgjmbcojbmlhaa
open Go.RowKit Zb

set_option maxRecDepth 20000 in
theorem one_same {x y : UnitM} {S T : ByteArray} (hx : ubuild x = (S, 0)) (hy : ubuild y = (T, 0)) (rx : UnitR x) (ry : UnitR y) : (S.toList == T.toList) = decide (x = y) := by
  obtain ⟨ox, bx⟩ := ubuild_ok hx
  obtain ⟨oy, by_⟩ := ubuild_ok hy
  rw [lbeq14, decide_eq_decide]
  constructor
  · intro h
    exact unit_inj ox oy rx ry (by rw [bx, by_, h])
  · intro h
    rw [← bx, ← by_, h]
set_option maxRecDepth 20000 in
theorem rbu_lit {w : World} (u : UnitV) {s : ByteArray} {c : Int} (h : ubuild u.m = (s, c)) (hr : u.Reads w) (hs : UnitS u.m) (hc : UnitR u.m) : Calls Try.prog 11 #[.agg #[.string u.name, .int .i64 u.version, .slice u.uA u.uses.length u.uc, .int .i64 u.funs, .slice u.rA u.vs.length u.rc]] w fun e w' => e = .returned (.tuple #[.string s, .int .i64 c]) ∧ Below w.heap.size w w' := by
  have e1 : (ubuild u.m).1 = s := congrArg Prod.fst h
  have e2 : (ubuild u.m).2 = c := congrArg Prod.snd h
  rw [← e1, ← e2]
  exact rugBuild_calls u hr hs hc
set_option maxRecDepth 20000 in
set_option maxHeartbeats 4000000 in
theorem ImageOne_walk (a b : UnitV) (w : World) (ha : UnitG w a) (hb : UnitG w b) : Calls Try.prog 7 #[.agg #[.string a.name, .int .i64 a.version, .slice a.uA a.uses.length a.uc, .int .i64 a.funs, .slice a.rA a.vs.length a.rc], .agg #[.string b.name, .int .i64 b.version, .slice b.uA b.uses.length b.uc, .int .i64 b.funs, .slice b.rA b.vs.length b.rc]] w fun e w' => e = .returned (.bool true) ∧ Below w.heap.size w w' := by
  have HKN := hide lknown14_calls
  have HGA := hide ha
  have HGB := hide hb
  clear ha hb
  have HB := hide (((Below.refl w.heap.size w).alloc (Nat.le_refl _) (.cells #[.string a.name, .int .i64 a.version, .slice a.uA a.uses.length a.uc, .int .i64 a.funs, .slice a.rA a.vs.length a.rc] 25)).alloc (by simp) (.cells #[.string b.name, .int .i64 b.version, .slice b.uA b.uses.length b.uc, .int .i64 b.funs, .slice b.rA b.vs.length b.rc] 25))
  have HRA := hide (HGA.out.reads.below HB.out)
  have HRB := hide (HGB.out.reads.below HB.out)
  have HKA : Hid (Blk ((w.alloc (.cells #[.string a.name, .int .i64 a.version, .slice a.uA a.uses.length a.uc, .int .i64 a.funs, .slice a.rA a.vs.length a.rc] 25)).alloc (.cells #[.string b.name, .int .i64 b.version, .slice b.uA b.uses.length b.uc, .int .i64 b.funs, .slice b.rA b.vs.length b.rc] 25)) w.heap.size 25 #[.string a.name, .int .i64 a.version, .slice a.uA a.uses.length a.uc, .int .i64 a.funs, .slice a.rA a.vs.length a.rc]) := hide ((Blk.new w 25 #[.string a.name, .int .i64 a.version, .slice a.uA a.uses.length a.uc, .int .i64 a.funs, .slice a.rA a.vs.length a.rc]).alloc _)
  have HKB : Hid (Blk ((w.alloc (.cells #[.string a.name, .int .i64 a.version, .slice a.uA a.uses.length a.uc, .int .i64 a.funs, .slice a.rA a.vs.length a.rc] 25)).alloc (.cells #[.string b.name, .int .i64 b.version, .slice b.uA b.uses.length b.uc, .int .i64 b.funs, .slice b.rA b.vs.length b.rc] 25)) (w.heap.size + 1) 25 #[.string b.name, .int .i64 b.version, .slice b.uA b.uses.length b.uc, .int .i64 b.funs, .slice b.rA b.vs.length b.rc]) := hide (by have := Blk.new (w.alloc (.cells #[.string a.name, .int .i64 a.version, .slice a.uA a.uses.length a.uc, .int .i64 a.funs, .slice a.rA a.vs.length a.rc] 25)) 25 #[.string b.name, .int .i64 b.version, .slice b.uA b.uses.length b.uc, .int .i64 b.funs, .slice b.rA b.vs.length b.rc]; simpa using this)
  go_enter Try.func7, Try.ntmps7
  go_wp2_with fail
  generalize hgb : w.heap.size + 1 = gb at *
  clear hgb
  refine ((rugLight_calls a HRA.out)).mono ?_
  rintro e w1 ⟨la, rfl, hla, hb⟩
  have HBx := hide (HB.out.trans (hb.mono HB.out.size))
  clear HB
  have HB := HBx
  clear HBx
  have HRAx := hide (HRA.out.below hb)
  clear HRA
  have HRA := HRAx
  clear HRAx
  have HRBx := hide (HRB.out.below hb)
  clear HRB
  have HRB := HRBx
  clear HRBx
  have HKAx := hide (HKA.out.below hb HKA.out.lt)
  clear HKA
  have HKA := HKAx
  clear HKAx
  have HKBx := hide (HKB.out.below hb HKB.out.lt)
  clear HKB
  have HKB := HKBx
  clear HKBx
  clear hb
  have HLA := hide hla
  clear hla
  have k0 : w1.cell? ⟨gb, 0, none⟩ = some (.string b.name) := HKB.out.cell 0
  have k1 : w1.cell? ⟨gb, 1, none⟩ = some (.int .i64 b.version) := HKB.out.cell 1
  have k2 : w1.cell? ⟨gb, 2, none⟩ = some (.slice b.uA b.uses.length b.uc) := HKB.out.cell 2
  have k3 : w1.cell? ⟨gb, 3, none⟩ = some (.int .i64 b.funs) := HKB.out.cell 3
  have k4 : w1.cell? ⟨gb, 4, none⟩ = some (.slice b.rA b.vs.length b.rc) := HKB.out.cell 4
  cases la
  case false =>
    clear k0 k1 k2 k3 k4
    go_wp2_with fail
    refine (HKN.out _).mono ?_
    rintro e wk1 ⟨rfl, hb⟩
    have HBx := hide (HB.out.trans (hb.mono HB.out.size))
    clear HB
    have HB := HBx
    clear HBx
    have HRAx := hide (HRA.out.below hb)
    clear HRA
    have HRA := HRAx
    clear HRAx
    have HRBx := hide (HRB.out.below hb)
    clear HRB
    have HRB := HRBx
    clear HRBx
    have HKAx := hide (HKA.out.below hb HKA.out.lt)
    clear HKA
    have HKA := HKAx
    clear HKAx
    have HKBx := hide (HKB.out.below hb HKB.out.lt)
    clear HKB
    have HKB := HKBx
    clear HKBx
    clear hb
    go_wp2_with fail
    go_ret
    exact ⟨rfl, HB.out⟩
  go_wp2_with fail
  clear k0 k1 k2 k3 k4
  refine ((rugLight_calls b HRB.out)).mono ?_
  rintro e w2 ⟨lb, rfl, hlb, hb⟩
  have HBx := hide (HB.out.trans (hb.mono HB.out.size))
  clear HB
  have HB := HBx
  clear HBx
  have HRAx := hide (HRA.out.below hb)
  clear HRA
  have HRA := HRAx
  clear HRAx
  have HRBx := hide (HRB.out.below hb)
  clear HRB
  have HRB := HRBx
  clear HRBx
  have HKAx := hide (HKA.out.below hb HKA.out.lt)
  clear HKA
  have HKA := HKAx
  clear HKAx
  have HKBx := hide (HKB.out.below hb HKB.out.lt)
  clear HKB
  have HKB := HKBx
  clear HKBx
  clear hb
  have HLB := hide hlb
  clear hlb
  cases lb
  case false =>
    go_wp2_with fail
    refine (HKN.out _).mono ?_
    rintro e wk3 ⟨rfl, hb⟩
    have HBx := hide (HB.out.trans (hb.mono HB.out.size))
    clear HB
    have HB := HBx
    clear HBx
    have HRAx := hide (HRA.out.below hb)
    clear HRA
    have HRA := HRAx
    clear HRAx
    have HRBx := hide (HRB.out.below hb)
    clear HRB
    have HRB := HRBx
    clear HRBx
    have HKAx := hide (HKA.out.below hb HKA.out.lt)
    clear HKA
    have HKA := HKAx
    clear HKAx
    have HKBx := hide (HKB.out.below hb HKB.out.lt)
    clear HKB
    have HKB := HKBx
    clear HKBx
    clear hb
    go_wp2_with fail
    go_ret
    exact ⟨rfl, HB.out⟩
  have HSA := hide (HGA.out.lim (HLA.out (by trivial)))
  have HSB := hide (HGB.out.lim (HLB.out (by trivial)))
  clear HLA HLB
  have k0 : w2.cell? ⟨w.heap.size, 0, none⟩ = some (.string a.name) := HKA.out.cell 0
  have k1 : w2.cell? ⟨w.heap.size, 1, none⟩ = some (.int .i64 a.version) := HKA.out.cell 1
  have k2 : w2.cell? ⟨w.heap.size, 2, none⟩ = some (.slice a.uA a.uses.length a.uc) := HKA.out.cell 2
  have k3 : w2.cell? ⟨w.heap.size, 3, none⟩ = some (.int .i64 a.funs) := HKA.out.cell 3
  have k4 : w2.cell? ⟨w.heap.size, 4, none⟩ = some (.slice a.rA a.vs.length a.rc) := HKA.out.cell 4
  go_wp2_with fail
  clear k0 k1 k2 k3 k4
  obtain ⟨S, hS⟩ : ∃ z, (ubuild a.m).1 = z := ⟨_, rfl⟩
  obtain ⟨ce, hce⟩ : ∃ z, (ubuild a.m).2 = z := ⟨_, rfl⟩
  have HUA := hide (show ubuild a.m = (S, ce) from Prod.ext hS hce)
  clear hS hce
  obtain ⟨T, hT⟩ : ∃ z, (ubuild b.m).1 = z := ⟨_, rfl⟩
  obtain ⟨cf, hcf⟩ : ∃ z, (ubuild b.m).2 = z := ⟨_, rfl⟩
  have HUB := hide (show ubuild b.m = (T, cf) from Prod.ext hT hcf)
  clear hT hcf
  refine ((bu_lit a (s := S) (c := ce) HUA.out HRA.out HSA.out.1 HSA.out.2)).mono ?_
  rintro e w3 ⟨rfl, hb⟩
  have HBx := hide (HB.out.trans (hb.mono HB.out.size))
  clear HB
  have HB := HBx
  clear HBx
  have HRAx := hide (HRA.out.below hb)
  clear HRA
  have HRA := HRAx
  clear HRAx
  have HRBx := hide (HRB.out.below hb)
  clear HRB
  have HRB := HRBx
  clear HRBx
  have HKAx := hide (HKA.out.below hb HKA.out.lt)
  clear HKA
  have HKA := HKAx
  clear HKAx
  have HKBx := hide (HKB.out.below hb HKB.out.lt)
  clear HKB
  have HKB := HKBx
  clear HKBx
  clear hb
  have k0 : w3.cell? ⟨gb, 0, none⟩ = some (.string b.name) := HKB.out.cell 0
  have k1 : w3.cell? ⟨gb, 1, none⟩ = some (.int .i64 b.version) := HKB.out.cell 1
  have k2 : w3.cell? ⟨gb, 2, none⟩ = some (.slice b.uA b.uses.length b.uc) := HKB.out.cell 2
  have k3 : w3.cell? ⟨gb, 3, none⟩ = some (.int .i64 b.funs) := HKB.out.cell 3
  have k4 : w3.cell? ⟨gb, 4, none⟩ = some (.slice b.rA b.vs.length b.rc) := HKB.out.cell 4
  go_wp2_with fail
  clear k0 k1 k2 k3 k4
  refine ((bu_lit b (s := T) (c := cf) HUB.out HRB.out HSB.out.1 HSB.out.2)).mono ?_
  rintro e w4 ⟨rfl, hb⟩
  have HBx := hide (HB.out.trans (hb.mono HB.out.size))
  clear HB
  have HB := HBx
  clear HBx
  have HRAx := hide (HRA.out.below hb)
  clear HRA
  have HRA := HRAx
  clear HRAx
  have HRBx := hide (HRB.out.below hb)
  clear HRB
  have HRB := HRBx
  clear HRBx
  have HKAx := hide (HKA.out.below hb HKA.out.lt)
  clear HKA
  have HKA := HKAx
  clear HKAx
  have HKBx := hide (HKB.out.below hb HKB.out.lt)
  clear HKB
  have HKB := HKBx
  clear HKBx
  clear hb
  by_cases h0 : ce = 0
  case neg =>
    have c1 : (ce == 0) = false := by simpa using h0
    have c2 : decide (ce = 0) = false := decide_eq_false h0
    clear h0
    go_wp2_with fail
    refine (HKN.out _).mono ?_
    rintro e wk6 ⟨rfl, hb⟩
    have HBx := hide (HB.out.trans (hb.mono HB.out.size))
    clear HB
    have HB := HBx
    clear HBx
    have HRAx := hide (HRA.out.below hb)
    clear HRA
    have HRA := HRAx
    clear HRAx
    have HRBx := hide (HRB.out.below hb)
    clear HRB
    have HRB := HRBx
    clear HRBx
    have HKAx := hide (HKA.out.below hb HKA.out.lt)
    clear HKA
    have HKA := HKAx
    clear HKAx
    have HKBx := hide (HKB.out.below hb HKB.out.lt)
    clear HKB
    have HKB := HKBx
    clear HKBx
    clear hb
    go_wp2_with fail
    go_ret
    exact ⟨rfl, HB.out⟩
  subst h0
  by_cases h0 : cf = 0
  case neg =>
    have c1 : (cf == 0) = false := by simpa using h0
    have c2 : decide (cf = 0) = false := decide_eq_false h0
    clear h0
    go_wp2_with fail
    refine (HKN.out _).mono ?_
    rintro e wk7 ⟨rfl, hb⟩
    have HBx := hide (HB.out.trans (hb.mono HB.out.size))
    clear HB
    have HB := HBx
    clear HBx
    have HRAx := hide (HRA.out.below hb)
    clear HRA
    have HRA := HRAx
    clear HRAx
    have HRBx := hide (HRB.out.below hb)
    clear HRB
    have HRB := HRBx
    clear HRBx
    have HKAx := hide (HKA.out.below hb HKA.out.lt)
    clear HKA
    have HKA := HKAx
    clear HKAx
    have HKBx := hide (HKB.out.below hb HKB.out.lt)
    clear HKB
    have HKB := HKBx
    clear HKBx
    clear hb
    go_wp2_with fail
    go_ret
    exact ⟨rfl, HB.out⟩
  subst h0
  have hq := one_same HUA.out HUB.out HSA.out.2 HSB.out.2
  obtain ⟨q, hqq⟩ : ∃ z, decide (a.m = b.m) = z := ⟨_, rfl⟩
  have HSM := hide (rugSame_calls a b HRA.out HRB.out HSA.out.1)
  rw [hqq] at hq HSM
  clear hqq
  have k0 : w4.cell? ⟨w.heap.size, 0, none⟩ = some (.string a.name) := HKA.out.cell 0
  have k1 : w4.cell? ⟨w.heap.size, 1, none⟩ = some (.int .i64 a.version) := HKA.out.cell 1
  have k2 : w4.cell? ⟨w.heap.size, 2, none⟩ = some (.slice a.uA a.uses.length a.uc) := HKA.out.cell 2
  have k3 : w4.cell? ⟨w.heap.size, 3, none⟩ = some (.int .i64 a.funs) := HKA.out.cell 3
  have k4 : w4.cell? ⟨w.heap.size, 4, none⟩ = some (.slice a.rA a.vs.length a.rc) := HKA.out.cell 4
  have j0 : w4.cell? ⟨gb, 0, none⟩ = some (.string b.name) := HKB.out.cell 0
  have j1 : w4.cell? ⟨gb, 1, none⟩ = some (.int .i64 b.version) := HKB.out.cell 1
  have j2 : w4.cell? ⟨gb, 2, none⟩ = some (.slice b.uA b.uses.length b.uc) := HKB.out.cell 2
  have j3 : w4.cell? ⟨gb, 3, none⟩ = some (.int .i64 b.funs) := HKB.out.cell 3
  have j4 : w4.cell? ⟨gb, 4, none⟩ = some (.slice b.rA b.vs.length b.rc) := HKB.out.cell 4
  go_wp2_with fail
  clear k0 k1 k2 k3 k4 j0 j1 j2 j3 j4
  refine (HSM.out).mono ?_
  rintro e w5 ⟨rfl, hb⟩
  have HBx := hide (HB.out.trans (hb.mono HB.out.size))
  clear HB
  have HB := HBx
  clear HBx
  have HRAx := hide (HRA.out.below hb)
  clear HRA
  have HRA := HRAx
  clear HRAx
  have HRBx := hide (HRB.out.below hb)
  clear HRB
  have HRB := HRBx
  clear HRBx
  have HKAx := hide (HKA.out.below hb HKA.out.lt)
  clear HKA
  have HKA := HKAx
  clear HKAx
  have HKBx := hide (HKB.out.below hb HKB.out.lt)
  clear HKB
  have HKB := HKBx
  clear HKBx
  clear hb
  cases q
  case false =>
    go_wp2_with fail
    refine (HKN.out _).mono ?_
    rintro e wk9 ⟨rfl, hb⟩
    have HBx := hide (HB.out.trans (hb.mono HB.out.size))
    clear HB
    have HB := HBx
    clear HBx
    have HRAx := hide (HRA.out.below hb)
    clear HRA
    have HRA := HRAx
    clear HRAx
    have HRBx := hide (HRB.out.below hb)
    clear HRB
    have HRB := HRBx
    clear HRBx
    have HKAx := hide (HKA.out.below hb HKA.out.lt)
    clear HKA
    have HKA := HKAx
    clear HKAx
    have HKBx := hide (HKB.out.below hb HKB.out.lt)
    clear HKB
    have HKB := HKBx
    clear HKBx
    clear hb
    go_wp2_with fail
    go_ret
    exact ⟨rfl, HB.out⟩
  case true =>
    go_wp2_with fail
    refine (HKN.out _).mono ?_
    rintro e wk10 ⟨rfl, hb⟩
    have HBx := hide (HB.out.trans (hb.mono HB.out.size))
    clear HB
    have HB := HBx
    clear HBx
    have HRAx := hide (HRA.out.below hb)
    clear HRA
    have HRA := HRAx
    clear HRAx
    have HRBx := hide (HRB.out.below hb)
    clear HRB
    have HRB := HRBx
    clear HRBx
    have HKAx := hide (HKA.out.below hb HKA.out.lt)
    clear HKA
    have HKA := HKAx
    clear HKAx
    have HKBx := hide (HKB.out.below hb HKB.out.lt)
    clear HKB
    have HKB := HKBx
    clear HKBx
    clear hb
    go_wp2_with fail
    go_ret
    exact ⟨rfl, HB.out⟩
set_option maxRecDepth 20000 in
set_option maxHeartbeats 4000000 in
theorem ImageBuilds_walk (u : UnitV) (w : World) (hu : UnitG w u) : Calls Try.prog 3 #[.agg #[.string u.name, .int .i64 u.version, .slice u.uA u.uses.length u.uc, .int .i64 u.funs, .slice u.rA u.vs.length u.rc]] w fun e w' => e = .returned (.bool true) ∧ Below w.heap.size w w' := by
  have HKN := hide lknown14_calls
  have HGU := hide hu
  clear hu
  have HB := hide ((Below.refl w.heap.size w).alloc (Nat.le_refl _) (.cells #[.string u.name, .int .i64 u.version, .slice u.uA u.uses.length u.uc, .int .i64 u.funs, .slice u.rA u.vs.length u.rc] 25))
  have HR := hide (HGU.out.reads.below HB.out)
  have HK := hide (Blk.new w 25 #[.string u.name, .int .i64 u.version, .slice u.uA u.uses.length u.uc, .int .i64 u.funs, .slice u.rA u.vs.length u.rc])
  go_enter Try.func3, Try.ntmps3
  go_wp2_with fail
  refine ((rugLight_calls u HR.out)).mono ?_
  rintro e w1 ⟨lu, rfl, hlu, hb⟩
  have HBx := hide (HB.out.trans (hb.mono HB.out.size))
  clear HB
  have HB := HBx
  clear HBx
  have HRx := hide (HR.out.below hb)
  clear HR
  have HR := HRx
  clear HRx
  have HKx := hide (HK.out.below hb HK.out.lt)
  clear HK
  have HK := HKx
  clear HKx
  clear hb
  have HLU := hide hlu
  clear hlu
  cases lu
  case false =>
    go_wp2_with fail
    refine (HKN.out _).mono ?_
    rintro e wk1 ⟨rfl, hb⟩
    have HBx := hide (HB.out.trans (hb.mono HB.out.size))
    clear HB
    have HB := HBx
    clear HBx
    have HRx := hide (HR.out.below hb)
    clear HR
    have HR := HRx
    clear HRx
    have HKx := hide (HK.out.below hb HK.out.lt)
    clear HK
    have HK := HKx
    clear HKx
    clear hb
    go_wp2_with fail
    go_ret
    exact ⟨rfl, HB.out⟩
  have HS := hide (HGU.out.lim (HLU.out (by trivial)))
  clear HLU
  have k0 : w1.cell? ⟨w.heap.size, 0, none⟩ = some (.string u.name) := HK.out.cell 0
  have k1 : w1.cell? ⟨w.heap.size, 1, none⟩ = some (.int .i64 u.version) := HK.out.cell 1
  have k2 : w1.cell? ⟨w.heap.size, 2, none⟩ = some (.slice u.uA u.uses.length u.uc) := HK.out.cell 2
  have k3 : w1.cell? ⟨w.heap.size, 3, none⟩ = some (.int .i64 u.funs) := HK.out.cell 3
  have k4 : w1.cell? ⟨w.heap.size, 4, none⟩ = some (.slice u.rA u.vs.length u.rc) := HK.out.cell 4
  go_wp2_with fail
  clear k0 k1 k2 k3 k4
  obtain ⟨S, hS⟩ : ∃ z, (ubuild u.m).1 = z := ⟨_, rfl⟩
  obtain ⟨ce, hce⟩ : ∃ z, (ubuild u.m).2 = z := ⟨_, rfl⟩
  have HU := hide (show ubuild u.m = (S, ce) from Prod.ext hS hce)
  clear hS hce
  refine ((bu_lit u (s := S) (c := ce) HU.out HR.out HS.out.1 HS.out.2)).mono ?_
  rintro e w3 ⟨rfl, hb⟩
  have HBx := hide (HB.out.trans (hb.mono HB.out.size))
  clear HB
  have HB := HBx
  clear HBx
  have HRx := hide (HR.out.below hb)
  clear HR
  have HR := HRx
  clear HRx
  have HKx := hide (HK.out.below hb HK.out.lt)
  clear HK
  have HK := HKx
  clear HKx
  clear hb
  have k0 : w3.cell? ⟨w.heap.size, 0, none⟩ = some (.string u.name) := HK.out.cell 0
  have k1 : w3.cell? ⟨w.heap.size, 1, none⟩ = some (.int .i64 u.version) := HK.out.cell 1
  have k2 : w3.cell? ⟨w.heap.size, 2, none⟩ = some (.slice u.uA u.uses.length u.uc) := HK.out.cell 2
  have k3 : w3.cell? ⟨w.heap.size, 3, none⟩ = some (.int .i64 u.funs) := HK.out.cell 3
  have k4 : w3.cell? ⟨w.heap.size, 4, none⟩ = some (.slice u.rA u.vs.length u.rc) := HK.out.cell 4
  go_wp2_with fail
  clear k0 k1 k2 k3 k4
  refine ((rbu_lit u (s := S) (c := ce) HU.out HR.out HS.out.1 HS.out.2)).mono ?_
  rintro e w4 ⟨rfl, hb⟩
  have HBx := hide (HB.out.trans (hb.mono HB.out.size))
  clear HB
  have HB := HBx
  clear HBx
  have HRx := hide (HR.out.below hb)
  clear HR
  have HR := HRx
  clear HRx
  have HKx := hide (HK.out.below hb HK.out.lt)
  clear HK
  have HK := HKx
  clear HKx
  clear hb
  have HX1 := hide (fun w1 (h : u.Reads w1) => ugRight_calls (w := w1) u h HS.out.1)
  have HX2 := hide (fun w1 (h : u.Reads w1) => rugRight_calls (w := w1) u h HS.out.1)
  generalize unitOk u.m = ok at *
  go_wp2_with fail
  have hHeld0 : Below w.heap.size w w4.drew ∧ Blk w4.drew w.heap.size 25 #[.string u.name, .int .i64 u.version, .slice u.uA u.uses.length u.uc, .int .i64 u.funs, .slice u.rA u.vs.length u.rc] ∧ UnitV.Reads w4.drew u := ⟨HB.out.drew, HK.out, HR.out.below (Below.refl _ _).drew⟩
  refine wp_region_heads [0, 1, 2, 3, 4, 5, 6, 7, 8, 9, 11] 8 (fun w' => Below w.heap.size w w' ∧ Blk w' w.heap.size 25 #[.string u.name, .int .i64 u.version, .slice u.uA u.uses.length u.uc, .int .i64 u.funs, .slice u.rA u.vs.length u.rc] ∧ UnitV.Reads w' u) (by kernel_rfl) rfl (by kernel_rfl) (by kernel_rfl) (fun _ _ d _ _ h => by cases d <;> first | exact h | exact ⟨h.1, h.2.1, h.2.2.below (Below.refl _ _).drew⟩) ⟨HB.out.drew, HK.out, HR.out.below (Below.refl _ _).drew⟩ ?_
  iterate 11
    first
    | refine' Heads.skip rfl (by rfl) ?_
    | (refine' Heads.step rfl (by rfl) ?_ ?_
       rotate_left
       · intro w' hSw
         obtain ⟨qb, qk, qr⟩ := hSw
         have r0 : w'.cell? ⟨w.heap.size, 0, none⟩ = some (.string u.name) := qk.cell 0
         have r1 : w'.cell? ⟨w.heap.size, 1, none⟩ = some (.int .i64 u.version) := qk.cell 1
         have r2 : w'.cell? ⟨w.heap.size, 2, none⟩ = some (.slice u.uA u.uses.length u.uc) := qk.cell 2
         have r3 : w'.cell? ⟨w.heap.size, 3, none⟩ = some (.int .i64 u.funs) := qk.cell 3
         have r4 : w'.cell? ⟨w.heap.size, 4, none⟩ = some (.slice u.rA u.vs.length u.rc) := qk.cell 4
         go_simp
         try with_reducible rfl)
    simp only [Act.put, List.setIfInBounds_toArray, List.set_cons_zero, List.set_cons_succ]
  refine Heads.done ?_
  refine wpAnyH_ready (rs := [10]) (by kernel_rfl) (by simp) (AllReadyH.cons rfl (fun K hK => ?_) AllReadyH.nil)
  go_simp
  refine (HX1.out _ hHeld0.2.2).mono ?_
  rintro e w5 ⟨rfl, hb1⟩
  refine hK.out _ _ ⟨hHeld0.1.trans (hb1.mono hHeld0.1.size), hHeld0.2.1.below hb1 hHeld0.2.1.lt, hHeld0.2.2.below hb1⟩ (fun hHeld1 => ?_)
  clear hK K
  refine wpAnyH_ready (rs := [12]) (by kernel_rfl) (by simp) (AllReadyH.cons rfl (fun K hK => ?_) AllReadyH.nil)
  go_simp
  refine (HX2.out _ hHeld1.2.2).mono ?_
  rintro e w6 ⟨rfl, hb2⟩
  refine hK.out _ _ ⟨hHeld1.1.trans (hb2.mono hHeld1.1.size), hHeld1.2.1.below hb2 hHeld1.2.1.lt, hHeld1.2.2.below hb2⟩ (fun hHeld2 => ?_)
  clear hK K
  refine wpAnyH_more [13, 14, 15] 3 rfl (by kernel_rfl) (by kernel_rfl) (fun _ _ d _ _ h => by cases d <;> first | exact h | exact ⟨h.1, h.2.1, h.2.2.below (Below.refl _ _).drew⟩) hHeld2 ?_
  iterate 3
    first
    | refine' Heads.skip rfl (by rfl) ?_
    | (refine' Heads.step rfl (by rfl) ?_ ?_
       rotate_left
       · intro w' hSw
         go_simp
         try with_reducible rfl)
    simp only [Act.put, List.setIfInBounds_toArray, List.set_cons_zero, List.set_cons_succ]
  refine Heads.done ?_
  refine wpAnyH_ready (rs := [16]) (by kernel_rfl) (by simp) (AllReadyH.cons rfl (fun K hK => ?_) AllReadyH.nil)
  go_simp
  refine (HKN.out _).mono ?_
  rintro e w7 ⟨rfl, hb3⟩
  refine hK.out _ _ ⟨hHeld2.1.trans (hb3.mono hHeld2.1.size), hHeld2.2.1.below hb3 hHeld2.2.1.lt, hHeld2.2.2.below hb3⟩ (fun hHeld3 => ?_)
  clear hK K
  refine wpAnyH_more [17, 18] 0 rfl (by kernel_rfl) (by kernel_rfl) (fun _ _ d _ _ h => by cases d <;> first | exact h | exact ⟨h.1, h.2.1, h.2.2.below (Below.refl _ _).drew⟩) hHeld3 ?_
  iterate 2
    first
    | refine' Heads.skip rfl (by rfl) ?_
    | (refine' Heads.step rfl (by rfl) ?_ ?_
       rotate_left
       · intro w' hSw
         go_simp
         try with_reducible rfl)
    simp only [Act.put, List.setIfInBounds_toArray, List.set_cons_zero, List.set_cons_succ]
  refine Heads.done ?_
  refine wpAnyH_done (by kernel_rfl) ?_ _
  go_wp2_with fail
  go_ret
  exact ⟨rfl, hHeld3.1⟩
end Go.Proofs.Ythgjmbcojbmlhaa
