/- Chapter 14: ImageOnly, walked. -/
import Derived.Test.YthgjmbcojbmlhaaImhF
namespace Go.Proofs.Ythgjmbcojbmlhaa
open Go.RowKit Zb

set_option maxRecDepth 20000 in
set_option maxHeartbeats 4000000 in
theorem ImageOnly_walk (s : ByteArray) (w : World) (hs : s.size ≤ 140737488351232) : Calls Try.prog 6 #[.string s] w fun e w' => e = .returned (.bool true) ∧ Below w.heap.size w w' := by
  have HKN := hide lknown14_calls
  by_cases c0 : (20000 : Int) < (s.size : Int)
  case pos =>
    have d0 := decide_eq_true c0
    have e0 : decide (20000 < s.size) = true := decide_eq_true (by omega)
    go_enter Try.func6, Try.ntmps6
    go_wp2_with fail
    refine (HKN.out _).mono ?_
    rintro e w1 ⟨rfl, hb⟩
    go_wp2_with fail
    go_ret
    exact ⟨rfl, hb⟩
  have d0 := decide_eq_false c0
  have e0 : decide (20000 < s.size) = false := decide_eq_false (by omega)
  have hs1 : s.size ≤ 100000000 := by omega
  obtain ⟨m, hm⟩ : ∃ z, (uparse s).1 = z := ⟨_, rfl⟩
  obtain ⟨c, hc⟩ : ∃ z, (uparse s).2 = z := ⟨_, rfl⟩
  have hmc : uparse s = (m, c) := Prod.ext hm hc
  have HP := hide (fun w => pa_lit hmc (ugParse_calls (w := w) s hs1))
  have HLM := hide (pa_lim hs1)
  have HNO := hide (fun h => uparse_no (s := s) h)
  have HYES := hide (fun h => uparse_yes (s := s) h)
  rw [hm] at HLM HNO HYES
  rw [hc] at HNO HYES
  clear hm hc hmc hs1 c0
  have HB := hide (Below.refl w.heap.size w)
  go_enter Try.func6, Try.ntmps6
  go_wp2_with fail
  refine (HP.out _).mono ?_
  rintro e w1 ⟨u, rfl, hum, hb, ho⟩
  have HBx := hide (HB.out.trans (hb.mono HB.out.size))
  clear HB
  have HB := HBx
  clear HBx
  clear hb
  have HR := hide (ho.reads)
  have HUM := hide hum
  clear hum ho
  have HK := hide (Blk.new w1 25 #[.string u.name, .int .i64 u.version, .slice u.uA u.uses.length u.uc, .int .i64 u.funs, .slice u.rA u.vs.length u.rc])
  have HBx := hide (HB.out.alloc HB.out.size (.cells #[.string u.name, .int .i64 u.version, .slice u.uA u.uses.length u.uc, .int .i64 u.funs, .slice u.rA u.vs.length u.rc] 25))
  clear HB
  have HB := HBx
  clear HBx
  have HRx := hide (HR.out.below ((Below.refl _ _).alloc (Nat.le_refl _) (.cells #[.string u.name, .int .i64 u.version, .slice u.uA u.uses.length u.uc, .int .i64 u.funs, .slice u.rA u.vs.length u.rc] 25)))
  clear HR
  have HR := HRx
  clear HRx
  by_cases hc : c = 0
  case neg =>
    have c1 : (c == 0) = false := by simpa using hc
    have c2 : decide (c = 0) = false := decide_eq_false hc
    have HMZ := hide (HNO.out hc)
    clear hc
    have k0 : (w1.alloc (.cells #[.string u.name, .int .i64 u.version, .slice u.uA u.uses.length u.uc, .int .i64 u.funs, .slice u.rA u.vs.length u.rc] 25)).cell? ⟨w1.heap.size, 0, none⟩ = some (.string u.name) := HK.out.cell 0
    have k1 : (w1.alloc (.cells #[.string u.name, .int .i64 u.version, .slice u.uA u.uses.length u.uc, .int .i64 u.funs, .slice u.rA u.vs.length u.rc] 25)).cell? ⟨w1.heap.size, 1, none⟩ = some (.int .i64 u.version) := HK.out.cell 1
    have k2 : (w1.alloc (.cells #[.string u.name, .int .i64 u.version, .slice u.uA u.uses.length u.uc, .int .i64 u.funs, .slice u.rA u.vs.length u.rc] 25)).cell? ⟨w1.heap.size, 2, none⟩ = some (.slice u.uA u.uses.length u.uc) := HK.out.cell 2
    have k3 : (w1.alloc (.cells #[.string u.name, .int .i64 u.version, .slice u.uA u.uses.length u.uc, .int .i64 u.funs, .slice u.rA u.vs.length u.rc] 25)).cell? ⟨w1.heap.size, 3, none⟩ = some (.int .i64 u.funs) := HK.out.cell 3
    have k4 : (w1.alloc (.cells #[.string u.name, .int .i64 u.version, .slice u.uA u.uses.length u.uc, .int .i64 u.funs, .slice u.rA u.vs.length u.rc] 25)).cell? ⟨w1.heap.size, 4, none⟩ = some (.slice u.rA u.vs.length u.rc) := HK.out.cell 4
    go_wp2_with fail
    clear k0 k1 k2 k3 k4
    have HSM := hide (fun w1 (h : u.Reads w1) => rugSame_calls (w := w1) u ⟨⟨#[]⟩, 0, [], none, 0, 0, [], none, 0⟩ h (kn_reads _ _ _) (by rw [HUM.out]; exact HLM.out.1))
    have hdt : decide (u.m = UnitV.m ⟨⟨#[]⟩, 0, [], none, 0, 0, [], none, 0⟩) = true := decide_eq_true (by rw [HUM.out, HMZ.out]; rfl)
    rw [hdt] at HSM
    clear hdt
    refine (HSM.out _ HR.out).mono ?_
    rintro e w3 ⟨rfl, hb⟩
    have HBx := hide (HB.out.trans (hb.mono HB.out.size))
    clear HB
    have HB := HBx
    clear HBx
    have HRx := hide (HR.out.below hb)
    clear HR
    have HR := HRx
    clear HRx
    have HKx := hide (HK.out.below hb HK.out.lt)
    clear HK
    have HK := HKx
    clear HKx
    clear hb
    go_wp2_with fail
    refine (HKN.out _).mono ?_
    rintro e wk2 ⟨rfl, hb⟩
    have HBx := hide (HB.out.trans (hb.mono HB.out.size))
    clear HB
    have HB := HBx
    clear HBx
    have HRx := hide (HR.out.below hb)
    clear HR
    have HR := HRx
    clear HRx
    have HKx := hide (HK.out.below hb HK.out.lt)
    clear HK
    have HK := HKx
    clear HKx
    clear hb
    go_wp2_with fail
    go_ret
    exact ⟨rfl, HB.out⟩
  subst hc
  have HYE := hide (HYES.out rfl)
  have HOK := hide (ubuild_ok HYE.out).1
  have k0 : (w1.alloc (.cells #[.string u.name, .int .i64 u.version, .slice u.uA u.uses.length u.uc, .int .i64 u.funs, .slice u.rA u.vs.length u.rc] 25)).cell? ⟨w1.heap.size, 0, none⟩ = some (.string u.name) := HK.out.cell 0
  have k1 : (w1.alloc (.cells #[.string u.name, .int .i64 u.version, .slice u.uA u.uses.length u.uc, .int .i64 u.funs, .slice u.rA u.vs.length u.rc] 25)).cell? ⟨w1.heap.size, 1, none⟩ = some (.int .i64 u.version) := HK.out.cell 1
  have k2 : (w1.alloc (.cells #[.string u.name, .int .i64 u.version, .slice u.uA u.uses.length u.uc, .int .i64 u.funs, .slice u.rA u.vs.length u.rc] 25)).cell? ⟨w1.heap.size, 2, none⟩ = some (.slice u.uA u.uses.length u.uc) := HK.out.cell 2
  have k3 : (w1.alloc (.cells #[.string u.name, .int .i64 u.version, .slice u.uA u.uses.length u.uc, .int .i64 u.funs, .slice u.rA u.vs.length u.rc] 25)).cell? ⟨w1.heap.size, 3, none⟩ = some (.int .i64 u.funs) := HK.out.cell 3
  have k4 : (w1.alloc (.cells #[.string u.name, .int .i64 u.version, .slice u.uA u.uses.length u.uc, .int .i64 u.funs, .slice u.rA u.vs.length u.rc] 25)).cell? ⟨w1.heap.size, 4, none⟩ = some (.slice u.rA u.vs.length u.rc) := HK.out.cell 4
  go_wp2_with fail
  clear k0 k1 k2 k3 k4
  have HBU := hide (fun w1 (h : u.Reads w1) => bu_lit (w := w1) (s := s) (c := 0) u (by rw [HUM.out]; exact HYE.out) h (by rw [HUM.out]; exact HLM.out.1) (by rw [HUM.out]; exact HLM.out.2))
  have HRI := hide (fun w1 (h : u.Reads w1) => ugRight_calls (w := w1) u h (by rw [HUM.out]; exact HLM.out.1))
  rw [HUM.out, HOK.out] at HRI
  refine (HBU.out _ HR.out).mono ?_
  rintro e w3 ⟨rfl, hb⟩
  have HBx := hide (HB.out.trans (hb.mono HB.out.size))
  clear HB
  have HB := HBx
  clear HBx
  have HRx := hide (HR.out.below hb)
  clear HR
  have HR := HRx
  clear HRx
  have HKx := hide (HK.out.below hb HK.out.lt)
  clear HK
  have HK := HKx
  clear HKx
  clear hb
  have k0 : w3.cell? ⟨w1.heap.size, 0, none⟩ = some (.string u.name) := HK.out.cell 0
  have k1 : w3.cell? ⟨w1.heap.size, 1, none⟩ = some (.int .i64 u.version) := HK.out.cell 1
  have k2 : w3.cell? ⟨w1.heap.size, 2, none⟩ = some (.slice u.uA u.uses.length u.uc) := HK.out.cell 2
  have k3 : w3.cell? ⟨w1.heap.size, 3, none⟩ = some (.int .i64 u.funs) := HK.out.cell 3
  have k4 : w3.cell? ⟨w1.heap.size, 4, none⟩ = some (.slice u.rA u.vs.length u.rc) := HK.out.cell 4
  go_wp2_with fail
  clear k0 k1 k2 k3 k4
  refine (HRI.out _ HR.out).mono ?_
  rintro e w4 ⟨rfl, hb⟩
  have HBx := hide (HB.out.trans (hb.mono HB.out.size))
  clear HB
  have HB := HBx
  clear HBx
  have HRx := hide (HR.out.below hb)
  clear HR
  have HR := HRx
  clear HRx
  have HKx := hide (HK.out.below hb HK.out.lt)
  clear HK
  have HK := HKx
  clear HKx
  clear hb
  go_wp2_with fail
  refine (HKN.out _).mono ?_
  rintro e wk5 ⟨rfl, hb⟩
  have HBx := hide (HB.out.trans (hb.mono HB.out.size))
  clear HB
  have HB := HBx
  clear HBx
  have HRx := hide (HR.out.below hb)
  clear HR
  have HR := HRx
  clear HRx
  have HKx := hide (HK.out.below hb HK.out.lt)
  clear HK
  have HK := HKx
  clear HKx
  clear hb
  go_wp2_with fail
  go_ret
  exact ⟨rfl, HB.out⟩
end Go.Proofs.Ythgjmbcojbmlhaa
