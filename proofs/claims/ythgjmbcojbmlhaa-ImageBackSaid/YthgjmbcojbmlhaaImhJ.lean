/- Chapter 14: ImageBack, walked. -/
import Derived.Test.YthgjmbcojbmlhaaImhF
import Derived.Test.YthgjmbcojbmlhaaCount
namespace Go.Proofs.Ythgjmbcojbmlhaa
open Go.RowKit Zb Go.WideShapes

set_option maxRecDepth 20000 in
theorem unitB_le {u : UnitM} (h : unitOk u = true) : (unitB u).size ≤ 30000000 := by
  have hl := unit_lim h
  have h1 := catB_bound useB 2300 u.uses fun x hx => useB_le (hl.uses.2 x hx)
  have h2 := catB_bound protoB 300000 u.protos fun x hx => by
    obtain ⟨top, hp⟩ := hl.protos.2 x hx
    exact protoB_le (proto_lim hp)
  have h3 := hl.uses.1
  have h4 := hl.protos.1
  have h5 := textB_le8 u.name (by have := hl.name; omega)
  have q1 := putB_le8 u.version 4
  have q2 := putB_le8 u.uses.length 2
  have q3 := putB_le8 u.funs 1
  have q4 := putB_le8 u.protos.length 2
  have q5 : (⟨#[67, 72, 82, 89]⟩ : ByteArray).size = 4 := rfl
  unfold unitB unitH
  simp only [ByteArray.size_append]
  omega
set_option maxRecDepth 20000 in
theorem unitB_ge (u : UnitM) : 4 ≤ (unitB u).size := by
  have q5 : (⟨#[67, 72, 82, 89]⟩ : ByteArray).size = 4 := rfl
  unfold unitB unitH
  simp only [ByteArray.size_append]
  omega
set_option maxRecDepth 20000 in
set_option maxHeartbeats 4000000 in
theorem ImageBack_walk (u : UnitV) (cut : Int) (more : ByteArray) (w : World) (hu : UnitG w u) (hcut : (Lit.int .i64 cut).wf = true) (_ : more.size ≤ 140737488351232) : Calls Try.prog 5 #[.agg #[.string u.name, .int .i64 u.version, .slice u.uA u.uses.length u.uc, .int .i64 u.funs, .slice u.rA u.vs.length u.rc], .int .i64 cut, .string more] w fun e w' => e = .returned (.bool true) ∧ Below w.heap.size w w' := by
  have HKN := hide lknown14_calls
  have HGU := hide hu
  have bc := bounds_i64 hcut
  clear hu hcut
  have HB := hide ((Below.refl w.heap.size w).alloc (Nat.le_refl _) (.cells #[.string u.name, .int .i64 u.version, .slice u.uA u.uses.length u.uc, .int .i64 u.funs, .slice u.rA u.vs.length u.rc] 25))
  have HR := hide (HGU.out.reads.below HB.out)
  have HK := hide (Blk.new w 25 #[.string u.name, .int .i64 u.version, .slice u.uA u.uses.length u.uc, .int .i64 u.funs, .slice u.rA u.vs.length u.rc])
  go_enter Try.func5, Try.ntmps5
  go_wp2_with fail
  refine ((rugLight_calls u HR.out)).mono ?_
  rintro e w1 ⟨lu, rfl, hlu, hb⟩
  have HBx := hide (HB.out.trans (hb.mono HB.out.size))
  clear HB
  have HB := HBx
  clear HBx
  have HRx := hide (HR.out.below hb)
  clear HR
  have HR := HRx
  clear HRx
  have HKx := hide (HK.out.below hb HK.out.lt)
  clear HK
  have HK := HKx
  clear HKx
  clear hb
  have HLU := hide hlu
  clear hlu
  cases lu
  case false =>
    go_wp2_with fail
    refine (HKN.out _).mono ?_
    rintro e wk1 ⟨rfl, hb⟩
    have HBx := hide (HB.out.trans (hb.mono HB.out.size))
    clear HB
    have HB := HBx
    clear HBx
    have HRx := hide (HR.out.below hb)
    clear HR
    have HR := HRx
    clear HRx
    have HKx := hide (HK.out.below hb HK.out.lt)
    clear HK
    have HK := HKx
    clear HKx
    clear hb
    go_wp2_with fail
    go_ret
    exact ⟨rfl, HB.out⟩
  by_cases cm : (100 : Int) < (more.size : Int)
  case pos =>
    have dm := decide_eq_true cm
    have em : decide (100 < more.size) = true := decide_eq_true (by omega)
    go_wp2_with fail
    refine (HKN.out _).mono ?_
    rintro e wk2 ⟨rfl, hb⟩
    have HBx := hide (HB.out.trans (hb.mono HB.out.size))
    clear HB
    have HB := HBx
    clear HBx
    have HRx := hide (HR.out.below hb)
    clear HR
    have HR := HRx
    clear HRx
    have HKx := hide (HK.out.below hb HK.out.lt)
    clear HK
    have HK := HKx
    clear HKx
    clear hb
    go_wp2_with fail
    go_ret
    exact ⟨rfl, HB.out⟩
  have dm := decide_eq_false cm
  have em : decide (100 < more.size) = false := decide_eq_false (by omega)
  have hm100 : more.size ≤ 100 := by omega
  have HS := hide (HGU.out.lim (HLU.out (by trivial)))
  clear HLU
  have k0 : w1.cell? ⟨w.heap.size, 0, none⟩ = some (.string u.name) := HK.out.cell 0
  have k1 : w1.cell? ⟨w.heap.size, 1, none⟩ = some (.int .i64 u.version) := HK.out.cell 1
  have k2 : w1.cell? ⟨w.heap.size, 2, none⟩ = some (.slice u.uA u.uses.length u.uc) := HK.out.cell 2
  have k3 : w1.cell? ⟨w.heap.size, 3, none⟩ = some (.int .i64 u.funs) := HK.out.cell 3
  have k4 : w1.cell? ⟨w.heap.size, 4, none⟩ = some (.slice u.rA u.vs.length u.rc) := HK.out.cell 4
  go_wp2_with fail
  clear k0 k1 k2 k3 k4
  have HX1 := hide (fun w1 (h : u.Reads w1) => ugRight_calls (w := w1) u h HS.out.1)
  obtain ⟨ok, hok⟩ : ∃ z, unitOk u.m = z := ⟨_, rfl⟩
  rw [hok] at HX1
  cases ok
  case false =>
    refine ((bu_lit u (s := ⟨#[]⟩) (c := 4) (ubuild_no hok) HR.out HS.out.1 HS.out.2)).mono ?_
    rintro e w3 ⟨rfl, hb⟩
    have HBx := hide (HB.out.trans (hb.mono HB.out.size))
    clear HB
    have HB := HBx
    clear HBx
    have HRx := hide (HR.out.below hb)
    clear HR
    have HR := HRx
    clear HRx
    have HKx := hide (HK.out.below hb HK.out.lt)
    clear HK
    have HK := HKx
    clear HKx
    clear hb
    have k0 : w3.cell? ⟨w.heap.size, 0, none⟩ = some (.string u.name) := HK.out.cell 0
    have k1 : w3.cell? ⟨w.heap.size, 1, none⟩ = some (.int .i64 u.version) := HK.out.cell 1
    have k2 : w3.cell? ⟨w.heap.size, 2, none⟩ = some (.slice u.uA u.uses.length u.uc) := HK.out.cell 2
    have k3 : w3.cell? ⟨w.heap.size, 3, none⟩ = some (.int .i64 u.funs) := HK.out.cell 3
    have k4 : w3.cell? ⟨w.heap.size, 4, none⟩ = some (.slice u.rA u.vs.length u.rc) := HK.out.cell 4
    go_wp2_with fail
    clear k0 k1 k2 k3 k4
    refine ((HX1.out _ HR.out)).mono ?_
    rintro e w4 ⟨rfl, hb⟩
    have HBx := hide (HB.out.trans (hb.mono HB.out.size))
    clear HB
    have HB := HBx
    clear HBx
    have HRx := hide (HR.out.below hb)
    clear HR
    have HR := HRx
    clear HRx
    have HKx := hide (HK.out.below hb HK.out.lt)
    clear HK
    have HK := HKx
    clear HKx
    clear hb
    go_wp2_with fail
    refine (HKN.out _).mono ?_
    rintro e wk5 ⟨rfl, hb⟩
    have HBx := hide (HB.out.trans (hb.mono HB.out.size))
    clear HB
    have HB := HBx
    clear HBx
    have HRx := hide (HR.out.below hb)
    clear HR
    have HR := HRx
    clear HRx
    have HKx := hide (HK.out.below hb HK.out.lt)
    clear HK
    have HK := HKx
    clear HKx
    clear hb
    go_wp2_with fail
    go_ret
    exact ⟨rfl, HB.out⟩
  have hle := unitB_le hok
  have hge := unitB_ge u.m
  have hback := uparse_back hok HS.out.2
  have hcutq : ∀ n, n < (unitB u.m).size → uparse ((unitB u.m).extract 0 n) = (unit0, 2) := fun n hn => uparse_cut hok HS.out.2 hn
  have hmore : more ≠ ⟨#[]⟩ → uparse (unitB u.m ++ more) = (unit0, 4) := fun h => uparse_more hok HS.out.2 h
  have hyes := ubuild_yes hok
  clear HX1 hok
  obtain ⟨S, hS⟩ : ∃ z, unitB u.m = z := ⟨_, rfl⟩
  rw [hS] at hle hge hback hcutq hmore hyes
  clear hS
  have hz1 : (S.size : Int) ≤ 30000000 := by omega
  have hz2 : (4 : Int) ≤ (S.size : Int) := by omega
  have HCT := hide (fun w => wCount_calls cut S.size (by omega) (by omega) (by omega) (by omega) w)
  obtain ⟨kk, hkk⟩ : ∃ kk : Nat, countM cut S.size = kk := ⟨(countM cut S.size).toNat, by
    have := Int.emod_nonneg (if cut < 0 then -(cut + 1) else cut) (by omega : (S.size : Int) ≠ 0)
    unfold countM
    omega⟩
  have hkl : kk < S.size := by
    have h1 := Int.emod_lt_of_pos (if cut < 0 then -(cut + 1) else cut) (by omega : 0 < (S.size : Int))
    unfold countM at hkk
    omega
  rw [hkk] at HCT
  clear hkk bc
  obtain ⟨ch, hch⟩ : ∃ z, (uparse (S ++ more)).2 = z := ⟨_, rfl⟩
  have hch4 : ch = 4 ∨ more = ⟨#[]⟩ := by
    by_cases h : more = ⟨#[]⟩
    · exact .inr h
    · exact .inl (by rw [← hch, hmore h])
  have hsz2 : (S ++ more).size ≤ 100000000 := by rw [ByteArray.size_append]; omega
  have hsz3 : (S.extract 0 kk).size ≤ 100000000 := by rw [ByteArray.size_extract]; omega
  have hsz1 : S.size ≤ 100000000 := by omega
  have P1 := fun w => ugParse_calls (w := w) S hsz1
  have P2 := fun w => ugParse_calls (w := w) (S.extract 0 kk) hsz3
  have P3 := fun w => ugParse_calls (w := w) (S ++ more) hsz2
  have HP1 := hide (fun w => pa_lit hback (P1 w))
  have HP2 := hide (fun w => pa_lit (hcutq kk hkl) (P2 w))
  have HP3 := hide (fun w => pa_lit (Prod.ext rfl hch : uparse (S ++ more) = ((uparse (S ++ more)).1, ch)) (P3 w))
  obtain ⟨mm, hmm⟩ : ∃ z, (uparse (S ++ more)).1 = z := ⟨_, rfl⟩
  rw [hmm] at HP3
  have HBU := hide (fun w1 h => bu_lit (w := w1) u hyes h HS.out.1 HS.out.2)
  have HC4 := hide hch4
  have hs0 : decide (S.size = 0) = false := decide_eq_false (by omega)
  have hs1 : decide ((S.size : Int) = 0) = false := decide_eq_false (by omega)
  have hs2 : ((S.size : Int) == 0) = false := beq_eq_false_iff_ne.2 (by omega)
  have ha1 : ¬ 9223372036854775807 < S.size + more.size := by omega
  have HZ1 := hide hz1
  have HM1 := hide hm100
  clear P1 P2 P3 hback hcutq hmore hyes hmm hch hch4 hsz1 hsz2 hsz3 hle hge hm100 dm em cm
  refine ((HBU.out _ HR.out)).mono ?_
  rintro e w3 ⟨rfl, hb⟩
  have HBx := hide (HB.out.trans (hb.mono HB.out.size))
  clear HB
  have HB := HBx
  clear HBx
  have HRx := hide (HR.out.below hb)
  clear HR
  have HR := HRx
  clear HRx
  have HKx := hide (HK.out.below hb HK.out.lt)
  clear HK
  have HK := HKx
  clear HKx
  clear hb
  go_wp2_with fail
  refine ((HP1.out _)).mono ?_
  rintro e w4 ⟨v, rfl, hvm, hb, hov⟩
  have HBx := hide (HB.out.trans (hb.mono HB.out.size))
  clear HB
  have HB := HBx
  clear HBx
  have HRx := hide (HR.out.below hb)
  clear HR
  have HR := HRx
  clear HRx
  have HKx := hide (HK.out.below hb HK.out.lt)
  clear HK
  have HK := HKx
  clear HKx
  clear hb
  have HOV := hide (hov)
  have HVM := hide hvm
  clear hvm hov
  have HKV := hide (Blk.new w4 25 #[.string v.name, .int .i64 v.version, .slice v.uA v.uses.length v.uc, .int .i64 v.funs, .slice v.rA v.vs.length v.rc])
  have HBx := hide (HB.out.alloc HB.out.size (.cells #[.string v.name, .int .i64 v.version, .slice v.uA v.uses.length v.uc, .int .i64 v.funs, .slice v.rA v.vs.length v.rc] 25))
  clear HB
  have HB := HBx
  clear HBx
  have HRx := hide (HR.out.below ((Below.refl _ _).alloc (Nat.le_refl _) (.cells #[.string v.name, .int .i64 v.version, .slice v.uA v.uses.length v.uc, .int .i64 v.funs, .slice v.rA v.vs.length v.rc] 25)))
  clear HR
  have HR := HRx
  clear HRx
  have HKx := hide (HK.out.alloc (.cells #[.string v.name, .int .i64 v.version, .slice v.uA v.uses.length v.uc, .int .i64 v.funs, .slice v.rA v.vs.length v.rc] 25))
  clear HK
  have HK := HKx
  clear HKx
  have HOVx := hide (HOV.out.below ((Below.refl _ _).alloc (Nat.le_refl _) (.cells #[.string v.name, .int .i64 v.version, .slice v.uA v.uses.length v.uc, .int .i64 v.funs, .slice v.rA v.vs.length v.rc] 25)))
  clear HOV
  have HOV := HOVx
  clear HOVx
  have j0 : (w4.alloc (.cells #[.string v.name, .int .i64 v.version, .slice v.uA v.uses.length v.uc, .int .i64 v.funs, .slice v.rA v.vs.length v.rc] 25)).cell? ⟨w.heap.size, 0, none⟩ = some (.string u.name) := HK.out.cell 0
  have j1 : (w4.alloc (.cells #[.string v.name, .int .i64 v.version, .slice v.uA v.uses.length v.uc, .int .i64 v.funs, .slice v.rA v.vs.length v.rc] 25)).cell? ⟨w.heap.size, 1, none⟩ = some (.int .i64 u.version) := HK.out.cell 1
  have j2 : (w4.alloc (.cells #[.string v.name, .int .i64 v.version, .slice v.uA v.uses.length v.uc, .int .i64 v.funs, .slice v.rA v.vs.length v.rc] 25)).cell? ⟨w.heap.size, 2, none⟩ = some (.slice u.uA u.uses.length u.uc) := HK.out.cell 2
  have j3 : (w4.alloc (.cells #[.string v.name, .int .i64 v.version, .slice v.uA v.uses.length v.uc, .int .i64 v.funs, .slice v.rA v.vs.length v.rc] 25)).cell? ⟨w.heap.size, 3, none⟩ = some (.int .i64 u.funs) := HK.out.cell 3
  have j4 : (w4.alloc (.cells #[.string v.name, .int .i64 v.version, .slice v.uA v.uses.length v.uc, .int .i64 v.funs, .slice v.rA v.vs.length v.rc] 25)).cell? ⟨w.heap.size, 4, none⟩ = some (.slice u.rA u.vs.length u.rc) := HK.out.cell 4
  have k0 : (w4.alloc (.cells #[.string v.name, .int .i64 v.version, .slice v.uA v.uses.length v.uc, .int .i64 v.funs, .slice v.rA v.vs.length v.rc] 25)).cell? ⟨w4.heap.size, 0, none⟩ = some (.string v.name) := HKV.out.cell 0
  have k1 : (w4.alloc (.cells #[.string v.name, .int .i64 v.version, .slice v.uA v.uses.length v.uc, .int .i64 v.funs, .slice v.rA v.vs.length v.rc] 25)).cell? ⟨w4.heap.size, 1, none⟩ = some (.int .i64 v.version) := HKV.out.cell 1
  have k2 : (w4.alloc (.cells #[.string v.name, .int .i64 v.version, .slice v.uA v.uses.length v.uc, .int .i64 v.funs, .slice v.rA v.vs.length v.rc] 25)).cell? ⟨w4.heap.size, 2, none⟩ = some (.slice v.uA v.uses.length v.uc) := HKV.out.cell 2
  have k3 : (w4.alloc (.cells #[.string v.name, .int .i64 v.version, .slice v.uA v.uses.length v.uc, .int .i64 v.funs, .slice v.rA v.vs.length v.rc] 25)).cell? ⟨w4.heap.size, 3, none⟩ = some (.int .i64 v.funs) := HKV.out.cell 3
  have k4 : (w4.alloc (.cells #[.string v.name, .int .i64 v.version, .slice v.uA v.uses.length v.uc, .int .i64 v.funs, .slice v.rA v.vs.length v.rc] 25)).cell? ⟨w4.heap.size, 4, none⟩ = some (.slice v.rA v.vs.length v.rc) := HKV.out.cell 4
  go_wp2_with fail
  clear k0 k1 k2 k3 k4 j0 j1 j2 j3 j4
  obtain ⟨w5, hw5⟩ : ∃ q_, Hid (w4.alloc (.cells #[.string v.name, .int .i64 v.version, .slice v.uA v.uses.length v.uc, .int .i64 v.funs, .slice v.rA v.vs.length v.rc] 25) = q_) := ⟨_, hide rfl⟩
  obtain ⟨gv, hgv⟩ : ∃ q_, Hid (w4.heap.size = q_) := ⟨_, hide rfl⟩
  rw [hw5.out] at HB HR HK HOV HKV ⊢
  rw [hgv.out] at HKV ⊢
  clear hw5 hgv
  have HSM := hide (rugSame_calls v u HOV.out.reads HR.out (by rw [HVM.out]; exact HS.out.1))
  have hdt : decide (v.m = u.m) = true := decide_eq_true HVM.out
  rw [hdt] at HSM
  clear hdt
  refine (HSM.out).mono ?_
  rintro e w6 ⟨rfl, hb⟩
  have HBx := hide (HB.out.trans (hb.mono HB.out.size))
  clear HB
  have HB := HBx
  clear HBx
  have HRx := hide (HR.out.below hb)
  clear HR
  have HR := HRx
  clear HRx
  have HKx := hide (HK.out.below hb HK.out.lt)
  clear HK
  have HK := HKx
  clear HKx
  have HOVx := hide (HOV.out.below hb)
  clear HOV
  have HOV := HOVx
  clear HOVx
  have HKVx := hide (HKV.out.below hb HKV.out.lt)
  clear HKV
  have HKV := HKVx
  clear HKVx
  clear hb
  go_wp2_with fail
  refine (HCT.out _).mono ?_
  rintro e wc ⟨rfl, rfl⟩
  have hk0 : (0 : Int) ≤ (kk : Int) := by omega
  have hk1 : (kk : Int) ≤ (S.size : Int) := by omega
  go_wp2_with fail
  refine ((HP2.out _)).mono ?_
  rintro e w7 ⟨y, rfl, _, hb, _⟩
  have HBx := hide (HB.out.trans (hb.mono HB.out.size))
  clear HB
  have HB := HBx
  clear HBx
  have HRx := hide (HR.out.below hb)
  clear HR
  have HR := HRx
  clear HRx
  have HKx := hide (HK.out.below hb HK.out.lt)
  clear HK
  have HK := HKx
  clear HKx
  have HOVx := hide (HOV.out.below hb)
  clear HOV
  have HOV := HOVx
  clear HOVx
  have HKVx := hide (HKV.out.below hb HKV.out.lt)
  clear HKV
  have HKV := HKVx
  clear HKVx
  clear hb
  have HBx := hide (HB.out.alloc HB.out.size (.cells #[.string y.name, .int .i64 y.version, .slice y.uA y.uses.length y.uc, .int .i64 y.funs, .slice y.rA y.vs.length y.rc] 25))
  clear HB
  have HB := HBx
  clear HBx
  have HRx := hide (HR.out.below ((Below.refl _ _).alloc (Nat.le_refl _) (.cells #[.string y.name, .int .i64 y.version, .slice y.uA y.uses.length y.uc, .int .i64 y.funs, .slice y.rA y.vs.length y.rc] 25)))
  clear HR
  have HR := HRx
  clear HRx
  have HKx := hide (HK.out.alloc (.cells #[.string y.name, .int .i64 y.version, .slice y.uA y.uses.length y.uc, .int .i64 y.funs, .slice y.rA y.vs.length y.rc] 25))
  clear HK
  have HK := HKx
  clear HKx
  have HOVx := hide (HOV.out.below ((Below.refl _ _).alloc (Nat.le_refl _) (.cells #[.string y.name, .int .i64 y.version, .slice y.uA y.uses.length y.uc, .int .i64 y.funs, .slice y.rA y.vs.length y.rc] 25)))
  clear HOV
  have HOV := HOVx
  clear HOVx
  have HKVx := hide (HKV.out.alloc (.cells #[.string y.name, .int .i64 y.version, .slice y.uA y.uses.length y.uc, .int .i64 y.funs, .slice y.rA y.vs.length y.rc] 25))
  clear HKV
  have HKV := HKVx
  clear HKVx
  go_wp2_with fail
  refine ((HP3.out _)).mono ?_
  rintro e w8 ⟨z, rfl, _, hb, _⟩
  have HBx := hide (HB.out.trans (hb.mono HB.out.size))
  clear HB
  have HB := HBx
  clear HBx
  have HRx := hide (HR.out.below hb)
  clear HR
  have HR := HRx
  clear HRx
  have HKx := hide (HK.out.below hb HK.out.lt)
  clear HK
  have HK := HKx
  clear HKx
  have HOVx := hide (HOV.out.below hb)
  clear HOV
  have HOV := HOVx
  clear HOVx
  have HKVx := hide (HKV.out.below hb HKV.out.lt)
  clear HKV
  have HKV := HKVx
  clear HKVx
  clear hb
  have HBx := hide (HB.out.alloc HB.out.size (.cells #[.string z.name, .int .i64 z.version, .slice z.uA z.uses.length z.uc, .int .i64 z.funs, .slice z.rA z.vs.length z.rc] 25))
  clear HB
  have HB := HBx
  clear HBx
  have HRx := hide (HR.out.below ((Below.refl _ _).alloc (Nat.le_refl _) (.cells #[.string z.name, .int .i64 z.version, .slice z.uA z.uses.length z.uc, .int .i64 z.funs, .slice z.rA z.vs.length z.rc] 25)))
  clear HR
  have HR := HRx
  clear HRx
  have HKx := hide (HK.out.alloc (.cells #[.string z.name, .int .i64 z.version, .slice z.uA z.uses.length z.uc, .int .i64 z.funs, .slice z.rA z.vs.length z.rc] 25))
  clear HK
  have HK := HKx
  clear HKx
  have HOVx := hide (HOV.out.below ((Below.refl _ _).alloc (Nat.le_refl _) (.cells #[.string z.name, .int .i64 z.version, .slice z.uA z.uses.length z.uc, .int .i64 z.funs, .slice z.rA z.vs.length z.rc] 25)))
  clear HOV
  have HOV := HOVx
  clear HOVx
  have HKVx := hide (HKV.out.alloc (.cells #[.string z.name, .int .i64 z.version, .slice z.uA z.uses.length z.uc, .int .i64 z.funs, .slice z.rA z.vs.length z.rc] 25))
  clear HKV
  have HKV := HKVx
  clear HKVx
  by_cases h4 : ch = 4
  case pos =>
    subst h4
    go_wp2_with fail
    refine (HKN.out _).mono ?_
    rintro e wk11 ⟨rfl, hb⟩
    have HBx := hide (HB.out.trans (hb.mono HB.out.size))
    clear HB
    have HB := HBx
    clear HBx
    have HRx := hide (HR.out.below hb)
    clear HR
    have HR := HRx
    clear HRx
    have HKx := hide (HK.out.below hb HK.out.lt)
    clear HK
    have HK := HKx
    clear HKx
    have HOVx := hide (HOV.out.below hb)
    clear HOV
    have HOV := HOVx
    clear HOVx
    have HKVx := hide (HKV.out.below hb HKV.out.lt)
    clear HKV
    have HKV := HKVx
    clear HKVx
    clear hb
    go_wp2_with fail
    go_ret
    exact ⟨rfl, HB.out⟩
  have hme : more = ⟨#[]⟩ := HC4.out.resolve_left h4
  have c1 : (ch == 4) = false := by simpa using h4
  have c2 : decide (ch = 4) = false := decide_eq_false h4
  clear h4
  have n3 : more.toList.isEmpty = true := by rw [hme, ByteArray.toList_eq]; rfl
  have n4 : (more.toList == []) = true := by rw [hme, ByteArray.toList_eq]; rfl
  clear hme
  go_wp2_with fail
  refine (HKN.out _).mono ?_
  rintro e wk12 ⟨rfl, hb⟩
  have HBx := hide (HB.out.trans (hb.mono HB.out.size))
  clear HB
  have HB := HBx
  clear HBx
  have HRx := hide (HR.out.below hb)
  clear HR
  have HR := HRx
  clear HRx
  have HKx := hide (HK.out.below hb HK.out.lt)
  clear HK
  have HK := HKx
  clear HKx
  have HOVx := hide (HOV.out.below hb)
  clear HOV
  have HOV := HOVx
  clear HOVx
  have HKVx := hide (HKV.out.below hb HKV.out.lt)
  clear HKV
  have HKV := HKVx
  clear HKVx
  clear hb
  go_wp2_with fail
  go_ret
  exact ⟨rfl, HB.out⟩
end Go.Proofs.Ythgjmbcojbmlhaa
