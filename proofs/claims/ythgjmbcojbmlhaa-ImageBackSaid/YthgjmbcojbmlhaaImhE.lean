/- Chapter 14: known of the laws, walked. -/
import Derived.Test.YthgjmbcojbmlhaaImhD
namespace Go.Proofs.Ythgjmbcojbmlhaa
open Go.RowKit Zb

set_option maxRecDepth 20000 in
theorem sz_app {S m : ByteArray} {a b : Nat} (h : S.size ≤ a) (h2 : m.size ≤ b) (h3 : a + b ≤ 100000000) : (S ++ m).size ≤ 100000000 := by
  rw [ByteArray.size_append]
  omega
def knU : UnitM := ⟨⟨#[109]⟩, 1, [], 0, []⟩
set_option maxRecDepth 20000 in
theorem kn_ok : unitOk knU = true := by decide +kernel
set_option maxRecDepth 20000 in
theorem kn_r : UnitR knU := fun _ hp => absurd hp List.not_mem_nil
set_option maxRecDepth 20000 in
theorem kn_bytes : unitB knU = ⟨#[67, 72, 82, 89, 1, 0, 0, 0, 109, 1, 0, 0, 0, 0, 0, 0, 0, 0]⟩ := by decide +kernel
set_option maxRecDepth 20000 in
theorem kn_list : (unitB knU).toList = [67, 72, 82, 89, 1, 0, 0, 0, 109, 1, 0, 0, 0, 0, 0, 0, 0, 0] := by rw [kn_bytes]; decide +kernel
set_option maxRecDepth 20000 in
theorem kn_size : (unitB knU).size = 18 := by rw [kn_bytes]; rfl
set_option maxRecDepth 20000 in
theorem kn_bad : unitOk ⟨⟨#[109]⟩, 0, [], 0, []⟩ = false := by decide +kernel
set_option maxRecDepth 20000 in
theorem kn_reads (nm : ByteArray) (v : Int) (w : World) : UnitV.Reads w ⟨nm, v, [], none, 0, 0, [], none, 0⟩ := ⟨fun i x hx => by simp at hx, fun i x hx => by simp at hx, fun v hv => absurd hv List.not_mem_nil⟩
set_option maxRecDepth 20000 in
theorem kn_s {nm : ByteArray} {v : Int} (h : nm.size ≤ 100000000) (h2 : -9223372036854775808 ≤ v ∧ v < 9223372036854775808) : UnitS (UnitV.m ⟨nm, v, [], none, 0, 0, [], none, 0⟩) := ⟨h, h2, ⟨Nat.zero_le _, fun x hx => absurd hx List.not_mem_nil⟩, by show (-9223372036854775808 : Int) ≤ 0 ∧ (0 : Int) < 9223372036854775808; omega, ⟨Nat.zero_le _, fun x hx => absurd hx List.not_mem_nil⟩⟩
/-- what Build, Right tell of a unit that a walk holds -/
theorem bu_lit {w : World} (u : UnitV) {s : ByteArray} {c : Int} (h : ubuild u.m = (s, c)) (hr : u.Reads w) (hs : UnitS u.m) (hc : UnitR u.m) : Calls Try.prog 10 #[.agg #[.string u.name, .int .i64 u.version, .slice u.uA u.uses.length u.uc, .int .i64 u.funs, .slice u.rA u.vs.length u.rc]] w fun e w' => e = .returned (.tuple #[.string s, .int .i64 c]) ∧ Below w.heap.size w w' := by
  have e1 : (ubuild u.m).1 = s := congrArg Prod.fst h
  have e2 : (ubuild u.m).2 = c := congrArg Prod.snd h
  rw [← e1, ← e2]
  exact ugBuild_calls u hr hs hc
set_option maxRecDepth 20000 in
theorem kn_build {S : ByteArray} (h : ubuild knU = (S, 0)) {w : World} : Calls Try.prog 10 #[.agg #[.string ⟨#[109]⟩, .int .i64 1, .slice none 0 0, .int .i64 0, .slice none 0 0]] w fun e w' => e = .returned (.tuple #[.string S, .int .i64 0]) ∧ Below w.heap.size w w' :=
  bu_lit ⟨⟨#[109]⟩, 1, [], none, 0, 0, [], none, 0⟩ h (kn_reads _ _ _) (kn_s (by decide) (by decide)) (fun p hp => absurd hp List.not_mem_nil)
set_option maxRecDepth 20000 in
theorem kn_build0 {w : World} : Calls Try.prog 10 #[.agg #[.string ⟨#[109]⟩, .int .i64 0, .slice none 0 0, .int .i64 0, .slice none 0 0]] w fun e w' => e = .returned (.tuple #[.string ⟨#[]⟩, .int .i64 4]) ∧ Below w.heap.size w w' :=
  bu_lit ⟨⟨#[109]⟩, 0, [], none, 0, 0, [], none, 0⟩ (ubuild_no kn_bad) (kn_reads _ _ _) (kn_s (by decide) (by decide)) (fun p hp => absurd hp List.not_mem_nil)
set_option maxRecDepth 20000 in
theorem kn_right {w : World} : Calls Try.prog 12 #[.agg #[.string ⟨#[109]⟩, .int .i64 1, .slice none 0 0, .int .i64 0, .slice none 0 0]] w fun e w' => e = .returned (.bool true) ∧ Below w.heap.size w w' := by
  have h := ugRight_calls (w := w) ⟨⟨#[109]⟩, 1, [], none, 0, 0, [], none, 0⟩ (kn_reads _ _ _) (kn_s (by decide) (by decide))
  rw [show unitOk (UnitV.m ⟨⟨#[109]⟩, 1, [], none, 0, 0, [], none, 0⟩) = true from kn_ok] at h
  exact h
/-- Parse's answer, in a form that a walk can go on with -/
abbrev PaLit (w : World) (m : UnitM) (c : Int) (e : Ending) (w' : World) : Prop := ∃ u : UnitV, e = .returned (.tuple #[.agg #[.string u.name, .int .i64 u.version, .slice u.uA u.uses.length u.uc, .int .i64 u.funs, .slice u.rA u.vs.length u.rc], .int .i64 c]) ∧ u.m = m ∧ Below w.heap.size w w' ∧ u.Own w w'
set_option maxRecDepth 20000 in
theorem pa_lit {P : Program} {s : ByteArray} {m : UnitM} {c : Int} (h : uparse s = (m, c)) {f : FuncId} {args : Array Value} {w : World} (hc : Calls P f args w (PaPost s w)) : Calls P f args w (PaLit w m c) := by
  refine hc.mono ?_
  rintro e w' ⟨u, rfl, hm, hb, ho, _⟩
  rw [h] at hm ⊢
  exact ⟨u, rfl, hm, hb, ho⟩
set_option maxRecDepth 20000 in
theorem pa_lim {s : ByteArray} (hs : s.size ≤ 100000000) : UnitS (uparse s).1 ∧ UnitR (uparse s).1 := by
  unfold uparse
  split
  · split
    · exact runit_lim hs
    · exact unit0_lim
  · exact unit0_lim
set_option maxRecDepth 100000 in
set_option maxHeartbeats 4000000 in
theorem lknown14_calls (w : World) : Calls Try.prog 9 #[] w fun e w' => e = .returned (.bool true) ∧ Below w.heap.size w w' := by
  obtain ⟨S, hS⟩ : ∃ S, unitB knU = S := ⟨_, rfl⟩
  have hub : ubuild knU = (S, 0) := by rw [← hS]; exact ubuild_yes kn_ok
  have h18 : S.size = 18 := by rw [← hS]; exact kn_size
  have hkk : (S.toList == ([67, 72, 82, 89, 1, 0, 0, 0, 109, 1, 0, 0, 0, 0, 0, 0, 0, 0] : List UInt8)) = true := by rw [← hS, kn_list]; rfl
  have hp1 : uparse S = (knU, 0) := by rw [← hS]; exact uparse_back kn_ok kn_r
  have hp2 : uparse (S.extract 0 10) = (unit0, 2) := by rw [← hS]; exact uparse_cut kn_ok kn_r (by rw [hS, h18]; decide)
  have hp3 : uparse (S ++ ⟨#[120]⟩) = (unit0, 4) := by rw [← hS]; exact uparse_more kn_ok kn_r (by decide)
  have HCB := hide (fun w => kn_build hub (w := w))
  have HC0 := hide (fun w => kn_build0 (w := w))
  have HCR := hide (fun w => kn_right (w := w))
  have HP1 := hide (fun w => pa_lit hp1 (ugParse_calls (w := w) S (by omega)))
  have HP2 := hide (fun w => pa_lit hp2 (ugParse_calls (w := w) (S.extract 0 10) (by rw [ByteArray.size_extract]; omega)))
  have q1 : (S ++ ⟨#[120]⟩ : ByteArray).size ≤ 100000000 := sz_app (a := 18) (b := 1) (Nat.le_of_eq h18) (Nat.le_refl 1) (by decide)
  have q2 := (fun w => ugParse_calls (w := w) (S ++ ⟨#[120]⟩) q1)
  have HP3 := hide (fun w => pa_lit hp3 (q2 w))
  clear q1 q2
  have hsI : (S.size : Int) = 18 := by omega
  have hk := hide hkk
  have HK0 := hide (Blk.new w 25 #[.string ⟨#[109]⟩, .int .i64 1, .slice none 0 0, .int .i64 0, .slice none 0 0])
  have HB0 := hide ((Below.refl w.heap.size w).alloc (Nat.le_refl _) (.cells #[.string ⟨#[109]⟩, .int .i64 1, .slice none 0 0, .int .i64 0, .slice none 0 0] 25))
  clear hS hub hp1 hp2 hp3 hkk h18
  go_enter Try.func9, Try.ntmps9
  go_wp2_with fail
  refine (HCB.out _).mono ?_
  rintro e w1 ⟨rfl, hb1⟩
  have HB1 := hide (HB0.out.trans (hb1.mono HB0.out.size))
  have HK1 := hide (HK0.out.below hb1 HK0.out.lt)
  clear hb1 HB0 HK0
  go_wp2_with fail
  refine (HP1.out _).mono ?_
  rintro e w2 ⟨u, rfl, hm, hb2, _⟩
  have HB2 := hide (HB1.out.trans (hb2.mono HB1.out.size))
  have HK2 := hide (HK1.out.below hb2 HK1.out.lt)
  clear hb2 HB1 HK1
  obtain ⟨nm, ver, us, uA, uc, fu, vs, rA, rc⟩ := u
  obtain rfl : nm = ⟨#[109]⟩ := congrArg UnitM.name hm
  obtain rfl : ver = 1 := congrArg UnitM.version hm
  clear hm
  dsimp only
  have HX3 := hide (Blk.new w2 25 #[.string ⟨#[109]⟩, .int .i64 1, .slice uA us.length uc, .int .i64 fu, .slice rA vs.length rc])
  have HK3 := hide (HK2.out.alloc (.cells #[.string ⟨#[109]⟩, .int .i64 1, .slice uA us.length uc, .int .i64 fu, .slice rA vs.length rc] 25))
  have HB3 := hide (HB2.out.alloc HB2.out.size (.cells #[.string ⟨#[109]⟩, .int .i64 1, .slice uA us.length uc, .int .i64 fu, .slice rA vs.length rc] 25))
  go_wp2_with fail
  obtain ⟨gx, hgx⟩ : ∃ z, Hid (w2.heap.size = z) := ⟨_, hide rfl⟩
  rw [hgx.out] at HX3 ⊢
  clear hgx
  refine (HP2.out _).mono ?_
  rintro e w4 ⟨u4, rfl, _, hb, _⟩
  have HB4 := hide ((HB3.out.trans (hb.mono HB3.out.size)).alloc (Nat.le_trans HB3.out.size hb.size) (.cells #[.string u4.name, .int .i64 u4.version, .slice u4.uA u4.uses.length u4.uc, .int .i64 u4.funs, .slice u4.rA u4.vs.length u4.rc] 25))
  have HK4 := hide ((HK3.out.below hb HK3.out.lt).alloc (.cells #[.string u4.name, .int .i64 u4.version, .slice u4.uA u4.uses.length u4.uc, .int .i64 u4.funs, .slice u4.rA u4.vs.length u4.rc] 25))
  have HX4 := hide ((HX3.out.below hb HX3.out.lt).alloc (.cells #[.string u4.name, .int .i64 u4.version, .slice u4.uA u4.uses.length u4.uc, .int .i64 u4.funs, .slice u4.rA u4.vs.length u4.rc] 25))
  clear hb HB3 HK3 HX3
  go_wp2_with fail
  refine (HP3.out _).mono ?_
  rintro e w5 ⟨u5, rfl, _, hb, _⟩
  have HB5 := hide ((HB4.out.trans (hb.mono HB4.out.size)).alloc (Nat.le_trans HB4.out.size hb.size) (.cells #[.string u5.name, .int .i64 u5.version, .slice u5.uA u5.uses.length u5.uc, .int .i64 u5.funs, .slice u5.rA u5.vs.length u5.rc] 25))
  have HK5 := hide ((HK4.out.below hb HK4.out.lt).alloc (.cells #[.string u5.name, .int .i64 u5.version, .slice u5.uA u5.uses.length u5.uc, .int .i64 u5.funs, .slice u5.rA u5.vs.length u5.rc] 25))
  have HX5 := hide ((HX4.out.below hb HX4.out.lt).alloc (.cells #[.string u5.name, .int .i64 u5.version, .slice u5.uA u5.uses.length u5.uc, .int .i64 u5.funs, .slice u5.rA u5.vs.length u5.rc] 25))
  clear hb HB4 HK4 HX4
  go_wp2_with fail
  refine (HC0.out _).mono ?_
  rintro e w6 ⟨rfl, hb⟩
  have HB6 := hide (HB5.out.trans (hb.mono HB5.out.size))
  have HK6 := hide (HK5.out.below hb HK5.out.lt)
  have HX6 := hide (HX5.out.below hb HX5.out.lt)
  clear hb HB5 HK5 HX5
  have k0 : w6.cell? ⟨w.heap.size, 0, none⟩ = some (.string ⟨#[109]⟩) := HK6.out.cell 0
  have k1 : w6.cell? ⟨w.heap.size, 1, none⟩ = some (.int .i64 1) := HK6.out.cell 1
  have k2 : w6.cell? ⟨w.heap.size, 2, none⟩ = some (.slice none 0 0) := HK6.out.cell 2
  have k3 : w6.cell? ⟨w.heap.size, 3, none⟩ = some (.int .i64 0) := HK6.out.cell 3
  have k4 : w6.cell? ⟨w.heap.size, 4, none⟩ = some (.slice none 0 0) := HK6.out.cell 4
  have x0 : w6.cell? ⟨gx, 0, none⟩ = some (.string ⟨#[109]⟩) := HX6.out.cell 0
  have x1 : w6.cell? ⟨gx, 1, none⟩ = some (.int .i64 1) := HX6.out.cell 1
  have hk2 := hk.out
  go_wp2_with fail
  refine (HCR.out _).mono ?_
  rintro e w7 ⟨rfl, hb⟩
  have HB7 := hide (HB6.out.trans (hb.mono HB6.out.size))
  clear hb
  go_wp2_with fail
  go_ret
  exact ⟨rfl, HB7.out⟩
end Go.Proofs.Ythgjmbcojbmlhaa
