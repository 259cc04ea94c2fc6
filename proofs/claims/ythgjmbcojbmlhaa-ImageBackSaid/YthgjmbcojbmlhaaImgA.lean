/- Chapter 14: what tells whether a unit can be: small functions of the program, and every, walked. -/
import Derived.Test.YthgjmbcojbmlhaaIm1
import Derived.Test.YthgjmbcojbmlhaaLx1
import Derived.Test.YthgjmbcojbmlhaaArgs4
import Derived.Test.YthgjmbcojbmlhaaBufQ
import Derived.Laws.StructEq
import Derived.ChangeKeysEq
namespace Go.Proofs.Ythgjmbcojbmlhaa
open Go.RowKit Zb

set_option maxRecDepth 20000 in
theorem ubetween_calls (n lo hi : Int) (w : World) : Calls Try.prog 25 #[.int .i64 n, .int .i64 lo, .int .i64 hi] w fun e w' => e = .returned (.bool (inR n lo hi)) ∧ w' = w := by
  by_cases h1 : lo ≤ n
  · by_cases h2 : n ≤ hi
    · have HE : Hid (inR n lo hi = true) := hide (by unfold inR; rw [decide_eq_true h1, decide_eq_true h2]; rfl)
      go_enter Try.func25, Try.ntmps25
      go_wp2_with fail
      go_ret
      rw [HE.out]
      exact ⟨rfl, rfl⟩
    · have HE : Hid (inR n lo hi = false) := hide (by unfold inR; rw [decide_eq_false h2, Bool.and_false])
      have h2b := decide_eq_false h2
      go_enter Try.func25, Try.ntmps25
      go_wp2_with fail
      go_ret
      rw [HE.out]
      exact ⟨rfl, rfl⟩
  · have HE : Hid (inR n lo hi = false) := hide (by unfold inR; rw [decide_eq_false h1, Bool.false_and])
    have h1b := decide_eq_false h1
    go_enter Try.func25, Try.ntmps25
    go_wp2_with fail
    go_ret
    rw [HE.out]
    exact ⟨rfl, rfl⟩
set_option maxRecDepth 20000 in
theorem uheadedf_calls (c : CapM) (w : World) : Calls Try.prog 52 #[.agg #[.bool c.up, .int .i64 c.index]] w fun e w' => e = .returned (.bool (capOk c)) ∧ Below w.heap.size w w' := by
  have HE : Hid (capOk c = inR c.index 0 255) := hide rfl
  go_enter Try.func52, Try.ntmps52
  go_wp2_with fail
  refine (ubetween_calls _ _ _ _).mono ?_
  rintro e w1 ⟨rfl, rfl⟩
  rw [← HE.out]
  go_wp2_with fail
  go_ret
  exact ⟨rfl, (Below.refl _ _).alloc (Nat.le_refl _) _⟩
set_option maxRecDepth 20000 in
theorem uused_calls (x : UseM) (hm : x.mod.size ≤ 100000000) (hn : x.name.size ≤ 100000000) (w : World) : Calls Try.prog 27 #[.agg #[.string x.mod, .string x.name, .int .i64 x.params]] w fun e w' => e = .returned (.bool (useOk x)) ∧ Below w.heap.size w w' := by
  have HE : Hid (useOk x = (nameM x.mod && nameM x.name && inR x.params 0 8)) := hide rfl
  have H1 := hide (fun w1 => xName_calls x.mod (by omega) w1)
  have H2 := hide (fun w1 => xName_calls x.name (by omega) w1)
  have H3 := hide (ubetween_calls x.params 0 8)
  have HBK := hide (Blk.new w 43 #[.string x.mod, .string x.name, .int .i64 x.params])
  have HB0 := hide ((Below.refl w.heap.size w).alloc (Nat.le_refl _) (.cells #[.string x.mod, .string x.name, .int .i64 x.params] 43))
  obtain ⟨g1, hg1⟩ : ∃ g, nameM x.mod = g := ⟨_, rfl⟩
  obtain ⟨g2, hg2⟩ : ∃ g, nameM x.name = g := ⟨_, rfl⟩
  obtain ⟨g3, hg3⟩ : ∃ g, inR x.params 0 8 = g := ⟨_, rfl⟩
  rw [hg1] at H1 HE
  rw [hg2] at H2 HE
  rw [hg3] at H3 HE
  clear hg1 hg2 hg3 hm hn
  go_enter Try.func27, Try.ntmps27
  go_wp2_with fail
  refine (H1.out _).mono ?_
  rintro e w1 ⟨rfl, hb1⟩
  have HBK1 := hide (HBK.out.below hb1 HBK.out.lt)
  have HB1 := hide (HB0.out.trans (hb1.mono HB0.out.size))
  clear hb1
  have z1 : w1.cell? ⟨w.heap.size, 1, none⟩ = some (.string x.name) := HBK1.out.cell 1
  cases g1
  · go_wp2_with fail
    go_ret
    rw [HE.out]
    exact ⟨rfl, HB1.out⟩
  go_wp2_with fail
  clear z1
  refine (H2.out _).mono ?_
  rintro e w2 ⟨rfl, hb2⟩
  have HBK2 := hide (HBK1.out.below hb2 HBK1.out.lt)
  have HB2 := hide (HB1.out.trans (hb2.mono HB1.out.size))
  clear hb2
  have z2 : w2.cell? ⟨w.heap.size, 2, none⟩ = some (.int .i64 x.params) := HBK2.out.cell 2
  cases g2
  · go_wp2_with fail
    go_ret
    rw [HE.out]
    exact ⟨rfl, HB2.out⟩
  go_wp2_with fail
  refine (H3.out _).mono ?_
  rintro e w3 ⟨rfl, rfl⟩
  go_wp2_with fail
  go_ret
  rw [HE.out]
  exact ⟨rfl, HB2.out⟩
set_option maxRecDepth 20000 in
set_option maxHeartbeats 2000000 in
theorem everyUse_calls {w : World} {A : Option Addr} {l : List UseM} (cap : Nat) (most : Nat) (mI : Int) (hmI : mI = most) (hr : ReadsRows 3 UseM.cells w A l) (hm : most ≤ 100000000) (HF : ∀ x ∈ l, ∀ w', Calls Try.prog 27 #[.agg #[.string x.mod, .string x.name, .int .i64 x.params]] w' fun e w'' => e = .returned (.bool (useOk x)) ∧ Below w'.heap.size w' w'') :
    Calls Try.prog 26 #[.slice A l.length cap, .int .i64 mI, .func (.func 27) #[] #[]] w fun e w' => e = .returned (.bool (decide (l.length ≤ most) && l.all useOk)) ∧ Below w.heap.size w w' := by
  subst hmI
  have HR := hide hr
  have HFF := hide HF
  clear hr HF
  by_cases h1 : (most : Int) < (l.length : Int)
  · have HE : Hid ((decide (l.length ≤ most) && l.all useOk) = false) := hide (by rw [decide_eq_false (by omega), Bool.false_and])
    go_enter Try.func26, Try.ntmps26
    go_wp2_with fail
    go_ret
    rw [HE.out]
    exact ⟨rfl, Below.refl _ _⟩
  have h1b := decide_eq_false h1
  obtain ⟨res, hres⟩ : ∃ b, l.all useOk = b := ⟨_, rfl⟩
  have HE : Hid ((decide (l.length ≤ most) && l.all useOk) = res) := hide (by rw [decide_eq_true (by omega), Bool.true_and, hres])
  have HD0 : Hid ((l.drop 0).all useOk = res) := hide hres
  clear hres
  go_enter Try.func26, Try.ntmps26
  go_wp2_with fail
  go_loopw [15] (fun i wr => ∃ k : Nat, k ≤ l.length ∧ i = .int .i64 (k : Int) ∧ Hid (Below w.heap.size w wr) ∧ Hid ((l.drop k).all useOk = res)) (fun i _ => l.length - (intOf i).toNat)
  case atStart => exact ⟨0, by omega, rfl, hide (Below.refl _ _), HD0⟩
  case round =>
    clear HD0
    obtain ⟨k, hk, rfl, HB, HD⟩ := hrel
    by_cases hlt : k < l.length
    · obtain ⟨x, hx⟩ : ∃ x, l[k]? = some x := ⟨_, List.getElem?_eq_getElem hlt⟩
      have hkI : (k : Int) < (l.length : Int) := by omega
      have hk0 : (0 : Int) ≤ (k : Int) := by omega
      have HX := hide (HFF.out x (List.mem_of_getElem? hx))
      have HS : Hid ((l.drop k).all useOk = (useOk x && (l.drop (k + 1)).all useOk)) := hide (by
        have hk := (List.getElem?_eq_some_iff.1 hx)
        rw [List.drop_eq_getElem_cons hk.1, hk.2, List.all_cons])
      obtain ⟨ba, oa, hA, _, hc⟩ := HR.out.kept HB.out hx
      subst hA
      have x0 : wr.cell? ⟨ba, oa + k * 3, none⟩ = some (.string x.mod) := hc 0 _ rfl
      have x1 : wr.cell? ⟨ba, oa + k * 3 + 1, none⟩ = some (.string x.name) := hc 1 _ rfl
      have x2 : wr.cell? ⟨ba, oa + k * 3 + 2, none⟩ = some (.int .i64 x.params) := hc 2 _ rfl
      have HB1 := hide (HB.out.alloc HB.out.size (.cells #[.string x.mod, .string x.name, .int .i64 x.params] 43))
      obtain ⟨g, hg⟩ : ∃ g, useOk x = g := ⟨_, rfl⟩
      rw [hg] at HX HS
      clear hc hx hg
      go_wp2_with fail
      refine (HX.out _).mono ?_
      rintro e w2 ⟨rfl, hb2⟩
      have HB2 := hide (HB1.out.trans (hb2.mono HB1.out.size))
      clear hb2
      cases g
      · have hf : res = false := by rw [← HD.out, HS.out, Bool.false_and]
        subst hf
        go_wp2_with fail
        go_ret
        rw [HE.out]
        exact ⟨rfl, HB2.out⟩
      · have HD2 : Hid ((l.drop (k + 1)).all useOk = res) := hide (by rw [← HD.out, HS.out, Bool.true_and])
        go_wp2_with fail
        refine ⟨⟨k + 1, by omega, by go_num, HB2, HD2⟩, ?_⟩
        simp [intOf]
        omega
    · obtain rfl : k = l.length := by omega
      have hf : res = true := by rw [← HD.out, List.drop_length]; rfl
      subst hf
      go_wp2_with fail
      go_ret
      rw [HE.out]
      exact ⟨rfl, HB.out⟩
set_option maxRecDepth 20000 in
set_option maxHeartbeats 2000000 in
theorem everyCap_calls {w : World} {A : Option Addr} {l : List CapM} (cap : Nat) (most : Nat) (mI : Int) (hmI : mI = most) (hr : ReadsRows 2 CapM.cells w A l) (hm : most ≤ 100000000) (HF : ∀ x ∈ l, ∀ w', Calls Try.prog 52 #[.agg #[.bool x.up, .int .i64 x.index]] w' fun e w'' => e = .returned (.bool (capOk x)) ∧ Below w'.heap.size w' w'') :
    Calls Try.prog 51 #[.slice A l.length cap, .int .i64 mI, .func (.func 52) #[] #[]] w fun e w' => e = .returned (.bool (decide (l.length ≤ most) && l.all capOk)) ∧ Below w.heap.size w w' := by
  subst hmI
  have HR := hide hr
  have HFF := hide HF
  clear hr HF
  by_cases h1 : (most : Int) < (l.length : Int)
  · have HE : Hid ((decide (l.length ≤ most) && l.all capOk) = false) := hide (by rw [decide_eq_false (by omega), Bool.false_and])
    go_enter Try.func51, Try.ntmps51
    go_wp2_with fail
    go_ret
    rw [HE.out]
    exact ⟨rfl, Below.refl _ _⟩
  have h1b := decide_eq_false h1
  obtain ⟨res, hres⟩ : ∃ b, l.all capOk = b := ⟨_, rfl⟩
  have HE : Hid ((decide (l.length ≤ most) && l.all capOk) = res) := hide (by rw [decide_eq_true (by omega), Bool.true_and, hres])
  have HD0 : Hid ((l.drop 0).all capOk = res) := hide hres
  clear hres
  go_enter Try.func51, Try.ntmps51
  go_wp2_with fail
  go_loopw [15] (fun i wr => ∃ k : Nat, k ≤ l.length ∧ i = .int .i64 (k : Int) ∧ Hid (Below w.heap.size w wr) ∧ Hid ((l.drop k).all capOk = res)) (fun i _ => l.length - (intOf i).toNat)
  case atStart => exact ⟨0, by omega, rfl, hide (Below.refl _ _), HD0⟩
  case round =>
    clear HD0
    obtain ⟨k, hk, rfl, HB, HD⟩ := hrel
    by_cases hlt : k < l.length
    · obtain ⟨x, hx⟩ : ∃ x, l[k]? = some x := ⟨_, List.getElem?_eq_getElem hlt⟩
      have hkI : (k : Int) < (l.length : Int) := by omega
      have hk0 : (0 : Int) ≤ (k : Int) := by omega
      have HX := hide (HFF.out x (List.mem_of_getElem? hx))
      have HS : Hid ((l.drop k).all capOk = (capOk x && (l.drop (k + 1)).all capOk)) := hide (by
        have hk := (List.getElem?_eq_some_iff.1 hx)
        rw [List.drop_eq_getElem_cons hk.1, hk.2, List.all_cons])
      obtain ⟨ba, oa, hA, _, hc⟩ := HR.out.kept HB.out hx
      subst hA
      have x0 : wr.cell? ⟨ba, oa + k * 2, none⟩ = some (.bool x.up) := hc 0 _ rfl
      have x1 : wr.cell? ⟨ba, oa + k * 2 + 1, none⟩ = some (.int .i64 x.index) := hc 1 _ rfl
      have HB1 := hide (HB.out.alloc HB.out.size (.cells #[.bool x.up, .int .i64 x.index] 75))
      obtain ⟨g, hg⟩ : ∃ g, capOk x = g := ⟨_, rfl⟩
      rw [hg] at HX HS
      clear hc hx hg
      go_wp2_with fail
      refine (HX.out _).mono ?_
      rintro e w2 ⟨rfl, hb2⟩
      have HB2 := hide (HB1.out.trans (hb2.mono HB1.out.size))
      clear hb2
      cases g
      · have hf : res = false := by rw [← HD.out, HS.out, Bool.false_and]
        subst hf
        go_wp2_with fail
        go_ret
        rw [HE.out]
        exact ⟨rfl, HB2.out⟩
      · have HD2 : Hid ((l.drop (k + 1)).all capOk = res) := hide (by rw [← HD.out, HS.out, Bool.true_and])
        go_wp2_with fail
        refine ⟨⟨k + 1, by omega, by go_num, HB2, HD2⟩, ?_⟩
        simp [intOf]
        omega
    · obtain rfl : k = l.length := by omega
      have hf : res = true := by rw [← HD.out, List.drop_length]; rfl
      subst hf
      go_wp2_with fail
      go_ret
      rw [HE.out]
      exact ⟨rfl, HB.out⟩
set_option maxRecDepth 20000 in
set_option maxHeartbeats 2000000 in
theorem everyVal_calls {w : World} {A : Option Addr} {l : List ConM} (cap : Nat) (most : Nat) (mI : Int) (hmI : mI = most) (hr : ReadsRows 3 ConM.cells w A l) (hm : most ≤ 100000000) (HF : ∀ x ∈ l, ∀ w', Calls Try.prog 54 #[.agg #[.int .i64 x.kind, .int .i64 x.n, .string x.s]] w' fun e w'' => e = .returned (.bool (conOk x)) ∧ Below w'.heap.size w' w'') :
    Calls Try.prog 53 #[.slice A l.length cap, .int .i64 mI, .func (.func 54) #[] #[]] w fun e w' => e = .returned (.bool (decide (l.length ≤ most) && l.all conOk)) ∧ Below w.heap.size w w' := by
  subst hmI
  have HR := hide hr
  have HFF := hide HF
  clear hr HF
  by_cases h1 : (most : Int) < (l.length : Int)
  · have HE : Hid ((decide (l.length ≤ most) && l.all conOk) = false) := hide (by rw [decide_eq_false (by omega), Bool.false_and])
    go_enter Try.func53, Try.ntmps53
    go_wp2_with fail
    go_ret
    rw [HE.out]
    exact ⟨rfl, Below.refl _ _⟩
  have h1b := decide_eq_false h1
  obtain ⟨res, hres⟩ : ∃ b, l.all conOk = b := ⟨_, rfl⟩
  have HE : Hid ((decide (l.length ≤ most) && l.all conOk) = res) := hide (by rw [decide_eq_true (by omega), Bool.true_and, hres])
  have HD0 : Hid ((l.drop 0).all conOk = res) := hide hres
  clear hres
  go_enter Try.func53, Try.ntmps53
  go_wp2_with fail
  go_loopw [15] (fun i wr => ∃ k : Nat, k ≤ l.length ∧ i = .int .i64 (k : Int) ∧ Hid (Below w.heap.size w wr) ∧ Hid ((l.drop k).all conOk = res)) (fun i _ => l.length - (intOf i).toNat)
  case atStart => exact ⟨0, by omega, rfl, hide (Below.refl _ _), HD0⟩
  case round =>
    clear HD0
    obtain ⟨k, hk, rfl, HB, HD⟩ := hrel
    by_cases hlt : k < l.length
    · obtain ⟨x, hx⟩ : ∃ x, l[k]? = some x := ⟨_, List.getElem?_eq_getElem hlt⟩
      have hkI : (k : Int) < (l.length : Int) := by omega
      have hk0 : (0 : Int) ≤ (k : Int) := by omega
      have HX := hide (HFF.out x (List.mem_of_getElem? hx))
      have HS : Hid ((l.drop k).all conOk = (conOk x && (l.drop (k + 1)).all conOk)) := hide (by
        have hk := (List.getElem?_eq_some_iff.1 hx)
        rw [List.drop_eq_getElem_cons hk.1, hk.2, List.all_cons])
      obtain ⟨ba, oa, hA, _, hc⟩ := HR.out.kept HB.out hx
      subst hA
      have x0 : wr.cell? ⟨ba, oa + k * 3, none⟩ = some (.int .i64 x.kind) := hc 0 _ rfl
      have x1 : wr.cell? ⟨ba, oa + k * 3 + 1, none⟩ = some (.int .i64 x.n) := hc 1 _ rfl
      have x2 : wr.cell? ⟨ba, oa + k * 3 + 2, none⟩ = some (.string x.s) := hc 2 _ rfl
      have HB1 := hide (HB.out.alloc HB.out.size (.cells #[.int .i64 x.kind, .int .i64 x.n, .string x.s] 45))
      obtain ⟨g, hg⟩ : ∃ g, conOk x = g := ⟨_, rfl⟩
      rw [hg] at HX HS
      clear hc hx hg
      go_wp2_with fail
      refine (HX.out _).mono ?_
      rintro e w2 ⟨rfl, hb2⟩
      have HB2 := hide (HB1.out.trans (hb2.mono HB1.out.size))
      clear hb2
      cases g
      · have hf : res = false := by rw [← HD.out, HS.out, Bool.false_and]
        subst hf
        go_wp2_with fail
        go_ret
        rw [HE.out]
        exact ⟨rfl, HB2.out⟩
      · have HD2 : Hid ((l.drop (k + 1)).all conOk = res) := hide (by rw [← HD.out, HS.out, Bool.true_and])
        go_wp2_with fail
        refine ⟨⟨k + 1, by omega, by go_num, HB2, HD2⟩, ?_⟩
        simp [intOf]
        omega
    · obtain rfl : k = l.length := by omega
      have hf : res = true := by rw [← HD.out, List.drop_length]; rfl
      subst hf
      go_wp2_with fail
      go_ret
      rw [HE.out]
      exact ⟨rfl, HB.out⟩
set_option maxRecDepth 20000 in
set_option maxHeartbeats 2000000 in
theorem everyInst_calls {w : World} {A : Option Addr} {l : List InsM} (cap : Nat) (most : Nat) (mI : Int) (hmI : mI = most) (hr : ReadsRows 4 InsM.cells w A l) (hm : most ≤ 100000000) (HF : ∀ x ∈ l, ∀ w', Calls Try.prog 56 #[.agg #[.int .i64 x.op, .int .i64 x.a, .int .i64 x.b, .int .i64 x.c]] w' fun e w'' => e = .returned (.bool (insOk x)) ∧ Below w'.heap.size w' w'') :
    Calls Try.prog 55 #[.slice A l.length cap, .int .i64 mI, .func (.func 56) #[] #[]] w fun e w' => e = .returned (.bool (decide (l.length ≤ most) && l.all insOk)) ∧ Below w.heap.size w w' := by
  subst hmI
  have HR := hide hr
  have HFF := hide HF
  clear hr HF
  by_cases h1 : (most : Int) < (l.length : Int)
  · have HE : Hid ((decide (l.length ≤ most) && l.all insOk) = false) := hide (by rw [decide_eq_false (by omega), Bool.false_and])
    go_enter Try.func55, Try.ntmps55
    go_wp2_with fail
    go_ret
    rw [HE.out]
    exact ⟨rfl, Below.refl _ _⟩
  have h1b := decide_eq_false h1
  obtain ⟨res, hres⟩ : ∃ b, l.all insOk = b := ⟨_, rfl⟩
  have HE : Hid ((decide (l.length ≤ most) && l.all insOk) = res) := hide (by rw [decide_eq_true (by omega), Bool.true_and, hres])
  have HD0 : Hid ((l.drop 0).all insOk = res) := hide hres
  clear hres
  go_enter Try.func55, Try.ntmps55
  go_wp2_with fail
  go_loopw [15] (fun i wr => ∃ k : Nat, k ≤ l.length ∧ i = .int .i64 (k : Int) ∧ Hid (Below w.heap.size w wr) ∧ Hid ((l.drop k).all insOk = res)) (fun i _ => l.length - (intOf i).toNat)
  case atStart => exact ⟨0, by omega, rfl, hide (Below.refl _ _), HD0⟩
  case round =>
    clear HD0
    obtain ⟨k, hk, rfl, HB, HD⟩ := hrel
    by_cases hlt : k < l.length
    · obtain ⟨x, hx⟩ : ∃ x, l[k]? = some x := ⟨_, List.getElem?_eq_getElem hlt⟩
      have hkI : (k : Int) < (l.length : Int) := by omega
      have hk0 : (0 : Int) ≤ (k : Int) := by omega
      have HX := hide (HFF.out x (List.mem_of_getElem? hx))
      have HS : Hid ((l.drop k).all insOk = (insOk x && (l.drop (k + 1)).all insOk)) := hide (by
        have hk := (List.getElem?_eq_some_iff.1 hx)
        rw [List.drop_eq_getElem_cons hk.1, hk.2, List.all_cons])
      obtain ⟨ba, oa, hA, _, hc⟩ := HR.out.kept HB.out hx
      subst hA
      have x0 : wr.cell? ⟨ba, oa + k * 4, none⟩ = some (.int .i64 x.op) := hc 0 _ rfl
      have x1 : wr.cell? ⟨ba, oa + k * 4 + 1, none⟩ = some (.int .i64 x.a) := hc 1 _ rfl
      have x2 : wr.cell? ⟨ba, oa + k * 4 + 2, none⟩ = some (.int .i64 x.b) := hc 2 _ rfl
      have x3 : wr.cell? ⟨ba, oa + k * 4 + 3, none⟩ = some (.int .i64 x.c) := hc 3 _ rfl
      have HB1 := hide (HB.out.alloc HB.out.size (.cells #[.int .i64 x.op, .int .i64 x.a, .int .i64 x.b, .int .i64 x.c] 78))
      obtain ⟨g, hg⟩ : ∃ g, insOk x = g := ⟨_, rfl⟩
      rw [hg] at HX HS
      clear hc hx hg
      go_wp2_with fail
      refine (HX.out _).mono ?_
      rintro e w2 ⟨rfl, hb2⟩
      have HB2 := hide (HB1.out.trans (hb2.mono HB1.out.size))
      clear hb2
      cases g
      · have hf : res = false := by rw [← HD.out, HS.out, Bool.false_and]
        subst hf
        go_wp2_with fail
        go_ret
        rw [HE.out]
        exact ⟨rfl, HB2.out⟩
      · have HD2 : Hid ((l.drop (k + 1)).all insOk = res) := hide (by rw [← HD.out, HS.out, Bool.true_and])
        go_wp2_with fail
        refine ⟨⟨k + 1, by omega, by go_num, HB2, HD2⟩, ?_⟩
        simp [intOf]
        omega
    · obtain rfl : k = l.length := by omega
      have hf : res = true := by rw [← HD.out, List.drop_length]; rfl
      subst hf
      go_wp2_with fail
      go_ret
      rw [HE.out]
      exact ⟨rfl, HB.out⟩
end Go.Proofs.Ythgjmbcojbmlhaa
