/- Chapter 14: ImageParses, walked. -/
import Derived.Test.YthgjmbcojbmlhaaImhF
namespace Go.Proofs.Ythgjmbcojbmlhaa
open Go.RowKit Zb

set_option maxRecDepth 20000 in
theorem row_cur {w : World} {e : TypeId} {size n : Nat} {v : Value} {xs : List Value} (hs : 0 < size) (h : Row w e size v n xs) (hn : 0 < n) : ∃ g c, v = .slice (some ⟨g, 0, none⟩) n c ∧ n ≤ c ∧ g < w.heap.size ∧ ∃ cur : Array Value, Blk w g e cur ∧ n * size ≤ cur.size := by
  have hl : n * size ≤ xs.length := Nat.le_of_eq h.1.symm
  rcases h.2 with ⟨rfl, rfl⟩ | ⟨g, cap, cur, rfl, hb, hh, hc, hm, hcs, ht⟩
  · omega
  · refine ⟨g, cap, rfl, hc, (World.ownsRow.lt h g rfl).2, cur, hh, ?_⟩
    have hk : Blk w g e cur := hh
    have hp : 0 < n * size := Nat.mul_pos hn hs
    have h1 := World.ownsRow.cellAt h (n * size - 1) (by omega)
    have h2 := (hk.cell (n * size - 1)).symm.trans h1
    rw [List.getElem?_eq_getElem (by omega)] at h2
    have := (Array.getElem?_eq_some_iff.1 h2).1
    omega
set_option maxRecDepth 20000 in
set_option maxHeartbeats 4000000 in
theorem ImageParses_walk (s : ByteArray) (w : World) (hs : s.size ≤ 140737488351232) : Calls Try.prog 4 #[.string s] w fun e w' => e = .returned (.bool true) ∧ Below w.heap.size w w' := by
  have HKN := hide lknown14_calls
  by_cases c0 : (20000 : Int) < (s.size : Int)
  case pos =>
    have d0 := decide_eq_true c0
    have e0 : decide (20000 < s.size) = true := decide_eq_true (by omega)
    go_enter Try.func4, Try.ntmps4
    go_wp2_with fail
    refine (HKN.out _).mono ?_
    rintro e w1 ⟨rfl, hb⟩
    go_wp2_with fail
    go_ret
    exact ⟨rfl, hb⟩
  have d0 := decide_eq_false c0
  have e0 : decide (20000 < s.size) = false := decide_eq_false (by omega)
  have hs1 : s.size ≤ 100000000 := by omega
  obtain ⟨m, hm⟩ : ∃ z, (uparse s).1 = z := ⟨_, rfl⟩
  obtain ⟨c, hc⟩ : ∃ z, (uparse s).2 = z := ⟨_, rfl⟩
  have hmc : uparse s = (m, c) := Prod.ext hm hc
  have HP := hide (fun w => pa_lit hmc (ugParse_calls (w := w) s hs1))
  have HPR := hide (fun w => pa_lit hmc (rugParse_calls (w := w) s hs1))
  have HLM := hide (pa_lim hs1).1
  rw [hm] at HLM
  clear hm hc hmc hs1 c0
  have HB := hide (Below.refl w.heap.size w)
  go_enter Try.func4, Try.ntmps4
  go_wp2_with fail
  refine (HP.out _).mono ?_
  rintro e w1 ⟨x, rfl, hxm, hb, hox⟩
  have HBx := hide (HB.out.trans (hb.mono HB.out.size))
  clear HB
  have HB := HBx
  clear HBx
  clear hb
  have HOX := hide (hox)
  have HXM := hide hxm
  clear hxm hox
  have HKX := hide (Blk.new w1 25 #[.string x.name, .int .i64 x.version, .slice x.uA x.uses.length x.uc, .int .i64 x.funs, .slice x.rA x.vs.length x.rc])
  have HBx := hide (HB.out.alloc HB.out.size (.cells #[.string x.name, .int .i64 x.version, .slice x.uA x.uses.length x.uc, .int .i64 x.funs, .slice x.rA x.vs.length x.rc] 25))
  clear HB
  have HB := HBx
  clear HBx
  have HOXx := hide (HOX.out.below ((Below.refl _ _).alloc (Nat.le_refl _) (.cells #[.string x.name, .int .i64 x.version, .slice x.uA x.uses.length x.uc, .int .i64 x.funs, .slice x.rA x.vs.length x.rc] 25)))
  clear HOX
  have HOX := HOXx
  clear HOXx
  go_wp2_with fail
  obtain ⟨w2, hw2⟩ : ∃ q_, Hid (w1.alloc (.cells #[.string x.name, .int .i64 x.version, .slice x.uA x.uses.length x.uc, .int .i64 x.funs, .slice x.rA x.vs.length x.rc] 25) = q_) := ⟨_, hide rfl⟩
  obtain ⟨gx, hgx⟩ : ∃ q_, Hid (w1.heap.size = q_) := ⟨_, hide rfl⟩
  rw [hw2.out] at HB HOX HKX ⊢
  rw [hgx.out] at HKX ⊢
  clear hw2 hgx
  have HG2 : Hid (∀ g, (Value.slice x.rA x.vs.length x.rc).ownBlock = some g → g < w2.heap.size) := hide fun g hg => row_lt HOX.out.or_ g hg
  refine (HPR.out _).mono ?_
  rintro e w3 ⟨y, rfl, hym, hb, hoy⟩
  have HBx := hide (HB.out.trans (hb.mono HB.out.size))
  clear HB
  have HB := HBx
  clear HBx
  have HOXx := hide (HOX.out.below hb)
  clear HOX
  have HOX := HOXx
  clear HOXx
  have HKXx := hide (HKX.out.below hb HKX.out.lt)
  clear HKX
  have HKX := HKXx
  clear HKXx
  clear hb
  have HOY := hide (hoy)
  have HYM := hide hym
  clear hym hoy
  have HKY := hide (Blk.new w3 25 #[.string y.name, .int .i64 y.version, .slice y.uA y.uses.length y.uc, .int .i64 y.funs, .slice y.rA y.vs.length y.rc])
  have HBx := hide (HB.out.alloc HB.out.size (.cells #[.string y.name, .int .i64 y.version, .slice y.uA y.uses.length y.uc, .int .i64 y.funs, .slice y.rA y.vs.length y.rc] 25))
  clear HB
  have HB := HBx
  clear HBx
  have HOXx := hide (HOX.out.below ((Below.refl _ _).alloc (Nat.le_refl _) (.cells #[.string y.name, .int .i64 y.version, .slice y.uA y.uses.length y.uc, .int .i64 y.funs, .slice y.rA y.vs.length y.rc] 25)))
  clear HOX
  have HOX := HOXx
  clear HOXx
  have HKXx := hide (HKX.out.alloc (.cells #[.string y.name, .int .i64 y.version, .slice y.uA y.uses.length y.uc, .int .i64 y.funs, .slice y.rA y.vs.length y.rc] 25))
  clear HKX
  have HKX := HKXx
  clear HKXx
  have HOYx := hide (HOY.out.below ((Below.refl _ _).alloc (Nat.le_refl _) (.cells #[.string y.name, .int .i64 y.version, .slice y.uA y.uses.length y.uc, .int .i64 y.funs, .slice y.rA y.vs.length y.rc] 25)))
  clear HOY
  have HOY := HOYx
  clear HOYx
  have k0 : (w3.alloc (.cells #[.string y.name, .int .i64 y.version, .slice y.uA y.uses.length y.uc, .int .i64 y.funs, .slice y.rA y.vs.length y.rc] 25)).cell? ⟨gx, 0, none⟩ = some (.string x.name) := HKX.out.cell 0
  have k1 : (w3.alloc (.cells #[.string y.name, .int .i64 y.version, .slice y.uA y.uses.length y.uc, .int .i64 y.funs, .slice y.rA y.vs.length y.rc] 25)).cell? ⟨gx, 1, none⟩ = some (.int .i64 x.version) := HKX.out.cell 1
  have k2 : (w3.alloc (.cells #[.string y.name, .int .i64 y.version, .slice y.uA y.uses.length y.uc, .int .i64 y.funs, .slice y.rA y.vs.length y.rc] 25)).cell? ⟨gx, 2, none⟩ = some (.slice x.uA x.uses.length x.uc) := HKX.out.cell 2
  have k3 : (w3.alloc (.cells #[.string y.name, .int .i64 y.version, .slice y.uA y.uses.length y.uc, .int .i64 y.funs, .slice y.rA y.vs.length y.rc] 25)).cell? ⟨gx, 3, none⟩ = some (.int .i64 x.funs) := HKX.out.cell 3
  have k4 : (w3.alloc (.cells #[.string y.name, .int .i64 y.version, .slice y.uA y.uses.length y.uc, .int .i64 y.funs, .slice y.rA y.vs.length y.rc] 25)).cell? ⟨gx, 4, none⟩ = some (.slice x.rA x.vs.length x.rc) := HKX.out.cell 4
  have j0 : (w3.alloc (.cells #[.string y.name, .int .i64 y.version, .slice y.uA y.uses.length y.uc, .int .i64 y.funs, .slice y.rA y.vs.length y.rc] 25)).cell? ⟨w3.heap.size, 0, none⟩ = some (.string y.name) := HKY.out.cell 0
  have j1 : (w3.alloc (.cells #[.string y.name, .int .i64 y.version, .slice y.uA y.uses.length y.uc, .int .i64 y.funs, .slice y.rA y.vs.length y.rc] 25)).cell? ⟨w3.heap.size, 1, none⟩ = some (.int .i64 y.version) := HKY.out.cell 1
  have j2 : (w3.alloc (.cells #[.string y.name, .int .i64 y.version, .slice y.uA y.uses.length y.uc, .int .i64 y.funs, .slice y.rA y.vs.length y.rc] 25)).cell? ⟨w3.heap.size, 2, none⟩ = some (.slice y.uA y.uses.length y.uc) := HKY.out.cell 2
  have j3 : (w3.alloc (.cells #[.string y.name, .int .i64 y.version, .slice y.uA y.uses.length y.uc, .int .i64 y.funs, .slice y.rA y.vs.length y.rc] 25)).cell? ⟨w3.heap.size, 3, none⟩ = some (.int .i64 y.funs) := HKY.out.cell 3
  have j4 : (w3.alloc (.cells #[.string y.name, .int .i64 y.version, .slice y.uA y.uses.length y.uc, .int .i64 y.funs, .slice y.rA y.vs.length y.rc] 25)).cell? ⟨w3.heap.size, 4, none⟩ = some (.slice y.rA y.vs.length y.rc) := HKY.out.cell 4
  go_wp2_with fail
  clear k0 k1 k2 k3 k4 j0 j1 j2 j3 j4
  obtain ⟨w4, hw4⟩ : ∃ q_, Hid (w3.alloc (.cells #[.string y.name, .int .i64 y.version, .slice y.uA y.uses.length y.uc, .int .i64 y.funs, .slice y.rA y.vs.length y.rc] 25) = q_) := ⟨_, hide rfl⟩
  obtain ⟨gy, hgy⟩ : ∃ q_, Hid (w3.heap.size = q_) := ⟨_, hide rfl⟩
  rw [hw4.out] at HB HOX HKX HOY HKY ⊢
  rw [hgy.out] at HKY ⊢
  clear hw4 hgy
  have HSM := hide (fun w1 (h1 : x.Reads w1) (h2 : y.Reads w1) => rugSame_calls (w := w1) x y h1 h2 (by rw [HXM.out]; exact HLM.out))
  have hdt : decide (x.m = y.m) = true := decide_eq_true (by rw [HXM.out, HYM.out])
  rw [hdt] at HSM
  clear hdt
  refine (HSM.out _ HOX.out.reads HOY.out.reads).mono ?_
  rintro e w5 ⟨rfl, hb⟩
  have HBx := hide (HB.out.trans (hb.mono HB.out.size))
  clear HB
  have HB := HBx
  clear HBx
  have HOXx := hide (HOX.out.below hb)
  clear HOX
  have HOX := HOXx
  clear HOXx
  have HKXx := hide (HKX.out.below hb HKX.out.lt)
  clear HKX
  have HKX := HKXx
  clear HKXx
  have HOYx := hide (HOY.out.below hb)
  clear HOY
  have HOY := HOYx
  clear HOYx
  have HKYx := hide (HKY.out.below hb HKY.out.lt)
  clear HKY
  have HKY := HKYx
  clear HKYx
  clear hb
  go_wp2_with fail
  obtain ⟨g, cur, hg⟩ : ∃ (g : Nat) (cur : Array Value), 0 < x.vs.length → x.rA = some ⟨g, 0, none⟩ ∧ g < w2.heap.size ∧ w.heap.size ≤ g ∧ x.vs.length * 6 ≤ cur.size ∧ Blk w5 g 38 cur := by
    by_cases hn : 0 < x.vs.length
    · obtain ⟨g, c, hv, _, _, cur, hk, hz⟩ := row_cur (by decide) HOX.out.or_ hn
      exact ⟨g, cur, fun _ => ⟨(Value.slice.inj hv).1, HG2.out g (by rw [hv]; rfl), HOX.out.nr g (by rw [hv]; rfl), hz, hk⟩⟩
    · exact ⟨0, #[], fun h => absurd h hn⟩
  have HG := hide hg
  clear hg
  have hvl : x.vs.length ≤ 100000000 := by have := HLM.out.protos.1; rw [← HXM.out] at this; simpa [UnitV.m] using this
  go_loopw [7] (fun i wr => ∃ k : Nat, k ≤ x.vs.length ∧ i = .int .i64 (k : Int) ∧ Hid (Below w.heap.size w wr) ∧ Hid (Blk wr gx 25 #[.string x.name, .int .i64 x.version, .slice x.uA x.uses.length x.uc, .int .i64 x.funs, .slice x.rA x.vs.length x.rc]) ∧ Hid (Blk wr gy 25 #[.string y.name, .int .i64 y.version, .slice y.uA y.uses.length y.uc, .int .i64 y.funs, .slice y.rA y.vs.length y.rc]) ∧ Hid (y.Own w2 wr) ∧ Hid (0 < x.vs.length → ∃ cur : Array Value, x.vs.length * 6 ≤ cur.size ∧ Blk wr g 38 cur)) (fun i _ => x.vs.length - (intOf i).toNat)
  case atStart => exact ⟨0, by omega, rfl, HB, HKX, HKY, HOY, hide fun h => ⟨cur, (HG.out h).2.2.2.1, (HG.out h).2.2.2.2⟩⟩
  case round =>
    clear HB HKX HKY HOY HOX
    obtain ⟨k, hk, rfl, HB, HKX, HKY, HOY, HC⟩ := hrel
    have s0 : wr.cell? ⟨gx, 4, none⟩ = some (.slice x.rA x.vs.length x.rc) := HKX.out.cell 4
    by_cases hlt : k < x.vs.length
    case pos =>
      have hkI : (k : Int) < (x.vs.length : Int) := by omega
      have hk0 : (0 : Int) ≤ (k : Int) := by omega
      obtain ⟨cur2, hz, hk2⟩ := HC.out (by omega)
      obtain ⟨hA, hg1, hg2, _⟩ := HG.out (by omega)
      rw [hA] at s0
      have HK2 := hide hk2
      obtain ⟨u, hu⟩ : ∃ u, cur2[k * 6 + 2]? = some u := ⟨_, Array.getElem?_eq_getElem (by omega)⟩
      have q1 : wr.cell? ⟨g, k * 6 + 2, none⟩ = some u := (hk2.cell _).trans hu
      have q2 : wr.frozen? ⟨g, k * 6 + 2, none⟩ = false := hk2.frozen _
      have HB2 := hide (HB.out.setCell (p := ⟨g, k * 6 + 2, none⟩) hg2 (.int .i64 99))
      have HX2 := hide (HKX.out.far (p := ⟨g, k * 6 + 2, none⟩) (HKX.out.ne_ hk2 (by decide)) (.int .i64 99))
      have HY2 := hide (HKY.out.far (p := ⟨g, k * 6 + 2, none⟩) (HKY.out.ne_ hk2 (by decide)) (.int .i64 99))
      have HO2 : Hid (y.Own w2 (wr.setCell ⟨g, k * 6 + 2, none⟩ (.int .i64 99))) := hide (HOY.out.keep fun hrow hnew _ => row_set hrow (fun e => absurd (hnew g e) (Nat.not_le.2 hg1)) _)
      have HC2 : Hid (0 < x.vs.length → ∃ cur : Array Value, x.vs.length * 6 ≤ cur.size ∧ Blk (wr.setCell ⟨g, k * 6 + 2, none⟩ (.int .i64 99)) g 38 cur) := hide fun _ => ⟨_, by rw [Array.size_setIfInBounds]; exact hz, hk2.set_ (k * 6 + 2) (.int .i64 99)⟩
      clear hA hg1 hg2 hz hk2 hu HK2
      go_wp2_with fail
      refine ⟨⟨k + 1, by omega, by go_num, HB2, HX2, HY2, HO2, HC2⟩, ?_⟩
      simp [intOf]
      omega
    obtain rfl : k = x.vs.length := by omega
    clear HC HG HSM
    go_wp2_with fail
    clear s0
    refine (HP.out _).mono ?_
    rintro e w7 ⟨z, rfl, hzm, hb, hoz⟩
    have HBx := hide (HB.out.trans (hb.mono HB.out.size))
    clear HB
    have HB := HBx
    clear HBx
    have HKXx := hide (HKX.out.below hb HKX.out.lt)
    clear HKX
    have HKX := HKXx
    clear HKXx
    have HKYx := hide (HKY.out.below hb HKY.out.lt)
    clear HKY
    have HKY := HKYx
    clear HKYx
    have HOYx := hide (HOY.out.below hb)
    clear HOY
    have HOY := HOYx
    clear HOYx
    clear hb
    have HOZ := hide (hoz)
    have HZM := hide hzm
    clear hzm hoz
    have HKZ := hide (Blk.new w7 25 #[.string z.name, .int .i64 z.version, .slice z.uA z.uses.length z.uc, .int .i64 z.funs, .slice z.rA z.vs.length z.rc])
    have HBx := hide (HB.out.alloc HB.out.size (.cells #[.string z.name, .int .i64 z.version, .slice z.uA z.uses.length z.uc, .int .i64 z.funs, .slice z.rA z.vs.length z.rc] 25))
    clear HB
    have HB := HBx
    clear HBx
    have HKXx := hide (HKX.out.alloc (.cells #[.string z.name, .int .i64 z.version, .slice z.uA z.uses.length z.uc, .int .i64 z.funs, .slice z.rA z.vs.length z.rc] 25))
    clear HKX
    have HKX := HKXx
    clear HKXx
    have HKYx := hide (HKY.out.alloc (.cells #[.string z.name, .int .i64 z.version, .slice z.uA z.uses.length z.uc, .int .i64 z.funs, .slice z.rA z.vs.length z.rc] 25))
    clear HKY
    have HKY := HKYx
    clear HKYx
    have HOYx := hide (HOY.out.below ((Below.refl _ _).alloc (Nat.le_refl _) (.cells #[.string z.name, .int .i64 z.version, .slice z.uA z.uses.length z.uc, .int .i64 z.funs, .slice z.rA z.vs.length z.rc] 25)))
    clear HOY
    have HOY := HOYx
    clear HOYx
    have HOZx := hide (HOZ.out.below ((Below.refl _ _).alloc (Nat.le_refl _) (.cells #[.string z.name, .int .i64 z.version, .slice z.uA z.uses.length z.uc, .int .i64 z.funs, .slice z.rA z.vs.length z.rc] 25)))
    clear HOZ
    have HOZ := HOZx
    clear HOZx
    have j0 : (w7.alloc (.cells #[.string z.name, .int .i64 z.version, .slice z.uA z.uses.length z.uc, .int .i64 z.funs, .slice z.rA z.vs.length z.rc] 25)).cell? ⟨gy, 0, none⟩ = some (.string y.name) := HKY.out.cell 0
    have j1 : (w7.alloc (.cells #[.string z.name, .int .i64 z.version, .slice z.uA z.uses.length z.uc, .int .i64 z.funs, .slice z.rA z.vs.length z.rc] 25)).cell? ⟨gy, 1, none⟩ = some (.int .i64 y.version) := HKY.out.cell 1
    have j2 : (w7.alloc (.cells #[.string z.name, .int .i64 z.version, .slice z.uA z.uses.length z.uc, .int .i64 z.funs, .slice z.rA z.vs.length z.rc] 25)).cell? ⟨gy, 2, none⟩ = some (.slice y.uA y.uses.length y.uc) := HKY.out.cell 2
    have j3 : (w7.alloc (.cells #[.string z.name, .int .i64 z.version, .slice z.uA z.uses.length z.uc, .int .i64 z.funs, .slice z.rA z.vs.length z.rc] 25)).cell? ⟨gy, 3, none⟩ = some (.int .i64 y.funs) := HKY.out.cell 3
    have j4 : (w7.alloc (.cells #[.string z.name, .int .i64 z.version, .slice z.uA z.uses.length z.uc, .int .i64 z.funs, .slice z.rA z.vs.length z.rc] 25)).cell? ⟨gy, 4, none⟩ = some (.slice y.rA y.vs.length y.rc) := HKY.out.cell 4
    have k0 : (w7.alloc (.cells #[.string z.name, .int .i64 z.version, .slice z.uA z.uses.length z.uc, .int .i64 z.funs, .slice z.rA z.vs.length z.rc] 25)).cell? ⟨w7.heap.size, 0, none⟩ = some (.string z.name) := HKZ.out.cell 0
    have k1 : (w7.alloc (.cells #[.string z.name, .int .i64 z.version, .slice z.uA z.uses.length z.uc, .int .i64 z.funs, .slice z.rA z.vs.length z.rc] 25)).cell? ⟨w7.heap.size, 1, none⟩ = some (.int .i64 z.version) := HKZ.out.cell 1
    have k2 : (w7.alloc (.cells #[.string z.name, .int .i64 z.version, .slice z.uA z.uses.length z.uc, .int .i64 z.funs, .slice z.rA z.vs.length z.rc] 25)).cell? ⟨w7.heap.size, 2, none⟩ = some (.slice z.uA z.uses.length z.uc) := HKZ.out.cell 2
    have k3 : (w7.alloc (.cells #[.string z.name, .int .i64 z.version, .slice z.uA z.uses.length z.uc, .int .i64 z.funs, .slice z.rA z.vs.length z.rc] 25)).cell? ⟨w7.heap.size, 3, none⟩ = some (.int .i64 z.funs) := HKZ.out.cell 3
    have k4 : (w7.alloc (.cells #[.string z.name, .int .i64 z.version, .slice z.uA z.uses.length z.uc, .int .i64 z.funs, .slice z.rA z.vs.length z.rc] 25)).cell? ⟨w7.heap.size, 4, none⟩ = some (.slice z.rA z.vs.length z.rc) := HKZ.out.cell 4
    go_wp2_with fail
    clear k0 k1 k2 k3 k4 j0 j1 j2 j3 j4
    obtain ⟨w8, hw8⟩ : ∃ q_, Hid (w7.alloc (.cells #[.string z.name, .int .i64 z.version, .slice z.uA z.uses.length z.uc, .int .i64 z.funs, .slice z.rA z.vs.length z.rc] 25) = q_) := ⟨_, hide rfl⟩
    obtain ⟨gz, hgz⟩ : ∃ q_, Hid (w7.heap.size = q_) := ⟨_, hide rfl⟩
    rw [hw8.out] at HB HKX HKY HOY HOZ HKZ ⊢
    rw [hgz.out] at HKZ ⊢
    clear hw8 hgz
    have HSZ := hide (rugSame_calls z y HOZ.out.reads HOY.out.reads (by rw [HZM.out]; exact HLM.out))
    have hdt : decide (z.m = y.m) = true := decide_eq_true (by rw [HZM.out, HYM.out])
    rw [hdt] at HSZ
    clear hdt
    refine (HSZ.out).mono ?_
    rintro e w9 ⟨rfl, hb⟩
    have HBx := hide (HB.out.trans (hb.mono HB.out.size))
    clear HB
    have HB := HBx
    clear HBx
    have HKXx := hide (HKX.out.below hb HKX.out.lt)
    clear HKX
    have HKX := HKXx
    clear HKXx
    have HKYx := hide (HKY.out.below hb HKY.out.lt)
    clear HKY
    have HKY := HKYx
    clear HKYx
    have HOYx := hide (HOY.out.below hb)
    clear HOY
    have HOY := HOYx
    clear HOYx
    have HOZx := hide (HOZ.out.below hb)
    clear HOZ
    have HOZ := HOZx
    clear HOZx
    have HKZx := hide (HKZ.out.below hb HKZ.out.lt)
    clear HKZ
    have HKZ := HKZx
    clear HKZx
    clear hb
    go_wp2_with fail
    refine (HKN.out _).mono ?_
    rintro e wk5 ⟨rfl, hb⟩
    have HBx := hide (HB.out.trans (hb.mono HB.out.size))
    clear HB
    have HB := HBx
    clear HBx
    have HKXx := hide (HKX.out.below hb HKX.out.lt)
    clear HKX
    have HKX := HKXx
    clear HKXx
    have HKYx := hide (HKY.out.below hb HKY.out.lt)
    clear HKY
    have HKY := HKYx
    clear HKYx
    have HOYx := hide (HOY.out.below hb)
    clear HOY
    have HOY := HOYx
    clear HOYx
    have HOZx := hide (HOZ.out.below hb)
    clear HOZ
    have HOZ := HOZx
    clear HOZx
    have HKZx := hide (HKZ.out.below hb HKZ.out.lt)
    clear HKZ
    have HKZ := HKZx
    clear HKZx
    clear hb
    go_wp2_with fail
    go_ret
    exact ⟨rfl, HB.out⟩
end Go.Proofs.Ythgjmbcojbmlhaa
