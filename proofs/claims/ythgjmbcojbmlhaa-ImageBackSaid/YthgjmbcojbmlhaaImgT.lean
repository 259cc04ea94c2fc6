/- Chapter 14: the document's in, constant, proto, walked. -/
import Derived.Test.YthgjmbcojbmlhaaImgS
namespace Go.Proofs.Ythgjmbcojbmlhaa
open Go.RowKit Zb

set_option maxRecDepth 20000 in
theorem rugin_calls (n lo hi : Int) (w : World) : Calls Try.prog 33 #[.int .i64 n, .int .i64 lo, .int .i64 hi] w fun e w' => e = .returned (.bool (inR n lo hi)) ∧ w' = w := by
  by_cases h1 : lo ≤ n
  · by_cases h2 : n ≤ hi
    · have HE : Hid (inR n lo hi = true) := hide (by unfold inR; rw [decide_eq_true h1, decide_eq_true h2]; rfl)
      go_enter Try.func33, Try.ntmps33
      go_wp2_with fail
      go_ret
      rw [HE.out]
      exact ⟨rfl, rfl⟩
    · have HE : Hid (inR n lo hi = false) := hide (by unfold inR; rw [decide_eq_false h2, Bool.and_false])
      have h2b := decide_eq_false h2
      go_enter Try.func33, Try.ntmps33
      go_wp2_with fail
      go_ret
      rw [HE.out]
      exact ⟨rfl, rfl⟩
  · have HE : Hid (inR n lo hi = false) := hide (by unfold inR; rw [decide_eq_false h1, Bool.false_and])
    have h1b := decide_eq_false h1
    go_enter Try.func33, Try.ntmps33
    go_wp2_with fail
    go_ret
    rw [HE.out]
    exact ⟨rfl, rfl⟩
set_option maxRecDepth 20000 in
set_option maxHeartbeats 2000000 in
theorem rugconstant_calls (x : ConM) (w : World) : Calls Try.prog 59 #[.agg #[.int .i64 x.kind, .int .i64 x.n, .string x.s]] w fun e w' => e = .returned (.bool (conOk x)) ∧ Below w.heap.size w w' := by
  have HB := hide ((Below.refl w.heap.size w).alloc (Nat.le_refl _) (.cells #[.int .i64 x.kind, .int .i64 x.n, .string x.s] 45))
  obtain ⟨kk, n, s⟩ := x
  dsimp only at HB ⊢
  by_cases h0 : kk = 0
  · subst h0
    by_cases hn : n = 0
    · subst hn
      by_cases hs : s = ⟨#[]⟩
      · subst hs
        have HE : Hid (conOk ⟨0, 0, ⟨#[]⟩⟩ = true) := hide (by unfold conOk; simp)
        go_enter Try.func59, Try.ntmps59
        go_wp2_with fail
        go_ret
        rw [HE.out]
        exact ⟨rfl, HB.out⟩
      · have HE : Hid (conOk ⟨0, 0, s⟩ = false) := hide (by unfold conOk; simp [hs])
        obtain ⟨n1, n2⟩ := lbytes_ne hs
        have n3 := isEmpty_ne hs
        go_enter Try.func59, Try.ntmps59
        go_wp2_with fail
        go_ret
        rw [HE.out]
        exact ⟨rfl, HB.out⟩
    · have HE : Hid (conOk ⟨0, n, s⟩ = false) := hide (by unfold conOk; simp [hn])
      have hnb := decide_eq_false hn
      have hnc : (n == 0) = false := by simpa using hn
      go_enter Try.func59, Try.ntmps59
      go_wp2_with fail
      go_ret
      rw [HE.out]
      exact ⟨rfl, HB.out⟩
  have h0b : decide (kk = 0) = false := decide_eq_false h0
  have h0c : (kk == 0) = false := by simpa using h0
  by_cases h1 : kk = 1
  · subst h1
    by_cases hs : s = ⟨#[]⟩
    · subst hs
      have HE : Hid (conOk ⟨1, n, ⟨#[]⟩⟩ = true) := hide (by unfold conOk; simp)
      go_enter Try.func59, Try.ntmps59
      go_wp2_with fail
      go_ret
      rw [HE.out]
      exact ⟨rfl, HB.out⟩
    · have HE : Hid (conOk ⟨1, n, s⟩ = false) := hide (by unfold conOk; simp [hs])
      obtain ⟨n1, n2⟩ := lbytes_ne hs
      have n3 := isEmpty_ne hs
      go_enter Try.func59, Try.ntmps59
      go_wp2_with fail
      go_ret
      rw [HE.out]
      exact ⟨rfl, HB.out⟩
  have h1b : decide (kk = 1) = false := decide_eq_false h1
  have h1c : (kk == 1) = false := by simpa using h1
  by_cases h2 : kk = 2
  · subst h2
    by_cases hn : n = 0
    · subst hn
      by_cases hs : (s.size : Int) ≤ 1024
      · have HE : Hid (conOk ⟨2, 0, s⟩ = true) := hide (by unfold conOk; simp; omega)
        go_enter Try.func59, Try.ntmps59
        go_wp2_with fail
        go_ret
        rw [HE.out]
        exact ⟨rfl, HB.out⟩
      · have HE : Hid (conOk ⟨2, 0, s⟩ = false) := hide (by unfold conOk; simp; omega)
        have hsb := decide_eq_false hs
        go_enter Try.func59, Try.ntmps59
        go_wp2_with fail
        go_ret
        rw [HE.out]
        exact ⟨rfl, HB.out⟩
    · have HE : Hid (conOk ⟨2, n, s⟩ = false) := hide (by unfold conOk; simp [hn])
      have hnb := decide_eq_false hn
      have hnc : (n == 0) = false := by simpa using hn
      go_enter Try.func59, Try.ntmps59
      go_wp2_with fail
      go_ret
      rw [HE.out]
      exact ⟨rfl, HB.out⟩
  · have HE : Hid (conOk ⟨kk, n, s⟩ = false) := hide (by unfold conOk; simp [h0, h1, h2])
    have h2b : decide (kk = 2) = false := decide_eq_false h2
    have h2c : (kk == 2) = false := by simpa using h2
    go_enter Try.func59, Try.ntmps59
    go_wp2_with fail
    go_ret
    rw [HE.out]
    exact ⟨rfl, HB.out⟩
set_option maxRecDepth 20000 in
theorem protoOk_flat (p : ProtoM) (top : Bool) : protoOk p top = ((if top then nameM p.name && decide (p.caps.length = 0) else decide (p.name = ⟨#[]⟩) && decide (p.caps.length ≤ 255)) && (inR p.params 0 8 && (inR p.regs 1 100 && (decide (p.params ≤ p.regs) && (decide (p.consts.length ≤ 200) && (decide (p.code.length ≤ 8000) && (p.caps.all capOk && (p.consts.all conOk && p.code.all insOk)))))))) := by
  have hm : inR p.regs (max 1 p.params) 100 = (inR p.regs 1 100 && decide (p.params ≤ p.regs)) := by
    unfold inR
    rw [show decide (max 1 p.params ≤ p.regs) = (decide (1 ≤ p.regs) && decide (p.params ≤ p.regs)) by rw [← Bool.decide_and, decide_eq_decide]; omega]
    generalize decide (1 ≤ p.regs) = a
    generalize decide (p.params ≤ p.regs) = b
    generalize decide (p.regs ≤ 100) = c
    cases a <;> cases b <;> cases c <;> rfl
  have hc : top = true → p.caps.length = 0 → p.caps.all capOk = true := fun _ h => by rw [List.length_eq_zero_iff.1 h]; rfl
  unfold protoOk headOk shapeOk
  rw [hm]
  generalize inR p.params 0 8 = b1
  generalize inR p.regs 1 100 = b2
  generalize decide (p.params ≤ p.regs) = b3
  generalize decide (p.consts.length ≤ 200) = b4
  generalize decide (p.code.length ≤ 8000) = b5
  generalize p.consts.all conOk = b7
  generalize p.code.all insOk = b8
  by_cases hz : p.caps.length = 0
  · rw [List.length_eq_zero_iff.1 hz]
    generalize nameM p.name = a1
    generalize decide (p.name = ⟨#[]⟩) = a2
    cases top <;> cases a1 <;> cases a2 <;> cases b1 <;> cases b2 <;> cases b3 <;> cases b4 <;> cases b5 <;> cases b7 <;> cases b8 <;> rfl
  · rw [decide_eq_false hz]
    generalize p.caps.all capOk = b6
    generalize decide (p.caps.length ≤ 255) = a3
    generalize nameM p.name = a1
    generalize decide (p.name = ⟨#[]⟩) = a2
    cases top <;> cases a1 <;> cases a2 <;> cases a3 <;> cases b1 <;> cases b2 <;> cases b3 <;> cases b4 <;> cases b5 <;> cases b6 <;> cases b7 <;> cases b8 <;> rfl
set_option maxRecDepth 20000 in
theorem all_drop {α : Type} {f : α → Bool} {l : List α} {k : Nat} {x : α} (h : l[k]? = some x) : (l.drop k).all f = (f x && (l.drop (k + 1)).all f) := by
  have hk := (List.getElem?_eq_some_iff.1 h)
  rw [List.drop_eq_getElem_cons hk.1, hk.2, List.all_cons]
set_option maxRecDepth 20000 in
set_option maxHeartbeats 4000000 in
theorem rugproto_calls {w : World} (v : ProtoV) (hr : v.Reads w) (hs : ProtoS v.p) (top : Bool) : Calls Try.prog 34 #[.agg #[.string v.p.name, .int .i64 v.p.params, .int .i64 v.p.regs, .slice v.cA v.p.code.length v.cc, .slice v.kA v.p.consts.length v.kc, .slice v.pA v.p.caps.length v.pc], .bool top] w fun e w' => e = .returned (.bool (protoOk v.p top)) ∧ Below w.heap.size w w' := by
  have HB0 := hide ((Below.refl w.heap.size w).alloc (Nat.le_refl _) (.cells #[.string v.p.name, .int .i64 v.p.params, .int .i64 v.p.regs, .slice v.cA v.p.code.length v.cc, .slice v.kA v.p.consts.length v.kc, .slice v.pA v.p.caps.length v.pc] 38))
  have HK0 := hide (Blk.new w 38 #[.string v.p.name, .int .i64 v.p.params, .int .i64 v.p.regs, .slice v.cA v.p.code.length v.cc, .slice v.kA v.p.consts.length v.kc, .slice v.pA v.p.caps.length v.pc])
  have HRR := hide hr
  have HN := hide (fun w1 => rxName_calls v.p.name (by have := hs.name; omega) w1)
  have hcl : (v.p.code.length : Int) ≤ 100000000 := by have := hs.code; omega
  have hkl : (v.p.consts.length : Int) ≤ 100000000 := by have := hs.consts.1; omega
  have hpl : (v.p.caps.length : Int) ≤ 100000000 := by have := hs.caps.1; omega
  have HE0 := hide (protoOk_flat v.p top)
  generalize protoOk v.p top = res at *
  obtain ⟨nm, hnm⟩ : ∃ n, v.p.name = n := ⟨_, rfl⟩
  rw [hnm] at HB0 HK0 HN HE0 ⊢
  clear hr hs hnm
  have HI := hide rugin_calls
  cases top
  case false =>
    rw [if_neg (by simp)] at HE0
    by_cases hn : nm = ⟨#[]⟩
    case neg =>
      rw [decide_eq_false hn] at HE0
      obtain ⟨n1, n2⟩ := lbytes_ne hn
      have n3 := isEmpty_ne hn
      go_enter Try.func34, Try.ntmps34
      have HE : Hid (res = false) := hide (by rw [HE0.out]; rfl)
      go_wp2_with fail
      go_ret
      rw [HE.out]
      exact ⟨rfl, HB0.out⟩
    subst hn
    rw [decide_eq_true rfl] at HE0
    by_cases hc : (255 : Int) < (v.p.caps.length : Int)
    case pos =>
      have hcn : decide (255 < v.p.caps.length) = true := decide_eq_true (by omega)
      rw [decide_eq_false (by omega : ¬ v.p.caps.length ≤ 255)] at HE0
      have hcb := decide_eq_true hc
      go_enter Try.func34, Try.ntmps34
      have HE : Hid (res = false) := hide (by rw [HE0.out]; rfl)
      go_wp2_with fail
      go_ret
      rw [HE.out]
      exact ⟨rfl, HB0.out⟩
    have hcn : decide (255 < v.p.caps.length) = false := decide_eq_false (by omega)
    rw [decide_eq_true (by omega : v.p.caps.length ≤ 255)] at HE0
    have hcb := decide_eq_false hc
    simp only [Bool.true_and] at HE0
    obtain ⟨g1, hg1⟩ : ∃ g, inR v.p.params 0 8 = g := ⟨_, rfl⟩
    obtain ⟨g2, hg2⟩ : ∃ g, inR v.p.regs 1 100 = g := ⟨_, rfl⟩
    have HI1 := hide (HI.out v.p.params 0 8)
    have HI2 := hide (HI.out v.p.regs 1 100)
    rw [hg1] at HE0 HI1
    rw [hg2] at HE0 HI2
    clear hg1 hg2
    go_enter Try.func34, Try.ntmps34
    go_wp2_with fail
    refine (HI1.out _).mono ?_
    rintro e wx ⟨rfl, rfl⟩
    cases g1
    case false =>
      have HE : Hid (res = false) := hide (by rw [HE0.out]; rfl)
      go_wp2_with fail
      go_ret
      rw [HE.out]
      exact ⟨rfl, HB0.out⟩
    go_wp2_with fail
    refine (HI2.out _).mono ?_
    rintro e wx ⟨rfl, rfl⟩
    cases g2
    case false =>
      have HE : Hid (res = false) := hide (by rw [HE0.out]; rfl)
      go_wp2_with fail
      go_ret
      rw [HE.out]
      exact ⟨rfl, HB0.out⟩
    by_cases c0 : v.p.regs < v.p.params
    case pos =>
      rw [decide_eq_false (by omega : ¬ v.p.params ≤ v.p.regs)] at HE0
      have d0 := decide_eq_true c0
      have HE : Hid (res = false) := hide (by rw [HE0.out]; rfl)
      go_wp2_with fail
      go_ret
      rw [HE.out]
      exact ⟨rfl, HB0.out⟩
    have d0 := decide_eq_false c0
    rw [decide_eq_true (by omega : v.p.params ≤ v.p.regs)] at HE0
    by_cases c1 : (200 : Int) < (v.p.consts.length : Int)
    case pos =>
      rw [decide_eq_false (by omega : ¬ v.p.consts.length ≤ 200)] at HE0
      have d1 := decide_eq_true c1
      have e1 : decide (200 < v.p.consts.length) = true := decide_eq_true (by omega)
      have HE : Hid (res = false) := hide (by rw [HE0.out]; rfl)
      go_wp2_with fail
      go_ret
      rw [HE.out]
      exact ⟨rfl, HB0.out⟩
    have d1 := decide_eq_false c1
    rw [decide_eq_true (by omega : v.p.consts.length ≤ 200)] at HE0
    have e1 : decide (200 < v.p.consts.length) = false := decide_eq_false (by omega)
    by_cases c2 : (8000 : Int) < (v.p.code.length : Int)
    case pos =>
      rw [decide_eq_false (by omega : ¬ v.p.code.length ≤ 8000)] at HE0
      have d2 := decide_eq_true c2
      have e2 : decide (8000 < v.p.code.length) = true := decide_eq_true (by omega)
      have HE : Hid (res = false) := hide (by rw [HE0.out]; rfl)
      go_wp2_with fail
      go_ret
      rw [HE.out]
      exact ⟨rfl, HB0.out⟩
    have d2 := decide_eq_false c2
    rw [decide_eq_true (by omega : v.p.code.length ≤ 8000)] at HE0
    have e2 : decide (8000 < v.p.code.length) = false := decide_eq_false (by omega)
    simp only [Bool.true_and] at HE0
    clear HI1 HI2
    go_wp2_with fail
    go_loopw [5] (fun i wr => ∃ k : Nat, k ≤ v.p.caps.length ∧ i = .int .i64 (k : Int) ∧ Hid (Below w.heap.size w wr) ∧ Hid (Blk wr w.heap.size 38 #[.string ⟨#[]⟩, .int .i64 v.p.params, .int .i64 v.p.regs, .slice v.cA v.p.code.length v.cc, .slice v.kA v.p.consts.length v.kc, .slice v.pA v.p.caps.length v.pc]) ∧ Hid ((v.p.caps.drop k).all capOk = v.p.caps.all capOk)) (fun i _ => v.p.caps.length - (intOf i).toNat)
    case atStart => exact ⟨0, by omega, rfl, HB0, HK0, hide rfl⟩
    case round =>
      clear HB0 HK0
      obtain ⟨k, hk, rfl, HB, HK, HD⟩ := hrel
      have s0 : wr.cell? ⟨w.heap.size, 5, none⟩ = some (.slice v.pA v.p.caps.length v.pc) := HK.out.cell 5
      by_cases hlt : k < v.p.caps.length
      case pos =>
        obtain ⟨x, hx⟩ : ∃ x, v.p.caps[k]? = some x := ⟨_, List.getElem?_eq_getElem hlt⟩
        have hkI : (k : Int) < (v.p.caps.length : Int) := by omega
        have hk0 : (0 : Int) ≤ (k : Int) := by omega
        have HS := hide (all_drop (f := capOk) hx)
        obtain ⟨ba, oa, hA, _, hc⟩ := HRR.out.caps.kept HB.out hx
        rw [hA] at s0
        clear hA
        have x1 : wr.cell? ⟨ba, oa + k * 2 + 1, none⟩ = some (.int .i64 x.index) := hc 1 _ rfl
        have HX : Hid (∀ w1, Calls Try.prog 33 #[.int .i64 x.index, .int .i64 0, .int .i64 255] w1 fun e w' => e = .returned (.bool (capOk x)) ∧ w' = w1) := hide (fun w1 => rugin_calls _ _ _ w1)
        obtain ⟨g, hg⟩ : ∃ g, capOk x = g := ⟨_, rfl⟩
        rw [hg] at HX HS
        clear hc hx hg
        go_wp2_with fail
        refine (HX.out _).mono ?_
        rintro e w2 ⟨rfl, rfl⟩
        have HB2 := HB
        have HK2 := HK
        cases g
        case false =>
          have HE : Hid (res = false) := hide (by rw [HE0.out, ← HD.out, HS.out]; rfl)
          go_wp2_with fail
          go_ret
          rw [HE.out]
          exact ⟨rfl, HB2.out⟩
        have HD2 : Hid ((v.p.caps.drop (k + 1)).all capOk = v.p.caps.all capOk) := hide (by rw [← HD.out, HS.out, Bool.true_and])
        go_wp2_with fail
        refine ⟨⟨k + 1, by omega, by go_num, HB2, HK2, HD2⟩, ?_⟩
        simp [intOf]
        omega
      case neg =>
        obtain rfl : k = v.p.caps.length := by omega
        rw [← HD.out, List.drop_length] at HE0
        simp only [List.all_nil, Bool.true_and] at HE0
        clear HD
        go_wp2_with fail
        clear s0 hlt hk
        have HB1 := HB
        have HK1 := HK
        clear HB HK
        go_loopw [6] (fun i wr => ∃ k : Nat, k ≤ v.p.consts.length ∧ i = .int .i64 (k : Int) ∧ Hid (Below w.heap.size w wr) ∧ Hid (Blk wr w.heap.size 38 #[.string ⟨#[]⟩, .int .i64 v.p.params, .int .i64 v.p.regs, .slice v.cA v.p.code.length v.cc, .slice v.kA v.p.consts.length v.kc, .slice v.pA v.p.caps.length v.pc]) ∧ Hid ((v.p.consts.drop k).all conOk = v.p.consts.all conOk)) (fun i _ => v.p.consts.length - (intOf i).toNat)
        case atStart => exact ⟨0, by omega, rfl, HB1, HK1, hide rfl⟩
        case round =>
          clear HB1 HK1
          obtain ⟨k, hk, rfl, HB, HK, HD⟩ := hrel
          have s0 : wr.cell? ⟨w.heap.size, 4, none⟩ = some (.slice v.kA v.p.consts.length v.kc) := HK.out.cell 4
          by_cases hlt : k < v.p.consts.length
          case pos =>
            obtain ⟨x, hx⟩ : ∃ x, v.p.consts[k]? = some x := ⟨_, List.getElem?_eq_getElem hlt⟩
            have hkI : (k : Int) < (v.p.consts.length : Int) := by omega
            have hk0 : (0 : Int) ≤ (k : Int) := by omega
            have HS := hide (all_drop (f := conOk) hx)
            obtain ⟨ba, oa, hA, _, hc⟩ := HRR.out.consts.kept HB.out hx
            rw [hA] at s0
            clear hA
            have x0 : wr.cell? ⟨ba, oa + k * 3, none⟩ = some (.int .i64 x.kind) := hc 0 _ rfl
            have x1 : wr.cell? ⟨ba, oa + k * 3 + 1, none⟩ = some (.int .i64 x.n) := hc 1 _ rfl
            have x2 : wr.cell? ⟨ba, oa + k * 3 + 2, none⟩ = some (.string x.s) := hc 2 _ rfl
            have HX := hide (rugconstant_calls x)
            obtain ⟨g, hg⟩ : ∃ g, conOk x = g := ⟨_, rfl⟩
            rw [hg] at HX HS
            clear hc hx hg
            go_wp2_with fail
            refine (HX.out _).mono ?_
            rintro e w2 ⟨rfl, hb2⟩
            have HB2 := hide (HB.out.trans (hb2.mono HB.out.size))
            have HK2 := hide (HK.out.below hb2 HK.out.lt)
            clear hb2
            cases g
            case false =>
              have HE : Hid (res = false) := hide (by rw [HE0.out, ← HD.out, HS.out]; rfl)
              go_wp2_with fail
              go_ret
              rw [HE.out]
              exact ⟨rfl, HB2.out⟩
            have HD2 : Hid ((v.p.consts.drop (k + 1)).all conOk = v.p.consts.all conOk) := hide (by rw [← HD.out, HS.out, Bool.true_and])
            go_wp2_with fail
            refine ⟨⟨k + 1, by omega, by go_num, HB2, HK2, HD2⟩, ?_⟩
            simp [intOf]
            omega
          case neg =>
            obtain rfl : k = v.p.consts.length := by omega
            rw [← HD.out, List.drop_length] at HE0
            simp only [List.all_nil, Bool.true_and] at HE0
            clear HD
            go_wp2_with fail
            clear s0 hlt hk
            have HB1 := HB
            have HK1 := HK
            clear HB HK
            go_loopw [7] (fun i wr => ∃ k : Nat, k ≤ v.p.code.length ∧ i = .int .i64 (k : Int) ∧ Hid (Below w.heap.size w wr) ∧ Hid (Blk wr w.heap.size 38 #[.string ⟨#[]⟩, .int .i64 v.p.params, .int .i64 v.p.regs, .slice v.cA v.p.code.length v.cc, .slice v.kA v.p.consts.length v.kc, .slice v.pA v.p.caps.length v.pc]) ∧ Hid ((v.p.code.drop k).all insOk = v.p.code.all insOk)) (fun i _ => v.p.code.length - (intOf i).toNat)
            case atStart => exact ⟨0, by omega, rfl, HB1, HK1, hide rfl⟩
            case round =>
              clear HB1 HK1
              obtain ⟨k, hk, rfl, HB, HK, HD⟩ := hrel
              have s0 : wr.cell? ⟨w.heap.size, 3, none⟩ = some (.slice v.cA v.p.code.length v.cc) := HK.out.cell 3
              by_cases hlt : k < v.p.code.length
              case pos =>
                obtain ⟨x, hx⟩ : ∃ x, v.p.code[k]? = some x := ⟨_, List.getElem?_eq_getElem hlt⟩
                have hkI : (k : Int) < (v.p.code.length : Int) := by omega
                have hk0 : (0 : Int) ≤ (k : Int) := by omega
                have HS := hide (all_drop (f := insOk) hx)
                obtain ⟨ba, oa, hA, _, hc⟩ := HRR.out.code.kept HB.out hx
                rw [hA] at s0
                clear hA
                have x0 : wr.cell? ⟨ba, oa + k * 4, none⟩ = some (.int .i64 x.op) := hc 0 _ rfl
                have x1 : wr.cell? ⟨ba, oa + k * 4 + 1, none⟩ = some (.int .i64 x.a) := hc 1 _ rfl
                have x2 : wr.cell? ⟨ba, oa + k * 4 + 2, none⟩ = some (.int .i64 x.b) := hc 2 _ rfl
                have x3 : wr.cell? ⟨ba, oa + k * 4 + 3, none⟩ = some (.int .i64 x.c) := hc 3 _ rfl
                have HX : Hid (∀ w1, Calls Try.prog 60 #[.agg #[.int .i64 x.op, .int .i64 x.a, .int .i64 x.b, .int .i64 x.c]] w1 fun e w' => e = .returned (.bool (insOk x)) ∧ Below w1.heap.size w1 w') := hide (fun w1 => riRight_calls x.op x.a x.b x.c w1)
                obtain ⟨g, hg⟩ : ∃ g, insOk x = g := ⟨_, rfl⟩
                rw [hg] at HX HS
                clear hc hx hg
                go_wp2_with fail
                refine (HX.out _).mono ?_
                rintro e w2 ⟨rfl, hb2⟩
                have HB2 := hide (HB.out.trans (hb2.mono HB.out.size))
                have HK2 := hide (HK.out.below hb2 HK.out.lt)
                clear hb2
                cases g
                case false =>
                  have HE : Hid (res = false) := hide (by rw [HE0.out, ← HD.out, HS.out]; rfl)
                  go_wp2_with fail
                  go_ret
                  rw [HE.out]
                  exact ⟨rfl, HB2.out⟩
                have HD2 : Hid ((v.p.code.drop (k + 1)).all insOk = v.p.code.all insOk) := hide (by rw [← HD.out, HS.out, Bool.true_and])
                go_wp2_with fail
                refine ⟨⟨k + 1, by omega, by go_num, HB2, HK2, HD2⟩, ?_⟩
                simp [intOf]
                omega
              case neg =>
                obtain rfl : k = v.p.code.length := by omega
                rw [← HD.out, List.drop_length] at HE0
                simp only [List.all_nil] at HE0
                clear HD
                have HE : Hid (res = true) := hide (HE0.out)
                go_wp2_with fail
                go_ret
                rw [HE.out]
                exact ⟨rfl, HB.out⟩
  case true =>
    rw [if_pos rfl] at HE0
    obtain ⟨g, hg⟩ : ∃ g, nameM nm = g := ⟨_, rfl⟩
    rw [hg] at HN HE0
    clear hg
    go_enter Try.func34, Try.ntmps34
    go_wp2_with fail
    refine (HN.out _).mono ?_
    rintro e w1 ⟨rfl, hb1⟩
    have HB1 := hide (HB0.out.trans (hb1.mono HB0.out.size))
    have HK1 := hide (HK0.out.below hb1 HK0.out.lt)
    clear hb1 HB0 HK0
    have z1 : w1.cell? ⟨w.heap.size, 1, none⟩ = some (.int .i64 v.p.params) := HK1.out.cell 1
    have z2 : w1.cell? ⟨w.heap.size, 2, none⟩ = some (.int .i64 v.p.regs) := HK1.out.cell 2
    have z3 : w1.cell? ⟨w.heap.size, 3, none⟩ = some (.slice v.cA v.p.code.length v.cc) := HK1.out.cell 3
    have z4 : w1.cell? ⟨w.heap.size, 4, none⟩ = some (.slice v.kA v.p.consts.length v.kc) := HK1.out.cell 4
    have z5 : w1.cell? ⟨w.heap.size, 5, none⟩ = some (.slice v.pA v.p.caps.length v.pc) := HK1.out.cell 5
    cases g
    case false =>
      have HE : Hid (res = false) := hide (by rw [HE0.out]; rfl)
      go_wp2_with fail
      go_ret
      rw [HE.out]
      exact ⟨rfl, HB1.out⟩
    by_cases hc : (0 : Int) < (v.p.caps.length : Int)
    case pos =>
      have hcn : decide (0 < v.p.caps.length) = true := decide_eq_true (by omega)
      rw [decide_eq_false (by omega : ¬ v.p.caps.length = 0)] at HE0
      have hcb := decide_eq_true hc
      have HE : Hid (res = false) := hide (by rw [HE0.out]; rfl)
      go_wp2_with fail
      go_ret
      rw [HE.out]
      exact ⟨rfl, HB1.out⟩
    have hcn : decide (0 < v.p.caps.length) = false := decide_eq_false (by omega)
    rw [decide_eq_true (by omega : v.p.caps.length = 0)] at HE0
    have hcb := decide_eq_false hc
    simp only [Bool.true_and] at HE0
    obtain ⟨g1, hg1⟩ : ∃ g, inR v.p.params 0 8 = g := ⟨_, rfl⟩
    obtain ⟨g2, hg2⟩ : ∃ g, inR v.p.regs 1 100 = g := ⟨_, rfl⟩
    have HI1 := hide (HI.out v.p.params 0 8)
    have HI2 := hide (HI.out v.p.regs 1 100)
    rw [hg1] at HE0 HI1
    rw [hg2] at HE0 HI2
    clear hg1 hg2
    go_wp2_with fail
    refine (HI1.out _).mono ?_
    rintro e wx ⟨rfl, rfl⟩
    cases g1
    case false =>
      have HE : Hid (res = false) := hide (by rw [HE0.out]; rfl)
      go_wp2_with fail
      go_ret
      rw [HE.out]
      exact ⟨rfl, HB1.out⟩
    go_wp2_with fail
    refine (HI2.out _).mono ?_
    rintro e wx ⟨rfl, rfl⟩
    cases g2
    case false =>
      have HE : Hid (res = false) := hide (by rw [HE0.out]; rfl)
      go_wp2_with fail
      go_ret
      rw [HE.out]
      exact ⟨rfl, HB1.out⟩
    by_cases c0 : v.p.regs < v.p.params
    case pos =>
      rw [decide_eq_false (by omega : ¬ v.p.params ≤ v.p.regs)] at HE0
      have d0 := decide_eq_true c0
      have HE : Hid (res = false) := hide (by rw [HE0.out]; rfl)
      go_wp2_with fail
      go_ret
      rw [HE.out]
      exact ⟨rfl, HB1.out⟩
    have d0 := decide_eq_false c0
    rw [decide_eq_true (by omega : v.p.params ≤ v.p.regs)] at HE0
    by_cases c1 : (200 : Int) < (v.p.consts.length : Int)
    case pos =>
      rw [decide_eq_false (by omega : ¬ v.p.consts.length ≤ 200)] at HE0
      have d1 := decide_eq_true c1
      have e1 : decide (200 < v.p.consts.length) = true := decide_eq_true (by omega)
      have HE : Hid (res = false) := hide (by rw [HE0.out]; rfl)
      go_wp2_with fail
      go_ret
      rw [HE.out]
      exact ⟨rfl, HB1.out⟩
    have d1 := decide_eq_false c1
    rw [decide_eq_true (by omega : v.p.consts.length ≤ 200)] at HE0
    have e1 : decide (200 < v.p.consts.length) = false := decide_eq_false (by omega)
    by_cases c2 : (8000 : Int) < (v.p.code.length : Int)
    case pos =>
      rw [decide_eq_false (by omega : ¬ v.p.code.length ≤ 8000)] at HE0
      have d2 := decide_eq_true c2
      have e2 : decide (8000 < v.p.code.length) = true := decide_eq_true (by omega)
      have HE : Hid (res = false) := hide (by rw [HE0.out]; rfl)
      go_wp2_with fail
      go_ret
      rw [HE.out]
      exact ⟨rfl, HB1.out⟩
    have d2 := decide_eq_false c2
    rw [decide_eq_true (by omega : v.p.code.length ≤ 8000)] at HE0
    have e2 : decide (8000 < v.p.code.length) = false := decide_eq_false (by omega)
    simp only [Bool.true_and] at HE0
    clear HI1 HI2
    go_wp2_with fail
    go_loopw [5] (fun i wr => ∃ k : Nat, k ≤ v.p.caps.length ∧ i = .int .i64 (k : Int) ∧ Hid (Below w.heap.size w wr) ∧ Hid (Blk wr w.heap.size 38 #[.string nm, .int .i64 v.p.params, .int .i64 v.p.regs, .slice v.cA v.p.code.length v.cc, .slice v.kA v.p.consts.length v.kc, .slice v.pA v.p.caps.length v.pc]) ∧ Hid ((v.p.caps.drop k).all capOk = v.p.caps.all capOk)) (fun i _ => v.p.caps.length - (intOf i).toNat)
    case atStart => exact ⟨0, by omega, rfl, HB1, HK1, hide rfl⟩
    case round =>
      clear HB1 HK1 z1 z2 z3 z4 z5
      obtain ⟨k, hk, rfl, HB, HK, HD⟩ := hrel
      have s0 : wr.cell? ⟨w.heap.size, 5, none⟩ = some (.slice v.pA v.p.caps.length v.pc) := HK.out.cell 5
      by_cases hlt : k < v.p.caps.length
      case pos =>
        exact absurd hlt (by omega)
      case neg =>
        obtain rfl : k = v.p.caps.length := by omega
        rw [← HD.out, List.drop_length] at HE0
        simp only [List.all_nil, Bool.true_and] at HE0
        clear HD
        go_wp2_with fail
        clear s0 hlt hk
        have HB1 := HB
        have HK1 := HK
        clear HB HK
        go_loopw [6] (fun i wr => ∃ k : Nat, k ≤ v.p.consts.length ∧ i = .int .i64 (k : Int) ∧ Hid (Below w.heap.size w wr) ∧ Hid (Blk wr w.heap.size 38 #[.string nm, .int .i64 v.p.params, .int .i64 v.p.regs, .slice v.cA v.p.code.length v.cc, .slice v.kA v.p.consts.length v.kc, .slice v.pA v.p.caps.length v.pc]) ∧ Hid ((v.p.consts.drop k).all conOk = v.p.consts.all conOk)) (fun i _ => v.p.consts.length - (intOf i).toNat)
        case atStart => exact ⟨0, by omega, rfl, HB1, HK1, hide rfl⟩
        case round =>
          clear HB1 HK1
          obtain ⟨k, hk, rfl, HB, HK, HD⟩ := hrel
          have s0 : wr.cell? ⟨w.heap.size, 4, none⟩ = some (.slice v.kA v.p.consts.length v.kc) := HK.out.cell 4
          by_cases hlt : k < v.p.consts.length
          case pos =>
            obtain ⟨x, hx⟩ : ∃ x, v.p.consts[k]? = some x := ⟨_, List.getElem?_eq_getElem hlt⟩
            have hkI : (k : Int) < (v.p.consts.length : Int) := by omega
            have hk0 : (0 : Int) ≤ (k : Int) := by omega
            have HS := hide (all_drop (f := conOk) hx)
            obtain ⟨ba, oa, hA, _, hc⟩ := HRR.out.consts.kept HB.out hx
            rw [hA] at s0
            clear hA
            have x0 : wr.cell? ⟨ba, oa + k * 3, none⟩ = some (.int .i64 x.kind) := hc 0 _ rfl
            have x1 : wr.cell? ⟨ba, oa + k * 3 + 1, none⟩ = some (.int .i64 x.n) := hc 1 _ rfl
            have x2 : wr.cell? ⟨ba, oa + k * 3 + 2, none⟩ = some (.string x.s) := hc 2 _ rfl
            have HX := hide (rugconstant_calls x)
            obtain ⟨g, hg⟩ : ∃ g, conOk x = g := ⟨_, rfl⟩
            rw [hg] at HX HS
            clear hc hx hg
            go_wp2_with fail
            refine (HX.out _).mono ?_
            rintro e w2 ⟨rfl, hb2⟩
            have HB2 := hide (HB.out.trans (hb2.mono HB.out.size))
            have HK2 := hide (HK.out.below hb2 HK.out.lt)
            clear hb2
            cases g
            case false =>
              have HE : Hid (res = false) := hide (by rw [HE0.out, ← HD.out, HS.out]; rfl)
              go_wp2_with fail
              go_ret
              rw [HE.out]
              exact ⟨rfl, HB2.out⟩
            have HD2 : Hid ((v.p.consts.drop (k + 1)).all conOk = v.p.consts.all conOk) := hide (by rw [← HD.out, HS.out, Bool.true_and])
            go_wp2_with fail
            refine ⟨⟨k + 1, by omega, by go_num, HB2, HK2, HD2⟩, ?_⟩
            simp [intOf]
            omega
          case neg =>
            obtain rfl : k = v.p.consts.length := by omega
            rw [← HD.out, List.drop_length] at HE0
            simp only [List.all_nil, Bool.true_and] at HE0
            clear HD
            go_wp2_with fail
            clear s0 hlt hk
            have HB1 := HB
            have HK1 := HK
            clear HB HK
            go_loopw [7] (fun i wr => ∃ k : Nat, k ≤ v.p.code.length ∧ i = .int .i64 (k : Int) ∧ Hid (Below w.heap.size w wr) ∧ Hid (Blk wr w.heap.size 38 #[.string nm, .int .i64 v.p.params, .int .i64 v.p.regs, .slice v.cA v.p.code.length v.cc, .slice v.kA v.p.consts.length v.kc, .slice v.pA v.p.caps.length v.pc]) ∧ Hid ((v.p.code.drop k).all insOk = v.p.code.all insOk)) (fun i _ => v.p.code.length - (intOf i).toNat)
            case atStart => exact ⟨0, by omega, rfl, HB1, HK1, hide rfl⟩
            case round =>
              clear HB1 HK1
              obtain ⟨k, hk, rfl, HB, HK, HD⟩ := hrel
              have s0 : wr.cell? ⟨w.heap.size, 3, none⟩ = some (.slice v.cA v.p.code.length v.cc) := HK.out.cell 3
              by_cases hlt : k < v.p.code.length
              case pos =>
                obtain ⟨x, hx⟩ : ∃ x, v.p.code[k]? = some x := ⟨_, List.getElem?_eq_getElem hlt⟩
                have hkI : (k : Int) < (v.p.code.length : Int) := by omega
                have hk0 : (0 : Int) ≤ (k : Int) := by omega
                have HS := hide (all_drop (f := insOk) hx)
                obtain ⟨ba, oa, hA, _, hc⟩ := HRR.out.code.kept HB.out hx
                rw [hA] at s0
                clear hA
                have x0 : wr.cell? ⟨ba, oa + k * 4, none⟩ = some (.int .i64 x.op) := hc 0 _ rfl
                have x1 : wr.cell? ⟨ba, oa + k * 4 + 1, none⟩ = some (.int .i64 x.a) := hc 1 _ rfl
                have x2 : wr.cell? ⟨ba, oa + k * 4 + 2, none⟩ = some (.int .i64 x.b) := hc 2 _ rfl
                have x3 : wr.cell? ⟨ba, oa + k * 4 + 3, none⟩ = some (.int .i64 x.c) := hc 3 _ rfl
                have HX : Hid (∀ w1, Calls Try.prog 60 #[.agg #[.int .i64 x.op, .int .i64 x.a, .int .i64 x.b, .int .i64 x.c]] w1 fun e w' => e = .returned (.bool (insOk x)) ∧ Below w1.heap.size w1 w') := hide (fun w1 => riRight_calls x.op x.a x.b x.c w1)
                obtain ⟨g, hg⟩ : ∃ g, insOk x = g := ⟨_, rfl⟩
                rw [hg] at HX HS
                clear hc hx hg
                go_wp2_with fail
                refine (HX.out _).mono ?_
                rintro e w2 ⟨rfl, hb2⟩
                have HB2 := hide (HB.out.trans (hb2.mono HB.out.size))
                have HK2 := hide (HK.out.below hb2 HK.out.lt)
                clear hb2
                cases g
                case false =>
                  have HE : Hid (res = false) := hide (by rw [HE0.out, ← HD.out, HS.out]; rfl)
                  go_wp2_with fail
                  go_ret
                  rw [HE.out]
                  exact ⟨rfl, HB2.out⟩
                have HD2 : Hid ((v.p.code.drop (k + 1)).all insOk = v.p.code.all insOk) := hide (by rw [← HD.out, HS.out, Bool.true_and])
                go_wp2_with fail
                refine ⟨⟨k + 1, by omega, by go_num, HB2, HK2, HD2⟩, ?_⟩
                simp [intOf]
                omega
              case neg =>
                obtain rfl : k = v.p.code.length := by omega
                rw [← HD.out, List.drop_length] at HE0
                simp only [List.all_nil] at HE0
                clear HD
                have HE : Hid (res = true) := hide (HE0.out)
                go_wp2_with fail
                go_ret
                rw [HE.out]
                exact ⟨rfl, HB.out⟩
end Go.Proofs.Ythgjmbcojbmlhaa
