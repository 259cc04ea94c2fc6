/- Chapter 7: StoreLast, walked. -/
import Derived.Test.YtacbnoagdlelgaaStQ
import Derived.Test.YtacbnoagdlelgaaArgs8
import Derived.Deep.CutBlock
namespace Go.Proofs.Ytacbnoagdlelgaa
open Go.RowKit Zb

set_option maxRecDepth 20000 in
theorem SI.text {S : StoreM} {D : DiskM} {n : Nat} {k : KeptM} (h : SI S D n) (hw : S.waits = some k) : textS ⟨k, false, none⟩ = (k.text, true) := text_has (S := ⟨k, false, none⟩) (h.w k hw)
/-- what StoreLast carries along -/
def LastW (w wx : World) (b s n : Nat) (s7 s8 s9 s10 : Value) : Prop := ∃ (S : StoreM) (D : DiskM) (nx : ByteArray), Hid (ST w.heap.size w wx b D s S) ∧ Hid (SI S D n) ∧ D.pon = false ∧ D.lasts.length = 40 ∧ s7 = .string (textS S).1 ∧ s8 = .bool (textS S).2 ∧ s9 = .string nx ∧ s10 = .bool S.waits.isSome ∧ ∀ q, S.waits = some q → q.text = nx
set_option maxRecDepth 20000 in
theorem LastW.below {w wx wy : World} {b s n : Nat} {s7 s8 s9 s10 : Value} (h : LastW w wx b s n s7 s8 s9 s10) (k : Below wx.heap.size wx wy) : LastW w wy b s n s7 s8 s9 s10 := by
  obtain ⟨S, D, nx, h1, h2⟩ := h
  exact ⟨S, D, nx, hide (h1.out.below k), h2⟩
set_option maxRecDepth 20000 in
theorem odd3_op (g : Nat) (cs : Array Value) : Odd3 [(g, 39, cs)] := fun p hp => by
  obtain rfl : p = (g, 39, cs) := by simpa using hp
  show (39 : Nat) ≠ 48 ∧ (39 : Nat) ≠ 45 ∧ (39 : Nat) ≠ 59
  decide
set_option maxRecDepth 20000 in
theorem SI.more {S : StoreM} {D : DiskM} {n : Nat} (h : SI S D n) : SI S D (n + 1) := ⟨⟨h.g.rest, h.g.full, h.g.tells, h.g.n0, by have := h.g.n1; omega, h.g.len⟩, h.odd, h.w⟩
set_option maxRecDepth 20000 in
set_option maxHeartbeats 8000000 in
theorem StoreLast_walk (A : Option Addr) (cap : Nat) (l : List QOp) (w : World) (_ : l.length ≤ 9223372036854775807) (hr : ReadsRows 4 QOp.cells w A l) (_ : ∀ x ∈ l, x.Ok) : Calls Try.prog 4 #[.slice A l.length cap] w fun r w' => r = .returned (.bool true) ∧ Below w.heap.size w w' := by
  have HR := hide hr
  have HN := hide (ds_new 40 (by omega) (by omega) (Below.refl w.heap.size w) (Nat.le_refl _))
  have G0 := hide (G7.new (N := 40) (by decide) (by decide))
  clear hr
  go_enter Try.func4, Try.ntmps4
  go_wp2_with fail
  refine HN.out.mono ?_
  rintro r w1 ⟨b, rfl, HD1⟩
  have HO := hide (st_open (DO.of_ds HD1.out) G0.out.full (by simp [DiskM.new]))
  go_wp2_with fail
  refine HO.out.mono ?_
  rintro r w2 ⟨_, hr⟩
  rcases hr with ⟨_, s, rfl, HS2⟩ | ⟨h, _⟩
  rotate_left
  · exact absurd G0.out.opens.1 h
  rw [G0.out.opens.2] at HS2
  have HI0 : Hid (LastW w w2 b s 0 (.string ⟨#[]⟩) (.bool false) (.string ⟨#[]⟩) (.bool false)) := hide ⟨_, _, ⟨#[]⟩, HS2, hide (SI.opened G0.out), rfl, by simp [DiskM.new], rfl, rfl, rfl, rfl, fun q hq => by cases hq⟩
  clear HN HO HS2 HD1 G0
  go_wp2_with fail
  go_loopw [7, 8, 9, 10, 11] (fun s7 s8 s9 s10 i wr => ∃ k : Nat, k ≤ l.length ∧ k ≤ 40 ∧ i = .int .i64 (k : Int) ∧ Hid (LastW w wr b s k s7 s8 s9 s10)) (fun _ _ _ _ i _ => 40 - (intOf i).toNat)
  case atStart => exact ⟨0, by omega, by omega, rfl, HI0⟩
  case round =>
  clear HI0
  obtain ⟨k, hk, hk40, rfl, HL⟩ := hrel
  have HLB := hide HL.out
  obtain ⟨S, D, nx, HST, HSI, hp, hl, rfl, rfl, rfl, rfl, hq⟩ := HL.out
  obtain ⟨T, hT⟩ : ∃ T, textS S = T := ⟨_, rfl⟩
  rw [hT]
  obtain ⟨tx, hs⟩ := T
  have HT := hide hT
  clear hT
  dsimp only
  have HP := hide hp
  have HL40 := hide hl
  have HQ := hide hq
  have hwts : D.waits = [] := HSI.out.g.rest.wts
  have HW := hide hwts
  clear hp hl hq HL hwts
  obtain ⟨wt, hwt⟩ : ∃ wt, S.waits = wt := ⟨_, rfl⟩
  rw [hwt]
  have HWT := hide hwt
  clear hwt
  by_cases hlt : k < l.length ∧ k < 40
  · obtain ⟨hlt1, hlt2⟩ := hlt
    obtain ⟨x, hx⟩ : ∃ x, l[k]? = some x := ⟨_, List.getElem?_eq_getElem hlt1⟩
    obtain ⟨bb, off, hA, hblt, hc⟩ := HR.out.kept HST.out.bel hx
    subst hA
    have x0 : wr.cell? ⟨bb, off + k * 4, none⟩ = some (.int .i64 x.kind) := hc 0 _ rfl
    have x1 : wr.cell? ⟨bb, off + k * 4 + 1, none⟩ = some (.string x.s) := hc 1 _ rfl
    have x2 : wr.cell? ⟨bb, off + k * 4 + 2, none⟩ = some (.int .i64 x.i) := hc 2 _ rfl
    have x3 : wr.cell? ⟨bb, off + k * 4 + 3, none⟩ = some (.int .u64 x.mask) := hc 3 _ rfl
    have hkI1 : (k : Int) < (l.length : Int) := by omega
    have hkI2 : (k : Int) < 40 := by omega
    have hHB : Hid (Blk (wr.alloc (.cells #[.int .i64 x.kind, .string x.s, .int .i64 x.i, .int .u64 x.mask] 39)) wr.heap.size 39 x.cells.toArray) := hide (Blk.new wr 39 x.cells.toArray)
    have hST : Hid (BST w.heap.size w (wr.alloc (.cells #[.int .i64 x.kind, .string x.s, .int .i64 x.i, .int .u64 x.mask] 39)) b D s S [(wr.heap.size, 39, x.cells.toArray)]) := hide ((BST.of HST.out).alloc 39 x.cells.toArray)
    clear hc hx
    by_cases h1 : 1000 < x.s.size
    · have h1I : (1000 : Int) < (x.s.size : Int) := by omega
      clear h1
      go_wp2_with fail
      refine (lknown7_calls _).mono ?_
      rintro r wk ⟨rfl, hbk⟩
      go_wp2_with fail
      go_ret
      exact ⟨rfl, hST.out.st.bel.trans (hbk.mono hST.out.st.bel.size)⟩
    have h1I : (x.s.size : Int) ≤ 1000 := by omega
    have h1N := hide (show x.s.size ≤ 1000 by omega)
    clear h1
    go_upto_block 2 with (fail)
    generalize hWA : wr.alloc (.cells #[.int .i64 x.kind, .string x.s, .int .i64 x.i, .int .u64 x.mask] 39) = w3 at *
    generalize hg8 : wr.heap.size = g8 at *
    clear hWA hg8 x0 x1 x2 x3 hblt
    obtain ⟨z0, z1, z2, z3⟩ := qop_all hHB.out
    go_cut [7, 8, 9, 10] from 42 to 106 (fun s7 s8 s9 s10 wx => Hid (LastW w wx b s (k + 1) s7 s8 s9 s10))
    case first =>
      by_cases hk0 : x.kind = 0
      · have q0 : (x.kind == 0) = true := by simp [hk0]
        clear hk0
        rcases HSI.out.prepare (by omega) x.s with ⟨h1, _⟩ | ⟨_, D1, h2, h3, h4, h5⟩ | ⟨h1, _⟩
        · exact absurd h1 (by unfold slotN; rw [HL40.out]; have := h1N.out; omega)
        rotate_left
        · rw [HP.out] at h1; cases h1
        have HPR := hide (tPrepare_kept hST.out (odd3_op _ _) (by rw [HL40.out]; decide) (by rw [HW.out]; exact Nat.zero_le _) x.s (by have := h1N.out; omega))
        rw [h2] at HPR
        have I1 := hide h3
        have P1 := hide (h5 HP.out)
        have L1 := hide h4
        clear h2 h3 h4 h5
        go_wp2_with fail
        refine HPR.out.mono ?_
        rintro r w5 ⟨rfl, HS5⟩
        have z1' : w5.cell? ⟨g8, 1, none⟩ = some (.string x.s) := (HS5.out.get (List.mem_cons_self ..)).cell 1
        have hqq : ∀ q, (S.wait (nextK S x.s)).waits = some q → q.text = x.s := fun q hq => by
          have e : nextK S x.s = q := by simpa [StoreM.wait] using hq
          rw [← e]
          rfl
        go_wp2_with fail
        go_meet
        case rel => exact hide ⟨S.wait (nextK S x.s), D1, x.s, hide HS5.out.st, I1, P1.out, by rw [L1.out]; exact HL40.out, by rw [show textS (S.wait (nextK S x.s)) = textS S from rfl, HT.out], by rw [show textS (S.wait (nextK S x.s)) = textS S from rfl, HT.out], rfl, rfl, hqq⟩
      by_cases hk1 : x.kind = 1
      · have q0 : (x.kind == 0) = false := by simp [hk1]
        have q1 : (x.kind == 1) = true := by simp [hk1]
        clear hk0 hk1
        have HCM := hide (tCommit_kept hST.out (odd3_op _ _) (by rw [HW.out]; exact Nat.zero_le _))
        cases wt with
        | none =>
          rw [show commitS S D = (S, D, 8) by unfold commitS; rw [HWT.out]] at HCM
          go_wp2_with fail
          refine HCM.out.mono ?_
          rintro r w5 ⟨rfl, HS5⟩
          go_wp2_with fail
          go_meet
          case rel => exact hide ⟨S, D, nx, hide HS5.out.st, hide HSI.out.more, HP.out, HL40.out, by rw [HT.out], by rw [HT.out], rfl, by rw [HWT.out]; rfl, HQ.out⟩
        | some q =>
          rcases HSI.out.commit (by omega) HWT.out with ⟨D1, h2, h3, h4, h5⟩ | ⟨h1, _⟩
          rotate_left
          · rw [HP.out] at h1; cases h1
          rw [h2] at HCM
          have I1 := hide h3
          have P1 := hide (h5 HP.out)
          have L1 := hide h4
          have HQN := hide (HQ.out q HWT.out)
          have HTQ := hide (HSI.out.text HWT.out)
          clear h2 h3 h4 h5
          go_wp2_with fail
          refine HCM.out.mono ?_
          rintro r w5 ⟨rfl, HS5⟩
          go_wp2_with fail
          go_meet
          case rel => exact hide ⟨⟨q, false, none⟩, D1, nx, hide HS5.out.st, I1, P1.out, by rw [L1.out]; exact HL40.out, by rw [HTQ.out, HQN.out], by rw [HTQ.out], rfl, rfl, fun q' hq' => by cases hq'⟩
      by_cases hk2 : x.kind = 2
      · have q0 : (x.kind == 0) = false := by simp [hk2]
        have q1 : (x.kind == 1) = false := by simp [hk2]
        have q2 : (x.kind == 2) = true := by simp [hk2]
        clear hk0 hk1 hk2
        have HCM := hide (tDrop_kept hST.out (odd3_op _ _) (by rw [HW.out]; exact Nat.zero_le _))
        cases wt with
        | none =>
          rw [show dropS S D = (S, D, 8) by unfold dropS; rw [HWT.out]] at HCM
          go_wp2_with fail
          refine HCM.out.mono ?_
          rintro r w5 ⟨rfl, HS5⟩
          go_wp2_with fail
          go_meet
          case rel => exact hide ⟨S, D, nx, hide HS5.out.st, hide HSI.out.more, HP.out, HL40.out, by rw [HT.out], by rw [HT.out], rfl, by rw [HWT.out]; rfl, HQ.out⟩
        | some q =>
          rcases HSI.out.drop (by omega) HWT.out with ⟨D1, h2, h3, h4, h5⟩ | ⟨h1, _⟩
          rotate_left
          · rw [HP.out] at h1; cases h1
          rw [h2] at HCM
          have I1 := hide h3
          have P1 := hide (h5 HP.out)
          have L1 := hide h4
          clear h2 h3 h4 h5
          go_wp2_with fail
          refine HCM.out.mono ?_
          rintro r w5 ⟨rfl, HS5⟩
          go_wp2_with fail
          go_meet
          case rel => exact hide ⟨S.shut, D1, nx, hide HS5.out.st, I1, P1.out, by rw [L1.out]; exact HL40.out, by rw [show textS S.shut = textS S from rfl, HT.out], by rw [show textS S.shut = textS S from rfl, HT.out], rfl, rfl, fun q' hq' => by cases hq'⟩
      · have q0 : (x.kind == 0) = false := by simp [hk0]
        have q1 : (x.kind == 1) = false := by simp [hk1]
        have q2 : (x.kind == 2) = false := by simp [hk2]
        clear hk0 hk1 hk2
        go_wp2_with fail
        go_meet
        case rel => exact hide ⟨S, D, nx, hide hST.out.st, hide HSI.out.more, HP.out, HL40.out, by rw [HT.out], by rw [HT.out], rfl, by rw [HWT.out], HQ.out⟩
    case rest =>
    obtain ⟨S2, D2, nx2, HST2, HSI2, hp2, hl2, e7, e8, e9, e10, hq2⟩ := hcut.out
    obtain ⟨T2, hT2⟩ : ∃ T, textS S2 = T := ⟨_, rfl⟩
    rw [hT2] at e7 e8
    obtain ⟨tx2, hs2⟩ := T2
    dsimp only at e7 e8
    obtain ⟨b10, hb10⟩ : ∃ b10, S2.waits.isSome = b10 := ⟨_, rfl⟩
    rw [hb10] at e10
    subst e7 e8 e9 e10
    have HTX := hide (tText_calls HST2.out.st)
    rw [hT2] at HTX
    have HWA := hide (tWaits_calls HST2.out.st)
    rw [hb10] at HWA
    have HCUT := hide hcut.out
    clear hcut hT2 hb10 hp2 hl2 hq2 z0 z1 z2 z3
    go_wp2_with fail
    refine HTX.out.mono ?_
    rintro r _ ⟨rfl, rfl⟩
    go_wp2_with fail
    refine HWA.out.mono ?_
    rintro r _ ⟨rfl, rfl⟩
    go_wp2_with fail
    refine ⟨⟨k + 1, by omega, by omega, by go_num, HCUT⟩, ?_⟩
    simp [intOf]
    omega
  · have HOP := hide (by
      obtain ⟨_, G, h, _⟩ := HST.out
      exact st_open h.own HSI.out.g.full (by rw [HW.out]; exact Nat.zero_le _))
    have HOE := hide HSI.out.g.opens
    have HTK : Hid (textS ⟨S.k, false, none⟩ = (tx, hs)) := hide (by rw [← HT.out]; rfl)
    by_cases hl1 : k < l.length
    · have hkI1 : (k : Int) < (l.length : Int) := by omega
      have hkI2 : ¬ ((k : Int) < 40) := by omega
      clear hlt hk hk40 hl1
      go_wp2_with fail
      refine HOP.out.mono ?_
      rintro r w7 ⟨hb7, hr⟩
      rcases hr with ⟨_, s2, rfl, HS7⟩ | ⟨h, _⟩
      rotate_left
      · exact absurd HOE.out.1 h
      rw [HOE.out.2] at HS7
      go_wp2_with fail
      refine (tText_calls HS7.out.st).mono ?_
      rintro r _ ⟨rfl, rfl⟩
      rw [HTK.out]
      go_wp2_with fail
      refine (lknown7_calls _).mono ?_
      rintro r wk ⟨rfl, hbk⟩
      go_wp2_with fail
      go_ret
      exact ⟨rfl, HS7.out.bel.trans (hbk.mono HS7.out.bel.size)⟩
    · have hkI1 : ¬ ((k : Int) < (l.length : Int)) := by omega
      clear hlt hk hk40 hl1
      go_wp2_with fail
      refine HOP.out.mono ?_
      rintro r w7 ⟨hb7, hr⟩
      rcases hr with ⟨_, s2, rfl, HS7⟩ | ⟨h, _⟩
      rotate_left
      · exact absurd HOE.out.1 h
      rw [HOE.out.2] at HS7
      go_wp2_with fail
      refine (tText_calls HS7.out.st).mono ?_
      rintro r _ ⟨rfl, rfl⟩
      rw [HTK.out]
      go_wp2_with fail
      refine (lknown7_calls _).mono ?_
      rintro r wk ⟨rfl, hbk⟩
      go_wp2_with fail
      go_ret
      exact ⟨rfl, HS7.out.bel.trans (hbk.mono HS7.out.bel.size)⟩
end Go.Proofs.Ytacbnoagdlelgaa
