/- Chapter 7: StoreFull, walked. -/
import Derived.Test.YtacbnoagdlelgaaStQ
import Derived.OpenShut
import Derived.Deep.CutRange
namespace Go.Proofs.Ytacbnoagdlelgaa
open Go.RowKit Zb

set_option maxRecDepth 20000 in
set_option maxHeartbeats 4000000 in
theorem StoreFull_walk (t : ByteArray) (more : Int) (w : World) (_ : t.size ≤ 140737488351232) (wm : (Lit.int .u8 more).wf = true) : Calls Try.prog 3 #[.string t, .int .u8 more] w fun r w' => r = .returned (.bool true) ∧ Below w.heap.size w w' := by
  have bm := bounds_u8 wm
  obtain ⟨m, rfl⟩ : ∃ m : Nat, more = (m : Int) := ⟨more.toNat, by omega⟩
  have hm : m ≤ 255 := by omega
  have hmI : (m : Int) ≤ 255 := by omega
  clear bm wm
  have HN := hide (ds_new 16 (by omega) (by omega) (Below.refl w.heap.size w) (Nat.le_refl _))
  have G0 := hide (G7.new (N := 16) (by decide) (by decide))
  have HP0 : Hid ((DiskM.new 16).pon = false ∧ slotN (DiskM.new 16) = 4) := hide ⟨rfl, by rw [slotN_new]⟩
  by_cases h1 : 256 < t.size
  · have h1I : (256 : Int) < (t.size : Int) := by omega
    clear h1
    go_enter Try.func3, Try.ntmps3
    go_wp2_with fail
    refine HN.out.mono ?_
    rintro r w1 ⟨b, rfl, HD1⟩
    have HO := hide (st_open (DO.of_ds HD1.out) G0.out.full (by simp [DiskM.new]))
    go_wp2_with fail
    refine HO.out.mono ?_
    rintro r w2 ⟨_, hr⟩
    rcases hr with ⟨_, s, rfl, HS2⟩ | ⟨h, _⟩
    rotate_left
    · exact absurd G0.out.opens.1 h
    go_wp2_with fail
    refine (lknown7_calls _).mono ?_
    rintro r wk ⟨rfl, hbk⟩
    go_wp2_with fail
    go_ret
    exact ⟨rfl, HS2.out.bel.trans (hbk.mono HS2.out.bel.size)⟩
  have h1I : (t.size : Int) ≤ 256 := by omega
  have htn := hide (show t.size ≤ 256 by omega)
  clear h1
  go_enter Try.func3, Try.ntmps3
  go_wp2_with fail
  refine HN.out.mono ?_
  rintro r w1 ⟨b, rfl, HD1⟩
  have HO := hide (st_open (DO.of_ds HD1.out) G0.out.full (by simp [DiskM.new]))
  go_wp2_with fail
  refine HO.out.mono ?_
  rintro r w2 ⟨_, hr⟩
  rcases hr with ⟨_, s, rfl, HS2⟩ | ⟨h, _⟩
  rotate_left
  · exact absurd G0.out.opens.1 h
  rw [G0.out.opens.2] at HS2
  have I0 := hide (SI.opened G0.out)
  rcases I0.out.prepare (by decide) t with ⟨h1, _⟩ | ⟨_, D1, h2, h3, h4, h5⟩ | ⟨h1, _⟩
  · exact absurd h1 (by rw [HP0.out.2]; have := htn.out; omega)
  rotate_left
  · rw [HP0.out.1] at h1; cases h1
  have HPR := hide (tPrepare_calls HS2.out (by simp [DiskM.new]) (by simp [DiskM.new]) t (by have := htn.out; omega))
  rw [h2] at HPR
  have I1 := hide h3
  have P1 := hide (h5 HP0.out.1)
  have L1 := hide h4
  clear h2 h3 h4 h5
  rcases I1.out.commit (by decide) (k := nextK ⟨KeptM.none, false, none⟩ t) rfl with ⟨D2, h2, h3, h4, h5⟩ | ⟨h1, _⟩
  rotate_left
  · rw [P1.out] at h1; cases h1
  have I2 := hide h3
  have C2 := hide h2
  have L2 : Hid (D2.lasts.length = 16) := hide (by rw [h4, L1.out]; simp [DiskM.new])
  clear h2 h3 h4 h5
  have HTX : Hid (textS ⟨nextK ⟨KeptM.none, false, none⟩ t, false, none⟩ = (t, true)) := hide rfl
  go_wp2_with fail
  refine HPR.out.mono ?_
  rintro r w3 ⟨rfl, HS3⟩
  have HCM := hide (tCommit_calls HS3.out (by rw [I1.out.g.rest.wts]; exact Nat.zero_le _))
  rw [C2.out] at HCM
  go_wp2_with fail
  refine HCM.out.mono ?_
  rintro r w4 ⟨rfl, HS4⟩
  obtain ⟨N, hN⟩ : ∃ N : Nat, 257 + m = N := ⟨_, rfl⟩
  have hNI : IntKind.i64.wrap (257 + (m : Int)) = (N : Int) := by rw [IntWalk.i64_in _ (by omega)]; omega
  have hN9 : N ≤ 600 := by omega
  have hN257 : 257 ≤ N := by omega
  have hmk : ∀ W : World, (Instr.makeSlice 32 (.int .i64 (N : Int)) (.int .i64 (N : Int))).run Try.prog W = .ok (.slice (some ⟨W.heap.size, 0, none⟩) N N) (W.alloc (.cells (madeCells #[.int .u8 0] N) 5)) := fun W => make_row (P := Try.prog) 32 5 _ 1 Try.underlying32 binfo_u8 rfl .i64 .i64 N (by omega) (by omega) W
  have hcv : (convert 32 9 (.slice (some ⟨w4.heap.size, 0, none⟩) N N)).run Try.prog (w4.alloc (.cells (madeCells #[.int .u8 0] N) 5)) = .ok (.string (zeros N)) (w4.alloc (.cells (madeCells #[.int .u8 0] N) 5)) := by
    have h1 := (Buf.made (Below.refl w4.heap.size w4) N (by unfold maxLen; omega)).conv
    rw [h1]
    have e : (⟨(List.replicate N (0 : UInt8)).toArray⟩ : ByteArray) = zeros N := bext (by rw [zeros_list])
    rw [e]
  have HS5 : Hid (ST w.heap.size w (w4.alloc (.cells (madeCells #[.int .u8 0] N) 5)) b D2 s ⟨nextK ⟨KeptM.none, false, none⟩ t, false, none⟩) := hide (HS4.out.below ((Below.refl _ _).alloc (Nat.le_refl _) _))
  have HFU : Hid (prepareS ⟨nextK ⟨KeptM.none, false, none⟩ t, false, none⟩ D2 (zeros N) = (⟨nextK ⟨KeptM.none, false, none⟩ t, false, none⟩, D2, 6)) := hide (by
    rcases I2.out.prepare (by decide) (zeros N) with ⟨_, h⟩ | ⟨h1, _⟩ | ⟨_, D', h, _⟩
    · exact h
    · exact absurd h1 (by rw [zeros_sz]; unfold slotN; rw [L2.out]; omega)
    · exact absurd h (by
        unfold prepareS
        rw [show otherS _ = otherK (nextK ⟨KeptM.none, false, none⟩ t) from rfl, slotWrite_full D2 _ (zeros N) (otherK_rng _).1 (otherK_rng _).2.1 (by rw [zeros_sz]; unfold slotN; rw [L2.out]; omega)]
        rw [if_pos (by show (6 : Int) ≠ 0; decide)]
        intro e
        have := congrArg (fun p => p.2.2) e
        exact absurd this (by show ¬ (6 : Int) = 7; decide)))
  have HPF := hide (tPrepare_calls HS5.out (by rw [L2.out]; decide) (by rw [I2.out.g.rest.wts]; exact Nat.zero_le _) (zeros N) (by rw [zeros_sz]; omega))
  rw [HFU.out] at HPF
  clear hN hN9 hN257 hm
  go_wp2_with fail
  refine HPF.out.mono ?_
  rintro r w6 ⟨rfl, HS6⟩
  go_wp2_with fail
  refine (tText_calls HS6.out.st).mono ?_
  rintro r _ ⟨rfl, rfl⟩
  rw [HTX.out]
  have HO2 : Hid (∃ G, DO w.heap.size w w6 b D2 G) := hide (by obtain ⟨_, G, h, _⟩ := HS6.out; exact ⟨G, h.own⟩)
  have HOP := hide (by obtain ⟨G, h⟩ := HO2.out; exact st_open h I2.out.g.full (by rw [I2.out.g.rest.wts]; exact Nat.zero_le _))
  go_wp2_with fail
  refine HOP.out.mono ?_
  rintro r w7 ⟨hb7, hr⟩
  rcases hr with ⟨_, s2, rfl, HS7⟩ | ⟨h, _⟩
  rotate_left
  · exact absurd I2.out.g.opens.1 h
  rw [I2.out.g.opens.2] at HS7
  have HS7s := hide (HS6.out.below hb7.out)
  have HCM2 := hide (tCommit_calls HS7s.out (by rw [I2.out.g.rest.wts]; exact Nat.zero_le _))
  rw [show commitS ⟨nextK ⟨KeptM.none, false, none⟩ t, false, none⟩ D2 = (⟨nextK ⟨KeptM.none, false, none⟩ t, false, none⟩, D2, 8) from rfl] at HCM2
  go_wp2_with fail
  refine (tText_calls HS7.out.st).mono ?_
  rintro r _ ⟨rfl, rfl⟩
  rw [HTX.out]
  go_wp2_with fail
  refine (tWaits_calls HS7s.out.st).mono ?_
  rintro r _ ⟨rfl, rfl⟩
  go_wp2_with fail
  refine HCM2.out.mono ?_
  rintro r w8 ⟨rfl, HS8⟩
  go_wp2_with fail
  refine (lknown7_calls _).mono ?_
  rintro r wk ⟨rfl, hbk⟩
  go_wp2_with fail
  go_ret
  exact ⟨rfl, HS8.out.bel.trans (hbk.mono HS8.out.bel.size)⟩
end Go.Proofs.Ytacbnoagdlelgaa
