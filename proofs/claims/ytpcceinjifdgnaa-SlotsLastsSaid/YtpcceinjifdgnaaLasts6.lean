/- Chapter 6: SlotsLasts comes to true: the walk. -/
import Derived.Test.YtpcceinjifdgnaaLasts6P
namespace Go.Proofs.Ytpcceinjifdgnaa
open Go.RowKit Zb

set_option maxRecDepth 100000 in
set_option maxHeartbeats 8000000 in
theorem SlotsLasts_w0 (a b : ByteArray) (kk mm : Int) (w : World) (_ : a.size ≤ maxLen) (_ : b.size ≤ maxLen) (h0 : (Lit.int .u8 kk).wf = true) (_h1 : (Lit.int .u64 mm).wf = true) : Calls Try.prog 6 #[.agg #[.string a, .string b, .bool false, .int .u8 kk, .int .u64 mm]] w fun e w' => e = .returned (.bool true) ∧ Below w.heap.size w w' := by
  have hkb := bounds_u8 h0
  have hk := hkb.1
  have hk2 := hkb.2
  clear h0 hkb
  have T0 := hide ((Below.refl w.heap.size w).alloc (Nat.le_refl _) (.cells #[.string a, .string b, .bool false, .int .u8 kk, .int .u64 mm] 41))
  have K0 := (Blk.new w 41 #[.string a, .string b, .bool false, .int .u8 kk, .int .u64 mm])
  by_cases ha : 1000 < a.size
  · go_enter Try.func6, Try.ntmps6
    go_wp2_with fail
    refine (ds6_new 40 (by omega) (by omega) _).mono ?_
    rintro e w1 ⟨q, rfl, h1⟩
    go_wp2_with fail
    refine (lknown6_calls _).mono ?_
    rintro e w4 ⟨rfl, hb4⟩
    have T := hide (T0.out.trans ((DS6.bel (h1.out.below hb4)).mono T0.out.size))
    clear hb4
    go_wp2_with fail
    go_ret
    exact ⟨rfl, T.out⟩
  · by_cases hb : 1000 < b.size
    · go_enter Try.func6, Try.ntmps6
      go_wp2_with fail
      refine (ds6_new 40 (by omega) (by omega) _).mono ?_
      rintro e w1 ⟨q, rfl, h1⟩
      go_wp2_with fail
      refine (lknown6_calls _).mono ?_
      rintro e w4 ⟨rfl, hb4⟩
      have T := hide (T0.out.trans ((DS6.bel (h1.out.below hb4)).mono T0.out.size))
      clear hb4
      go_wp2_with fail
      go_ret
      exact ⟨rfl, T.out⟩
    · obtain ⟨D1, Df, D2, D3, D4, g, D5, D6, D7, t, e1, ef, e2, r2, e3, e4, e5, e6, e7, r7, r7b, hg, rz, HW⟩ := lasts6_ok 0 (by omega) (by omega) a b (by omega) (by omega) (kk % 20) mm (by omega)
      rw [show (1 : Int) - 0 = 1 from rfl] at e4 r7b
      have HG := hide hg
      clear hg
      have E4 := hide e4
      have R7 := hide r7
      have R7B := hide r7b
      clear e4 r7 r7b
      go_enter Try.func6, Try.ntmps6
      go_wp2_with fail
      have hw0 : w.heap.size < (w.alloc (.cells #[.string a, .string b, .bool false, .int .u8 kk, .int .u64 mm] 41)).heap.size := by simp
      generalize w.alloc (.cells #[.string a, .string b, .bool false, .int .u8 kk, .int .u64 mm] 41) = w0 at *
      refine (ds6_new 40 (by omega) (by omega) _).mono ?_
      rintro e w1 ⟨q, rfl, h1⟩
      have K1 := K0.below (DS6.bel h1.out) hw0
      have c2 := K1.cell 2
      go_wp2_with fail
      refine (h1.out.quiet (fun G hG => dread_calls hG (by simp [DiskM.new]) 7)).mono ?_
      rintro e w' ⟨rfl, rfl⟩
      rw [new_read7]
      go_wp2_with fail
      refine (h1.out.op (fun G hG => sWrite_calls hG (by simp [DiskM.new]) 0 a)).mono ?_
      rintro e w2 ⟨rfl, h2⟩
      rw [e1] at h2 ⊢
      clear h1 K1 c2
      go_wp2_with fail
      refine (h2.out.op (fun G hG => dfail_calls hG mm (by rw [HW.out.1]; omega))).mono ?_
      rintro e w3 ⟨rfl, h3⟩
      rw [ef] at h3
      clear h2
      go_wp2_with fail
      refine (h3.out.op (fun G hG => dstart_calls hG)).mono ?_
      rintro e w4 ⟨rfl, h4⟩
      rw [e2] at h4
      clear h3
      go_wp2_with fail
      obtain ⟨G4, hG4⟩ := h4.out.at_
      refine (sRead_calls hG4 HW.out.2.2.2.2.2.2.2.1 (by rw [HW.out.2.1]; omega) 0 a.size).mono ?_
      rintro e w5 ⟨rfl, hb5⟩
      rw [r2]
      have h5 := hide (h4.out.below hb5)
      clear hb5 h4 hG4 G4
      have K5 := K0.below (DS6.bel h5.out) hw0
      have c3 := K5.cell 3
      go_wp2_with fail
      refine (h5.out.op (fun G hG => dplan_calls hG (kk % 20) mm)).mono ?_
      rintro e w6 ⟨rfl, h6⟩
      rw [e3] at h6
      clear h5 K5 c3
      go_wp2_with fail
      refine (h6.out.op (fun G hG => sWrite_calls hG (by rw [HW.out.2.2.1]; omega) 1 b)).mono ?_
      rintro e w7 ⟨rfl, h7⟩
      rw [E4.out] at h7 ⊢
      clear h6
      go_wp2_with fail
      refine (h7.out.op (fun G hG => dplan_calls hG 1099511627776 0)).mono ?_
      rintro e w8 ⟨rfl, h8⟩
      rw [e5] at h8
      clear h7
      go_wp2_with fail
      refine (h8.out.op (fun G hG => dfail_calls hG 0 (by rw [HW.out.2.2.2.2.1]; omega))).mono ?_
      rintro e w9 ⟨rfl, h9⟩
      rw [e6] at h9
      clear h8
      go_wp2_with fail
      refine (h9.out.op (fun G hG => dstart_calls hG)).mono ?_
      rintro e w10 ⟨rfl, h10⟩
      rw [e7] at h10
      clear h9
      go_wp2_with fail
      obtain ⟨G4, hG4⟩ := h10.out.at_
      refine (sRead_calls hG4 HW.out.2.2.2.2.2.2.2.2 (by rw [HW.out.2.2.2.2.2.2.1]; omega) 0 a.size).mono ?_
      rintro e w11 ⟨rfl, hb11⟩
      rw [R7.out]
      have h11 := hide (h10.out.below hb11)
      clear hb11 h10 hG4 G4
      go_wp2_with fail
      obtain ⟨G4, hG4⟩ := h11.out.at_
      refine (sRead_calls hG4 HW.out.2.2.2.2.2.2.2.2 (by rw [HW.out.2.2.2.2.2.2.1]; omega) 1 b.size).mono ?_
      rintro e w12 ⟨rfl, hb12⟩
      rw [R7B.out]
      have h12 := hide (h11.out.below hb12)
      clear hb12 h11 hG4 G4
      go_wp2_with fail
      refine (h12.out.quiet (fun G hG => dread_calls hG (by rw [HW.out.2.2.2.2.2.2.1]; omega) 7)).mono ?_
      rintro e w' ⟨rfl, rfl⟩
      rw [rz]
      rcases HG.out with ⟨hg0, ht⟩ | hg7
      · subst hg0
        subst ht
        go_wp2_with fail
        refine (lknown6_calls _).mono ?_
        rintro e w13 ⟨rfl, hb13⟩
        have T := hide (T0.out.trans ((DS6.bel (h12.out.below hb13)).mono T0.out.size))
        clear hb13
        go_wp2_with fail
        go_ret
        exact ⟨rfl, T.out⟩
      · subst hg7
        go_wp2_with fail
        refine (lknown6_calls _).mono ?_
        rintro e w13 ⟨rfl, hb13⟩
        have T := hide (T0.out.trans ((DS6.bel (h12.out.below hb13)).mono T0.out.size))
        clear hb13
        go_wp2_with fail
        go_ret
        exact ⟨rfl, T.out⟩

set_option maxRecDepth 100000 in
set_option maxHeartbeats 8000000 in
theorem SlotsLasts_w1 (a b : ByteArray) (kk mm : Int) (w : World) (_ : a.size ≤ maxLen) (_ : b.size ≤ maxLen) (h0 : (Lit.int .u8 kk).wf = true) (_h1 : (Lit.int .u64 mm).wf = true) : Calls Try.prog 6 #[.agg #[.string a, .string b, .bool true, .int .u8 kk, .int .u64 mm]] w fun e w' => e = .returned (.bool true) ∧ Below w.heap.size w w' := by
  have hkb := bounds_u8 h0
  have hk := hkb.1
  have hk2 := hkb.2
  clear h0 hkb
  have T0 := hide ((Below.refl w.heap.size w).alloc (Nat.le_refl _) (.cells #[.string a, .string b, .bool true, .int .u8 kk, .int .u64 mm] 41))
  have K0 := (Blk.new w 41 #[.string a, .string b, .bool true, .int .u8 kk, .int .u64 mm])
  by_cases ha : 1000 < a.size
  · go_enter Try.func6, Try.ntmps6
    go_wp2_with fail
    refine (ds6_new 40 (by omega) (by omega) _).mono ?_
    rintro e w1 ⟨q, rfl, h1⟩
    go_wp2_with fail
    refine (lknown6_calls _).mono ?_
    rintro e w4 ⟨rfl, hb4⟩
    have T := hide (T0.out.trans ((DS6.bel (h1.out.below hb4)).mono T0.out.size))
    clear hb4
    go_wp2_with fail
    go_ret
    exact ⟨rfl, T.out⟩
  · by_cases hb : 1000 < b.size
    · go_enter Try.func6, Try.ntmps6
      go_wp2_with fail
      refine (ds6_new 40 (by omega) (by omega) _).mono ?_
      rintro e w1 ⟨q, rfl, h1⟩
      go_wp2_with fail
      refine (lknown6_calls _).mono ?_
      rintro e w4 ⟨rfl, hb4⟩
      have T := hide (T0.out.trans ((DS6.bel (h1.out.below hb4)).mono T0.out.size))
      clear hb4
      go_wp2_with fail
      go_ret
      exact ⟨rfl, T.out⟩
    · obtain ⟨D1, Df, D2, D3, D4, g, D5, D6, D7, t, e1, ef, e2, r2, e3, e4, e5, e6, e7, r7, r7b, hg, rz, HW⟩ := lasts6_ok 1 (by omega) (by omega) a b (by omega) (by omega) (kk % 20) mm (by omega)
      rw [show (1 : Int) - 1 = 0 from rfl] at e4 r7b
      have HG := hide hg
      clear hg
      have E4 := hide e4
      have R7 := hide r7
      have R7B := hide r7b
      clear e4 r7 r7b
      go_enter Try.func6, Try.ntmps6
      go_wp2_with fail
      have hw0 : w.heap.size < (w.alloc (.cells #[.string a, .string b, .bool true, .int .u8 kk, .int .u64 mm] 41)).heap.size := by simp
      generalize w.alloc (.cells #[.string a, .string b, .bool true, .int .u8 kk, .int .u64 mm] 41) = w0 at *
      refine (ds6_new 40 (by omega) (by omega) _).mono ?_
      rintro e w1 ⟨q, rfl, h1⟩
      have K1 := K0.below (DS6.bel h1.out) hw0
      have c2 := K1.cell 2
      go_wp2_with fail
      refine (h1.out.quiet (fun G hG => dread_calls hG (by simp [DiskM.new]) 7)).mono ?_
      rintro e w' ⟨rfl, rfl⟩
      rw [new_read7]
      go_wp2_with fail
      refine (h1.out.op (fun G hG => sWrite_calls hG (by simp [DiskM.new]) 1 a)).mono ?_
      rintro e w2 ⟨rfl, h2⟩
      rw [e1] at h2 ⊢
      clear h1 K1 c2
      go_wp2_with fail
      refine (h2.out.op (fun G hG => dfail_calls hG mm (by rw [HW.out.1]; omega))).mono ?_
      rintro e w3 ⟨rfl, h3⟩
      rw [ef] at h3
      clear h2
      go_wp2_with fail
      refine (h3.out.op (fun G hG => dstart_calls hG)).mono ?_
      rintro e w4 ⟨rfl, h4⟩
      rw [e2] at h4
      clear h3
      go_wp2_with fail
      obtain ⟨G4, hG4⟩ := h4.out.at_
      refine (sRead_calls hG4 HW.out.2.2.2.2.2.2.2.1 (by rw [HW.out.2.1]; omega) 1 a.size).mono ?_
      rintro e w5 ⟨rfl, hb5⟩
      rw [r2]
      have h5 := hide (h4.out.below hb5)
      clear hb5 h4 hG4 G4
      have K5 := K0.below (DS6.bel h5.out) hw0
      have c3 := K5.cell 3
      go_wp2_with fail
      refine (h5.out.op (fun G hG => dplan_calls hG (kk % 20) mm)).mono ?_
      rintro e w6 ⟨rfl, h6⟩
      rw [e3] at h6
      clear h5 K5 c3
      go_wp2_with fail
      refine (h6.out.op (fun G hG => sWrite_calls hG (by rw [HW.out.2.2.1]; omega) 0 b)).mono ?_
      rintro e w7 ⟨rfl, h7⟩
      rw [E4.out] at h7 ⊢
      clear h6
      go_wp2_with fail
      refine (h7.out.op (fun G hG => dplan_calls hG 1099511627776 0)).mono ?_
      rintro e w8 ⟨rfl, h8⟩
      rw [e5] at h8
      clear h7
      go_wp2_with fail
      refine (h8.out.op (fun G hG => dfail_calls hG 0 (by rw [HW.out.2.2.2.2.1]; omega))).mono ?_
      rintro e w9 ⟨rfl, h9⟩
      rw [e6] at h9
      clear h8
      go_wp2_with fail
      refine (h9.out.op (fun G hG => dstart_calls hG)).mono ?_
      rintro e w10 ⟨rfl, h10⟩
      rw [e7] at h10
      clear h9
      go_wp2_with fail
      obtain ⟨G4, hG4⟩ := h10.out.at_
      refine (sRead_calls hG4 HW.out.2.2.2.2.2.2.2.2 (by rw [HW.out.2.2.2.2.2.2.1]; omega) 1 a.size).mono ?_
      rintro e w11 ⟨rfl, hb11⟩
      rw [R7.out]
      have h11 := hide (h10.out.below hb11)
      clear hb11 h10 hG4 G4
      go_wp2_with fail
      obtain ⟨G4, hG4⟩ := h11.out.at_
      refine (sRead_calls hG4 HW.out.2.2.2.2.2.2.2.2 (by rw [HW.out.2.2.2.2.2.2.1]; omega) 0 b.size).mono ?_
      rintro e w12 ⟨rfl, hb12⟩
      rw [R7B.out]
      have h12 := hide (h11.out.below hb12)
      clear hb12 h11 hG4 G4
      go_wp2_with fail
      refine (h12.out.quiet (fun G hG => dread_calls hG (by rw [HW.out.2.2.2.2.2.2.1]; omega) 7)).mono ?_
      rintro e w' ⟨rfl, rfl⟩
      rw [rz]
      rcases HG.out with ⟨hg0, ht⟩ | hg7
      · subst hg0
        subst ht
        go_wp2_with fail
        refine (lknown6_calls _).mono ?_
        rintro e w13 ⟨rfl, hb13⟩
        have T := hide (T0.out.trans ((DS6.bel (h12.out.below hb13)).mono T0.out.size))
        clear hb13
        go_wp2_with fail
        go_ret
        exact ⟨rfl, T.out⟩
      · subst hg7
        go_wp2_with fail
        refine (lknown6_calls _).mono ?_
        rintro e w13 ⟨rfl, hb13⟩
        have T := hide (T0.out.trans ((DS6.bel (h12.out.below hb13)).mono T0.out.size))
        clear hb13
        go_wp2_with fail
        go_ret
        exact ⟨rfl, T.out⟩

theorem SlotsLasts_walk (a b : ByteArray) (c : Bool) (kk mm : Int) (w : World) (ha : a.size ≤ maxLen) (hb : b.size ≤ maxLen) (h0 : (Lit.int .u8 kk).wf = true) (h1 : (Lit.int .u64 mm).wf = true) : Calls Try.prog 6 #[.agg #[.string a, .string b, .bool c, .int .u8 kk, .int .u64 mm]] w fun e w' => e = .returned (.bool true) ∧ Below w.heap.size w w' := by
  cases c
  · exact SlotsLasts_w0 a b kk mm w ha hb h0 h1
  · exact SlotsLasts_w1 a b kk mm w ha hb h0 h1
end Go.Proofs.Ytpcceinjifdgnaa
