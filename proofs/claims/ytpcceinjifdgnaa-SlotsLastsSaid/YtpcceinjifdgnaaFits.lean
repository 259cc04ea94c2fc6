/- Chapter 6: SlotsFits comes to true. -/
import Derived.Test.YtpcceinjifdgnaaSlotP
import Derived.Test.YtpcceinjifdgnaaSlotK
import Derived.Test.YtpcceinjifdgnaaCount
namespace Go.Proofs.Ytpcceinjifdgnaa
open Go.RowKit Zb

theorem make_bytes (k : Nat) (hk : k ≤ 5000) (W : World) : (Instr.makeSlice 35 (.int .i64 k) (.int .i64 k)).run Try.prog W = .ok (.slice (some ⟨W.heap.size, 0, none⟩) k k) (W.alloc (.cells (madeCells #[.int .u8 0] k) 5)) :=
  make_row (P := Try.prog) 35 5 _ 1 Try.underlying35 info_u8 rfl .i64 .i64 k (by omega) (by omega) W
theorem conv_zeros (k : Nat) (hk : k ≤ 5000) (W : World) : (convert 35 9 (.slice (some ⟨W.heap.size, 0, none⟩) k k)).run Try.prog (W.alloc (.cells (madeCells #[.int .u8 0] k) 5)) = .ok (.string (zeros k)) (W.alloc (.cells (madeCells #[.int .u8 0] k) 5)) := by
  have hr := row_made W 5 (.int .u8 0) k (by unfold maxLen; omega)
  have hc := conv_bytes (P := Try.prog) (W.alloc (.cells (madeCells #[.int .u8 0] k) 5)) 35 9 5 ⟨W.heap.size, 0, none⟩ k (List.replicate k 0) Try.underlying35 Try.underlying5 Try.underlying9 (by
    intro j hj
    rw [add_plain]
    refine (World.ownsRow.cellAt hr j (by simpa using hj)).trans ?_
    simp only [List.length_replicate] at hj
    simp [bytesVals, hj])
  simpa [zeros] using hc
theorem fits_new (n : Nat) (hn : 16 ≤ n) (slot : Int) (h0 : 0 ≤ slot) (h1 : slot < 2) (k : Nat) (hk : k ≤ 5000) (hs : k ≤ (n - 8) / 2 * 64) :
    ∃ D', slotWrite (DiskM.new n) slot (zeros k) = (D', 0) ∧ Full64 D' ∧ D'.waits.length = 0 ∧ D'.ops = cntB k + 1 ∧ slotN D' = (n - 8) / 2 ∧ slotRead D' slot k = (zeros k, 0) := by
  have hz := zeros_size k
  obtain ⟨D', e, he, hw, hl, _, hx⟩ := slotWrite_ok (DiskM.new n) slot (zeros k) h0 h1 (by simp [DiskM.new]; exact hn) (by rw [slotN_new, hz]; exact hs) rfl rfl
  rcases hx with ⟨e0, k1, k2, k3⟩ | ⟨_, h, _⟩
  · subst e0
    have hf := (Full64.new n).slot slot (zeros k)
    rw [he] at hf
    have ho := (k3 rfl).2
    rw [hz] at ho k2
    have hsn := slotN_of hl
    rw [slotN_new] at hsn
    refine ⟨D', he, hf, by rw [hw]; rfl, ?_, hsn, ?_⟩
    · have hc : cntB k ≤ 100 := by unfold cntB; omega
      have := ho (by simp [DiskM.new]) (by simp [DiskM.new]; omega)
      rw [this]
      simp [DiskM.new]
    · have := slotRead_ok D' slot (zeros k) h0 h1 (by rw [hl]; simp [DiskM.new]; exact hn) (by rw [hsn, hz]; exact hs) k1 hw (by rw [hz, slotAt_of hl]; exact k2)
      rw [hz] at this
      exact this
  · cases h

set_option maxRecDepth 100000 in
set_option maxHeartbeats 2000000 in
theorem SlotsFits_w0 (blocks size : Int) (w : World) (h0 : (Lit.int .i64 blocks).wf = true) (h1 : (Lit.int .i64 size).wf = true) : Calls Try.prog 5 #[.int .i64 blocks, .bool false, .int .i64 size] w fun e w' => e = .returned (.bool true) ∧ Below w.heap.size w w' := by
  have hb := hide (bounds_i64 h0)
  have hs := hide (bounds_i64 h1)
  clear h0 h1
  have HC1 := hide (wCount_calls blocks 60 hb.out.1 hb.out.2 (by omega) (by omega))
  have HC2 := hide (wCount_calls size 5000 hs.out.1 hs.out.2 (by omega) (by omega))
  obtain ⟨c, hc, hc60⟩ : ∃ c : Nat, countM blocks 60 = c ∧ c < 60 := ⟨(countM blocks 60).toNat, by unfold countM; omega, by unfold countM; omega⟩
  obtain ⟨k, hk, hk5⟩ : ∃ k : Nat, countM size 5000 = k ∧ k < 5000 := ⟨(countM size 5000).toNat, by unfold countM; omega, by unfold countM; omega⟩
  rw [hc] at HC1
  rw [hk] at HC2
  clear hc hk hb hs
  obtain ⟨n, hn, hn16, hn76⟩ : ∃ n : Nat, (16 : Int) + c = n ∧ 16 ≤ n ∧ n < 76 := ⟨16 + c, by omega, by omega, by omega⟩
  have HM := hide (make_bytes k (by omega))
  have HV := hide (conv_zeros k (by omega))
  go_enter Try.func5, Try.ntmps5
  go_wp2_with fail
  refine (HC1.out _).mono ?_
  rintro e w' ⟨rfl, rfl⟩
  go_wp2_with fail
  clear hn
  refine (ds6_new n hn16 (by omega) w).mono ?_
  rintro e w1 ⟨b, rfl, h1⟩
  go_wp2_with fail
  refine (HC2.out _).mono ?_
  rintro e w' ⟨rfl, rfl⟩
  have hm := HM.out w1
  have hv := HV.out w1
  have h2 := hide (h1.out.below ((Below.refl _ _).alloc (Nat.le_refl _) (.cells (madeCells #[.int .u8 0] k) 5)))
  clear h1
  go_wp2_with fail
  clear hm hv HM HV
  generalize w1.alloc (.cells (madeCells #[.int .u8 0] k) 5) = w2 at *
  have hrm := slotN_new n
  by_cases hfit : (n - 8) / 2 * 64 < k
  · have hsw := slotWrite_full (DiskM.new n) 0 (zeros k) (by omega) (by omega) (by rw [slotN_new, zeros_size]; exact hfit)
    generalize zeros k = z at *
    refine (h2.out.op (fun G hG => sWrite_calls hG (by simp [DiskM.new]) 0 z)).mono ?_
    rintro e w3 ⟨rfl, h3⟩
    rw [hsw] at h3 ⊢
    clear h2
    go_wp2_with fail
    refine (h3.out.quiet (fun G hG => sRoom_calls hG)).mono ?_
    rintro e w' ⟨rfl, rfl⟩
    rw [hrm]
    go_wp2_with fail
    refine (h3.out.quiet (fun G hG => dops_calls hG)).mono ?_
    rintro e w' ⟨rfl, rfl⟩
    have ho : (DiskM.new n).ops = 0 := rfl
    rw [ho]
    go_wp2_with fail
    refine (lknown6_calls _).mono ?_
    rintro e w4 ⟨rfl, hb4⟩
    have T := hide (DS6.bel (h3.out.below hb4))
    clear hb4
    go_wp2_with fail
    go_ret
    exact ⟨rfl, T.out⟩
  · obtain ⟨D', hsw, hf, hw0, ho, hrm', hrd⟩ := fits_new n hn16 0 (by omega) (by omega) k (by omega) (by omega)
    have hf := hide hf
    have hw0 := hide hw0
    have E : ((k : Int) + 63) / 64 + 1 = cntB k + 1 := by unfold cntB; omega
    have hcn : (cntB k : Int) ≤ 100 := by unfold cntB; omega
    generalize zeros k = z at *
    refine (h2.out.op (fun G hG => sWrite_calls hG (by simp [DiskM.new]) 0 z)).mono ?_
    rintro e w3 ⟨rfl, h3⟩
    rw [hsw] at h3 ⊢
    clear h2
    go_wp2_with fail
    refine (h3.out.quiet (fun G hG => sRoom_calls hG)).mono ?_
    rintro e w' ⟨rfl, rfl⟩
    rw [hrm']
    go_wp2_with fail
    obtain ⟨G2, hG2⟩ := h3.out.at_
    refine (sRead_calls hG2 hf.out (by rw [hw0.out]; omega) 0 k).mono ?_
    rintro e w4 ⟨rfl, hb4⟩
    rw [hrd]
    have h4 := hide (h3.out.below hb4)
    clear hb4 h3 hG2
    go_wp2_with fail
    refine (h4.out.quiet (fun G hG => dops_calls hG)).mono ?_
    rintro e w' ⟨rfl, rfl⟩
    rw [ho, ← E]
    go_wp2_with fail
    refine (lknown6_calls _).mono ?_
    rintro e w5 ⟨rfl, hb5⟩
    have T := hide (DS6.bel (h4.out.below hb5))
    clear hb5
    go_wp2_with fail
    go_ret
    exact ⟨rfl, T.out⟩

set_option maxRecDepth 100000 in
set_option maxHeartbeats 2000000 in
theorem SlotsFits_w1 (blocks size : Int) (w : World) (h0 : (Lit.int .i64 blocks).wf = true) (h1 : (Lit.int .i64 size).wf = true) : Calls Try.prog 5 #[.int .i64 blocks, .bool true, .int .i64 size] w fun e w' => e = .returned (.bool true) ∧ Below w.heap.size w w' := by
  have hb := hide (bounds_i64 h0)
  have hs := hide (bounds_i64 h1)
  clear h0 h1
  have HC1 := hide (wCount_calls blocks 60 hb.out.1 hb.out.2 (by omega) (by omega))
  have HC2 := hide (wCount_calls size 5000 hs.out.1 hs.out.2 (by omega) (by omega))
  obtain ⟨c, hc, hc60⟩ : ∃ c : Nat, countM blocks 60 = c ∧ c < 60 := ⟨(countM blocks 60).toNat, by unfold countM; omega, by unfold countM; omega⟩
  obtain ⟨k, hk, hk5⟩ : ∃ k : Nat, countM size 5000 = k ∧ k < 5000 := ⟨(countM size 5000).toNat, by unfold countM; omega, by unfold countM; omega⟩
  rw [hc] at HC1
  rw [hk] at HC2
  clear hc hk hb hs
  obtain ⟨n, hn, hn16, hn76⟩ : ∃ n : Nat, (16 : Int) + c = n ∧ 16 ≤ n ∧ n < 76 := ⟨16 + c, by omega, by omega, by omega⟩
  have HM := hide (make_bytes k (by omega))
  have HV := hide (conv_zeros k (by omega))
  go_enter Try.func5, Try.ntmps5
  go_wp2_with fail
  refine (HC1.out _).mono ?_
  rintro e w' ⟨rfl, rfl⟩
  go_wp2_with fail
  clear hn
  refine (ds6_new n hn16 (by omega) w).mono ?_
  rintro e w1 ⟨b, rfl, h1⟩
  go_wp2_with fail
  refine (HC2.out _).mono ?_
  rintro e w' ⟨rfl, rfl⟩
  have hm := HM.out w1
  have hv := HV.out w1
  have h2 := hide (h1.out.below ((Below.refl _ _).alloc (Nat.le_refl _) (.cells (madeCells #[.int .u8 0] k) 5)))
  clear h1
  go_wp2_with fail
  clear hm hv HM HV
  generalize w1.alloc (.cells (madeCells #[.int .u8 0] k) 5) = w2 at *
  have hrm := slotN_new n
  by_cases hfit : (n - 8) / 2 * 64 < k
  · have hsw := slotWrite_full (DiskM.new n) 1 (zeros k) (by omega) (by omega) (by rw [slotN_new, zeros_size]; exact hfit)
    generalize zeros k = z at *
    refine (h2.out.op (fun G hG => sWrite_calls hG (by simp [DiskM.new]) 1 z)).mono ?_
    rintro e w3 ⟨rfl, h3⟩
    rw [hsw] at h3 ⊢
    clear h2
    go_wp2_with fail
    refine (h3.out.quiet (fun G hG => sRoom_calls hG)).mono ?_
    rintro e w' ⟨rfl, rfl⟩
    rw [hrm]
    go_wp2_with fail
    refine (h3.out.quiet (fun G hG => dops_calls hG)).mono ?_
    rintro e w' ⟨rfl, rfl⟩
    have ho : (DiskM.new n).ops = 0 := rfl
    rw [ho]
    go_wp2_with fail
    refine (lknown6_calls _).mono ?_
    rintro e w4 ⟨rfl, hb4⟩
    have T := hide (DS6.bel (h3.out.below hb4))
    clear hb4
    go_wp2_with fail
    go_ret
    exact ⟨rfl, T.out⟩
  · obtain ⟨D', hsw, hf, hw0, ho, hrm', hrd⟩ := fits_new n hn16 1 (by omega) (by omega) k (by omega) (by omega)
    have hf := hide hf
    have hw0 := hide hw0
    have E : ((k : Int) + 63) / 64 + 1 = cntB k + 1 := by unfold cntB; omega
    have hcn : (cntB k : Int) ≤ 100 := by unfold cntB; omega
    generalize zeros k = z at *
    refine (h2.out.op (fun G hG => sWrite_calls hG (by simp [DiskM.new]) 1 z)).mono ?_
    rintro e w3 ⟨rfl, h3⟩
    rw [hsw] at h3 ⊢
    clear h2
    go_wp2_with fail
    refine (h3.out.quiet (fun G hG => sRoom_calls hG)).mono ?_
    rintro e w' ⟨rfl, rfl⟩
    rw [hrm']
    go_wp2_with fail
    obtain ⟨G2, hG2⟩ := h3.out.at_
    refine (sRead_calls hG2 hf.out (by rw [hw0.out]; omega) 1 k).mono ?_
    rintro e w4 ⟨rfl, hb4⟩
    rw [hrd]
    have h4 := hide (h3.out.below hb4)
    clear hb4 h3 hG2
    go_wp2_with fail
    refine (h4.out.quiet (fun G hG => dops_calls hG)).mono ?_
    rintro e w' ⟨rfl, rfl⟩
    rw [ho, ← E]
    go_wp2_with fail
    refine (lknown6_calls _).mono ?_
    rintro e w5 ⟨rfl, hb5⟩
    have T := hide (DS6.bel (h4.out.below hb5))
    clear hb5
    go_wp2_with fail
    go_ret
    exact ⟨rfl, T.out⟩

theorem SlotsFits_walk (blocks : Int) (slot : Bool) (size : Int) (w : World) (h0 : (Lit.int .i64 blocks).wf = true) (h1 : (Lit.int .i64 size).wf = true) : Calls Try.prog 5 #[.int .i64 blocks, .bool slot, .int .i64 size] w fun e w' => e = .returned (.bool true) ∧ Below w.heap.size w w' := by
  cases slot
  · exact SlotsFits_w0 blocks size w h0 h1
  · exact SlotsFits_w1 blocks size w h0 h1
end Go.Proofs.Ytpcceinjifdgnaa
