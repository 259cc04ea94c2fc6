/- Chapter 1: the document's Unhex. -/
import Derived.Test.YtaiedfimdjdoaaaOctF
namespace Go.Proofs.Ytaiedfimdjdoaaa
open Go.RowKit Zb

def valI (b : UInt8) : Int := match halfO b with
  | some d => d
  | none => -1
theorem rovalue_calls (b : UInt8) (w : World) : Calls Try.prog 25 #[.int .u8 (b.toNat : Int)] w fun e w' => e = .returned (.int .i64 (valI b)) ∧ w = w' := by
  have hb := b.toNat_lt
  unfold valI halfO
  by_cases h1 : 48 ≤ b.toNat ∧ b.toNat ≤ 57
  · rw [if_pos h1]
    obtain ⟨h1, h2⟩ := h1
    have e : ((b.toNat - 48 : Nat) : Int) = (b.toNat : Int) - 48 := by omega
    simp only [e]
    clear e
    go_enter Try.func25, Try.ntmps25
    go_wp2_with fail
    go_ret
    exact ⟨rfl, rfl⟩
  · rw [if_neg h1]
    by_cases h2 : 97 ≤ b.toNat ∧ b.toNat ≤ 102
    · rw [if_pos h2]
      obtain ⟨h3, h4⟩ := h2
      have h5 : ¬ (b.toNat ≤ 57) := by omega
      have e : ((b.toNat - 87 : Nat) : Int) = (b.toNat : Int) - 97 + 10 := by omega
      simp only [e]
      clear e h1
      go_enter Try.func25, Try.ntmps25
      go_wp2_with fail
      go_ret
      exact ⟨rfl, rfl⟩
    · rw [if_neg h2]
      by_cases h3 : 48 ≤ b.toNat
      · have h5 : ¬ (b.toNat ≤ 57) := by omega
        by_cases h4 : 97 ≤ b.toNat
        · have h6 : ¬ (b.toNat ≤ 102) := by omega
          clear h1 h2
          go_enter Try.func25, Try.ntmps25
          go_wp2_with fail
          go_ret
          exact ⟨rfl, rfl⟩
        · clear h1 h2
          go_enter Try.func25, Try.ntmps25
          go_wp2_with fail
          go_ret
          exact ⟨rfl, rfl⟩
      · have h4 : ¬ (97 ≤ b.toNat) := by omega
        clear h1 h2
        go_enter Try.func25, Try.ntmps25
        go_wp2_with fail
        go_ret
        exact ⟨rfl, rfl⟩
theorem rovalue_half {b : UInt8} {d : Nat} (h : halfO b = some d) (w : World) : Calls Try.prog 25 #[.int .u8 (b.toNat : Int)] w fun e w' => e = .returned (.int .i64 (d : Int)) ∧ w = w' := by
  have := rovalue_calls b w
  rw [valI, h] at this
  exact this
theorem rovalue_none {b : UInt8} (h : halfO b = none) (w : World) : Calls Try.prog 25 #[.int .u8 (b.toNat : Int)] w fun e w' => e = .returned (.int .i64 (-1)) ∧ w = w' := by
  have := rovalue_calls b w
  rw [valI, h] at this
  exact this
theorem half_all {s : ByteArray} (h : allHalf s.data.toList = true) (k : Nat) (hk : k < s.size) : ∃ d, halfO s[k] = some d := by
  have hl : k < s.data.toList.length := hk
  have hm : s[k] ∈ s.data.toList := List.getElem_mem hl
  have := (List.all_eq_true.1 h) _ hm
  exact Option.isSome_iff_exists.1 this
theorem comb_val {a b : Nat} {bb : UInt8} (ha : a < 16) (hb : b < 16) (h : UInt8.ofNat (16 * a + b) = bb) : #[Value.int .u8 (IntKind.u8.wrap (IntKind.i64.wrap (IntKind.i64.wrap (16 * (a : Int)) + (b : Int))))].toList = bytesVals [bb] := by
  have h : ∀ a, a < 16 → ∀ b, b < 16 → IntKind.u8.wrap (IntKind.i64.wrap (IntKind.i64.wrap (16 * ((a : Nat) : Int)) + ((b : Nat) : Int))) = ((UInt8.ofNat (16 * a + b)).toNat : Int) := by decide +kernel
  subst bb
  simp only [bytesVals, List.map_cons, List.map_nil, h a ha b hb]
theorem pairs_two (s : ByteArray) (k : Nat) (h : k + 1 < s.size) (he : k % 2 = 0) : pairs (s.data.toList.take (k + 2)) = pairs (s.data.toList.take k) ++ [UInt8.ofNat (16 * hv s[k] + hv s[k + 1])] := by
  have h1 : (s.data.toList.take k).length = k := by
    have : s.data.toList.length = s.size := rfl
    simp; omega
  rw [take_snoc s (k + 1) h, take_snoc s k (by omega), List.append_assoc, List.singleton_append, pairs_snoc2 _ _ _ (by omega)]

set_option maxRecDepth 100000 in
set_option maxHeartbeats 1000000 in
theorem roUnhex_calls (s : ByteArray) (hs : s.size ≤ 100000000000) (w : World) : Calls Try.prog 17 #[.string s] w (UnhexPost s w) := by
  have HB0 := hide (Buf.nil (Below.refl w.heap.size w))
  have hsI : (s.size : Int) ≤ 100000000000 := by omega
  have HS := hide hs; clear hs
  go_enter Try.func17, Try.ntmps17
  go_wp2_with fail
  go_loop [5] (fun i => ∃ k : Nat, k ≤ s.size ∧ i = .int .i64 k ∧ Hid (allHalf (s.data.toList.take k) = true)) (fun i => s.size - (intOf i).toNat)
  case atStart => exact ⟨0, Nat.zero_le _, rfl, hide rfl⟩
  case round =>
  obtain ⟨k, hk, rfl, hall⟩ := hrel
  by_cases hlt : k < s.size
  · cases ho : halfO s[k] with
    | none =>
      have HO := hide ho; clear ho
      go_wp2_with fail
      refine (rovalue_none HO.out _).mono ?_
      rintro e w' ⟨rfl, rfl⟩
      go_wp2_with fail
      go_ret2
      have hno := unhex_no hlt HO.out
      refine ⟨?_, Below.refl _ _⟩
      rw [unhexB, unhexE, hno]
      rfl
    | some d =>
      have HL := hide (allHalf_snoc (s.data.toList.take k) s[k])
      have HT := hide (take_snoc s k hlt)
      have HO := hide ho; clear ho
      go_wp2_with fail
      refine (rovalue_half HO.out _).mono ?_
      rintro e w' ⟨rfl, rfl⟩
      go_wp2_with fail
      go_round
      case rel => exact ⟨k + 1, by omega, by go_num, hide (by rw [HT.out, HL.out, hall.out, HO.out]; rfl)⟩
      case measure => simp [intOf]; omega
  · obtain rfl : k = s.size := by omega
    have htk : s.data.toList.take s.size = s.data.toList := List.take_of_length_le (Nat.le_refl _)
    rw [htk] at hall
    have hll : s.data.toList.length = s.size := rfl
    have HLL := hide hll
    clear htk hll
    by_cases hpar : s.size % 2 = 1
    · have HE : Hid (unhexOk s.data.toList = false) := hide (by unfold unhexOk; rw [HLL.out]; simp; omega)
      go_wp2_with fail
      go_ret2
      refine ⟨?_, Below.refl _ _⟩
      rw [unhexB, unhexE, HE.out]
      rfl
    · have HE : Hid (unhexOk s.data.toList = true) := hide (by unfold unhexOk; rw [HLL.out, hall.out]; simp; omega)
      go_wp2_with fail
      go_loopw [4, 6] (fun v i wr => ∃ k : Nat, k ≤ s.size ∧ k % 2 = 0 ∧ i = .int .i64 k ∧ Hid (Buf w wr v (pairs (s.data.toList.take k)))) (fun _ i _ => s.size - (intOf i).toNat)
      case atStart => exact ⟨0, Nat.zero_le _, rfl, rfl, HB0⟩
      case round =>
      obtain ⟨k, hk, he, rfl, hinv⟩ := hrel
      by_cases hlt : k < s.size
      · have hlt1 : k + 1 < s.size := by omega
        obtain ⟨d1, ho1⟩ := half_all hall.out k hlt
        obtain ⟨d2, ho2⟩ := half_all hall.out (k + 1) hlt1
        have hd1 : d1 < 16 := by have := hv_lt s[k]; rw [hv, ho1] at this; exact this
        have hd2 : d2 < 16 := by have := hv_lt s[k + 1]; rw [hv, ho2] at this; exact this
        have hpt := pairs_two s k hlt1 he
        rw [show hv s[k] = d1 by rw [hv, ho1]; rfl, show hv s[k + 1] = d2 by rw [hv, ho2]; rfl] at hpt
        obtain ⟨bb, HBB⟩ : ∃ bb, Hid (UInt8.ofNat (16 * d1 + d2) = bb) := ⟨_, hide rfl⟩
        rw [HBB.out] at hpt
        have HPT := hide hpt
        have HP := hide (pairs_length (s.data.toList.take k))
        have HO1 := hide ho1
        have HO2 := hide ho2
        have y0 : (k : Int) < (s.size : Int) := by omega
        have y1 : IntKind.i64.wrap ((k : Int) + 1) = (k : Int) + 1 := IntWalk.i64_in _ (by omega)
        have y2 : (0 : Int) ≤ (k : Int) + 1 := by omega
        have y3 : ((k : Int) + 1).toNat = k + 1 := by omega
        have y4 : (k : Int) + 1 < (s.size : Int) := by omega
        clear ho1 ho2 hpt
        go_wp2_with fail
        refine wp_region_heads [0, 1, 2, 3, 6, 7, 8, 9] 8 (fun _ => True) (by kernel_rfl) rfl (by kernel_rfl) (by kernel_rfl) (fun _ _ d _ _ h => by cases d <;> exact h) trivial ?_
        iterate 8
          refine' Heads.step rfl (by rfl) ?_ ?_
          rotate_left
          · intro w' hSw
            go_simp
            try with_reducible rfl
          simp only [Act.put, List.setIfInBounds_toArray, List.set_cons_zero, List.set_cons_succ]
        refine Heads.done ?_
        refine wpAnyH_ready (rs := [4]) (by kernel_rfl) (by simp) (AllReadyH.cons rfl (fun K hK => ?_) AllReadyH.nil)
        go_simp
        refine (rovalue_half (HO1.out) _).mono ?_
        rintro e w' ⟨rfl, rfl⟩
        refine hK.out _ _ trivial (fun hHeld1 => ?_)
        clear hK K
        refine wpAnyH_more [5] 6 rfl (by kernel_rfl) (by kernel_rfl) (fun _ _ d _ _ h => by cases d <;> exact h) trivial ?_
        iterate 1
          refine' Heads.step rfl (by rfl) ?_ ?_
          rotate_left
          · intro w' hSw
            go_simp
            try with_reducible rfl
          simp only [Act.put, List.setIfInBounds_toArray, List.set_cons_zero, List.set_cons_succ]
        refine Heads.done ?_
        refine wpAnyH_ready (rs := [10]) (by kernel_rfl) (by simp) (AllReadyH.cons rfl (fun K hK => ?_) AllReadyH.nil)
        go_simp
        refine (rovalue_half (HO2.out) _).mono ?_
        rintro e w' ⟨rfl, rfl⟩
        refine hK.out _ _ trivial (fun hHeld2 => ?_)
        clear hK K
        refine wpAnyH_more [11, 12] 3 rfl (by kernel_rfl) (by kernel_rfl) (fun _ _ d _ _ h => by cases d <;> exact h) trivial ?_
        iterate 2
          refine' Heads.step rfl (by rfl) ?_ ?_
          rotate_left
          · intro w' hSw
            go_simp
            try with_reducible rfl
          simp only [Act.put, List.setIfInBounds_toArray, List.set_cons_zero, List.set_cons_succ]
        refine Heads.done ?_
        refine wpAnyH_ready (rs := [13]) (by kernel_rfl) (by simp) (AllReadyH.cons rfl (fun K hK => ?_) AllReadyH.nil)
        go_simp
        refine hK.out _ _ trivial (fun hHeld3 => ?_)
        clear hK K
        refine wpAnyH_ready (rs := [14]) (by kernel_rfl) (by simp) (AllReadyH.cons rfl (fun K hK => ?_) AllReadyH.nil)
        rw [if_pos (by rfl)]
        refine buf_app_op (.tmp 28) (.tmp 41) rfl (hide hinv.out.drew) _ [bb] 1 rfl rfl ?_ ?_ ?_
        · exact comb_val hd1 hd2 HBB.out
        · rw [HP.out, List.length_take]; simp; omega
        intro v' w' hb' _
        refine hK.out _ _ trivial (fun hHeld4 => ?_)
        clear hK K
        refine wpAnyH_ready (rs := [15]) (by kernel_rfl) (by simp) (AllReadyH.cons rfl (fun K hK => ?_) AllReadyH.nil)
        go_simp
        refine hK.out _ _ trivial (fun hHeld5 => ?_)
        clear hK K
        refine wpAnyH_done (by kernel_rfl) ?_ _
        go_wp2_with fail
        go_roundw
        case rel => exact ⟨k + 2, by omega, by omega, by go_num, by rw [HPT.out]; exact hb'⟩
        case measure => simp [intOf]; omega
      · obtain rfl : k = s.size := by omega
        have htk : s.data.toList.take s.size = s.data.toList := List.take_of_length_le (Nat.le_refl _)
        have hcv := hinv.out.conv
        rw [htk] at hcv
        clear htk
        go_wp2_with fail
        go_ret2
        refine ⟨?_, hinv.out.bel⟩
        rw [unhexB, unhexE, HE.out]
        rfl
end Go.Proofs.Ytaiedfimdjdoaaa
