/- Chapter 2: the document's Of, walked: the whole. -/
import Derived.Test.YtjjpekgkaahpbaaDigS
namespace Go.Proofs.Ytjjpekgkaahpbaa
open Go.RowKit Zb

/-- at the loop over blocks -/
def OfR (w wr : World) (hv kv bv : Value) (b : List UInt8) (k : Nat) : Prop :=
  Below w.heap.size w wr ∧ Wds wr hv (blksW b k) ∧ Wds wr kv kW ∧ BytesAt wr bv b

set_option maxRecDepth 100000 in
set_option maxHeartbeats 16000000 in
theorem rgOf_calls (s : ByteArray) (hlen : s.size ≤ 50000000000) (w : World) : Calls Try.prog 22 #[.string s] w (SumPost w s.data.toList) := by
  have HLEN := hide hlen
  have HB0 := hide (WBuf.lit w (wcs firstW).toArray firstW rfl (by decide))
  obtain ⟨N, hN, hN2⟩ := pad_whole s.data.toList
  obtain ⟨b, hb⟩ : ∃ b, s.data.toList ++ padW s.data.toList.length = b := ⟨_, rfl⟩
  have HDG : Hid (digW s.data.toList = outW (blksW b N)) := hide (by rw [digW_eq, hb, eat_all b N (by rw [← hb]; exact hN)])
  rw [hb] at hN
  have HBL := hide hN
  have hsl : s.data.toList.length = s.size := rfl
  rw [hsl] at hN2 hb
  have HBE := hide hb
  clear hb hN hlen hsl
  go_enter Try.func22, Try.ntmps22
  go_wp2_with fail
  refine (rgconst_calls _).mono ?_
  rintro e w1 ⟨kv, rfl, hk1⟩
  have HK1 := hide hk1
  clear hk1
  go_wp2_with fail
  refine (rgpadded_calls s (by have := HLEN.out; omega) _).mono ?_
  rintro e w2 ⟨bv, rfl, hb2⟩
  have HI0 : Hid (OfR w w2 (.slice (some ⟨w.heap.size, 0, none⟩) 8 8) kv bv b 0) := hide (by
    have s0 := HB0.out.bel.size
    have s1 := HK1.out.bel.size
    refine ⟨(HB0.out.bel.trans (HK1.out.bel.mono s0)).trans (hb2.bel.mono (Nat.le_trans s0 s1)), ((HB0.out.wds (by decide)).below HK1.out.bel).below hb2.bel, (HK1.out.wds (by decide)).below hb2.bel, ?_⟩
    rw [HBE.out] at hb2
    exact BytesAt.bufq hb2)
  clear hb2 HK1 HB0
  obtain ⟨Ab, cb, hbv, hcb⟩ := HI0.out.2.2.2.form
  have hbN := HBL.out
  rw [hbN] at hbv hcb
  have hcbI : (64 : Int) * (N : Int) ≤ (cb : Int) := by omega
  have hNI : (N : Int) ≤ 60000000000 := by have h1 : s.size ≤ 50000000000 := HLEN.out; omega
  subst hbv
  clear hbN
  have hN2I : (N : Int) ≤ (s.size : Int) + 2 := by omega
  clear hN2
  go_wp2_with fail
  go_loopw [3, 6] (fun hv at_ wr => ∃ k : Nat, k ≤ N ∧ at_ = .int .i64 (64 * (k : Int)) ∧ Hid (OfR w wr hv kv (.slice Ab (64 * N) cb) b k)) (fun _ at_ _ => 64 * N - (intOf at_).toNat)
  case atStart => exact ⟨0, Nat.zero_le _, rfl, HI0⟩
  case round =>
  clear HI0
  obtain ⟨k, hk, rfl, hinv⟩ := hrel
  by_cases hlt : k < N
  · have hkI : 64 * (k : Int) < 64 * (N : Int) := by omega
    obtain ⟨gh, ch, hhv, hch, hgh, hhc⟩ := hinv.out.2.1
    obtain ⟨gk, ck, hkv, hck, hgk, hkc⟩ := hinv.out.2.2.1
    have hhl := blksW_length b k
    rw [hhl] at hhv hch hhc
    rw [show kW.length = 64 from rfl] at hkv hck hkc
    subst hhv
    subst hkv
    have h64 : 64 * k + 64 ≤ cb := by omega
    have hbb := hinv.out.2.2.2
    rw [← HBL.out] at hbb
    have HMID := hide (hbb.mid (64 * k) (by rw [HBL.out]; omega))
    have hml : ((b.drop (64 * k)).take 64).length = 64 := by rw [List.length_take, List.length_drop, HBL.out]; omega
    have HML := hide hml
    have HBLK : Hid (blksW b (k + 1) = mixW (blksW b k) ((b.drop (64 * k)).take 64)) := hide rfl
    generalize (b.drop (64 * k)).take 64 = blk at *
    have HINV := hinv
    have HHL := hide hhl
    have HHC := hide hhc
    have HKC := hide hkc
    have hch8 := hch
    have hck64 := hck
    clear hbb hml hinv hhl hhc hkc hch hck
    have e64 : ((64 * k : Nat) : Int) = 64 * (k : Int) := by omega
    have HE64 := hide e64
    clear e64
    go_wp2_with ((with_reducible show wpList _ _ _ (⟨some 28, _, _, _, _, _⟩ :: _) _ _); refine wpList_mid64 rfl _ _ _ rfl rfl (64 * k) (by rw [HE64.out]; rfl) (by rw [HE64.out]; rfl) h64 ?_; intro A2 hA2; have HBA := hide (HMID.out A2 hA2); clear hA2)
    refine (rgwords_calls HBA.out HML.out).mono ?_
    rintro e w3 ⟨wv, rfl, hw3⟩
    obtain ⟨gw, cw, hwv, hcw, hgw, hwc⟩ := hw3.wds (by rw [wordsW_length]; omega)
    rw [wordsW_length] at hwv hwc
    subst hwv
    have HBW : Hid (Below w.heap.size w w3) := hide (HINV.out.1.trans (hw3.bel.mono HINV.out.1.size))
    have HBB := hide (HINV.out.2.2.2.below hw3.bel)
    have HHC3 : Hid (∀ j, j < 8 → w3.cell? ⟨gh, j, none⟩ = some (.int .u32 (at0 (blksW b k) j))) := hide fun j hj => (hw3.bel.cell (p := ⟨gh, j, none⟩) hgh).trans (HHC.out j hj)
    have HKC3 : Hid (∀ j, j < 64 → w3.cell? ⟨gk, j, none⟩ = some (.int .u32 (at0 kW j))) := hide fun j hj => (hw3.bel.cell (p := ⟨gk, j, none⟩) hgk).trans (HKC.out j hj)
    have HWC3 := hide hwc
    have hgh3 : gh < w3.heap.size := Nat.lt_of_lt_of_le hgh hw3.bel.size
    have hgk3 : gk < w3.heap.size := Nat.lt_of_lt_of_le hgk hw3.bel.size
    have HI2 : Hid (Below w3.heap.size w3 w3 ∧ Wds w3 (.slice (some ⟨gh, 0, none⟩) 8 ch) (runW (blksW b k) (wordsW blk 64) 0)) := hide ⟨Below.refl _ _, gh, ch, by show _ = Value.slice _ (blksW b k).length _; rw [HHL.out], by show (blksW b k).length ≤ _; rw [HHL.out]; exact hch8, hgh3, fun j hj => HHC3.out j (by have h1 : (blksW b k).length = 8 := HHL.out; have h2 : j < (blksW b k).length := hj; omega)⟩
    clear hw3 HBA HMID HHC HKC hwc hcw HINV
    go_wp2_with fail
    go_loopw [8, 9] (fun vv i9 wr2 => ∃ i : Nat, i ≤ 64 ∧ i9 = .int .i64 i ∧ Hid (Below w3.heap.size w3 wr2 ∧ Wds wr2 vv (runW (blksW b k) (wordsW blk 64) i))) (fun _ i9 _ => 64 - (intOf i9).toNat)
    case atStart => exact ⟨0, Nat.zero_le _, rfl, HI2⟩
    case round =>
    clear HI2
    obtain ⟨i, hi, rfl, hinv2⟩ := hrel
    by_cases hlt2 : i < 64
    · obtain ⟨gv, cv, hvv, hcv, hgv, hvc⟩ := hinv2.out.2
      have hrl := runW_length (blksW b k) (wordsW blk 64) HHL.out i
      rw [hrl] at hvv hcv hvc
      subst hvv
      have hiI : (i : Int) < 64 := by omega
      have yk : wr.cell? ⟨gk, i, none⟩ = some (.int .u32 (at0 kW i)) := (hinv2.out.1.cell (p := ⟨gk, i, none⟩) hgk3).trans (HKC3.out i hlt2)
      have yw : wr.cell? ⟨gw, i, none⟩ = some (.int .u32 (at0 (wordsW blk 64) i)) := (hinv2.out.1.cell (p := ⟨gw, i, none⟩) hgw).trans (HWC3.out i hlt2)
      have HRUN : Hid (runW (blksW b k) (wordsW blk 64) (i + 1) = stepW (runW (blksW b k) (wordsW blk 64) i) (at0 kW i) (at0 (wordsW blk 64) i)) := hide rfl
      have HE8 : Hid (Eight wr.drew gv _ _ _ _ _ _ _ _) := hide (show Eight wr.drew gv _ _ _ _ _ _ _ _ from eight_of (w := wr) hrl (fun j hj => hvc j (by omega)))
      have HL8 := hide (list8 hrl)
      have HRL := hide hrl
      clear hrl hvc
      generalize at0 kW i = xk at *
      generalize at0 (wordsW blk 64) i = xw at *
      generalize runW (blksW b k) (wordsW blk 64) i = R at *
      go_wp2_with fail
      refine wp_region_heads [0, 1, 2, 3, 4, 5, 6, 7, 8] 2 (fun w' => w'.cell? ⟨gk, i, none⟩ = some (.int .u32 xk) ∧ w'.cell? ⟨gw, i, none⟩ = some (.int .u32 xw)) (by kernel_rfl) rfl (by kernel_rfl) (by kernel_rfl) (fun _ _ d _ _ h => by cases d <;> exact h) ⟨yk, yw⟩ ?_
      iterate 9
        refine' Heads.step rfl (by rfl) ?_ ?_
        rotate_left
        · intro w' hSw
          obtain ⟨z0, z1⟩ := hSw
          go_simp
          try with_reducible rfl
        simp only [Act.put, List.setIfInBounds_toArray, List.set_cons_zero, List.set_cons_succ]
      refine Heads.done ?_
      refine wpAnyH_ready (rs := [9]) (by kernel_rfl) (by simp) (AllReadyH.cons rfl (fun K hK => ?_) AllReadyH.nil)
      go_simp
      refine (rgstep_calls (c := cv) (w := wr.drew) HE8.out xk xw).mono ?_
      rintro e w' ⟨v', rfl, hb'⟩
      refine hK.out _ _ ⟨(hb'.bel.cell (p := ⟨gk, i, none⟩) (lt_of_cell yk)).trans yk, (hb'.bel.cell (p := ⟨gw, i, none⟩) (lt_of_cell yw)).trans yw⟩ (fun hHeld1 => ?_)
      clear hK K
      refine wpAnyH_ready (rs := [10]) (by kernel_rfl) (by simp) (AllReadyH.cons rfl (fun K hK => ?_) AllReadyH.nil)
      go_simp
      refine hK.out _ _ hHeld1 (fun hHeld2 => ?_)
      clear hK K
      refine wpAnyH_done (by kernel_rfl) ?_ _
      have HN : Hid (Below w3.heap.size w3 w' ∧ Wds w' v' (runW (blksW b k) (wordsW blk 64) (i + 1))) := hide (by
        refine ⟨(hinv2.out.1.drew).trans (hb'.bel.mono hinv2.out.1.size), ?_⟩
        rw [HRUN.out, ← HL8.out]
        exact hb'.wds (by simp [stepW]))
      clear hb' hHeld1 hHeld2 yk yw HE8 hinv2
      go_wp2_with fail
      go_roundw
      case rel => exact ⟨i + 1, by omega, by go_num, HN⟩
      case measure => simp [intOf]; omega
    · rw [show ((i : Nat) : Int) = 64 by omega]
      obtain rfl : i = 64 := by omega
      obtain ⟨gv, cv, hvv, hcv, hgv, hvc⟩ := hinv2.out.2
      have hrl := runW_length (blksW b k) (wordsW blk 64) HHL.out 64
      rw [hrl] at hvv hcv hvc
      subst hvv
      have HMIX : Hid (blksW b (k + 1) = sumN (blksW b k) (runW (blksW b k) (wordsW blk 64) 64) 8) := hide (by rw [HBLK.out]; rfl)
      have HBW4 := hide (HBW.out.trans (hinv2.out.1.mono HBW.out.size))
      have HBB4 := hide (HBB.out.below hinv2.out.1)
      have HHC4 : Hid (∀ j, j < 8 → wr.cell? ⟨gh, j, none⟩ = some (.int .u32 (at0 (blksW b k) j))) := hide fun j hj => (hinv2.out.1.cell (p := ⟨gh, j, none⟩) hgh3).trans (HHC3.out j hj)
      have HKW4 : Hid (Wds wr (.slice (some ⟨gk, 0, none⟩) 64 ck) kW) := hide ⟨gk, ck, rfl, hck64, Nat.lt_of_lt_of_le hgk3 hinv2.out.1.size, fun j hj => (hinv2.out.1.cell (p := ⟨gk, j, none⟩) hgk3).trans (HKC3.out j hj)⟩
      have HVC4 := hide hvc
      have hgh4 : gh < wr.heap.size := Nat.lt_of_lt_of_le hgh3 hinv2.out.1.size
      clear hvc hrl HHC3 HKC3 HWC3 HBW HBB hcv
      have HI3 : Hid (WBuf wr wr (.slice none 0 0) (sumN (blksW b k) (runW (blksW b k) (wordsW blk 64) 64) 0)) := hide (WBuf.nil (Below.refl _ _))
      clear hinv2
      generalize runW (blksW b k) (wordsW blk 64) 64 = R at *
      generalize wr = w4 at *
      go_wp2_with fail
      go_loopw [10, 11] (fun nx i9 wr3 => ∃ i : Nat, i ≤ 8 ∧ i9 = .int .i64 i ∧ Hid (WBuf w4 wr3 nx (sumN (blksW b k) R i))) (fun _ i9 _ => 8 - (intOf i9).toNat)
      case atStart => exact ⟨0, Nat.zero_le _, rfl, HI3⟩
      case round =>
      clear HI3
      obtain ⟨i, hi, rfl, hinv3⟩ := hrel
      by_cases hlt3 : i < 8
      · have hiI : (i : Int) < 8 := by omega
        have yh : wr.cell? ⟨gh, i, none⟩ = some (.int .u32 (at0 (blksW b k) i)) := (hinv3.out.bel.cell (p := ⟨gh, i, none⟩) hgh4).trans (HHC4.out i hlt3)
        have yv : wr.cell? ⟨gv, i, none⟩ = some (.int .u32 (at0 R i)) := (hinv3.out.bel.cell (p := ⟨gv, i, none⟩) hgv).trans (HVC4.out i hlt3)
        have HSUM := hide (sumN_succ (blksW b k) R i)
        have HSL := hide (sumN_length (blksW b k) R i)
        have HOLD : Hid (∀ w', Below w4.heap.size w4 w' → w'.cell? ⟨gh, i, none⟩ = some (.int .u32 (at0 (blksW b k) i)) ∧ w'.cell? ⟨gv, i, none⟩ = some (.int .u32 (at0 R i))) := hide fun w' hb' => ⟨(hb'.cell (p := ⟨gh, i, none⟩) hgh4).trans (HHC4.out i hlt3), (hb'.cell (p := ⟨gv, i, none⟩) hgv).trans (HVC4.out i hlt3)⟩
        generalize at0 (blksW b k) i = xh at *
        generalize at0 R i = xv at *
        go_wp2_with fail
        refine wp_region_heads [0, 1, 2, 3, 4, 5, 6, 7, 8, 9] 3 (fun w' => w'.cell? ⟨gh, i, none⟩ = some (.int .u32 xh) ∧ w'.cell? ⟨gv, i, none⟩ = some (.int .u32 xv)) (by kernel_rfl) rfl (by kernel_rfl) (by kernel_rfl) (fun _ _ d _ _ h => by cases d <;> exact h) ⟨yh, yv⟩ ?_
        iterate 10
          refine' Heads.step rfl (by rfl) ?_ ?_
          rotate_left
          · intro w' hSw
            obtain ⟨z0, z1⟩ := hSw
            go_simp
            try with_reducible rfl
          simp only [Act.put, List.setIfInBounds_toArray, List.set_cons_zero, List.set_cons_succ]
        refine Heads.done ?_
        refine wpAnyH_ready (rs := [10]) (by kernel_rfl) (by simp) (AllReadyH.cons rfl (fun K hK => ?_) AllReadyH.nil)
        go_simp
        refine hK.out _ _ ⟨(((Below.refl wr.drew.heap.size wr.drew).alloc (Nat.le_refl _) _).cell (p := ⟨gh, i, none⟩) (lt_of_cell yh)).trans yh, (((Below.refl wr.drew.heap.size wr.drew).alloc (Nat.le_refl _) _).cell (p := ⟨gv, i, none⟩) (lt_of_cell yv)).trans yv⟩ (fun hHeld1 => ?_)
        clear hK K
        refine wpAnyH_ready (rs := [11]) (by kernel_rfl) (by simp) (AllReadyH.cons rfl (fun K hK => ?_) AllReadyH.nil)
        rw [if_pos (by rfl)]
        refine wbuf_app_op (.tmp 49) (.tmp 59) rfl (hide hinv3.out.drew) (addW xh xv) rfl rfl (by rw [HSL.out]; omega) ?_
        intro v' w' hb' hg'
        refine hK.out _ _ (HOLD.out w' hb'.out.bel) (fun hHeld2 => ?_)
        clear hK K
        refine wpAnyH_ready (rs := [12]) (by kernel_rfl) (by simp) (AllReadyH.cons rfl (fun K hK => ?_) AllReadyH.nil)
        go_simp
        refine hK.out _ _ hHeld2 (fun hHeld3 => ?_)
        clear hK K
        refine wpAnyH_done (by kernel_rfl) ?_ _
        have HN : Hid (WBuf w4 w' v' (sumN (blksW b k) R (i + 1))) := hide (by rw [HSUM.out]; exact hb'.out)
        clear hb' hg' hHeld1 hHeld2 yh yv hinv3 HOLD
        go_wp2_with fail
        go_roundw
        case rel => exact ⟨i + 1, by omega, by go_num, HN⟩
        case measure => simp [intOf]; omega
      · rw [show ((i : Nat) : Int) = 8 by omega]
        obtain rfl : i = 8 := by omega
        have HN : Hid (OfR w wr _ (.slice (some ⟨gk, 0, none⟩) 64 ck) (.slice Ab (64 * N) cb) b (k + 1)) := hide
          ⟨HBW4.out.trans (hinv3.out.bel.mono HBW4.out.size), by rw [HMIX.out]; exact hinv3.out.wds (by rw [sumN_length]; omega), HKW4.out.below hinv3.out.bel, HBB4.out.below hinv3.out.bel⟩
        clear HBW4 HBB4 HHC4 HKW4 HVC4 hinv3
        go_wp2_with fail
        go_roundw
        case rel => exact ⟨k + 1, by omega, by go_num, HN⟩
        case measure => simp [intOf]; omega
  · obtain rfl : k = N := by omega
    obtain ⟨gh, ch, hhv, hch, hgh, hhc⟩ := hinv.out.2.1
    have hhl := blksW_length b k
    rw [hhl] at hhv hch hhc
    subst hhv
    have HW := hide hinv.out.1
    have HHC := hide hhc
    clear hhc hinv hlt
    have HI4 : Hid (Buf wr wr (.slice none 0 0) (outN (blksW b k) 0)) := hide (Buf.nil (Below.refl _ _))
    generalize wr = w5 at *
    go_wp2_with fail
    go_loopw [12, 13] (fun ov i9 wr6 => ∃ i : Nat, i ≤ 8 ∧ i9 = .int .i64 i ∧ Hid (Buf w5 wr6 ov (outN (blksW b k) i))) (fun _ i9 _ => 8 - (intOf i9).toNat)
    case atStart => exact ⟨0, Nat.zero_le _, rfl, HI4⟩
    case round =>
    clear HI4
    obtain ⟨i, hi, rfl, hinv⟩ := hrel
    by_cases hlt : i < 8
    · have hiI : (i : Int) < 8 := by omega
      have HOLD : Hid (∀ w', Below w5.heap.size w5 w' → w'.cell? ⟨gh, i, none⟩ = some (.int .u32 (at0 (blksW b k) i))) := hide fun w' hb' => (hb'.cell (p := ⟨gh, i, none⟩) hgh).trans (HHC.out i hlt)
      have HOUT := hide (outN_succ (blksW b k) i)
      have HLN := hide (outN_length (blksW b k) i)
      generalize at0 (blksW b k) i = x at *
      have y0 := HOLD.out _ hinv.out.bel
      have hC0 := byte_of (x / 16777216)
      have hC1 := byte_of (x / 65536)
      have hC2 := byte_of (x / 256)
      have hC3 := byte_of x
      have HO1 : Hid (out1 x = [UInt8.ofNat (x / 16777216 % 256).toNat, UInt8.ofNat (x / 65536 % 256).toNat, UInt8.ofNat (x / 256 % 256).toNat, UInt8.ofNat (x % 256).toNat]) := hide rfl
      generalize UInt8.ofNat (x / 16777216 % 256).toNat = c0 at *
      generalize UInt8.ofNat (x / 65536 % 256).toNat = c1 at *
      generalize UInt8.ofNat (x / 256 % 256).toNat = c2 at *
      generalize UInt8.ofNat (x % 256).toNat = c3 at *
      have HC0 := hide hC0
      have HC1 := hide hC1
      have HC2 := hide hC2
      have HC3 := hide hC3
      clear hC0 hC1 hC2 hC3
      go_wp2_with (at_builtin; first
        | (refine buf_app rfl (.tmp 66) (.tmp 73) rfl hinv #[.int .u8 (x / 16777216 % 256)] [c0] 1 rfl rfl (by rw [← HC0.out]; rfl) (by rw [HLN.out]; simp; omega) ?_; intro v1 w1 hb1 _; have y1 := HOLD.out _ hb1.out.bel; clear y0)
        | (refine buf_app rfl (.tmp 75) (.tmp 82) rfl hb1 #[.int .u8 (x / 65536 % 256)] [c1] 1 rfl rfl (by rw [← HC1.out]; rfl) (by simp [HLN.out]; omega) ?_; intro v2 w2 hb2 _; have y2 := HOLD.out _ hb2.out.bel; clear y1)
        | (refine buf_app rfl (.tmp 84) (.tmp 91) rfl hb2 #[.int .u8 (x / 256 % 256)] [c2] 1 rfl rfl (by rw [← HC2.out]; rfl) (by simp [HLN.out]; omega) ?_; intro v3 w3 hb3 _; have y3 := HOLD.out _ hb3.out.bel; clear y2)
        | (refine buf_app rfl (.tmp 93) (.tmp 99) rfl hb3 #[.int .u8 (x % 256)] [c3] 1 rfl rfl (by rw [← HC3.out]; rfl) (by simp [HLN.out]; omega) ?_; intro v4 w4 hb4 _; clear y3))
      have HN : Hid (Buf w5 w4 v4 (outN (blksW b k) (i + 1))) := hide (by
        rw [HOUT.out, HO1.out]
        have := hb4.out
        simp only [List.append_assoc, List.cons_append, List.nil_append] at this
        exact this)
      clear hb1 hb2 hb3 hb4
      go_roundw
      case rel => exact ⟨i + 1, by omega, by go_num, HN⟩
      case measure => simp [intOf]; omega
    · rw [show ((i : Nat) : Int) = 8 by omega]
      obtain rfl : i = 8 := by omega
      have hcv := hinv.out.conv
      go_wp2_with fail
      go_ret
      refine ⟨?_, HW.out.trans (hinv.out.bel.mono HW.out.size)⟩
      rw [HDG.out]
      rfl
end Go.Proofs.Ytjjpekgkaahpbaa
