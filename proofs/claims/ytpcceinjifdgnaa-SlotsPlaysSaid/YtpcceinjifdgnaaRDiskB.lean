/- The document's disk: Fail. -/
import Derived.Test.YtpcceinjifdgnaaRDiskA
namespace Go.Proofs.Ytpcceinjifdgnaa
open Go.RowKit Zb

set_option maxRecDepth 100000 in
set_option maxHeartbeats 2000000 in
theorem rdfail_calls {w : World} {b : Nat} {F : Nat → Prop} {D : DiskM} (h : RAt w b F D) (m : Int) (hm0 : 0 ≤ m) (hm1 : m ≤ 18446744073709551615) (hW : D.waits.length ≤ 4294967296) :
    Calls Try.prog 38 #[.pointer (some ⟨b, 0, none⟩), .int .u64 m] w (RPost F w b (.tuple #[]) (D.fail m)) := by
  obtain ⟨lv, wv, h⟩ := h
  have c2 : w.cell? ⟨b, 2, none⟩ = some (.bool D.off) := h.hb.cell 2
  cases hoff : D.off
  · have HO := hide hoff; clear hoff
    rw [HO.out] at c2
    obtain ⟨wA, wcap, rfl, _⟩ := row_slice h.hw
    have HI0 : Hid (RSet F w b (.slice wA D.waits.length wcap) D (maskBit m) 0 w) := hide ⟨lv, .refl _ _, h.hb, h.hl, h.hw, fun g hg => .inl (h.Fl g hg)⟩
    have HOK := hide h.ok
    have HM := hide (mask_test m hm0 hm1)
    have HREP := hide h
    clear h
    go_enter Try.func38, Try.ntmps38
    go_wp2_with fail
    go_loopw [4] (fun i wr => ∃ k : Nat, k ≤ D.waits.length ∧ i = .int .i64 k ∧ Hid (RSet F w b (.slice wA D.waits.length wcap) D (maskBit m) k wr)) (fun i _ => D.waits.length - (intOf i).toNat)
    case atStart => exact ⟨0, Nat.zero_le _, rfl, HI0⟩
    case round =>
    clear HI0 c2
    obtain ⟨k, hk, rfl, hinv⟩ := hrel
    by_cases hlt : k < D.waits.length
    · obtain ⟨lv2, htu, hb2, hl2, hw2, ho2⟩ := hinv.out
      obtain ⟨g, cc, hsl, _, hg, _, hcells⟩ := row_form hw2 (by omega)
      obtain ⟨rfl, rfl⟩ : wA = some ⟨g, 0, none⟩ ∧ wcap = cc := by simpa using hsl
      obtain ⟨p, hp⟩ : ∃ p, D.waits[k]? = some p := ⟨_, List.getElem?_eq_getElem hlt⟩
      obtain ⟨i, s⟩ := p
      have hwc2 := wcells_get D.waits k _ hp
      have y0 : wr.cell? ⟨g, k * 2, none⟩ = some (.int .i64 i) := (hcells _ (by omega)).trans hwc2.1
      have y1 : wr.cell? ⟨g, k * 2 + 1, none⟩ = some (.string s) := (hcells _ (by omega)).trans hwc2.2
      have x0 : wr.cell? ⟨b, 0, none⟩ = some lv2 := hb2.cell 0
      have x1 : wr.cell? ⟨b, 1, none⟩ = some (.slice (some ⟨g, 0, none⟩) D.waits.length wcap) := hb2.cell 1
      have hin := HOK.out.inr _ (List.mem_of_getElem? hp)
      have hi0 : 0 ≤ i := hin.1
      have hsz : (settleTo (maskBit m) 0 (D.waits.take k) D.lasts).length = D.lasts.length := settleTo_length _ _ _ _
      have hi1 : i < ((settleTo (maskBit m) 0 (D.waits.take k) D.lasts).length : Nat) := by rw [hsz]; exact hin.2
      have hgb : g ≠ b := fun e => row_blk_ne hw2 hb2 (by decide) (by simp [Value.ownBlock, e])
      have HP := hide hp
      have HB := hide hb2
      have HW := hide hw2
      have HTU := hide htu
      have HG := hide hg
      have HGB := hide hgb
      have HIN := hide hinv
      have hl3 : Row wr 9 1 lv2 (settleTo (maskBit m) 0 (D.waits.take k) D.lasts).length (strs (settleTo (maskBit m) 0 (D.waits.take k) D.lasts)) := by rw [hsz]; exact hl2
      have HL := hide hl3
      have hL9 := HOK.out.len.2
      have HSZ := hide hsz
      clear hp hb2 hl2 hw2 htu ho2 hg hsl hwc2 hcells hin hsz hl3 hgb
      have hq0 : 0 ≤ m / 2 ^ (k % 64) := Int.ediv_nonneg hm0 (Int.pow_nonneg (by omega))
      cases hf : maskBit m k
      · have hmt := (HM.out k).trans hf
        have HF := hide hf
        clear hf
        go_wp2_with fail
        go_roundw
        case rel => exact ⟨k + 1, by omega, by go_num, hide (RSet.skip HIN.out.out HP.out HF.out)⟩
        case measure => simp [intOf]; omega
      · have hmt := (HM.out k).trans hf
        have HF := hide hf
        clear hf
        go_wp2_with fail
        refine wp_region_heads [0, 1, 2, 3, 5, 6, 7, 8, 9, 10, 11, 12, 13, 14, 15, 16, 17, 18, 19, 20] 5 (fun w' => w'.cell? ⟨b, 1, none⟩ = some (.slice (some ⟨g, 0, none⟩) D.waits.length wcap) ∧ w'.cell? ⟨g, k * 2, none⟩ = some (.int .i64 i) ∧ w'.cell? ⟨g, k * 2 + 1, none⟩ = some (.string s)) (by kernel_rfl) rfl (by kernel_rfl) (by kernel_rfl) (fun _ _ d _ _ h => by cases d <;> exact h) ⟨x1, y0, y1⟩ ?_
        iterate 20
          refine' Heads.step rfl (by rfl) ?_ ?_
          rotate_left
          · intro w' hSw
            obtain ⟨s1, s2, s3⟩ := hSw
            go_simp
            try with_reducible rfl
          simp only [Act.put, List.setIfInBounds_toArray, List.set_cons_zero, List.set_cons_succ]
        refine Heads.done ?_
        refine wpAnyH_ready (rs := [4]) (by kernel_rfl) (by simp) (AllReadyH.cons rfl (fun K hK => ?_) AllReadyH.nil)
        go_simp
        refine hK.out _ _ ⟨x1, y0, y1⟩ (fun hHeld1 => ?_)
        clear hK K
        refine wpAnyH_ready (rs := [21]) (by kernel_rfl) (by simp) (AllReadyH.cons rfl (fun K hK => ?_) AllReadyH.nil)
        go_simp
        refine (rdset_calls (w := wr.drew) HL.out i s hi0 hi1 (by rw [HSZ.out]; exact hL9)).mono ?_
        rintro e w2 ⟨v2, rfl, hb2, hr2, ho2⟩
        obtain ⟨A2, c2, rfl, hc2⟩ := row_slice hr2
        have hB2 : Blk w2 b 55 _ := Blk.below (w := wr.drew) HB.out hb2 (Blk.lt HB.out)
        have z0 := hB2.cell 0
        have zf := hB2.frozen 0
        have HB2 := hide hB2
        clear hB2
        refine hK.out _ _ (set_keeps hHeld1 hb2 (Blk.lt HB.out) HG.out) (fun hHeld2 => ?_)
        clear hK K
        refine wpAnyH_more [22, 23] 1 rfl (by kernel_rfl) (by kernel_rfl) (fun _ _ d _ _ h => by cases d <;> exact h) hHeld2 ?_
        iterate 2
          refine' Heads.step rfl (by rfl) ?_ ?_
          rotate_left
          · intro w' hSw
            obtain ⟨s1, s2, s3⟩ := hSw
            go_simp
            try with_reducible rfl
          simp only [Act.put, List.setIfInBounds_toArray]
        refine Heads.done ?_
        refine wpAnyH_ready (rs := [24]) (by kernel_rfl) (by simp) (AllReadyH.cons rfl (fun K hK => ?_) AllReadyH.nil)
        go_simp
        refine hK.out _ _ (set_store hHeld2 HGB.out) (fun hHeld3 => ?_)
        clear hK K
        refine wpAnyH_done (by kernel_rfl) ?_ _
        go_wp2_with fail
        have hs := RSet.step (f := maskBit m) HREP.out.Fb (HTU.out.drew) HB.out HW.out HP.out HF.out hb2 (by rw [← HSZ.out]; exact hr2) ho2
        go_roundw
        case rel => exact ⟨k + 1, by omega, by go_num, hide hs⟩
        case measure => simp [intOf]; omega
    · obtain ⟨lv2, htu, hb2, hl2, hw2, ho2⟩ := hinv.out
      obtain rfl : k = D.waits.length := by omega
      have x1 : wr.cell? ⟨b, 1, none⟩ = some (.slice wA D.waits.length wcap) := hb2.cell 1
      have x2 : wr.cell? ⟨b, 2, none⟩ = some (.bool D.off) := hb2.cell 2
      have f1 := hb2.frozen 1
      have f2 := hb2.frozen 2
      go_wp2_with fail
      go_end0
      rw [List.take_length] at hl2
      have e : D.fail m = { D with lasts := settleTo (maskBit m) 0 D.waits D.lasts, waits := [], off := true } := by simp [DiskM.fail, HO.out]
      rw [e]
      have hb3 := (hb2.set_ 1 (.slice none 0 0)).set_ 2 (.bool true)
      have hne := row_blk_ne hl2 hb2 (by decide)
      refine ⟨rfl, (htu.setCell (.inl HREP.out.Fb) _).setCell (.inl HREP.out.Fb) _, fun x => (F x ∨ w.heap.size ≤ x) ∧ x < wr.heap.size, fun x hx => hx.1, lv2, .slice none 0 0, ?_, ?_, row_nil _ _ _, ⟨.inl HREP.out.Fb, hb2.lt⟩, fun g hg => ⟨ho2 g hg, row_lt hl2 g hg⟩, fun g hg => by simp [Value.ownBlock] at hg, fun x hx => by simpa [World.setCell] using hx.2, ⟨by simp only [settleTo_length]; exact HOK.out.len, by simp⟩, HREP.out.msk⟩
      · simpa using hb3
      · simp only [settleTo_length]
        exact row_set (row_set hl2 hne _) hne _
  · have HO := hide hoff; clear hoff
    rw [HO.out] at c2
    go_enter Try.func38, Try.ntmps38
    go_wp2_with fail
    refine bodyPost_ret (results_none rfl _ _ _) rfl ?_
    refine ⟨rfl, .refl _ _, F, fun x hx => .inl hx, ?_⟩
    rw [show D.fail m = D by simp [DiskM.fail, HO.out]]
    exact ⟨_, _, h⟩
end Go.Proofs.Ytpcceinjifdgnaa
