/- The document's disk: Sync, Cut. -/
import Derived.Test.YtpcceinjifdgnaaRDiskC
namespace Go.Proofs.Ytpcceinjifdgnaa
open Go.RowKit Zb

set_option maxRecDepth 100000 in
set_option maxHeartbeats 2000000 in
theorem rdsync_calls {w : World} {b : Nat} {F : Nat → Prop} {D : DiskM} (h : RAt w b F D) (hW : D.waits.length ≤ 4294967290) :
    Calls Try.prog 44 #[.pointer (some ⟨b, 0, none⟩)] w (RPost F w b (.int .i64 D.sync.2) D.sync.1) := by
  have h00 := h
  obtain ⟨lv, wv, h⟩ := h
  have c2 : w.cell? ⟨b, 2, none⟩ = some (.bool D.off) := h.hb.cell 2
  have hcutF : ∀ x, x = D.cut.1 → x.waits.length ≤ D.waits.length := by
    rintro x rfl
    unfold DiskM.cut
    split
    · exact Nat.le_refl _
    · split
      · exact Nat.le_refl _
      · unfold DiskM.fail
        split
        · exact Nat.le_refl _
        · simp
  cases hoff : D.off
  · have hw0 : D.wrong 0 = 0 := by
      have := h.ok.len
      unfold DiskM.wrong
      rw [hoff, if_neg (by simp), if_neg (by omega)]
    rw [hoff] at c2
    have HW0 := hide hw0
    have HOF := hide hoff
    have HC := hide (rdcut_calls h00 (by omega))
    have HFb := hide h.Fb
    have HCW := hide (hcutF _ rfl)
    clear hw0 hoff h h00 hcutF
    cases hcc : D.cut.2
    · have HCC := hide hcc
      have e : D.sync = ({ D.cut.1 with lasts := settleTo (fun _ => true) 0 D.cut.1.waits D.cut.1.lasts, waits := [] }, 0) := by
        unfold DiskM.sync
        rw [if_neg (by rw [HW0.out]; simp), hcc]
        rfl
      have E := hide e
      clear e
      go_enter Try.func44, Try.ntmps44
      go_wp2_with fail
      refine HC.out.mono ?_
      rintro e w1 ⟨rfl, tu1, F1, hF1, hd1⟩
      rw [hcc]
      clear hcc
      obtain ⟨lv1, wv1, h1⟩ := hd1
      obtain ⟨wA, wcap, rfl, _⟩ := row_slice h1.hw
      have HT1 := hide tu1
      have HF1 := hide hF1
      have HW1 := HCW.out
      clear HC HCC tu1 hF1 HCW
      generalize D.cut.1 = D1 at *
      have hW1 : D1.waits.length ≤ 4294967290 := by omega
      clear HW1 hW
      have HOK := hide h1.ok
      have HREP := hide h1
      have HI0 : Hid (RSet F1 w1 b (.slice wA D1.waits.length wcap) D1 (fun _ => true) 0 w1) := hide ⟨lv1, .refl _ _, h1.hb, h1.hl, h1.hw, fun g hg => .inl (h1.Fl g hg)⟩
      clear h1 c2
      go_wp2_with fail
      go_loopw [3] (fun i wr => ∃ k : Nat, k ≤ D1.waits.length ∧ i = .int .i64 k ∧ Hid (RSet F1 w1 b (.slice wA D1.waits.length wcap) D1 (fun _ => true) k wr)) (fun i _ => D1.waits.length - (intOf i).toNat)
      case atStart => exact ⟨0, Nat.zero_le _, rfl, HI0⟩
      case round =>
      clear HI0
      obtain ⟨k, hk, rfl, hinv⟩ := hrel
      by_cases hlt : k < D1.waits.length
      · obtain ⟨lv2, htu, hb2, hl2, hw2, ho2⟩ := hinv.out
        obtain ⟨g, cc, hsl, _, hg, _, hcells⟩ := row_form hw2 (by omega)
        obtain ⟨rfl, rfl⟩ : wA = some ⟨g, 0, none⟩ ∧ wcap = cc := by simpa using hsl
        obtain ⟨p, hp⟩ : ∃ p, D1.waits[k]? = some p := ⟨_, List.getElem?_eq_getElem hlt⟩
        obtain ⟨i, s⟩ := p
        have hwc2 := wcells_get D1.waits k _ hp
        have y0 : wr.cell? ⟨g, k * 2, none⟩ = some (.int .i64 i) := (hcells _ (by omega)).trans hwc2.1
        have y1 : wr.cell? ⟨g, k * 2 + 1, none⟩ = some (.string s) := (hcells _ (by omega)).trans hwc2.2
        have x0 : wr.cell? ⟨b, 0, none⟩ = some lv2 := hb2.cell 0
        have x1 : wr.cell? ⟨b, 1, none⟩ = some (.slice (some ⟨g, 0, none⟩) D1.waits.length wcap) := hb2.cell 1
        have hin := HOK.out.inr _ (List.mem_of_getElem? hp)
        have hi0 : 0 ≤ i := hin.1
        have hsz : (settleTo (fun _ => true) 0 (D1.waits.take k) D1.lasts).length = D1.lasts.length := settleTo_length _ _ _ _
        have hi1 : i < ((settleTo (fun _ => true) 0 (D1.waits.take k) D1.lasts).length : Nat) := by rw [hsz]; exact hin.2
        have hgb : g ≠ b := fun e => row_blk_ne hw2 hb2 (by decide) (by simp [Value.ownBlock, e])
        have HP := hide hp
        have HB := hide hb2
        have HW := hide hw2
        have HTU := hide htu
        have HG := hide hg
        have HGB := hide hgb
        have HIN := hide hinv
        have hl3 : Row wr 9 1 lv2 (settleTo (fun _ => true) 0 (D1.waits.take k) D1.lasts).length (strs (settleTo (fun _ => true) 0 (D1.waits.take k) D1.lasts)) := by rw [hsz]; exact hl2
        have HL := hide hl3
        have hL9 := HOK.out.len.2
        have HSZ := hide hsz
        clear hp hb2 hl2 hw2 htu ho2 hg hsl hwc2 hcells hin hsz hl3 hgb
        go_wp2_with fail
        refine wp_region_heads [0, 1, 2, 3, 5, 6, 7, 8, 9, 10, 11, 12, 13, 14, 15, 16, 17, 18, 19, 20] 5 (fun w' => w'.cell? ⟨b, 1, none⟩ = some (.slice (some ⟨g, 0, none⟩) D1.waits.length wcap) ∧ w'.cell? ⟨g, k * 2, none⟩ = some (.int .i64 i) ∧ w'.cell? ⟨g, k * 2 + 1, none⟩ = some (.string s)) (by kernel_rfl) rfl (by kernel_rfl) (by kernel_rfl) (fun _ _ d _ _ h => by cases d <;> exact h) ⟨x1, y0, y1⟩ ?_
        iterate 20
          refine' Heads.step rfl (by rfl) ?_ ?_
          rotate_left
          · intro w' hSw
            obtain ⟨s1, s2, s3⟩ := hSw
            go_simp
            try with_reducible rfl
          simp only [Act.put, List.setIfInBounds_toArray, List.set_cons_zero, List.set_cons_succ]
        refine Heads.done ?_
        refine wpAnyH_ready (rs := [4]) (by kernel_rfl) (by simp) (AllReadyH.cons rfl (fun K hK => ?_) AllReadyH.nil)
        go_simp
        refine hK.out _ _ ⟨x1, y0, y1⟩ (fun hHeld1 => ?_)
        clear hK K
        refine wpAnyH_ready (rs := [21]) (by kernel_rfl) (by simp) (AllReadyH.cons rfl (fun K hK => ?_) AllReadyH.nil)
        go_simp
        refine (rdset_calls (w := wr.drew) HL.out i s hi0 hi1 (by rw [HSZ.out]; exact hL9)).mono ?_
        rintro e w2 ⟨v2, rfl, hb2, hr2, ho2⟩
        obtain ⟨A2, c2, rfl, hc2⟩ := row_slice hr2
        have hB2 : Blk w2 b 55 _ := Blk.below (w := wr.drew) HB.out hb2 (Blk.lt HB.out)
        have z0 := hB2.cell 0
        have zf := hB2.frozen 0
        have HB2 := hide hB2
        clear hB2
        refine hK.out _ _ (set_keeps hHeld1 hb2 (Blk.lt HB.out) HG.out) (fun hHeld2 => ?_)
        clear hK K
        refine wpAnyH_more [22, 23] 1 rfl (by kernel_rfl) (by kernel_rfl) (fun _ _ d _ _ h => by cases d <;> exact h) hHeld2 ?_
        iterate 2
          refine' Heads.step rfl (by rfl) ?_ ?_
          rotate_left
          · intro w' hSw
            obtain ⟨s1, s2, s3⟩ := hSw
            go_simp
            try with_reducible rfl
          simp only [Act.put, List.setIfInBounds_toArray]
        refine Heads.done ?_
        refine wpAnyH_ready (rs := [24]) (by kernel_rfl) (by simp) (AllReadyH.cons rfl (fun K hK => ?_) AllReadyH.nil)
        go_simp
        refine hK.out _ _ (set_store hHeld2 HGB.out) (fun hHeld3 => ?_)
        clear hK K
        refine wpAnyH_done (by kernel_rfl) ?_ _
        go_wp2_with fail
        have hs := RSet.step (f := fun _ => true) HREP.out.Fb (HTU.out.drew) HB.out HW.out HP.out rfl hb2 (by rw [← HSZ.out]; exact hr2) ho2
        go_roundw
        case rel => exact ⟨k + 1, by omega, by go_num, hide hs⟩
        case measure => simp [intOf]; omega
      · obtain ⟨lv2, htu, hb2, hl2, hw2, ho2⟩ := hinv.out
        obtain rfl : k = D1.waits.length := by omega
        have x1 : wr.cell? ⟨b, 1, none⟩ = some (.slice wA D1.waits.length wcap) := hb2.cell 1
        have f1 := hb2.frozen 1
        go_wp2_with fail
        go_ret
        rw [List.take_length] at hl2
        have hb3 := hb2.set_ 1 (.slice none 0 0)
        have hne := row_blk_ne hl2 hb2 (by decide)
        have hsz1 := HT1.out.size
        rw [E.out]
        refine ⟨rfl, HT1.out.trans (htu.setCell (.inl HREP.out.Fb) _) (fun x hx => HF1.out x hx), fun x => (F x ∨ w.heap.size ≤ x) ∧ x < wr.heap.size, fun x hx => hx.1, lv2, .slice none 0 0, ?_, ?_, row_nil _ _ _, ⟨HF1.out _ HREP.out.Fb, hb2.lt⟩, fun g hg => ⟨?_, row_lt hl2 g hg⟩, fun g hg => by simp [Value.ownBlock] at hg, fun x hx => by simpa [World.setCell] using hx.2, ⟨by simp only [settleTo_length]; exact HOK.out.len, by simp⟩, HREP.out.msk⟩
        · simpa using hb3
        · simp only [settleTo_length]
          exact row_set hl2 hne _
        · rcases ho2 g hg with h | h
          · exact HF1.out g h
          · exact .inr (by omega)
    · have e : D.sync = (D.cut.1, 7) := by
        unfold DiskM.sync
        rw [if_neg (by rw [HW0.out]; simp), if_pos hcc]
      have E := hide e
      clear e
      go_enter Try.func44, Try.ntmps44
      go_wp2_with fail
      refine HC.out.mono ?_
      rintro e w1 ⟨rfl, tu1, F1, hF1, hd1⟩
      rw [hcc]
      have HT := hide tu1
      have HF1 := hide hF1
      have HD1 := hide hd1
      clear hcc tu1 hF1 hd1
      go_wp2_with fail
      go_ret
      rw [E.out]
      exact ⟨rfl, HT.out, F1, HF1.out, HD1.out⟩
  · have e : D.sync = (D, 7) := by
      have : D.wrong 0 = 7 := by unfold DiskM.wrong; rw [hoff]; rfl
      unfold DiskM.sync
      rw [if_pos (by rw [this]; decide), this]
    have E := hide e
    rw [hoff] at c2
    clear e hoff h
    go_enter Try.func44, Try.ntmps44
    go_wp2_with fail
    go_ret
    rw [E.out]
    exact ⟨rfl, .refl _ _, F, fun x hx => .inl hx, h00⟩

theorem rdplan_calls {w : World} {b : Nat} {F : Nat → Prop} {D : DiskM} (h : RAt w b F D) (k m : Int) (hm : 0 ≤ m ∧ m ≤ 18446744073709551615) :
    Calls Try.prog 37 #[.pointer (some ⟨b, 0, none⟩), .int .i64 k, .int .u64 m] w (RPost F w b (.int .i64 (D.plan k m).2) (D.plan k m).1) := by
  have h0 := h
  obtain ⟨lv, wv, h⟩ := h
  have HM := hide hm
  clear hm
  by_cases hk : k < 0
  · have E := hide (show D.plan k m = (D, 1) by rw [DiskM.plan, if_pos hk])
    clear h
    go_enter Try.func37, Try.ntmps37
    go_wp2_with fail
    go_ret
    rw [E.out]
    exact ⟨rfl, .refl _ _, F, fun x hx => .inl hx, h0⟩
  · have E := hide (show D.plan k m = ({ D with pon := true, after := k, mask := m }, 0) by rw [DiskM.plan, if_neg hk])
    have f4 := h.hb.frozen 4
    have f5 := h.hb.frozen 5
    have f6 := h.hb.frozen 6
    have c4 := h.hb.cell 4
    have c5 := h.hb.cell 5
    have c6 := h.hb.cell 6
    simp only [List.getElem?_toArray, List.getElem?_cons_succ, List.getElem?_cons_zero] at c4 c5 c6
    have h1 := h.put (D' := { D with pon := true }) (i := 4) (u := .bool true) rfl rfl h.msk rfl
    have h2 := h1.put (D' := { D with pon := true, after := k }) (i := 5) (u := .int .i64 k) rfl rfl h.msk rfl
    have h3 := h2.put (D' := { D with pon := true, after := k, mask := m }) (i := 6) (u := .int .u64 m) rfl rfl HM.out rfl
    have H3 := hide h3
    have HFb := hide h.Fb
    clear h1 h2 h3 h
    go_enter Try.func37, Try.ntmps37
    go_wp2_with fail
    go_ret
    rw [E.out]
    exact ⟨rfl, (((Turned.refl F w).setCell (.inl HFb.out) _).setCell (.inl HFb.out) _).setCell (.inl HFb.out) _, F, fun x hx => .inl hx, H3.out.at_⟩
end Go.Proofs.Ytpcceinjifdgnaa
