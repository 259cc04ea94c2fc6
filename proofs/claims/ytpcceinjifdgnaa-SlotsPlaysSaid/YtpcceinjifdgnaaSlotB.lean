/- Chapter 6: slots.Write. -/
import Derived.Test.YtpcceinjifdgnaaSlotA
import Derived.IntWalk
namespace Go.Proofs.Ytpcceinjifdgnaa
open Go.RowKit Zb

theorem DSt.more {F F' F3 : Nat → Prop} {w wr w2 w3 : World} {b : Nat} {D3 : DiskM} (h : Turned F w wr) (hF : ∀ x, F' x → F x ∨ w.heap.size ≤ x) (hb : Below wr.heap.size wr w2) (h3 : Turned F' w2.drew w3) (hF3 : ∀ x, F3 x → F' x ∨ w2.drew.heap.size ≤ x) (hd : DiskAt w3 b F3 D3) : DSt F w b D3 w3 := by
  have s1 := h.size
  have s2 := hb.size
  refine ⟨((h.then_below hb).drew).trans h3 hF, F3, fun x hx => ?_, hd⟩
  rcases hF3 x hx with h | h
  · exact hF x h
  · have h' : w2.heap.size ≤ x := h
    exact .inr (by omega)
theorem buf_keep {w0 w w' : World} {g n c : Nat} {l : List UInt8} (h : Buf w0 w (.slice (some ⟨g, 0, none⟩) n c) l) (hk : w'.heap[g]? = w.heap[g]?) : (convert 35 9 (.slice (some ⟨g, 0, none⟩) n c)).run Try.prog w' = .ok (.string ⟨l.toArray⟩) w' := by
  have hr : Row w' 5 1 (.slice (some ⟨g, 0, none⟩) n c) l.length (bytesVals l) := row_of h.row fun x hx => by
    have : x = g := by simpa [Value.ownBlock] using hx.symm
    rw [this, hk]
  exact (Buf.conv (w0 := { w' with heap := #[] }) (w := w') ⟨⟨rfl, rfl, rfl, by simp, fun i hi => by simp at hi⟩, hr, fun x _ => by simp⟩)

def SW (F : Nat → Prop) (w : World) (b : Nat) (D : DiskM) (at_ : Nat) (s : ByteArray) (k : Nat) (Dk : DiskM) (wr : World) : Prop :=
  DSt F w b Dk wr ∧ Dk.lasts.length = D.lasts.length ∧ Dk.waits.length ≤ D.waits.length + k ∧ writeLoop D at_ (blocksB s) = writeLoop Dk (at_ + k) ((blocksB s).drop k)

set_option maxRecDepth 100000 in
set_option maxHeartbeats 2000000 in
theorem sWrite_calls {w : World} {b : Nat} {F : Nat → Prop} {D : DiskM} (h : DiskAt w b F D) (hW : D.waits.length ≤ 4294960000) (slot : Int) (s : ByteArray) :
    Calls Try.prog 10 #[.pointer (some ⟨b, 0, none⟩), .int .i64 slot, .string s] w (DPost F w b (.int .i64 (slotWrite D slot s).2) (slotWrite D slot s).1) := by
  have HWR := hide (swrong_calls h slot)
  by_cases hsl : slot < 0 ∨ 2 ≤ slot
  · have E := hide (show slotWrite D slot s = (D, 1) by unfold slotWrite; rw [if_pos hsl])
    have E2 := hide (show swrongM slot = 1 by unfold swrongM; rw [if_pos hsl])
    have HS := hide (DSt.refl h)
    clear hsl h
    go_enter Try.func10, Try.ntmps10
    go_wp2_with fail
    refine HWR.out.mono ?_
    rintro e w' ⟨rfl, rfl⟩
    rw [E2.out]
    go_wp2_with fail
    go_ret
    rw [E.out]
    exact HS.out.post
  · have h0 : 0 ≤ slot := by omega
    have h1 : slot < 2 := by omega
    have E2 := hide (show swrongM slot = 0 by unfold swrongM; rw [if_neg hsl])
    have HR := hide (sRoom_calls h)
    have hlim := slotN_lim h
    by_cases hroom : slotN D * 64 < s.size
    · have E := hide (show slotWrite D slot s = (D, 6) by unfold slotWrite; rw [if_neg hsl, if_pos hroom])
      have HS := hide (DSt.refl h)
      have hroomI : ((slotN D * 64 : Nat) : Int) < (s.size : Int) := by omega
      clear hsl h hroom
      go_enter Try.func10, Try.ntmps10
      go_wp2_with fail
      refine HWR.out.mono ?_
      rintro e w' ⟨rfl, rfl⟩
      rw [E2.out]
      go_wp2_with fail
      refine HR.out.mono ?_
      rintro e w' ⟨rfl, rfl⟩
      generalize ((slotN D * 64 : Nat) : Int) = room at *
      go_wp2_with fail
      go_ret
      rw [E.out]
      exact HS.out.post
    · obtain ⟨at_, hat⟩ : ∃ at_ : Nat, 8 + slot.toNat * slotN D = at_ := ⟨_, rfl⟩
      have E : Hid (slotWrite D slot s = writeLoop D at_ (blocksB s)) := hide (by unfold slotWrite; rw [if_neg hsl, if_neg hroom, hat])
      have hroomI : decide (((slotN D * 64 : Nat) : Int) < (s.size : Int)) = false := by simp only [decide_eq_false_iff_not]; omega
      have hs9 : s.size ≤ 16128 := by omega
      have HI0 : Hid (SW F w b D at_ s 0 D w) := hide ⟨DSt.refl h, rfl, by omega, rfl⟩
      have HC := hide (scount_calls s.size (by omega))
      have hcn : cntB s.size ≤ 252 := by unfold cntB; omega
      have hcs : 64 * cntB s.size ≤ s.size + 63 := by unfold cntB; omega
      have hat9 : at_ ≤ 260 := by
        have : slot.toNat = 0 ∨ slot.toNat = 1 := by omega
        rcases this with e | e <;> rw [e] at hat <;> omega
      have HAT := hide hat
      have hmk2 : ∀ W : World, (Instr.makeSlice 35 (.int .i64 64) (.int .i64 64)).run Try.prog W = .ok (.slice (some ⟨W.heap.size, 0, none⟩) 64 64) (W.alloc (.cells (madeCells #[.int .u8 0] 64) 5)) := fun W => make_row (P := Try.prog) 35 5 _ 1 Try.underlying35 binfo_u8 rfl .i64 .i64 64 (by omega) (by omega) W
      have hD0 := h
      have HD0 := hide hD0
      clear hsl hroom h hD0 hat hlim
      go_enter Try.func10, Try.ntmps10
      go_wp2_with fail
      refine HWR.out.mono ?_
      rintro e w' ⟨rfl, rfl⟩
      rw [E2.out]
      go_wp2_with fail
      refine HR.out.mono ?_
      rintro e w' ⟨rfl, rfl⟩
      generalize hrm : ((slotN D * 64 : Nat) : Int) = room at *
      clear hrm
      go_wp2_with fail
      refine (HC.out _).mono ?_
      rintro e w' ⟨rfl, rfl⟩
      generalize hcnt : cntB s.size = cnt at *
      have HCNT := hide hcnt
      clear hcnt
      go_wp2_with fail
      go_loopw [25] (fun i wr => ∃ (k : Nat) (Dk : DiskM), k ≤ cnt ∧ i = .int .i64 k ∧ Hid (SW F w b D at_ s k Dk wr)) (fun i _ => cnt - (intOf i).toNat)
      case atStart => exact ⟨0, D, Nat.zero_le _, rfl, HI0⟩
      case round =>
      clear HI0
      obtain ⟨k, Dk, hk, rfl, hinv⟩ := hrel
      by_cases hlt : k < cnt
      · have hks : 64 * k < s.size := by omega
        have B0 := hide (Buf.made (Below.refl wr.heap.size wr) 64 (by unfold maxLen; omega))
        have HL := hide (show (List.replicate 64 (0 : UInt8)).length = 64 from List.length_replicate)
        generalize hl0 : List.replicate 64 (0 : UInt8) = l0 at *
        have HL0 := hide hl0
        clear hl0
        have hksI : (64 : Int) * (k : Int) ≤ (s.size : Int) := by omega
        have hksI2 : (k : Int) * 64 ≤ (s.size : Int) := by omega
        go_wp2_with ((with_reducible show wpList _ _ _ (⟨some 34, _, _, _, _, _⟩ :: _) _ _); refine buf_copys rfl (.tmp 29) (.tmp 33) rfl wr.heap.size 64 (l := l0) (hide (by have := B0.out; rw [HL.out]; exact this)) (s.extract (k * 64) s.size) (by rw [HL.out]; rfl) rfl ?_; intro m2 w2 hb2 hg2)
        simp only [Act.put, List.setIfInBounds_toArray, List.set_cons_succ, List.set_cons_zero]
        obtain ⟨hst, hln, hwt, heq⟩ := hinv.out
        have hB : Below wr.heap.size wr w2 := (hb2.out.bel)
        obtain ⟨htu, F', hF', hd'⟩ := hst
        have HB := hide hB
        have HFF := hide hF'
        have HLT : Hid (∀ x, F' x → x < wr.heap.size) := hide fun x hx => hd'.lt x hx
        have HD3 : Hid (DiskAt w2.drew b F' Dk) := hide (hd'.below (hB.trans ⟨rfl, rfl, rfl, Nat.le_refl _, fun _ _ => rfl⟩))
        have HST := hide htu
        have HCV : Hid (∀ w', w'.heap[wr.heap.size]? = w2.heap[wr.heap.size]? → (convert 35 9 (.slice (some ⟨wr.heap.size, 0, none⟩) 64 64)).run Try.prog w' = .ok (.string (blockB s k)) w') := hide fun w' hk' => by
          have h1 := hb2.out
          rw [HL.out] at h1
          have h2 := buf_keep h1 hk'
          rw [← HL0.out, Nat.mul_comm k 64, block_copied] at h2
          exact h2
        have hlt2 : wr.heap.size < w2.heap.size := by
          have := row_lt hb2.out.row wr.heap.size (by simp [Value.ownBlock])
          exact this
        have hW9 : Dk.waits.length ≤ 4294967290 := by omega
        have HLN := hide (show slotN Dk = slotN D by unfold slotN; rw [hln])
        have HEQ := hide heq
        have HWT := hide hwt
        have HLN2 := hide hln
        have hcvv := hlt2
        clear htu hF' hd' hln hwt heq hB hb2 hg2 B0
        obtain ⟨ak, hak⟩ : ∃ ak : Nat, at_ + k = ak := ⟨_, rfl⟩
        have hsum : IntKind.i64.wrap ((at_ : Int) + (k : Int)) = (ak : Int) := by rw [IntWalk.i64_in _ (by omega)]; omega
        have HAK := hide hak
        clear hak
        obtain ⟨g, hg⟩ : ∃ g, wr.heap.size = g := ⟨_, rfl⟩
        rw [hg] at HCV hlt2 HLT
        have HG := hide hg
        rw [hg]
        clear hg
        refine wp_region_heads [0, 1, 2, 4, 6, 7] 4 (fun w' => w'.heap[g]? = w2.heap[g]?) (by kernel_rfl) rfl (by kernel_rfl) (by kernel_rfl) (fun _ _ d _ _ h => by cases d <;> exact h) rfl ?_
        iterate 6
          refine' Heads.step rfl (by rfl) ?_ ?_
          rotate_left
          · intro w' hSw
            have hcvS := HCV.out w' hSw
            go_simp
            try with_reducible rfl
          simp only [Act.put, List.setIfInBounds_toArray, List.set_cons_zero, List.set_cons_succ]
        refine Heads.done ?_
        refine wpAnyH_ready (rs := [3]) (by kernel_rfl) (by simp) (AllReadyH.cons rfl (fun K hK => ?_) AllReadyH.nil)
        go_simp
        refine (sfirst_calls HD3.out slot h0 h1).mono ?_
        rintro e w' ⟨rfl, rfl⟩
        rw [HLN.out, HAT.out]
        refine hK.out _ _ rfl (fun hHeld1 => ?_)
        clear hK K
        refine wpAnyH_more [5] 2 rfl (by kernel_rfl) (by kernel_rfl) (fun _ _ d _ _ h => by cases d <;> exact h) hHeld1 ?_
        iterate 1
          refine' Heads.step rfl (by rfl) ?_ ?_
          rotate_left
          · intro w' hSw
            have hcvS := HCV.out w' hSw
            go_simp
            try with_reducible rfl
          simp only [Act.put, List.setIfInBounds_toArray, List.set_cons_zero, List.set_cons_succ]
        refine Heads.done ?_
        refine wpAnyH_ready (rs := [8]) (by kernel_rfl) (by simp) (AllReadyH.cons rfl (fun K hK => ?_) AllReadyH.nil)
        go_simp
        refine (dwrite_calls HD3.out hW9 (ak : Int) (blockB s k)).mono ?_
        rintro e w3 ⟨rfl, tu3, F3, hF3, hd3⟩
        refine hK.out _ _ (tu3.block g hlt2 (fun hf => Nat.lt_irrefl _ (HLT.out g hf))) (fun hHeld2 => ?_)
        clear hK K
        have D4 := hide (DSt.more HST.out HFF.out HB.out tu3 hF3 hd3)
        clear tu3 hF3 hd3 hcvv
        refine wpAnyH_more [9] 0 rfl (by kernel_rfl) (by kernel_rfl) (fun _ _ d _ _ h => by cases d <;> exact h) hHeld2 ?_
        iterate 1
          refine' Heads.step rfl (by rfl) ?_ ?_
          rotate_left
          · intro w' hSw
            have hcvS := HCV.out w' hSw
            go_simp
            try with_reducible rfl
          simp only [Act.put, List.setIfInBounds_toArray, List.set_cons_zero, List.set_cons_succ]
        refine Heads.done ?_
        refine wpAnyH_done (by kernel_rfl) ?_ _
        have hstep := writeLoop_step Dk (at_ + k) s k (by rw [HCNT.out]; exact hlt)
        rw [HAK.out] at hstep
        have HSTEP := hide hstep
        have HWL := hide (write_len (D := Dk) (ak : Int) (blockB s k))
        have HWG := hide (write_grows (D := Dk) (ak : Int) (blockB s k))
        clear hstep hsum
        generalize hDn : Dk.write (ak : Int) (blockB s k) = R at *
        obtain ⟨D', v'⟩ := R
        clear hDn
        by_cases hv : v' = 0
        · subst hv
          have hs : Hid (SW F w b D at_ s (k + 1) D' w3) := hide ⟨D4.out, by rw [HWL.out, HLN2.out], by have := HWG.out; have := HWT.out; simp only at *; omega, by rw [HEQ.out, HAK.out, HSTEP.out, if_pos rfl, ← HAK.out]; rfl⟩
          go_wp2_with fail
          go_roundw
          case rel => exact ⟨k + 1, D', by omega, by go_num, hs⟩
          case measure => simp [intOf]; omega
        · have hvb : (v' != 0) = true := by simp [hv]
          have E9 : Hid (writeLoop D at_ (blocksB s) = (D', v')) := hide (by rw [HEQ.out, HAK.out, HSTEP.out, if_neg hv])
          clear hv
          go_wp2_with fail
          go_ret
          rw [E.out, E9.out]
          exact D4.out.post
      · obtain rfl : k = cnt := by omega
        obtain ⟨hst, hln, hwt, heq⟩ := hinv.out
        rw [blocksB_end s k (by rw [HCNT.out]; exact Nat.le_refl _)] at heq
        have E9 : Hid (writeLoop D at_ (blocksB s) = Dk.sync) := hide heq
        have HST := hide hst
        have hW9 : Dk.waits.length ≤ 4294967290 := by omega
        clear hst hln hwt heq
        go_wp2_with fail
        refine (HST.out.op (fun G hG => dsync_calls hG hW9)).mono ?_
        rintro e w3 ⟨rfl, D4⟩
        go_wp2_with fail
        go_ret
        rw [E.out, E9.out]
        exact D4.out.post
end Go.Proofs.Ytpcceinjifdgnaa
