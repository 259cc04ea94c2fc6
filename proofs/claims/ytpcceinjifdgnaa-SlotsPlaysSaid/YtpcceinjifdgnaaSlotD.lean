/- Chapter 6: the document's slots. -/
import Derived.Test.YtpcceinjifdgnaaSlotC
import Derived.Test.YtpcceinjifdgnaaRDiskE
namespace Go.Proofs.Ytpcceinjifdgnaa
open Go.RowKit Zb

def RSt (F : Nat → Prop) (w : World) (b : Nat) (D : DiskM) (wr : World) : Prop := Turned F w wr ∧ ∃ F', (∀ x, F' x → F x ∨ w.heap.size ≤ x) ∧ RAt wr b F' D
section
variable {F : Nat → Prop} {w wr w' : World} {b : Nat} {D D' : DiskM}
theorem RSt.refl (h : RAt w b F D) : RSt F w b D w := ⟨.refl _ _, F, fun _ h => .inl h, h⟩
theorem RSt.below (h : RSt F w b D wr) (k : Below wr.heap.size wr w') : RSt F w b D w' := by
  obtain ⟨tu, F', hF, hd⟩ := h
  exact ⟨tu.then_below k, F', hF, hd.below k⟩
theorem RSt.op {f : FuncId} {args : Array Value} {v : Value} (h : RSt F w b D wr) (hc : ∀ G, RAt wr b G D → Calls Try.prog f args wr (RPost G wr b v D')) :
    Calls Try.prog f args wr fun e w' => e = .returned v ∧ Hid (RSt F w b D' w') := by
  obtain ⟨tu, F', hF, hd⟩ := h
  refine (hc F' hd).mono ?_
  rintro e w1 ⟨rfl, tu2, F2, hF2, hd2⟩
  have := tu.size
  refine ⟨rfl, hide ⟨tu.trans tu2 hF, F2, fun x hx => ?_, hd2⟩⟩
  rcases hF2 x hx with h | h
  · exact hF x h
  · exact .inr (by omega)
theorem RSt.more {F' F3 : Nat → Prop} {D3 : DiskM} (h : Turned F w wr) (hF : ∀ x, F' x → F x ∨ w.heap.size ≤ x) (h3 : Turned F' wr w') (hF3 : ∀ x, F3 x → F' x ∨ wr.heap.size ≤ x) (hd : RAt w' b F3 D3) : RSt F w b D3 w' := by
  have s1 := h.size
  refine ⟨h.trans h3 hF, F3, fun x hx => ?_, hd⟩
  rcases hF3 x hx with h | h
  · exact hF x h
  · exact .inr (by omega)
theorem RSt.post {v : Value} (h : RSt F w b D wr) : RPost F w b v D (.returned v) wr := ⟨rfl, h.1, h.2⟩
end
theorem rslotN_lim {w : World} {b : Nat} {F : Nat → Prop} {D : DiskM} (h : RAt w b F D) : 4 ≤ slotN D ∧ slotN D ≤ 252 := by
  have := h.ok.len
  unfold slotN
  omega
theorem rseach_calls {w : World} {b : Nat} {F : Nat → Prop} {D : DiskM} (h : RAt w b F D) : Calls Try.prog 39 #[.pointer (some ⟨b, 0, none⟩)] w fun e w' => e = .returned (.int .i64 (slotN D)) ∧ w = w' := by
  have hl := h.ok.len
  have E : Hid (((D.lasts.length : Int) - 8) / 2 = (slotN D : Int)) := hide (by unfold slotN; omega)
  obtain ⟨lv, wv, h⟩ := h
  obtain ⟨lA, lcap, rfl, _⟩ := row_slice h.hl
  have c0 : w.cell? ⟨b, 0, none⟩ = some (.slice lA D.lasts.length lcap) := h.hb.cell 0
  clear h
  go_enter Try.func39, Try.ntmps39
  go_wp2_with fail
  go_ret
  exact ⟨ret_int9 (by rw [← E.out]), rfl⟩
theorem rsRoom_calls {w : World} {b : Nat} {F : Nat → Prop} {D : DiskM} (h : RAt w b F D) : Calls Try.prog 23 #[.pointer (some ⟨b, 0, none⟩)] w fun e w' => e = .returned (.int .i64 ((slotN D * 64 : Nat) : Int)) ∧ w = w' := by
  have hl := rslotN_lim h
  have E : Hid (64 * (slotN D : Int) = ((slotN D * 64 : Nat) : Int)) := hide (by omega)
  go_enter Try.func23, Try.ntmps23
  go_wp2_with fail
  refine (rseach_calls h).mono ?_
  rintro e w' ⟨rfl, rfl⟩
  go_wp2_with fail
  go_ret
  exact ⟨ret_int9 E.out, rfl⟩

/-- what is left of a text behind k blocks -/
def restB (s : ByteArray) (k : Nat) : ByteArray := s.extract (64 * k) s.size
theorem restB_list (s : ByteArray) (k : Nat) : (restB s k).data.toList = s.data.toList.drop (64 * k) := by
  unfold restB
  simp only [ByteArray.data_extract, Array.toList_extract, List.extract_eq_take_drop]
  exact List.take_of_length_le (by simp)
theorem restB_size (s : ByteArray) (k : Nat) : (restB s k).size = s.size - 64 * k := by
  have h : (restB s k).data.toList.length = (s.data.toList.drop (64 * k)).length := by rw [restB_list]
  rw [List.length_drop] at h
  exact h
theorem bext {a b : ByteArray} (h : a.data.toList = b.data.toList) : a = b := ByteArray.ext (Array.ext' h)
theorem zeros_list (n : Nat) : (zeros n).data.toList = List.replicate n 0 := by simp [zeros]
theorem zeros_size (n : Nat) : (zeros n).size = n := by
  show (Array.replicate n (0 : UInt8)).size = n
  simp
theorem ext_list (s : ByteArray) (a b : Nat) : (s.extract a b).data.toList = (s.data.toList.drop a).take (b - a) := by
  simp only [ByteArray.data_extract, Array.toList_extract, List.extract_eq_take_drop]
theorem block_big (s : ByteArray) (k : Nat) (h : 64 < (restB s k).size) : (restB s k).extract 0 64 = blockB s k ∧ (restB s k).extract 64 (restB s k).size = restB s (k + 1) := by
  refine ⟨bext ?_, bext ?_⟩
  · rw [ext_list, restB_list]
    unfold blockB
    have hl : ((s.data.toList.drop (64 * k)).take 64).length = 64 := by
      have e := restB_list s k
      have : (restB s k).data.toList.length = (restB s k).size := rfl
      rw [List.length_take, ← e, this]
      omega
    simp only [List.drop_zero, Nat.sub_zero, Nat.sub_self, List.append_nil, hl, List.replicate_zero]
  · rw [ext_list, restB_list, restB_list, List.drop_drop, restB_size]
    rw [show 64 * k + 64 = 64 * (k + 1) by omega]
    refine List.take_of_length_le ?_
    rw [List.length_drop]
    have : s.data.toList.length = s.size := rfl
    omega
theorem block_small (s : ByteArray) (k : Nat) (h : (restB s k).size ≤ 64) : restB s k ++ (zeros 64).extract (restB s k).size 64 = blockB s k ∧ ByteArray.empty = restB s (k + 1) := by
  have hl : s.data.toList.length = s.size := rfl
  rw [restB_size] at *
  refine ⟨bext ?_, bext ?_⟩
  · rw [ByteArray.data_append, Array.toList_append, ext_list, restB_list, zeros_list]
    unfold blockB
    have e : (s.data.toList.drop (64 * k)).take 64 = s.data.toList.drop (64 * k) := List.take_of_length_le (by rw [List.length_drop]; omega)
    simp only [e, List.length_drop, hl, List.drop_replicate, List.take_replicate, Nat.min_self]
  · rw [restB_list]
    refine (List.drop_eq_nil_of_le ?_).symm
    omega
def RW (F : Nat → Prop) (w : World) (b : Nat) (D : DiskM) (at_ : Nat) (s : ByteArray) (k : Nat) (Dk : DiskM) (wr : World) : Prop :=
  RSt F w b Dk wr ∧ Dk.lasts.length = D.lasts.length ∧ Dk.waits.length ≤ D.waits.length + k ∧ writeLoop D at_ (blocksB s) = writeLoop Dk (at_ + k) ((blocksB s).drop k)

set_option maxRecDepth 100000 in
set_option maxHeartbeats 2000000 in
theorem rsWrite_calls {w : World} {b : Nat} {F : Nat → Prop} {D : DiskM} (h : RAt w b F D) (hW : D.waits.length ≤ 4294960000) (slot : Int) (s : ByteArray) :
    Calls Try.prog 35 #[.pointer (some ⟨b, 0, none⟩), .int .i64 slot, .string s] w (RPost F w b (.int .i64 (slotWrite D slot s).2) (slotWrite D slot s).1) := by
  by_cases hsl : slot < 0 ∨ 2 ≤ slot
  · have E := hide (show slotWrite D slot s = (D, 1) by unfold slotWrite; rw [if_pos hsl])
    have HS := hide (RSt.refl h)
    clear h
    by_cases hn : slot < 0
    · clear hsl
      go_enter Try.func35, Try.ntmps35
      go_wp2_with fail
      go_ret
      rw [E.out]
      exact HS.out.post
    · have h2 : 1 < slot := by omega
      clear hsl
      go_enter Try.func35, Try.ntmps35
      go_wp2_with fail
      go_ret
      rw [E.out]
      exact HS.out.post
  · have h0 : 0 ≤ slot := by omega
    have h1 : slot < 2 := by omega
    have HR := hide (rsRoom_calls h)
    have HEA := hide (rseach_calls h)
    have hlim := rslotN_lim h
    by_cases hroom : slotN D * 64 < s.size
    · have E := hide (show slotWrite D slot s = (D, 6) by unfold slotWrite; rw [if_neg hsl, if_pos hroom])
      have HS := hide (RSt.refl h)
      have hroomI : ((slotN D * 64 : Nat) : Int) < (s.size : Int) := by omega
      clear hsl h hroom
      go_enter Try.func35, Try.ntmps35
      go_wp2_with fail
      refine HR.out.mono ?_
      rintro e w' ⟨rfl, rfl⟩
      generalize ((slotN D * 64 : Nat) : Int) = room at *
      go_wp2_with fail
      go_ret
      rw [E.out]
      exact HS.out.post
    · obtain ⟨at_, hat⟩ : ∃ at_ : Nat, 8 + slot.toNat * slotN D = at_ := ⟨_, rfl⟩
      have E : Hid (slotWrite D slot s = writeLoop D at_ (blocksB s)) := hide (by unfold slotWrite; rw [if_neg hsl, if_neg hroom, hat])
      have hroomI : decide (((slotN D * 64 : Nat) : Int) < (s.size : Int)) = false := by simp only [decide_eq_false_iff_not]; omega
      have hn1 : decide (slot < 0) = false := by simp only [decide_eq_false_iff_not]; omega
      have hn2 : decide (1 < slot) = false := by simp only [decide_eq_false_iff_not]; omega
      have hs9 : s.size ≤ 16128 := by omega
      have HI0 : Hid (RW F w b D at_ s 0 D w) := hide ⟨RSt.refl h, rfl, by omega, rfl⟩
      have hcn : cntB s.size ≤ 252 := by unfold cntB; omega
      have hat9 : at_ ≤ 260 ∧ (8 : Int) + slot * (slotN D : Int) = (at_ : Int) := by
        have : slot = 0 ∨ slot = 1 := by omega
        rcases this with rfl | rfl <;> simp at hat ⊢ <;> omega
      obtain ⟨hat1, hat2⟩ := hat9
      have HAT2 := hide hat2
      have hp : slot * (slotN D : Int) ≤ 252 ∧ 0 ≤ slot * (slotN D : Int) := by
        have : slot = 0 ∨ slot = 1 := by omega
        rcases this with rfl | rfl <;> simp <;> omega
      obtain ⟨hp1, hp2⟩ := hp
      have HRS0 : Hid (s = restB s 0) := hide (by
        apply bext
        rw [restB_list]
        simp)
      clear hsl hroom h hat hlim hat2
      go_enter Try.func35, Try.ntmps35
      go_wp2_with fail
      refine HR.out.mono ?_
      rintro e w' ⟨rfl, rfl⟩
      generalize hrm : ((slotN D * 64 : Nat) : Int) = room at *
      clear hrm
      go_wp2_with fail
      refine HEA.out.mono ?_
      rintro e w' ⟨rfl, rfl⟩
      go_wp2_with fail
      rw [HAT2.out]
      go_loopw [2, 7] (fun r a wr => ∃ (k : Nat) (Dk : DiskM), k ≤ cntB s.size ∧ a = .int .i64 ((at_ + k : Nat) : Int) ∧ r = .string (restB s k) ∧ Hid (RW F w b D at_ s k Dk wr)) (fun _ a _ => at_ + cntB s.size - (intOf a).toNat)
      case atStart => exact ⟨0, D, Nat.zero_le _, rfl, by rw [← HRS0.out], HI0⟩
      case round =>
      clear HI0
      obtain ⟨k, Dk, hk, rfl, rfl, hinv⟩ := hrel
      obtain ⟨hst, hln, hwt, heq⟩ := hinv.out
      have HST := hide hst
      have HLN := hide hln
      have HWT := hide hwt
      have HEQ := hide heq
      have hW9 : Dk.waits.length ≤ 4294967290 := by omega
      have hrs := restB_size s k
      clear hst hln hwt heq hinv hp1 hp2
      obtain ⟨ak, hak⟩ : ∃ ak : Nat, at_ + k = ak := ⟨_, rfl⟩
      have hak9 : ak ≤ 600 := by omega
      have HAK := hide hak
      have hz64 := zeros_size 64
      by_cases hlt : k < cntB s.size
      · have hpos : 0 < (restB s k).size := by rw [hrs]; unfold cntB at hlt; omega
        have hstep := writeLoop_step Dk (at_ + k) s k hlt
        rw [hak] at hstep
        have HSTEP := hide hstep
        have HWL := hide (write_len (D := Dk) (ak : Int) (blockB s k))
        have HWG := hide (write_grows (D := Dk) (ak : Int) (blockB s k))
        have HWC := hide (fun (G : Nat → Prop) (W : World) (hG : RAt W b G Dk) => rdwrite_calls hG hW9 (ak : Int) (blockB s k))
        have HLT := hide hlt
        clear hstep hk hlt
        generalize hDn : Dk.write (ak : Int) (blockB s k) = RR at *
        obtain ⟨D', v'⟩ := RR
        clear hDn
        by_cases hbig : 64 < (restB s k).size
        · obtain ⟨hb1, hb2⟩ := block_big s k hbig
          have hrsI : (restB s k).size ≤ 16128 := by rw [hrs]; omega
          have HB1 := hide hb1
          have HB2 := hide hb2
          have he64 : ((restB s k).extract 0 64).size = 64 := by
            have h1 := ext_list (restB s k) 0 64
            have h2 : ((restB s k).extract 0 64).data.toList.length = ((restB s k).extract 0 64).size := rfl
            rw [← h2, h1, List.length_take, List.drop_zero]
            have h3 : (restB s k).data.toList.length = (restB s k).size := rfl
            omega
          clear hb1 hb2 hrs hak
          generalize hR : restB s k = R at *
          rw [HAK.out]
          go_wp2_with fail
          refine (rdzero_calls _).mono ?_
          rintro e w2 ⟨rfl, hz2⟩
          have HST2 := hide (HST.out.below hz2)
          clear hz2
          go_wp2_with fail
          rw [HB1.out]
          obtain ⟨htu, G, hG, hr⟩ := HST2.out
          have HTU := hide htu
          have HGG := hide hG
          clear htu hG
          refine (HWC.out G w2 hr).mono ?_
          rintro e w3 ⟨rfl, tu3, F3, hF3, hd3⟩
          have D4 := hide (RSt.more HTU.out HGG.out tu3 hF3 hd3)
          clear tu3 hF3 hd3 hr
          by_cases hv : v' = 0
          · subst hv
            have hs : Hid (RW F w b D at_ s (k + 1) D' w3) := hide ⟨D4.out, by rw [HWL.out, HLN.out], by have := HWG.out; have := HWT.out; simp only at *; omega, by rw [HEQ.out, HAK.out, HSTEP.out, if_pos rfl, ← HAK.out]; rfl⟩
            have HRK := hide HB2.out
            go_wp2_with fail
            go_roundw
            case rel => exact ⟨k + 1, D', by have := HLT.out; omega, by have := HAK.out; rw [← this]; go_num, by rw [HRK.out], hs⟩
            case measure => have := HLT.out; have := HAK.out; simp [intOf]; omega
          · have hvb : (v' != 0) = true := by simp [hv]
            have E9 : Hid (writeLoop D at_ (blocksB s) = (D', v')) := hide (by rw [HEQ.out, HAK.out, HSTEP.out, if_neg hv])
            clear hv
            go_wp2_with fail
            go_ret
            rw [E.out, E9.out]
            exact D4.out.post
        · obtain ⟨hb1, hb2⟩ := block_small s k (by omega)
          have hrsI : (restB s k).size ≤ 64 := by omega
          have HB1 := hide hb1
          have HB2 := hide hb2
          clear hb1 hb2 hrs hak
          generalize hR : restB s k = R at *
          rw [HAK.out]
          go_wp2_with fail
          refine (rdzero_calls _).mono ?_
          rintro e w2 ⟨rfl, hz2⟩
          have HST2 := hide (HST.out.below hz2)
          clear hz2
          go_wp2_with fail
          rw [HB1.out]
          obtain ⟨htu, G, hG, hr⟩ := HST2.out
          have HTU := hide htu
          have HGG := hide hG
          clear htu hG
          refine (HWC.out G w2 hr).mono ?_
          rintro e w3 ⟨rfl, tu3, F3, hF3, hd3⟩
          have D4 := hide (RSt.more HTU.out HGG.out tu3 hF3 hd3)
          clear tu3 hF3 hd3 hr
          by_cases hv : v' = 0
          · subst hv
            have hs : Hid (RW F w b D at_ s (k + 1) D' w3) := hide ⟨D4.out, by rw [HWL.out, HLN.out], by have := HWG.out; have := HWT.out; simp only at *; omega, by rw [HEQ.out, HAK.out, HSTEP.out, if_pos rfl, ← HAK.out]; rfl⟩
            have HRK := hide HB2.out
            go_wp2_with fail
            go_roundw
            case rel => exact ⟨k + 1, D', by have := HLT.out; omega, by have := HAK.out; rw [← this]; go_num, by rw [HRK.out], hs⟩
            case measure => have := HLT.out; have := HAK.out; simp [intOf]; omega
          · have hvb : (v' != 0) = true := by simp [hv]
            have E9 : Hid (writeLoop D at_ (blocksB s) = (D', v')) := hide (by rw [HEQ.out, HAK.out, HSTEP.out, if_neg hv])
            clear hv
            go_wp2_with fail
            go_ret
            rw [E.out, E9.out]
            exact D4.out.post
      · have hrest0 : restB s k = ⟨#[]⟩ := by
          have h0 : (restB s k).size = 0 := by rw [hrs]; unfold cntB at hlt; omega
          apply bext
          have h1 : (restB s k).data.toList.length = (restB s k).size := rfl
          rw [h0] at h1
          exact List.eq_nil_of_length_eq_zero h1
        rw [hrest0]
        have E9 : Hid (writeLoop D at_ (blocksB s) = Dk.sync) := hide (by rw [HEQ.out, blocksB_end s k (by omega)]; rfl)
        clear hrs hrest0
        go_wp2_with fail
        refine (HST.out.op (fun G hG => rdsync_calls hG hW9)).mono ?_
        rintro e w3 ⟨rfl, D4⟩
        go_wp2_with fail
        go_ret
        rw [E.out, E9.out]
        exact D4.out.post
end Go.Proofs.Ytpcceinjifdgnaa
