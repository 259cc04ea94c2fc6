/- Chapter 6: the document's Read of a slot. -/
import Derived.Test.YtpcceinjifdgnaaSlotD
namespace Go.Proofs.Ytpcceinjifdgnaa
open Go.RowKit Zb

def RR (D : DiskM) (at_ cnt k : Nat) (acc : ByteArray) : Prop := acc.size = 64 * k ∧ readLoop D at_ cnt ⟨#[]⟩ = readLoop D (at_ + k) (cnt - k) acc
def RRPost (D : DiskM) (slot size : Int) (w : World) (e : Ending) (w' : World) : Prop := e = .returned (.tuple #[.string (slotRead D slot size).1, .int .i64 (slotRead D slot size).2]) ∧ w = w'

set_option maxRecDepth 100000 in
set_option maxHeartbeats 2000000 in
theorem rsRead_calls {w : World} {b : Nat} {F : Nat → Prop} {D : DiskM} (h : RAt w b F D) (hf : Full64 D) (hW : D.waits.length ≤ 4294967290) (slot size : Int) :
    Calls Try.prog 36 #[.pointer (some ⟨b, 0, none⟩), .int .i64 slot, .int .i64 size] w (RRPost D slot size w) := by
  by_cases hsl : slot < 0 ∨ 2 ≤ slot
  · have E := hide (show slotRead D slot size = (⟨#[]⟩, 1) by unfold slotRead; rw [if_pos hsl])
    clear h
    by_cases hn : slot < 0
    all_goals
      have h2 : slot < 0 ∨ 1 < slot := by omega
      clear hsl
      first
        | (have h3 : 1 < slot := by omega)
        | skip
      clear h2
      go_enter Try.func36, Try.ntmps36
      go_wp2_with fail
      go_ret2
      unfold RRPost
      rw [E.out]
      exact ⟨rfl, rfl⟩
  · have h0 : 0 ≤ slot := by omega
    have h1 : slot < 2 := by omega
    have hn1 : decide (slot < 0) = false := by simp only [decide_eq_false_iff_not]; omega
    have hn2 : decide (1 < slot) = false := by simp only [decide_eq_false_iff_not]; omega
    have HR := hide (rsRoom_calls h)
    have HEA := hide (rseach_calls h)
    have hlim := rslotN_lim h
    by_cases hneg : size < 0
    · have E := hide (show slotRead D slot size = (⟨#[]⟩, 1) by unfold slotRead; rw [if_neg hsl, if_pos (.inl hneg)])
      clear hsl h
      go_enter Try.func36, Try.ntmps36
      go_wp2_with fail
      go_ret2
      unfold RRPost
      rw [E.out]
      exact ⟨rfl, rfl⟩
    · obtain ⟨n, rfl⟩ : ∃ n : Nat, size = n := ⟨size.toNat, by omega⟩
      by_cases hroom : slotN D * 64 < n
      · have E := hide (show slotRead D slot n = (⟨#[]⟩, 1) by unfold slotRead; rw [if_neg hsl, if_pos (.inr (by simpa using hroom))])
        have hroomI : ((slotN D * 64 : Nat) : Int) < (n : Int) := by omega
        clear hsl h hroom hneg
        go_enter Try.func36, Try.ntmps36
        go_wp2_with fail
        refine HR.out.mono ?_
        rintro e w' ⟨rfl, rfl⟩
        generalize ((slotN D * 64 : Nat) : Int) = room at *
        go_wp2_with fail
        go_ret2
        unfold RRPost
        rw [E.out]
        exact ⟨rfl, rfl⟩
      · obtain ⟨at_, hat⟩ : ∃ at_ : Nat, 8 + slot.toNat * slotN D = at_ := ⟨_, rfl⟩
        have hroomI : decide (((slotN D * 64 : Nat) : Int) < (n : Int)) = false := by simp only [decide_eq_false_iff_not]; omega
        have hnI : decide ((n : Int) < 0) = false := by simp only [decide_eq_false_iff_not]; omega
        have hn9 : n ≤ 16128 := by omega
        obtain ⟨cnt, hcnt⟩ : ∃ cnt, cntB n = cnt := ⟨_, rfl⟩
        have hcn : cnt ≤ 252 := by rw [← hcnt]; unfold cntB; omega
        have hcs : 64 * cnt ≤ n + 63 := by rw [← hcnt]; unfold cntB; omega
        have hcs2 : n ≤ 64 * cnt := by rw [← hcnt]; unfold cntB; omega
        have E : Hid (slotRead D slot n = if (readLoop D at_ cnt ⟨#[]⟩).2 = 0 then ((readLoop D at_ cnt ⟨#[]⟩).1.extract 0 n, 0) else (⟨#[]⟩, (readLoop D at_ cnt ⟨#[]⟩).2)) := hide (by
          unfold slotRead
          rw [if_neg hsl, if_neg (by simp; omega), hat, show (n : Int).toNat = n from rfl, hcnt])
        have hat9 : at_ ≤ 260 ∧ (8 : Int) + slot * (slotN D : Int) = (at_ : Int) := by
          have : slot = 0 ∨ slot = 1 := by omega
          rcases this with rfl | rfl <;> simp at hat ⊢ <;> omega
        obtain ⟨hat1, hat2⟩ := hat9
        have hp : slot * (slotN D : Int) ≤ 252 ∧ 0 ≤ slot * (slotN D : Int) := by
          have : slot = 0 ∨ slot = 1 := by omega
          rcases this with rfl | rfl <;> simp <;> omega
        obtain ⟨hp1, hp2⟩ := hp
        have HAT2 := hide hat2
        have HD0 := hide h
        have HFU := hide hf
        clear hsl hroom h hat hlim hf hcnt hneg hat2
        go_enter Try.func36, Try.ntmps36
        go_wp2_with fail
        refine HR.out.mono ?_
        rintro e w' ⟨rfl, rfl⟩
        generalize hrm : ((slotN D * 64 : Nat) : Int) = room at *
        clear hrm
        go_wp2_with fail
        refine HEA.out.mono ?_
        rintro e w' ⟨rfl, rfl⟩
        go_wp2_with fail
        rw [HAT2.out]
        go_loop [8, 9] (fun s a => ∃ (k : Nat) (acc : ByteArray), k ≤ cnt ∧ a = .int .i64 ((at_ + k : Nat) : Int) ∧ s = .string acc ∧ Hid (RR D at_ cnt k acc)) (fun _ a => at_ + cnt - (intOf a).toNat)
        case atStart => exact ⟨0, ⟨#[]⟩, Nat.zero_le _, rfl, rfl, hide ⟨rfl, rfl⟩⟩
        case round =>
        obtain ⟨k, acc, hk, rfl, rfl, hinv⟩ := hrel
        obtain ⟨hlen, heq⟩ := hinv.out
        have HEQ := hide heq
        have HLEN := hide hlen
        have hl9 : acc.size ≤ 16128 := by omega
        obtain ⟨ak, hak⟩ : ∃ ak : Nat, at_ + k = ak := ⟨_, rfl⟩
        have hak9 : ak ≤ 600 := by omega
        have HAK := hide hak
        clear hp1 hp2 hinv heq
        by_cases hlt : k < cnt
        · have HRD := hide (rdread_calls HD0.out hW (ak : Int))
          have hstep : readLoop D (at_ + k) (cnt - k) acc = if (D.read ((at_ + k : Nat) : Int)).2 = 0 then readLoop D (at_ + k + 1) (cnt - (k + 1)) (acc ++ (D.read ((at_ + k : Nat) : Int)).1) else (⟨#[]⟩, (D.read ((at_ + k : Nat) : Int)).2) := by
            rw [show cnt - k = (cnt - (k + 1)) + 1 by omega]
            rfl
          have H64 := hide (HFU.out.read (ak : Int))
          rw [hak] at hstep
          have HSTEP := hide hstep
          have hltn : acc.size < n := by omega
          have HLT := hide hlt
          generalize hRd : D.read (ak : Int) = R at *
          obtain ⟨t, v'⟩ := R
          rw [HAK.out]
          clear hlen hstep hak hRd hcs hcs2 hk hlt
          go_wp2_with fail
          refine HRD.out.mono ?_
          rintro e w' ⟨rfl, rfl⟩
          by_cases hv : v' = 0
          · subst hv
            have ht64 : t.size = 64 := H64.out rfl
            have hs : Hid (RR D at_ cnt (k + 1) (acc ++ t)) := hide ⟨by rw [ByteArray.size_append, HLEN.out, ht64]; omega, by
              rw [HEQ.out, HAK.out, HSTEP.out, if_pos rfl, ← HAK.out]
              rfl⟩
            have ht9 : t.size ≤ 64 := by omega
            clear ht64
            go_wp2_with fail
            go_round
            case rel => exact ⟨k + 1, acc ++ t, by have := HLT.out; omega, by rw [← HAK.out]; go_num, rfl, hs⟩
            case measure => have := HLT.out; have := HAK.out; simp [intOf]; omega
          · have hvb : (v' != 0) = true := by simp [hv]
            have E9 : Hid (readLoop D at_ cnt ⟨#[]⟩ = (⟨#[]⟩, v')) := hide (by rw [HEQ.out, HAK.out, HSTEP.out, if_neg hv])
            have HV := hide hv
            clear hv
            go_wp2_with fail
            go_ret2
            unfold RRPost
            rw [E.out, E9.out, if_neg HV.out]
            exact ⟨rfl, rfl⟩
        · obtain rfl : k = cnt := by omega
          have E9 : Hid (readLoop D at_ k ⟨#[]⟩ = (acc, 0)) := hide (by rw [HEQ.out, Nat.sub_self]; rfl)
          have hnl : n ≤ acc.size := by omega
          have hnl2 : (n : Int) ≤ (acc.size : Int) := by omega
          rw [HAK.out]
          clear hlen hak hcs hcs2 hk hlt
          go_wp2_with fail
          go_ret2
          unfold RRPost
          rw [E.out, E9.out, if_pos rfl]
          exact ⟨rfl, rfl⟩
end Go.Proofs.Ytpcceinjifdgnaa
