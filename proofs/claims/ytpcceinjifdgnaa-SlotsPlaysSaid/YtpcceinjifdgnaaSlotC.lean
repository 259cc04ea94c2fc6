/- Chapter 6: slots.Read. -/
import Derived.Test.YtpcceinjifdgnaaSlotB
namespace Go.Proofs.Ytpcceinjifdgnaa
open Go.RowKit Zb

theorem Buf.convCut {w0 w : World} {A : Option Addr} {c : Nat} {l : List UInt8} (h : Buf w0 w (.slice A l.length c) l) (m : Nat) (hm : m ≤ l.length) : (convert 35 9 (.slice A m c)).run Try.prog w = .ok (.string ⟨(l.take m).toArray⟩) w := by
  rcases Nat.eq_zero_or_pos m with h0 | h0
  · subst h0
    cases A with
    | none => rw [run_convert_bytes_string w 35 9 5 none 0 c Try.underlying35 Try.underlying5 Try.underlying9]; rfl
    | some a => exact conv_bytes w 35 9 5 a c [] Try.underlying35 Try.underlying5 Try.underlying9 (fun j hj => by simp at hj)
  · obtain ⟨g, c', hv, _, _, _, hc⟩ := row_form h.row (by omega)
    obtain ⟨rfl, rfl⟩ : A = some ⟨g, 0, none⟩ ∧ c = c' := by simpa using hv
    have hl : (l.take m).length = m := by rw [List.length_take]; omega
    have := conv_bytes (P := Try.prog) w 35 9 5 ⟨g, 0, none⟩ c (l.take m) Try.underlying35 Try.underlying5 Try.underlying9 fun j hj => by
      rw [add_plain]
      refine (hc j (by omega)).trans ?_
      unfold bytesVals
      rw [List.getElem?_map, List.getElem?_map, List.getElem?_take_of_lt (by omega)]
    rw [hl] at this
    exact this
def SR (w : World) (D : DiskM) (at_ cnt k : Nat) (acc : List UInt8) (v : Value) (wr : World) : Prop :=
  Buf w wr v acc ∧ acc.length = 64 * k ∧ readLoop D at_ cnt ⟨#[]⟩ = readLoop D (at_ + k) (cnt - k) ⟨acc.toArray⟩

def SRPost (D : DiskM) (slot size : Int) (w : World) (e : Ending) (w' : World) : Prop := e = .returned (.tuple #[.string (slotRead D slot size).1, .int .i64 (slotRead D slot size).2]) ∧ Below w.heap.size w w'

set_option maxRecDepth 100000 in
set_option maxHeartbeats 2000000 in
theorem sRead_calls {w : World} {b : Nat} {F : Nat → Prop} {D : DiskM} (h : DiskAt w b F D) (hf : Full64 D) (hW : D.waits.length ≤ 4294967290) (slot size : Int) :
    Calls Try.prog 9 #[.pointer (some ⟨b, 0, none⟩), .int .i64 slot, .int .i64 size] w (SRPost D slot size w) := by
  have HWR := hide (swrong_calls h slot)
  by_cases hsl : slot < 0 ∨ 2 ≤ slot
  · have E := hide (show slotRead D slot size = (⟨#[]⟩, 1) by unfold slotRead; rw [if_pos hsl])
    have E2 := hide (show swrongM slot = 1 by unfold swrongM; rw [if_pos hsl])
    clear hsl h
    go_enter Try.func9, Try.ntmps9
    go_wp2_with fail
    refine HWR.out.mono ?_
    rintro e w' ⟨rfl, rfl⟩
    rw [E2.out]
    go_wp2_with fail
    go_ret2
    unfold SRPost
    rw [E.out]
    exact ⟨rfl, Below.refl _ _⟩
  · have h0 : 0 ≤ slot := by omega
    have h1 : slot < 2 := by omega
    have E2 := hide (show swrongM slot = 0 by unfold swrongM; rw [if_neg hsl])
    have HR := hide (sRoom_calls h)
    have hlim := slotN_lim h
    by_cases hneg : size < 0
    · have E := hide (show slotRead D slot size = (⟨#[]⟩, 1) by unfold slotRead; rw [if_neg hsl, if_pos (.inl hneg)])
      clear hsl h
      go_enter Try.func9, Try.ntmps9
      go_wp2_with fail
      refine HWR.out.mono ?_
      rintro e w' ⟨rfl, rfl⟩
      rw [E2.out]
      go_wp2_with fail
      go_ret2
      unfold SRPost
      rw [E.out]
      exact ⟨rfl, Below.refl _ _⟩
    · obtain ⟨n, rfl⟩ : ∃ n : Nat, size = n := ⟨size.toNat, by omega⟩
      by_cases hroom : slotN D * 64 < n
      · have E := hide (show slotRead D slot n = (⟨#[]⟩, 1) by unfold slotRead; rw [if_neg hsl, if_pos (.inr (by simpa using hroom))])
        have hroomI : ((slotN D * 64 : Nat) : Int) < (n : Int) := by omega
        clear hsl h hroom hneg
        go_enter Try.func9, Try.ntmps9
        go_wp2_with fail
        refine HWR.out.mono ?_
        rintro e w' ⟨rfl, rfl⟩
        rw [E2.out]
        go_wp2_with fail
        refine HR.out.mono ?_
        rintro e w' ⟨rfl, rfl⟩
        generalize ((slotN D * 64 : Nat) : Int) = room at *
        go_wp2_with fail
        go_ret2
        unfold SRPost
        rw [E.out]
        exact ⟨rfl, Below.refl _ _⟩
      · obtain ⟨at_, hat⟩ : ∃ at_ : Nat, 8 + slot.toNat * slotN D = at_ := ⟨_, rfl⟩
        have hroomI : decide (((slotN D * 64 : Nat) : Int) < (n : Int)) = false := by simp only [decide_eq_false_iff_not]; omega
        have hnI : decide ((n : Int) < 0) = false := by simp only [decide_eq_false_iff_not]; omega
        have hn9 : n ≤ 16128 := by omega
        have HC := hide (scount_calls n (by omega))
        obtain ⟨cnt, hcnt⟩ : ∃ cnt, cntB n = cnt := ⟨_, rfl⟩
        have hcn : cnt ≤ 252 := by rw [← hcnt]; unfold cntB; omega
        have hcs : 64 * cnt ≤ n + 63 := by rw [← hcnt]; unfold cntB; omega
        have hcs2 : n ≤ 64 * cnt := by rw [← hcnt]; unfold cntB; omega
        have E : Hid (slotRead D slot n = if (readLoop D at_ cnt ⟨#[]⟩).2 = 0 then ((readLoop D at_ cnt ⟨#[]⟩).1.extract 0 n, 0) else (⟨#[]⟩, (readLoop D at_ cnt ⟨#[]⟩).2)) := hide (by
          unfold slotRead
          rw [if_neg hsl, if_neg (by simp; omega), hat, show (n : Int).toNat = n from rfl, hcnt])
        have hat9 : at_ ≤ 260 := by
          have : slot.toNat = 0 ∨ slot.toNat = 1 := by omega
          rcases this with e | e <;> rw [e] at hat <;> omega
        have HI0 : Hid (SR w D at_ cnt 0 [] (.slice none 0 0) w) := hide ⟨Buf.nil (Below.refl _ _), rfl, rfl⟩
        have HAT := hide hat
        have HD0 := hide h
        have HFU := hide hf
        have HCNT := hide hcnt
        have hcs2' := hide hcs2
        clear hsl hroom h hat hlim hf hcnt hneg hcs2
        go_enter Try.func9, Try.ntmps9
        go_wp2_with fail
        refine HWR.out.mono ?_
        rintro e w' ⟨rfl, rfl⟩
        rw [E2.out]
        go_wp2_with fail
        refine HR.out.mono ?_
        rintro e w' ⟨rfl, rfl⟩
        generalize hrm : ((slotN D * 64 : Nat) : Int) = room at *
        clear hrm
        go_wp2_with fail
        refine (HC.out _).mono ?_
        rintro e w' ⟨rfl, rfl⟩
        rw [HCNT.out]
        go_wp2_with fail
        go_loopw [9, 29] (fun v i wr => ∃ (k : Nat) (acc : List UInt8), k ≤ cnt ∧ i = .int .i64 k ∧ Hid (SR w D at_ cnt k acc v wr)) (fun _ i _ => cnt - (intOf i).toNat)
        case atStart => exact ⟨0, [], Nat.zero_le _, rfl, HI0⟩
        case round =>
        clear HI0
        obtain ⟨k, acc, hk, rfl, hinv⟩ := hrel
        obtain ⟨hbuf, hlen, heq⟩ := hinv.out
        have HBUF := hide hbuf
        have HLEN := hide hlen
        have HEQ := hide heq
        have hl9 : acc.length ≤ 16128 := by omega
        have HD1 := hide (HD0.out.below hbuf.bel)
        obtain ⟨A, c, rfl, hAc⟩ := hbuf.slice
        by_cases hlt : k < cnt
        · have HRD := hide (dread_calls HD1.out hW ((at_ + k : Nat) : Int))
          have hstep : readLoop D (at_ + k) (cnt - k) ⟨acc.toArray⟩ = if (D.read ((at_ + k : Nat) : Int)).2 = 0 then readLoop D (at_ + k + 1) (cnt - (k + 1)) (⟨acc.toArray⟩ ++ (D.read ((at_ + k : Nat) : Int)).1) else (⟨#[]⟩, (D.read ((at_ + k : Nat) : Int)).2) := by
            rw [show cnt - k = (cnt - (k + 1)) + 1 by omega]
            rfl
          have H64 := hide (HFU.out.read ((at_ + k : Nat) : Int))
          have HSTEP := hide hstep
          obtain ⟨ak, hak⟩ : ∃ ak : Nat, at_ + k = ak := ⟨_, rfl⟩
          have hsum : (at_ : Int) + (k : Int) = (ak : Int) := by omega
          have HAK := hide hak
          rw [hak] at HRD HSTEP H64
          have HSUM := hide hsum
          generalize hRd : D.read (ak : Int) = R at *
          obtain ⟨t, v'⟩ := R
          clear hbuf hlen heq hinv hstep hak hsum hRd hcs
          go_wp2_with fail
          refine (sfirst_calls HD1.out slot h0 h1).mono ?_
          rintro e w' ⟨rfl, rfl⟩
          rw [HAT.out]
          go_wp2_with fail
          rw [HSUM.out]
          refine HRD.out.mono ?_
          rintro e w' ⟨rfl, rfl⟩
          by_cases hv : v' = 0
          · subst hv
            have ht64 : t.size = 64 := H64.out rfl
            have HT := hide ht64
            go_wp2_with (at_builtin; refine buf_apps rfl (.tmp 45) (.tmp 46) rfl HBUF t rfl rfl (by rw [HT.out]; omega) ?_; intro v3 w3 hb3 hg3)
            have hs : Hid (SR w D at_ cnt (k + 1) (acc ++ t.data.toList) v3 w3) := hide ⟨hb3.out, by rw [List.length_append, HLEN.out, show t.data.toList.length = t.size from rfl, HT.out]; omega, by
              rw [HEQ.out, HAK.out, HSTEP.out, if_pos trivial, ← HAK.out]
              congr 1⟩
            clear hg3 hb3
            go_roundw
            case rel => exact ⟨k + 1, acc ++ t.data.toList, by omega, by go_num, hs⟩
            case measure => simp [intOf]; omega
          · have hvb : (v' != 0) = true := by simp [hv]
            have E9 : Hid (readLoop D at_ cnt ⟨#[]⟩ = (⟨#[]⟩, v')) := hide (by rw [HEQ.out, HAK.out, HSTEP.out, if_neg hv])
            have HV := hide hv
            clear hv
            go_wp2_with fail
            go_ret2
            unfold SRPost
            rw [E.out, E9.out, if_neg HV.out]
            exact ⟨rfl, HBUF.out.bel⟩
        · obtain rfl : k = cnt := by omega
          rw [Nat.sub_self] at heq
          have E9 : Hid (readLoop D at_ k ⟨#[]⟩ = (⟨acc.toArray⟩, 0)) := hide heq
          have hle := hcs2'.out
          have hnl : n ≤ acc.length := by omega
          have hnc : n ≤ c := by omega
          have hcv := HBUF.out.convCut n hnl
          have hcut : (⟨acc.toArray⟩ : ByteArray).extract 0 n = ⟨(acc.take n).toArray⟩ := by
            apply ByteArray.ext
            simp
          have HCUT := hide hcut
          clear hbuf hlen heq hinv hle hcut
          go_wp2_with fail
          go_ret2
          unfold SRPost
          rw [E.out, E9.out, if_pos rfl]
          exact ⟨congrArg (fun z => Ending.returned (.tuple #[.string z, .int .i64 0])) HCUT.out.symm, HBUF.out.bel⟩
end Go.Proofs.Ytpcceinjifdgnaa
