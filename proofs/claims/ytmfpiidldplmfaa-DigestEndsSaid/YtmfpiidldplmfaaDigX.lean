/- Chapter 2: DigestEnds comes to true. -/
import Derived.Test.YtmfpiidldplmfaaDigW
namespace Go.Proofs.Ytmfpiidldplmfaa
open Go.RowKit Zb

def fillB (c : UInt8) (n k : Nat) : List UInt8 := List.replicate k c ++ List.replicate (n - k) 0
theorem fillB_length (c : UInt8) (n k : Nat) (h : k ≤ n) : (fillB c n k).length = n := by simp [fillB]; omega
theorem fillB_set (c : UInt8) (n k : Nat) (h : k < n) : (fillB c n k).set k c = fillB c n (k + 1) := by
  unfold fillB
  rw [List.set_append_right _ _ (by simp), List.length_replicate, Nat.sub_self, List.replicate_succ', List.append_assoc]
  rw [show n - k = (n - (k + 1)) + 1 by omega, List.replicate_succ, List.set_cons_zero]
  rfl
theorem fillB_all (c : UInt8) (n : Nat) : fillB c n n = List.replicate n c := by simp [fillB]
def FillR (w wr : World) (g : Nat) (c : UInt8) (n k : Nat) : Prop := Buf w wr (.slice (some ⟨g, 0, none⟩) n n) (fillB c n k)
theorem one_of (c : UInt8) (n k : Nat) (h : k < n) : ((⟨(List.replicate n c).toArray⟩ : ByteArray).extract k (k + 1)).data.toList = [c] := by
  rw [ByteArray.data_extract]
  apply List.ext_getElem
  · simp; omega
  · intro i h1 h2
    simp at h1 h2
    simp
def EndInv (w wr : World) (b : Nat) (c : UInt8) (k : Nat) : Prop := Below w.heap.size w wr ∧ w.heap.size ≤ b ∧ HashOf wr b (List.replicate k c)

set_option maxRecDepth 100000 in
set_option maxHeartbeats 4000000 in
theorem DigestEnds_walk (a0 a1 : Int) (w : World) (w0 : (Lit.int .u8 a0).wf = true) (w1 : (Lit.int .u8 a1).wf = true) :
    Calls Try.prog 5 #[.int .u8 a0, .int .u8 a1] w fun e w' => e = .returned (.bool true) ∧ Below w.heap.size w w' := by
  have b0 := bounds_u8 w0
  have b1 := bounds_u8 w1
  obtain ⟨n, rfl⟩ : ∃ n : Nat, a0 = n := ⟨a0.toNat, by omega⟩
  obtain ⟨c, rfl⟩ : ∃ c : UInt8, a1 = (c.toNat : Int) := ⟨UInt8.ofNat a1.toNat, by rw [UInt8.toNat_ofNat']; omega⟩
  have hn : n ≤ 255 := by omega
  have hnI : (n : Int) ≤ 255 := by omega
  clear b0 b1 w0 w1
  have hmk : ∀ W : World, (Instr.makeSlice 32 (.int .i64 n) (.int .i64 n)).run Try.prog W = .ok (.slice (some ⟨W.heap.size, 0, none⟩) n n) (W.alloc (.cells (madeCells #[.int .u8 0] n) 5)) := fun W => make_row (P := Try.prog) 32 5 _ 1 Try.underlying32 binfo_u8 rfl .i64 .i64 n (by omega) (by omega) W
  have HI0 : Hid (FillR w (w.alloc (.cells (madeCells #[.int .u8 0] n) 5)) w.heap.size c n 0) := hide (Buf.made (Below.refl w.heap.size w) n (by unfold maxLen; omega))
  go_enter Try.func5, Try.ntmps5
  go_wp2_with fail
  clear hmk
  generalize w.alloc (.cells (madeCells #[.int .u8 0] n) 5) = W0 at *
  go_loopw [6] (fun i wr => ∃ k : Nat, k ≤ n ∧ i = .int .i64 k ∧ Hid (FillR w wr w.heap.size c n k)) (fun i _ => n - (intOf i).toNat)
  case atStart => exact ⟨0, by omega, rfl, HI0⟩
  case round =>
  clear HI0
  obtain ⟨k, hk, rfl, hinv⟩ := hrel
  have hl := fillB_length c n k hk
  by_cases hlt : k < n
  · have hi := hinv.out
    have hi2 : Buf w wr (.slice (some ⟨w.heap.size, 0, none⟩) (fillB c n k).length n) (fillB c n k) := by rw [hl]; exact hi
    have yc := hi2.cell k (by omega)
    obtain ⟨v0, hv0⟩ : ∃ v0, (fillB c n k)[k]'(by omega) = v0 := ⟨_, rfl⟩
    rw [hv0] at yc
    have yf := hi2.frozen k rfl
    have hs := hi2.set k c
    rw [fillB_set c n k hlt, hl] at hs
    have HS : Hid (FillR w (wr.setCell ⟨w.heap.size, k, none⟩ (.int .u8 (c.toNat : Int))) w.heap.size c n (k + 1)) := hide hs
    have hkI : (k : Int) < (n : Int) := by omega
    clear hi hi2 hs hl hv0 hinv
    go_wp2_with fail
    go_roundw
    case rel => exact ⟨k + 1, by omega, by go_num, HS⟩
    case measure => simp [intOf]; omega
  · obtain rfl : k = n := by omega
    have hi : Buf w wr (.slice (some ⟨w.heap.size, 0, none⟩) k k) (List.replicate k c) := by rw [← fillB_all]; exact hinv.out
    have hcv := hi.conv
    obtain ⟨S, hS⟩ : ∃ S : ByteArray, (⟨(List.replicate k c).toArray⟩ : ByteArray) = S := ⟨_, rfl⟩
    have hSs : S.size = k := by rw [← hS]; show (List.replicate k c).toArray.size = k; simp
    have HONE : Hid (∀ i, i < k → (S.extract i (i + 1)).data.toList = [c]) := hide fun i hi => by rw [← hS]; exact one_of c k i hi
    have HSL : Hid (S.data.toList = List.replicate k c) := hide (by rw [← hS])
    rw [hS] at hcv
    have HB := hide hi.bel
    clear hi hl hS hinv hlt hk
    have HSS := hide hSs
    have hSI : (S.size : Int) = (k : Int) := by omega
    have HSI := hide hSI
    clear hSs hSI
    go_wp2_with fail
    refine (gNew_calls _).mono ?_
    rintro e w1 ⟨b, rfl, hge, hh1, hb1⟩
    have HI0 : Hid (EndInv w w1 b c 0) := hide ⟨HB.out.trans (hb1.mono HB.out.size), by have := HB.out.size; omega, hh1⟩
    clear hb1 hh1 hge HB hcv
    generalize k = n at *
    go_wp2_with fail
    go_loopw [9] (fun i wr => ∃ k : Nat, k ≤ n ∧ i = .int .i64 k ∧ Hid (EndInv w wr b c k)) (fun i _ => n - (intOf i).toNat)
    case atStart => exact ⟨0, by omega, rfl, HI0⟩
    case round =>
    clear HI0
    obtain ⟨k, hk, rfl, hinv⟩ := hrel
    have hsz := HSI.out
    by_cases hlt : k < n
    · have hkI : (k : Int) < (n : Int) := by omega
      have hk1 : (k : Int) + 1 ≤ (n : Int) := by omega
      have hkS : (k : Int) < (S.size : Int) := by omega
      have hkS1 : (k : Int) + 1 ≤ (S.size : Int) := by omega
      have hkN : k + 1 ≤ S.size := by have := HSS.out; omega
      clear hsz
      go_wp2_with fail
      refine (hWrite_calls hinv.out.2.2 (S.extract k (k + 1)) (by
        have h1 := HONE.out k hlt
        have h2 : (S.extract k (k + 1)).size = 1 := by rw [← size_toList, h1]; rfl
        rw [h2, List.length_replicate]
        omega)).mono ?_
      rintro e w2 ⟨rfl, ht2, hh2⟩
      rw [HONE.out k hlt] at hh2
      have HN : Hid (EndInv w w2 b c (k + 1)) := hide ⟨hinv.out.1.trans (ht2.below hinv.out.1.size (fun y hy => by rw [hy]; exact hinv.out.2.1)), hinv.out.2.1, by rw [List.replicate_succ']; exact hh2⟩
      clear ht2 hh2 hinv
      go_wp2_with fail
      go_roundw
      case rel => exact ⟨k + 1, by omega, by go_num, HN⟩
      case measure => simp [intOf]; omega
    · obtain rfl : k = n := by omega
      have HB := hide hinv.out.1
      have HH : Hid (HashOf wr b S.data.toList) := hide (by rw [HSL.out]; exact hinv.out.2.2)
      have hs9 : S.size ≤ 50000000000 := by have := HSS.out; omega
      clear hinv hlt
      go_wp2_with fail
      refine (gOf_calls S hs9 _).mono ?_
      rintro e w2 ⟨rfl, hb2⟩
      have HB2 := hide (HB.out.trans (hb2.mono HB.out.size))
      have HH2 := hide (HH.out.below hb2)
      clear hb2 HB HH
      go_wp2_with fail
      refine (rgOf_calls S hs9 _).mono ?_
      rintro e w3 ⟨rfl, hb3⟩
      have HB3 := hide (HB2.out.trans (hb3.mono HB2.out.size))
      have HH3 := hide (HH2.out.below hb3)
      clear hb3 HB2 HH2
      go_wp2_with fail
      refine (gSum_calls HH3.out hs9).mono ?_
      rintro e w4 ⟨rfl, hb4⟩
      have HB4 := hide (HB3.out.trans (hb4.mono HB3.out.size))
      clear hb4 HB3 HH3
      go_wp2_with fail
      refine (rgOf_calls S hs9 _).mono ?_
      rintro e w5 ⟨rfl, hb5⟩
      have HB5 := hide (HB4.out.trans (hb5.mono HB4.out.size))
      clear hb5 HB4
      go_wp2_with fail
      refine (lknown2_calls _).mono ?_
      rintro e w6 ⟨rfl, hb6⟩
      have HB6 := hide (HB5.out.trans (hb6.mono HB5.out.size))
      clear hb6 HB5
      go_wp2_with fail
      go_ret
      exact ⟨rfl, HB6.out⟩
end Go.Proofs.Ytmfpiidldplmfaa
