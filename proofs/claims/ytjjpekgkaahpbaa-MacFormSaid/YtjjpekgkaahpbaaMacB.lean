/- Chapter 3: the closure that combines, and the document's mixed, walked. -/
import Derived.Test.YtjjpekgkaahpbaaMacA
import Derived.Test.YtjjpekgkaahpbaaBufS
namespace Go.Proofs.Ytjjpekgkaahpbaa
open Go.RowKit Zb

def MixPost (w : World) (k : List UInt8) (c : UInt8) (e : Ending) (w' : World) : Prop := e = .returned (.string ⟨(mixL k c).toArray⟩) ∧ Below w.heap.size w w'
set_option maxRecDepth 20000 in
set_option maxHeartbeats 2000000 in
theorem mmixer1_calls (c : UInt8) (k : ByteArray) (h0 : 0 < k.size) (hk : k.size ≤ 1000) (bx : Nat) (w : World) (h : w.cell? ⟨bx, 0, none⟩ = some (.string k)) :
    Calls Try.prog 24 #[.int .u8 (c.toNat : Int), .pointer (some ⟨bx, 0, none⟩)] w (MixPost w k.data.toList c) := by
  have hkI : (k.size : Int) ≤ 1000 := by omega
  have HSZ := hide hk
  have H0 := hide h0
  clear hk h0
  go_enter Try.func24, Try.ntmps24
  go_wp2_with ((with_reducible show wpList _ _ _ (⟨some 7, _, _, _, _, _⟩ :: _) _ _); refine bufq_conv rfl (.tmp 6) rfl (Below.refl w.heap.size w) k rfl (by have h1 := HSZ.out; omega) ?_; intro v1 w1 hb1 _; obtain ⟨g, cp, rfl⟩ := hb1.out.formN (size_toList' k) H0.out)
  have hb2 : Hid (BufQ w w1 (.slice (some ⟨g, 0, none⟩) k.size cp) (mixAt k.data.toList c 0)) := hb1
  have HN := hide (size_toList' k)
  have hnI := hkI
  clear hb1 HSZ H0
  generalize k.size = n at *
  generalize k.data.toList = l at *
  clear hkI h
  go_loopw [10] (fun i wr => ∃ j : Nat, j ≤ n ∧ i = .int .i64 j ∧ Hid (BufQ w wr (.slice (some ⟨g, 0, none⟩) n cp) (mixAt l c j))) (fun i _ => n - (intOf i).toNat)
  case atStart => exact ⟨0, by omega, rfl, hb2⟩
  case round =>
  clear hb2
  obtain ⟨j, hj, rfl, hinv⟩ := hrel
  by_cases hlt : j < n
  · have hjl : j < l.length := by rw [HN.out]; exact hlt
    have hml := mixAt_length l c j (by omega)
    have yc := hinv.out.cell j (by omega)
    have yf := hinv.out.frozen j (by omega)
    have hs := hinv.out.set j (l[j] ^^^ c)
    rw [mixAt_set l c j hjl] at hs
    have hg := mixAt_get l c j hjl
    rw [List.getElem?_eq_getElem (by omega)] at hg
    rw [Option.some.inj hg] at yc
    have hx := xor_u8 l[j] c
    have HS := hide hs
    have hjI : (j : Int) < (n : Int) := by omega
    generalize l[j] ^^^ c = z at *
    generalize l[j] = y at *
    clear hs hg hml hinv hjl
    go_wp2_with fail
    go_roundw
    case rel => exact ⟨j + 1, by omega, by go_num, HS⟩
    case measure => simp [intOf]; omega
  · obtain rfl : j = n := by omega
    have hcv := hinv.out.conv
    rw [show mixAt l c j = mixL l c by rw [← HN.out, mixAt_end]] at hcv
    have HB := hide hinv.out.bel
    clear hinv
    go_wp2_with fail
    go_ret
    exact ⟨rfl, HB.out⟩
set_option maxRecDepth 20000 in
set_option maxHeartbeats 2000000 in
theorem lmixed3_calls (c : UInt8) (k : ByteArray) (h0 : 0 < k.size) (hk : k.size ≤ 1000) (w : World) : Calls Try.prog 16 #[.string k, .int .u8 (c.toNat : Int)] w (MixPost w k.data.toList c) := by
  have hkI : (k.size : Int) ≤ 1000 := by omega
  have HSZ := hide hk
  have H0 := hide h0
  clear hk h0
  go_enter Try.func16, Try.ntmps16
  go_wp2_with ((with_reducible show wpList _ _ _ (⟨some 8, _, _, _, _, _⟩ :: _) _ _); refine bufq_conv rfl (.tmp 7) rfl (Below.refl w.heap.size w) k rfl (by have h1 := HSZ.out; omega) ?_; intro v1 w1 hb1 _; obtain ⟨g, cp, rfl⟩ := hb1.out.formN (size_toList' k) H0.out)
  have hb2 : Hid (BufQ w w1 (.slice (some ⟨g, 0, none⟩) k.size cp) (mixAt k.data.toList c 0)) := hb1
  have HN := hide (size_toList' k)
  have hnI := hkI
  clear hb1 HSZ H0
  generalize k.size = n at *
  generalize k.data.toList = l at *
  clear hkI
  go_loopw [6] (fun i wr => ∃ j : Nat, j ≤ n ∧ i = .int .i64 j ∧ Hid (BufQ w wr (.slice (some ⟨g, 0, none⟩) n cp) (mixAt l c j))) (fun i _ => n - (intOf i).toNat)
  case atStart => exact ⟨0, by omega, rfl, hb2⟩
  case round =>
  clear hb2
  obtain ⟨j, hj, rfl, hinv⟩ := hrel
  by_cases hlt : j < n
  · have hjl : j < l.length := by rw [HN.out]; exact hlt
    have hml := mixAt_length l c j (by omega)
    have yc := hinv.out.cell j (by omega)
    have yf := hinv.out.frozen j (by omega)
    have hs := hinv.out.set j (l[j] ^^^ c)
    rw [mixAt_set l c j hjl] at hs
    have hg := mixAt_get l c j hjl
    rw [List.getElem?_eq_getElem (by omega)] at hg
    rw [Option.some.inj hg] at yc
    have hx := xor_u8 l[j] c
    have HS := hide hs
    have hjI : (j : Int) < (n : Int) := by omega
    generalize l[j] ^^^ c = z at *
    generalize l[j] = y at *
    clear hs hg hml hinv hjl
    go_wp2_with fail
    go_roundw
    case rel => exact ⟨j + 1, by omega, by go_num, HS⟩
    case measure => simp [intOf]; omega
  · obtain rfl : j = n := by omega
    have hcv := hinv.out.conv
    rw [show mixAt l c j = mixL l c by rw [← HN.out, mixAt_end]] at hcv
    have HB := hide hinv.out.bel
    clear hinv
    go_wp2_with fail
    go_ret
    exact ⟨rfl, HB.out⟩
set_option maxRecDepth 20000 in
set_option maxHeartbeats 2000000 in
theorem rmmixed_calls (c : UInt8) (k : ByteArray) (hk : k.size ≤ 1000) (w : World) : Calls Try.prog 23 #[.string k, .int .u8 (c.toNat : Int)] w (MixPost w k.data.toList c) := by
  have hkI : (k.size : Int) ≤ 1000 := by omega
  have HSZ := hide hk
  have hb2 : Hid (Buf w w (.slice none 0 0) (mixL (k.data.toList.take 0) c)) := hide (Buf.nil (Below.refl _ _))
  clear hk
  go_enter Try.func23, Try.ntmps23
  go_wp2_with fail
  go_loopw [5, 6] (fun v i wr => ∃ j : Nat, j ≤ k.size ∧ i = .int .i64 j ∧ Hid (Buf w wr v (mixL (k.data.toList.take j) c))) (fun _ i _ => k.size - (intOf i).toNat)
  case atStart => exact ⟨0, by omega, rfl, hb2⟩
  case round =>
  clear hb2
  obtain ⟨j, hj, rfl, hinv⟩ := hrel
  by_cases hlt : j < k.size
  · have hjl : j < k.data.toList.length := hlt
    have HS := hide (mixL_take_succ k.data.toList c j hjl)
    have HL : Hid ((mixL (k.data.toList.take j) c).length ≤ 1000) := hide (by rw [mixL_length, List.length_take]; have h1 := HSZ.out; rw [size_toList']; omega)
    obtain ⟨y, hy⟩ : ∃ y, k[j]'hlt = y := ⟨_, rfl⟩
    have e : k.data.toList[j]'hjl = y := by rw [← hy]; rfl
    rw [e] at HS
    have hx := xor_u8 y c
    have hjI : (j : Int) < (k.size : Int) := by omega
    generalize y ^^^ c = z at *
    clear e hjl
    go_wp2_with (at_builtin; refine buf_app rfl (.tmp 13) (.tmp 19) rfl hinv #[.int .u8 (z.toNat : Int)] [z] 1 rfl rfl rfl (by have h1 := HL.out; simp; omega) ?_; intro v' w' hb' hg'; rw [← HS.out] at hb'; clear hg')
    go_roundw
    case rel => exact ⟨j + 1, by omega, by go_num, ‹_›⟩
    case measure => simp [intOf]; omega
  · obtain rfl : j = k.size := by omega
    have hcv := hinv.out.conv
    rw [show k.data.toList.take k.size = k.data.toList from List.take_of_length_le (Nat.le_of_eq (size_toList' k))] at hcv
    have HB := hide hinv.out.bel
    clear hinv
    go_wp2_with fail
    go_ret
    exact ⟨rfl, HB.out⟩
end Go.Proofs.Ytjjpekgkaahpbaa
