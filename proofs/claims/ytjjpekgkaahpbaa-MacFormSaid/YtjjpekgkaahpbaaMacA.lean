/- Chapter 3: the key as it is used, and the mixers, walked. -/
import Derived.Test.YtjjpekgkaahpbaaMacM
import Derived.Test.YtjjpekgkaahpbaaDigUx
import Derived.Test.YtjjpekgkaahpbaaBufC
namespace Go.Proofs.Ytjjpekgkaahpbaa
open Go.RowKit Zb

theorem toList_append (a b : ByteArray) : (a ++ b).data.toList = a.data.toList ++ b.data.toList := by
  rw [ByteArray.data_append, Array.toList_append]
theorem size_toList' (a : ByteArray) : a.data.toList.length = a.size := rfl
theorem copied_zero (k : List UInt8) (h : k.length ≤ 64) : copied (List.replicate 64 (0 : UInt8)) k = padK k := by
  unfold copied padK
  rw [List.length_replicate, List.take_of_length_le h, List.drop_replicate]
def KeyPost (w : World) (s : ByteArray) (e : Ending) (w' : World) : Prop := e = .returned (.string ⟨(keyM s.data.toList).toArray⟩) ∧ Below w.heap.size w w'
theorem long_size (s : ByteArray) : (⟨(longK s.data.toList).toArray⟩ : ByteArray).data.toList.length ≤ 64 := by
  show (longK s.data.toList).length ≤ 64
  unfold longK
  split
  · rw [digW_length]; omega
  · omega
theorem keyM_length (k : List UInt8) : (keyM k).length = 64 := by
  unfold keyM
  refine padK_length _ ?_
  unfold longK
  split
  · rw [digW_length]; omega
  · omega
set_option maxRecDepth 20000 in
set_option maxHeartbeats 2000000 in
theorem mKey_calls (s : ByteArray) (hs : s.size ≤ 50000000000) (w : World) : Calls Try.prog 11 #[.string s] w (KeyPost w s) := by
  by_cases hl : 64 < s.size
  · have hlI : (64 : Int) < (s.size : Int) := by omega
    have HK : Hid (keyM s.data.toList = padK (digW s.data.toList)) := hide (by unfold keyM longK; rw [if_pos (show 64 < s.data.toList.length from hl)])
    have HO := hide (gOf_calls s hs)
    clear hs hl
    obtain ⟨d, hd⟩ : ∃ d : ByteArray, (⟨(digW s.data.toList).toArray⟩ : ByteArray) = d := ⟨_, rfl⟩
    have hds : d.size = 32 := by
      rw [← hd]
      show (digW s.data.toList).toArray.size = 32
      rw [List.size_toArray, digW_length]
    have HDS := hide hds
    have HDL : Hid (d.data.toList = digW s.data.toList) := hide (by rw [← hd])
    have HD := hide hd
    clear hds hd
    go_enter Try.func11, Try.ntmps11
    go_wp2_with fail
    refine (HO.out _).mono ?_
    rintro e w1 ⟨rfl, hb1⟩
    rw [HD.out]
    have HB1 := hide hb1
    clear hb1
    have B0 := hide (Buf.made (Below.refl w1.heap.size w1) 64 (by unfold maxLen; omega))
    have HL := hide (show (List.replicate 64 (0 : UInt8)).length = 64 from List.length_replicate)
    have HCP := hide (copied_zero d.data.toList (by rw [size_toList']; rw [HDS.out]; omega))
    generalize List.replicate 64 (0 : UInt8) = l0 at *
    have hmk : ∀ W : World, (Instr.makeSlice 30 (.int .i64 64) (.int .i64 64)).run Try.prog W = .ok (.slice (some ⟨W.heap.size, 0, none⟩) 64 64) (W.alloc (.cells (madeCells #[.int .u8 0] 64) 5)) := fun W => make_row (P := Try.prog) 30 5 _ 1 Try.underlying30 binfo_u8 rfl .i64 .i64 64 (by omega) (by omega) W
    go_wp2_with ((with_reducible show wpList _ _ _ (⟨some 12, _, _, _, _, _⟩ :: _) _ _); clear hmk; refine buf_copys rfl (.tmp 10) (.tmp 11) rfl w1.heap.size 64 (l := l0) (hide (by have := B0.out; rw [HL.out]; exact this)) d (by rw [HL.out]; rfl) rfl ?_; intro m2 w2 hb2 hg2; rw [HL.out, HCP.out] at hb2; have hcv := hb2.out.conv)
    go_ret
    refine ⟨?_, HB1.out.trans (hb2.out.bel.mono HB1.out.size)⟩
    rw [HK.out, ← HDL.out]
    rfl
  · have hlI : (s.size : Int) ≤ 64 := by omega
    have HSZ := hide (show s.size ≤ 64 by omega)
    have HK : Hid (keyM s.data.toList = padK s.data.toList) := hide (by unfold keyM longK; rw [if_neg (show ¬ 64 < s.data.toList.length from hl)])
    clear hs hl
    go_enter Try.func11, Try.ntmps11
    have B0 := hide (Buf.made (Below.refl w.heap.size w) 64 (by unfold maxLen; omega))
    have HL := hide (show (List.replicate 64 (0 : UInt8)).length = 64 from List.length_replicate)
    have HCP := hide (copied_zero s.data.toList (by rw [size_toList']; exact HSZ.out))
    generalize List.replicate 64 (0 : UInt8) = l0 at *
    have hmk : ∀ W : World, (Instr.makeSlice 30 (.int .i64 64) (.int .i64 64)).run Try.prog W = .ok (.slice (some ⟨W.heap.size, 0, none⟩) 64 64) (W.alloc (.cells (madeCells #[.int .u8 0] 64) 5)) := fun W => make_row (P := Try.prog) 30 5 _ 1 Try.underlying30 binfo_u8 rfl .i64 .i64 64 (by omega) (by omega) W
    go_wp2_with ((with_reducible show wpList _ _ _ (⟨some 12, _, _, _, _, _⟩ :: _) _ _); clear hmk; refine buf_copys rfl (.tmp 10) (.tmp 11) rfl w.heap.size 64 (l := l0) (hide (by have := B0.out; rw [HL.out]; exact this)) s (by rw [HL.out]; rfl) rfl ?_; intro m2 w2 hb2 hg2; rw [HL.out, HCP.out] at hb2; have hcv := hb2.out.conv)
    go_ret
    refine ⟨?_, hb2.out.bel⟩
    rw [HK.out]
    rfl
end Go.Proofs.Ytjjpekgkaahpbaa
