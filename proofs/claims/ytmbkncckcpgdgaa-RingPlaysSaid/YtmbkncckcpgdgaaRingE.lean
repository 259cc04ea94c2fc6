/- Chapter 5: the document's Parse, walked. -/
import Derived.Test.YtmbkncckcpgdgaaRingD
import Derived.Test.YtmbkncckcpgdgaaRingC
namespace Go.Proofs.Ytmbkncckcpgdgaa
open Go.RowKit Zb

set_option maxRecDepth 100000 in
set_option maxHeartbeats 4000000 in
theorem reParse_calls (s : ByteArray) (w : World) : Calls Try.prog 14 #[.string s] w (ParsePost w s) := by
  have HRES : Hid (Blk (w.alloc (.cells #[.int .i64 0, .int .i64 0, .int .i64 0, .int .i64 0, .string ⟨#[]⟩] 23)) w.heap.size 23 EntM.zero.cells.toArray) := hide (Blk.new w 23 _)
  have HB0 := hide ((Below.refl w.heap.size w).alloc (Nat.le_refl _) (.cells #[.int .i64 0, .int .i64 0, .int .i64 0, .int .i64 0, .string ⟨#[]⟩] 23))
  by_cases hl : s.size = 64
  · have HPC := hide (parse_cases hl)
    have hl1 : ((s.size : Int) != 64) = false := by rw [hl]; rfl
    have hlI : (44 : Int) ≤ (s.size : Int) := by omega
    have hlN : 44 ≤ s.size := by omega
    have hs : s.size ≤ 1000000000 := by omega
    have HBU := hide (reBuild_calls (saidE s))
    clear hl
    generalize hw0 : w.alloc (.cells #[.int .i64 0, .int .i64 0, .int .i64 0, .int .i64 0, .string ⟨#[]⟩] 23) = w0 at HRES HB0
    have HW0 := hide hw0
    go_enter Try.func14, Try.ntmps14
    go_wp2_with fail
    have HE1 : Hid (Blk (w0.alloc (.cells #[.int .i64 0, .int .i64 0, .int .i64 0, .int .i64 0, .string ⟨#[]⟩] 23)) w0.heap.size 23 EntM.zero.cells.toArray) := hide (Blk.new w0 23 _)
    refine (roGet_calls s (by omega) 2 1 (by omega) (by omega) _).mono ?_
    rintro r w' ⟨rfl, rfl⟩
    go_wp2_with fail
    refine (roGet_calls s (by omega) 3 1 (by omega) (by omega) _).mono ?_
    rintro r w' ⟨rfl, rfl⟩
    go_wp2_with fail
    refine (roGet_calls s (by omega) 4 4 (by omega) (by omega) _).mono ?_
    rintro r w' ⟨rfl, rfl⟩
    go_wp2_with fail
    refine (roGet_calls s (by omega) 8 4 (by omega) (by omega) _).mono ?_
    rintro r w' ⟨rfl, rfl⟩
    have HNE : w.heap.size < w0.heap.size := HRES.out.lt
    have HS1 : Hid (Blk ((w0.alloc (.cells #[.int .i64 0, .int .i64 0, .int .i64 0, .int .i64 0, .string ⟨#[]⟩] 23)).setRow w0.heap.size (saidE s).cells.toArray) w0.heap.size 23 (saidE s).cells.toArray) := hide (setRow_heap _ _ _ _ _ _ HE1.out)
    have HR1 : Hid (Blk ((w0.alloc (.cells #[.int .i64 0, .int .i64 0, .int .i64 0, .int .i64 0, .string ⟨#[]⟩] 23)).setRow w0.heap.size (saidE s).cells.toArray) w.heap.size 23 EntM.zero.cells.toArray) := hide ((setRow_other _ _ _ _ (Nat.ne_of_lt HNE)).trans (Blk.alloc (w := w0) HRES.out _))
    have HB1 := hide (below_setRow (HB0.out.alloc HB0.out.size (.cells #[.int .i64 0, .int .i64 0, .int .i64 0, .int .i64 0, .string ⟨#[]⟩] 23)) HB0.out.size (saidE s).cells.toArray)
    go_wp2_with (first | ((with_reducible show wpList _ _ _ (⟨some 45, _, _, _, _, _⟩ :: _) _ _); refine wpList_build_as rfl _ _ (saidE s).cells.toArray rfl (by kernel_rfl) ?_) | ((with_reducible show wpList _ _ _ (⟨none, _, _, _, _, _⟩ :: _) _ _); refine wpList_store_row rfl _ _ _ rfl w0.heap.size (saidE s).cells.toArray rfl (by kernel_rfl) 23 _ HE1.out (by kernel_rfl) rfl (by kernel_rfl) ?_; change wpList _ _ _ _ _ ((w0.alloc (.cells #[.int .i64 0, .int .i64 0, .int .i64 0, .int .i64 0, .string ⟨#[]⟩] 23)).setRow w0.heap.size (saidE s).cells.toArray); generalize ((w0.alloc (.cells #[.int .i64 0, .int .i64 0, .int .i64 0, .int .i64 0, .string ⟨#[]⟩] 23)).setRow w0.heap.size (saidE s).cells.toArray) = w1 at *) | ((with_reducible show wpList _ _ _ (⟨some 47, _, _, _, _, _⟩ :: _) _ _); refine wpList_load_row rfl _ _ rfl w0.heap.size rfl 23 _ (0, 0) _ HS1.out Try.underlying23 rfl (rent_info _) ?_))
    refine (HBU.out _).mono ?_
    rintro r w2 ⟨rfl, hb2⟩
    have HR2 := hide (HR1.out.below hb2 HR1.out.lt)
    have HS2 := hide (HS1.out.below hb2 HS1.out.lt)
    have HB2 := hide (HB1.out.trans (hb2.mono HB1.out.size))
    clear hb2
    have HZR : Hid (Blk (w2.setRow w.heap.size EntM.zero.cells.toArray) w.heap.size 23 EntM.zero.cells.toArray) := hide (setRow_heap _ _ _ _ _ _ HR2.out)
    have HBZ := hide (below_setRow HB2.out (Nat.le_refl _) EntM.zero.cells.toArray)
    have HRR : Hid (Blk (w2.setRow w.heap.size (saidE s).cells.toArray) w.heap.size 23 (saidE s).cells.toArray) := hide (setRow_heap _ _ _ _ _ _ HR2.out)
    have HBR := hide (below_setRow HB2.out (Nat.le_refl _) (saidE s).cells.toArray)
    cases hr : (saidE s).right
    · have e1 : buildB (saidE s) = ⟨#[]⟩ := by unfold buildB; rw [hr]; rfl
      have e2 : buildE (saidE s) = 1 := by unfold buildE; rw [hr]; rfl
      have HP : Hid (parseOk s = false) := hide (by rw [HPC.out, hr]; rfl)
      have HPM := hide (parse_no HP.out)
      rw [e1, e2]
      clear e1 e2 hr
      go_wp2_with (first | ((with_reducible show wpList _ _ _ (⟨some 58, _, _, _, _, _⟩ :: _) _ _); refine wpList_build rfl _ _ rfl (by kernel_rfl) ?_) | ((with_reducible show wpList _ _ _ (⟨none, _, _, _, _, _⟩ :: _) _ _); refine wpList_store_row rfl _ _ _ rfl w.heap.size EntM.zero.cells.toArray rfl (by kernel_rfl) 23 _ HR2.out (by kernel_rfl) rfl (by kernel_rfl) ?_))
      exact ret_cell rfl rfl rfl HZR.out Try.underlying23 rfl (rent_info _) ⟨by rw [HP.out, HPM.out]; rfl, HBZ.out⟩
    · have e1 : buildB (saidE s) = (saidE s).block := by unfold buildB; rw [hr]; rfl
      have e2 : buildE (saidE s) = 0 := by unfold buildE; rw [hr]; rfl
      by_cases hq : (saidE s).block = s
      · have HP : Hid (parseOk s = true) := hide (by rw [HPC.out, hr, hq]; simp)
        have HPM := hide (parse_yes HP.out)
        rw [e1, e2, hq]
        clear e1 e2 hr hq
        go_wp2_with (first | ((with_reducible show wpList _ _ _ (⟨some 59, _, _, _, _, _⟩ :: _) _ _); refine wpList_load_row rfl _ _ rfl w0.heap.size rfl 23 _ (0, 0) _ HS2.out Try.underlying23 rfl (rent_info _) ?_) | ((with_reducible show wpList _ _ _ (⟨none, _, _, _, _, _⟩ :: _) _ _); refine wpList_store_row rfl _ _ _ rfl w.heap.size (saidE s).cells.toArray rfl rfl 23 _ HR2.out (rent_info _) rfl (by kernel_rfl) ?_))
        exact ret_cell rfl rfl rfl HRR.out Try.underlying23 rfl (rent_info _) ⟨by rw [HP.out, HPM.out]; rfl, HBR.out⟩
      · have HP : Hid (parseOk s = false) := hide (by rw [HPC.out, hr]; simpa using hq)
        have HPM := hide (parse_no HP.out)
        obtain ⟨n1, n2⟩ := rbytes_ne hq
        rw [e1, e2]
        clear e1 e2 hr hq
        generalize (saidE s).block = B at *
        go_wp2_with (first | ((with_reducible show wpList _ _ _ (⟨some 58, _, _, _, _, _⟩ :: _) _ _); refine wpList_build rfl _ _ rfl (by kernel_rfl) ?_) | ((with_reducible show wpList _ _ _ (⟨none, _, _, _, _, _⟩ :: _) _ _); refine wpList_store_row rfl _ _ _ rfl w.heap.size EntM.zero.cells.toArray rfl (by kernel_rfl) 23 _ HR2.out (by kernel_rfl) rfl (by kernel_rfl) ?_))
        exact ret_cell rfl rfl rfl HZR.out Try.underlying23 rfl (rent_info _) ⟨by rw [HP.out, HPM.out]; rfl, HBZ.out⟩
  · have HP : Hid (parseOk s = false) := hide (by unfold parseOk; simp [hl])
    have HPM := hide (parse_no HP.out)
    have hl1 : ((s.size : Int) != 64) = true := by rw [bne_iff_ne]; omega
    have HSR : Hid (Blk ((w.alloc (.cells #[.int .i64 0, .int .i64 0, .int .i64 0, .int .i64 0, .string ⟨#[]⟩] 23)).setRow w.heap.size EntM.zero.cells.toArray) w.heap.size 23 EntM.zero.cells.toArray) := hide (setRow_heap _ _ _ _ _ _ HRES.out)
    have HB1 := hide (below_setRow HB0.out (Nat.le_refl _) EntM.zero.cells.toArray)
    clear hl
    go_enter Try.func14, Try.ntmps14
    go_wp2_with ((with_reducible show wpList _ _ _ (⟨some 18, _, _, _, _, _⟩ :: _) _ _); refine wpList_build rfl _ _ rfl (by kernel_rfl) ?_; refine wpList_store_row rfl _ _ _ rfl w.heap.size EntM.zero.cells.toArray rfl (by kernel_rfl) 23 _ HRES.out (by kernel_rfl) rfl (by kernel_rfl) ?_)
    exact ret_cell rfl rfl rfl HSR.out Try.underlying23 rfl (rent_info _) ⟨by rw [HP.out, HPM.out]; rfl, HB1.out⟩
end Go.Proofs.Ytmbkncckcpgdgaa
