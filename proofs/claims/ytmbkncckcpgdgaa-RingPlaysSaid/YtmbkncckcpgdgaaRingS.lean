/- Chapter 5: known, walked. -/
import Derived.Test.YtmbkncckcpgdgaaRingT
import Derived.Test.YtmbkncckcpgdgaaRingQ
import Derived.Test.YtmbkncckcpgdgaaRingR
import Derived.Test.YtmbkncckcpgdgaaDiskS
namespace Go.Proofs.Ytmbkncckcpgdgaa
open Go.RowKit Zb

def kn0 : EntM := ⟨1, 0, 0, 5, sumB 7⟩
def kn1 : EntM := ⟨1, 1, 0, 5, sumB 7⟩
set_option maxRecDepth 20000 in
theorem kn1_right : RightE kn1 := ⟨by decide, by decide, by decide, by decide, by decide, by decide, by decide, by decide, rfl⟩
set_option maxRecDepth 20000 in
theorem kn_app : (appendM (DiskM.new 16) kn0).2 = (kn1, 0) ∧ (appendM (DiskM.new 16) kn0).1.read 1 = (kn1.block, 0) ∧ (appendM (DiskM.new 16) kn0).1.waits = [] := by
  have h := calm_append calm_new kn0 (E := kn1) (by rw [last_new.1]; rfl) kn1_right
  refine ⟨h.1, ?_, h.2.1.wts⟩
  have hr := h.2.1.read (i := 1) (by omega)
  rw [h.2.2] at hr
  rw [show ((1 : Nat) : Int) = 1 from rfl] at hr
  rw [hr]
  rfl
section
variable {B b : Nat} {w0 w : World} {D : DiskM}
set_option maxRecDepth 20000 in
theorem ds_scan (h : Hid (DS B w0 w b D)) (hW : D.waits.length ≤ 4294967290) : Calls Try.prog 17 #[.pointer (some ⟨b, 0, none⟩)] w (ScanPost 28 w D) := by
  obtain ⟨h1, h2, F, hF, hd⟩ := h
  exact eScan_calls hd hW
set_option maxRecDepth 20000 in
theorem ds_last (h : Hid (DS B w0 w b D)) (hW : D.waits.length ≤ 4294967290) : Calls Try.prog 18 #[.pointer (some ⟨b, 0, none⟩)] w (LastPost w D) := by
  obtain ⟨h1, h2, F, hF, hd⟩ := h
  exact eLast_calls hd hW
set_option maxRecDepth 20000 in
theorem ds_append (h : Hid (DS B w0 w b D)) (hW : D.waits.length ≤ 4294967200) (e : EntM) : Calls Try.prog 19 #[.pointer (some ⟨b, 0, none⟩), .agg #[.int .i64 e.kind, .int .i64 e.number, .int .i64 e.slot, .int .i64 e.size, .string e.sum]] w fun r w' => r = .returned (.tuple #[.agg (appendM D e).2.1.cells.toArray, .int .i64 (appendM D e).2.2]) ∧ Hid (DS B w0 w' b (appendM D e).1) := by
  obtain ⟨h1, h2, F, hF, hd⟩ := h
  exact (eAppend_calls hd hW e).mono fun e w' hp => DS.post h1 h2 hF hp
end
set_option maxRecDepth 20000 in
set_option maxHeartbeats 2000000 in
theorem lknown5_calls (w : World) : Calls Try.prog 9 #[] w fun e w' => e = .returned (.bool true) ∧ Below w.heap.size w w' := by
  have HN := hide (ds_new 16 (by omega) (by omega) (Below.refl w.heap.size w) (Nat.le_refl _))
  have HAP := hide kn_app
  have HLN := hide last_new
  have HS7 := hide (lSum5_calls 7)
  have HPB := hide (parse_block kn1_right)
  go_enter Try.func9, Try.ntmps9
  go_wp2_with fail
  refine HN.out.mono ?_
  rintro r w1 ⟨b, rfl, HD1⟩
  have HL1 := hide (ds_last HD1 (by simp [DiskM.new]))
  go_wp2_with fail
  refine HL1.out.mono ?_
  rintro r w2 ⟨rfl, hb2⟩
  rw [HLN.out.1, HLN.out.2, calm_new.scan]
  have HD2 := hide (HD1.below hb2)
  clear hb2
  have HZ3 := hide (varW_new w2)
  have HD3 := hide (HD2.out.below (varW_below w2 EntM.zero))
  go_wp2_with (first | ((with_reducible show wpList _ _ _ (⟨none, _, _, _, _, _⟩ :: _) _ _); refine wpList_store_row rfl _ _ _ rfl w2.heap.size EntM.zero.cells.toArray rfl rfl 28 _ HZ3.out (ent_info _) rfl (by kernel_rfl) ?_; change wpList _ _ _ _ _ (varW w2 EntM.zero); generalize varW w2 EntM.zero = w3 at *))
  refine (HS7.out w3).mono ?_
  rintro r w4 ⟨rfl, hb4⟩
  have HD4 := hide (HD3.below hb4)
  clear hb4 HD3
  have HA4 := hide (ds_append HD4 (by simp [DiskM.new]) kn0)
  go_wp2_with (first | ((with_reducible show wpList _ _ _ (⟨some 33, _, _, _, _, _⟩ :: _) _ _); refine wpList_build rfl _ _ rfl (by kernel_rfl) ?_))
  refine HA4.out.mono ?_
  rintro r w5 ⟨rfl, HD5⟩
  rw [HAP.out.1]
  have HZ6 := hide (varW_new w5)
  have HD6 := hide (HD5.out.below (varW_below w5 kn1))
  have HB6 := hide (varW_blk w5 kn1)
  have HRD := hide (ds_read HD6 (by rw [HAP.out.2.2]; exact Nat.zero_le _) 1)
  rw [HAP.out.2.1] at HRD
  go_wp2_with (first | ((with_reducible show wpList _ _ _ (⟨none, _, _, _, _, _⟩ :: _) _ _); refine wpList_store_row rfl _ _ _ rfl w5.heap.size kn1.cells.toArray rfl rfl 28 _ HZ6.out (ent_info _) rfl (by kernel_rfl) ?_; change wpList _ _ _ _ _ (varW w5 kn1); generalize varW w5 kn1 = w6 at *))
  refine HRD.out.mono ?_
  rintro r _ ⟨rfl, rfl⟩
  go_wp2_with fail
  refine (eParse_calls kn1.block w6).mono ?_
  rintro r w7 ⟨rfl, hb7⟩
  rw [HPB.out.1, HPB.out.2]
  have HD7 := hide (HD6.below hb7)
  have HB7 := hide (HB6.out.below hb7 HB6.out.lt)
  clear hb7
  have HZ10 := hide (varW_new w7)
  have HD8 := hide (HD7.out.below (varW_below w7 kn1))
  have HB8 := hide (HB7.out.below (varW_below w7 kn1) HB7.out.lt)
  have HX8 := hide (varW_blk w7 kn1)
  go_wp2_with (first | ((with_reducible show wpList _ _ _ (⟨some 48, _, _, _, _, _⟩ :: _) _ _); refine wpList_build rfl _ _ rfl (by kernel_rfl) ?_) | ((with_reducible show wpList _ _ _ (⟨none, _, _, _, _, _⟩ :: _) _ _); refine wpList_store_row rfl _ _ _ rfl w7.heap.size kn1.cells.toArray rfl rfl 28 _ HZ10.out (ent_info _) rfl (by kernel_rfl) ?_; change wpList _ _ _ _ _ (varW w7 kn1); generalize varW w7 kn1 = w8 at *))
  refine (eBuild_calls EntM.zero w8).mono ?_
  rintro r w9 ⟨rfl, hb9⟩
  have HB9 := hide (HB8.out.below hb9 HB8.out.lt)
  have HX9 := hide (HX8.out.below hb9 HX8.out.lt)
  have HD9 := hide (HD8.below hb9)
  clear hb9
  rw [show buildE EntM.zero = 1 from rfl]
  obtain ⟨x0, x1, x2, x3, x4⟩ := ent_all HB9.out
  go_wp2_with (first | ((with_reducible show wpList _ _ _ (⟨some 75, _, _, _, _, _⟩ :: _) _ _); refine wpList_want_row rfl _ _ rfl _ rfl 28 _ (0, 0) _ HX9.out Try.underlying28 rfl (ent_info _) ?_) | ((with_reducible show wpList _ _ _ (⟨some 76, _, _, _, _, _⟩ :: _) _ _); refine wpList_want_row rfl _ _ rfl _ rfl 28 _ (0, 0) _ HB9.out Try.underlying28 rfl (ent_info _) ?_) | ((with_reducible show wpList _ _ _ (⟨some 77, _, _, _, _, _⟩ :: _) _ _); refine wpList_want_wp rfl (fun _ hK => ent_eq_op rfl rfl rfl hK) ?_))
  go_ret
  exact ⟨rfl, HD9.out.1⟩
end Go.Proofs.Ytmbkncckcpgdgaa
