/- Chapter 5: known, walked. -/
import Derived.Test.YtacbnoagdlelgaaRg2
import Derived.Test.YtacbnoagdlelgaaRingQ
import Derived.Test.YtacbnoagdlelgaaRingR
import Derived.Test.YtacbnoagdlelgaaDiskS
namespace Go.Proofs.Ytacbnoagdlelgaa
open Go.RowKit Zb

def kn0 : EntM := ⟨1, 0, 0, 5, sumB 7⟩
def kn1 : EntM := ⟨1, 1, 0, 5, sumB 7⟩
set_option maxRecDepth 20000 in
theorem kn1_right : RightE kn1 := ⟨by decide, by decide, by decide, by decide, by decide, by decide, by decide, by decide, rfl⟩
set_option maxRecDepth 20000 in
theorem kn_app : (appendM (DiskM.new 16) kn0).2 = (kn1, 0) ∧ (appendM (DiskM.new 16) kn0).1.read 1 = (kn1.block, 0) ∧ (appendM (DiskM.new 16) kn0).1.waits = [] := by
  have h := calm_append calm_new kn0 (E := kn1) (by rw [last_new.1]; rfl) kn1_right
  refine ⟨h.1, ?_, h.2.1.wts⟩
  have hr := h.2.1.read (i := 1) (by omega)
  rw [h.2.2] at hr
  rw [show ((1 : Nat) : Int) = 1 from rfl] at hr
  rw [hr]
  rfl
section
variable {B b : Nat} {w0 w : World} {D : DiskM}
set_option maxRecDepth 20000 in
theorem ds_scan (h : Hid (DS B w0 w b D)) (hW : D.waits.length ≤ 4294967290) : Calls Try.prog 35 #[.pointer (some ⟨b, 0, none⟩)] w (ScanPost 59 w D) := by
  obtain ⟨h1, h2, F, hF, hd⟩ := h
  exact eScan_calls hd hW
set_option maxRecDepth 20000 in
theorem ds_last (h : Hid (DS B w0 w b D)) (hW : D.waits.length ≤ 4294967290) : Calls Try.prog 21 #[.pointer (some ⟨b, 0, none⟩)] w (LastPost w D) := by
  obtain ⟨h1, h2, F, hF, hd⟩ := h
  exact eLast_calls hd hW
set_option maxRecDepth 20000 in
theorem ds_append (h : Hid (DS B w0 w b D)) (hW : D.waits.length ≤ 4294967200) (e : EntM) : Calls Try.prog 28 #[.pointer (some ⟨b, 0, none⟩), .agg #[.int .i64 e.kind, .int .i64 e.number, .int .i64 e.slot, .int .i64 e.size, .string e.sum]] w fun r w' => r = .returned (.tuple #[.agg (appendM D e).2.1.cells.toArray, .int .i64 (appendM D e).2.2]) ∧ Hid (DS B w0 w' b (appendM D e).1) := by
  obtain ⟨h1, h2, F, hF, hd⟩ := h
  exact (eAppend_calls hd hW e).mono fun e w' hp => DS.post h1 h2 hF hp
end
end Go.Proofs.Ytacbnoagdlelgaa
