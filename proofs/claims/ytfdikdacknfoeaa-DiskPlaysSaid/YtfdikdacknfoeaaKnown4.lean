/- known, of the statements of layer 4, comes to true. -/
import Derived.Test.YtfdikdacknfoeaaDiskS
namespace Go.Proofs.Ytfdikdacknfoeaa
open Go.RowKit Zb

def kA : ByteArray := fullB 97
def kD1 : DiskM := ((DiskM.new 16).write 3 kA).1
def kD2 : DiskM := (kD1.write 3 (fullB 98)).1
def kD3 : DiskM := (kD2.fail 1).start
def kD4 : DiskM := (kD3.plan 1 0).1
def kD5 : DiskM := (kD4.write 4 kA).1
theorem k1 : ((DiskM.new 16).write 3 kA).2 = 0 := by kernel_rfl
theorem k2 : (kD1.write 3 (fullB 98)).2 = 0 := by kernel_rfl
theorem k3 : (kD2.fail 1).off = true := by kernel_rfl
theorem k4 : kD3.read 3 = (kA, 0) := by kernel_rfl
theorem k5 : (kD4.write 4 kA).2 = 0 := by kernel_rfl
theorem k6 : kD5.sync.2 = 7 := by kernel_rfl
theorem k7 : kD5.sync.1.off = true := by kernel_rfl
theorem kw1 : kD1.waits.length = 1 := by kernel_rfl
theorem kw2 : kD2.waits.length = 2 := by kernel_rfl
theorem kw3 : kD3.waits.length = 0 := by kernel_rfl
theorem kw4 : kD4.waits.length = 0 := by kernel_rfl
theorem kw5 : kD5.waits.length = 1 := by kernel_rfl
theorem k9 : (kD3.plan 1 0).2 = 0 := by kernel_rfl
theorem k8 : kD5.sync.1.lasts.length = 16 := by kernel_rfl

theorem lknown4_calls (w : World) : Calls Try.prog 18 #[] w fun e w' => e = .returned (.bool true) ∧ Below w.heap.size w w' := by
  go_enter Try.func18, Try.ntmps18
  go_wp2_with fail
  refine (ds_new (B := w.heap.size) (w0 := w) 16 (by omega) (by omega) (Below.refl _ _) (Nat.le_refl _)).mono ?_
  rintro e w1 ⟨b, rfl, h1⟩
  go_wp2_with fail
  refine (dnew_bad 15 (by omega) _).mono ?_
  rintro e w' ⟨rfl, rfl⟩
  go_wp2_with fail
  refine (lFull_calls 97 _).mono ?_
  rintro e w2 ⟨rfl, hb2⟩
  have h2 := h1.below hb2
  clear h1 hb2
  go_wp2_with fail
  refine (ds_write h2 (by simp [DiskM.new]) 3 _).mono ?_
  rintro e w3 ⟨rfl, h3⟩
  clear h2
  rw [show ((DiskM.new 16).write 3 (fullB 97)).2 = 0 from k1]
  go_wp2_with fail
  refine (lFull_calls 98 _).mono ?_
  rintro e w4 ⟨rfl, hb4⟩
  have h4 := h3.below hb4
  clear h3 hb4
  go_wp2_with fail
  refine (ds_write (D := kD1) h4 (by rw [kw1]; omega) 3 _).mono ?_
  rintro e w5 ⟨rfl, h5⟩
  clear h4
  rw [k2]
  go_wp2_with fail
  refine (ds_fail (D := kD2) h5 (by rw [kw2]; omega) 1).mono ?_
  rintro e w6 ⟨rfl, h6⟩
  clear h5
  go_wp2_with fail
  refine (ds_on h6).mono ?_
  rintro e w' ⟨rfl, rfl⟩
  rw [k3]
  go_wp2_with fail
  refine (ds_start h6).mono ?_
  rintro e w7 ⟨rfl, h7⟩
  clear h6
  go_wp2_with fail
  refine (ds_read (D := kD3) h7 (by rw [kw3]; omega) 3).mono ?_
  rintro e w' ⟨rfl, rfl⟩
  rw [k4]
  go_wp2_with fail
  refine (ds_plan (D := kD3) h7 1 0).mono ?_
  rintro e w8 ⟨rfl, h8⟩
  clear h7
  rw [k9]
  go_wp2_with fail
  refine (ds_write (D := kD4) h8 (by rw [kw4]; omega) 4 _).mono ?_
  rintro e w9 ⟨rfl, h9⟩
  clear h8
  rw [show (kD4.write 4 (fullB 97)).2 = 0 from k5]
  go_wp2_with fail
  refine (ds_sync (D := kD5) h9 (by rw [kw5]; omega)).mono ?_
  rintro e w10 ⟨rfl, h10⟩
  clear h9
  rw [k6]
  go_wp2_with fail
  refine (ds_on h10).mono ?_
  rintro e w' ⟨rfl, rfl⟩
  rw [k7]
  go_wp2_with fail
  refine (ds_blocks h10).mono ?_
  rintro e w' ⟨rfl, rfl⟩
  rw [k8]
  go_wp2_with fail
  go_ret
  exact ⟨rfl, h10.out.1⟩
end Go.Proofs.Ytfdikdacknfoeaa
