/- DiskNil, walked: a disk that is not there has no block. -/
import Derived.Test.YtfdikdacknfoeaaDiskN
namespace Go.Proofs.Ytfdikdacknfoeaa
open Go.RowKit Zb

set_option maxHeartbeats 1000000 in
theorem DiskNil_walk (a0 : Int) (a1 : ByteArray) (a2 : Int) (w : World) (w0 : (Lit.int .i64 a0).wf = true) (_w1 : a1.size ≤ 140737488351232) (_w2 : (Lit.int .u64 a2).wf = true) :
    Calls Try.prog 7 #[.int .i64 a0, .string a1, .int .u64 a2] w fun e w' => e = .returned (.bool true) ∧ Below w.heap.size w w' := by
  have hb := bounds_i64 w0
  have hb1 := hb.1
  have hb2 := hb.2
  clear w0 hb
  have HB := hide (Below.refl w.heap.size w)
  have hb1 := hide hb1
  have hb2 := hide hb2
  go_enter Try.func7, Try.ntmps7
  go_wp2_with fail
  refine (dfail_nil _ _).mono ?_
  rintro e w2 ⟨rfl, hb2b⟩
  have hn := Blk.new w 62 #[.slice none 0 0, .slice none 0 0, .map none, .bool false, .int .i64 0, .bool false, .int .i64 0, .int .u64 0]
  have hz2 : w2.cell? ⟨w.heap.size, 2, none⟩ = some (.map none) := (hn.below hb2b (by simp)).cell 2
  have HB2 := hide ((HB.out.alloc (Nat.le_refl _) _).trans (hb2b.mono (by simp)))
  clear hn hb2b HB
  generalize hq : w.heap.size = q at *
  go_wp2_with fail
  refine (dstart_nil _).mono ?_
  rintro e w' ⟨rfl, rfl⟩
  go_wp2_with fail
  refine (dstart_zero _ _ hz2).mono ?_
  rintro e w' ⟨rfl, rfl⟩
  go_wp2_with fail
  refine (dread_nil _ _).mono ?_
  rintro e w' ⟨rfl, rfl⟩
  go_wp2_with fail
  refine (dread_zero _ _ hz2 _).mono ?_
  rintro e w' ⟨rfl, rfl⟩
  go_wp2_with fail
  refine (dwrite_nil _ _ _).mono ?_
  rintro e w' ⟨rfl, rfl⟩
  go_wp2_with fail
  refine (dwrite_zero _ _ hz2 _ _).mono ?_
  rintro e w' ⟨rfl, rfl⟩
  go_wp2_with fail
  refine (dsync_nil _).mono ?_
  rintro e w' ⟨rfl, rfl⟩
  go_wp2_with fail
  refine (dsync_zero _ _ hz2).mono ?_
  rintro e w' ⟨rfl, rfl⟩
  go_wp2_with fail
  refine (wCount_calls a0 9 hb1.out hb2.out (by omega) (by omega) _).mono ?_
  rintro e w' ⟨rfl, rfl⟩
  go_wp2_with fail
  refine (dplan_nil _ _ _).mono ?_
  rintro e w' ⟨rfl, rfl⟩
  go_wp2_with fail
  refine (don_nil _).mono ?_
  rintro e w' ⟨rfl, rfl⟩
  go_wp2_with fail
  refine (don_zero _ _ hz2).mono ?_
  rintro e w' ⟨rfl, rfl⟩
  go_wp2_with fail
  refine (dops_nil _).mono ?_
  rintro e w' ⟨rfl, rfl⟩
  go_wp2_with fail
  refine (dwaits_nil _).mono ?_
  rintro e w' ⟨rfl, rfl⟩
  go_wp2_with fail
  refine (dblocks_nil _).mono ?_
  rintro e w' ⟨rfl, rfl⟩
  go_wp2_with fail
  refine (dcopy_nil _).mono ?_
  rintro e w' ⟨rfl, rfl⟩
  go_wp2_with fail
  refine (dcopy_zero _ _ hz2).mono ?_
  rintro e w' ⟨rfl, rfl⟩
  go_wp2_with fail
  refine (lknown4_calls _).mono ?_
  rintro e w3 ⟨rfl, h3⟩
  go_wp2_with fail
  go_ret
  refine ⟨rfl, ?_⟩
  rw [hq]
  have hs : q ≤ w2.heap.size := by have := HB2.out.size; omega
  exact HB2.out.trans (h3.mono hs)
end Go.Proofs.Ytfdikdacknfoeaa
