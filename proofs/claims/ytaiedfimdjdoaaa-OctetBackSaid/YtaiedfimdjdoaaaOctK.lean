/- Chapter 1: what must come of fixed calls. -/
import Derived.Test.YtaiedfimdjdoaaaOctG
namespace Go.Proofs.Ytaiedfimdjdoaaa
open Go.RowKit Zb

set_option maxRecDepth 100000 in
set_option maxHeartbeats 1000000 in
theorem lknown1_calls (w : World) : Calls Try.prog 11 #[] w fun e w' => e = .returned (.bool true) ∧ Below w.heap.size w w' := by
  go_enter Try.func11, Try.ntmps11
  go_wp2_with fail
  refine (oPut_calls 258 (by omega) (by omega) 2 _).mono ?_
  rintro e w1 ⟨rfl, hb1⟩
  rw [show putB 258 2 = ⟨#[2, 1]⟩ by decide +kernel, show putE 258 2 = 0 by decide +kernel]
  have T1 := hide hb1
  clear hb1
  go_wp2_with fail
  refine (oPut_calls 256 (by omega) (by omega) 1 _).mono ?_
  rintro e w2 ⟨rfl, hb2⟩
  rw [show putB 256 1 = ⟨#[]⟩ by decide +kernel, show putE 256 1 = 1 by decide +kernel]
  have T2 := hide (T1.out.trans (hb2.mono T1.out.size))
  clear hb2 T1
  go_wp2_with fail
  refine (oGet_calls ⟨#[120, 2, 1]⟩ (by decide +kernel) 1 2 (by omega) (by omega) _).mono ?_
  rintro e w3 ⟨rfl, rfl⟩
  rw [show getN ⟨#[120, 2, 1]⟩ 1 2 = 258 by decide +kernel, show getE ⟨#[120, 2, 1]⟩ 1 2 = 0 by decide +kernel]
  go_wp2_with fail
  refine (oText_calls ⟨#[97, 98]⟩ (by decide +kernel) _).mono ?_
  rintro e w3 ⟨rfl, hb3⟩
  rw [show textB ⟨#[97, 98]⟩ = ⟨#[2, 0, 0, 0, 97, 98]⟩ by decide +kernel]
  have T3 := hide (T2.out.trans (hb3.mono T2.out.size))
  clear hb3 T2
  go_wp2_with fail
  refine (oNext_calls _ (by decide +kernel) 0 (by omega) (by omega) _).mono ?_
  rintro e w4 ⟨rfl, rfl⟩
  rw [show nextM (⟨#[2, 0, 0, 0, 97, 98]⟩ ++ ⟨#[99]⟩) 0 = (⟨#[97, 98]⟩, 6, 0) by decide +kernel]
  go_wp2_with fail
  refine (oUnhex_calls ⟨#[48, 102, 54, 49]⟩ (by decide +kernel) _).mono ?_
  rintro e w4 ⟨rfl, hb4⟩
  rw [show unhexB ⟨#[48, 102, 54, 49]⟩ = ⟨#[15, 97]⟩ by decide +kernel, show unhexE ⟨#[48, 102, 54, 49]⟩ = 0 by decide +kernel]
  have T4 := hide (T3.out.trans (hb4.mono T3.out.size))
  clear hb4 T3
  go_wp2_with fail
  refine (oHex_calls ⟨#[15, 97]⟩ (by decide +kernel) _).mono ?_
  rintro e w5 ⟨rfl, hb5⟩
  rw [show (⟨(hexL (⟨#[15, 97]⟩ : ByteArray).data.toList).toArray⟩ : ByteArray) = ⟨#[48, 102, 54, 49]⟩ by decide +kernel]
  have T5 := hide (T4.out.trans (hb5.mono T4.out.size))
  clear hb5 T4
  go_wp2_with fail
  go_ret
  exact ⟨rfl, T5.out⟩
end Go.Proofs.Ytaiedfimdjdoaaa
