/- Chapter 1: OctetPuts, OctetGets, OctetTexts, OctetLow come to true. -/
import Derived.Test.YtaiedfimdjdoaaaOctK
import Derived.Test.YtaiedfimdjdoaaaHeld
import Derived.OpenShut
namespace Go.Proofs.Ytaiedfimdjdoaaa
open Go.RowKit Zb

set_option maxRecDepth 100000 in
theorem OctetPuts_walk (n width : Int) (w : World) (w0 : (Lit.int .i64 n).wf = true) (_ : (Lit.int .i64 width).wf = true) : Calls Try.prog 3 #[.int .i64 n, .int .i64 width] w fun e w' => e = .returned (.bool true) ∧ Below w.heap.size w w' := by
  have h := bounds_i64 w0
  have H1 := hide (oPut_calls n (by omega) (by omega) width)
  have H2 := hide (roPut_calls n (by omega) (by omega) width)
  clear h w0
  go_enter Try.func3, Try.ntmps3
  go_wp2_with fail
  refine (H1.out _).mono ?_
  rintro e w1 ⟨rfl, hb1⟩
  have T1 := hide hb1
  clear hb1
  go_wp2_with fail
  refine (H2.out _).mono ?_
  rintro e w2 ⟨rfl, hb2⟩
  have T2 := hide (T1.out.trans (hb2.mono T1.out.size))
  clear hb2 T1 H1 H2
  generalize putB n width = b
  generalize putE n width = f
  go_wp2_with fail
  refine (lknown1_calls _).mono ?_
  rintro e w3 ⟨rfl, hb3⟩
  have T3 := hide (T2.out.trans (hb3.mono T2.out.size))
  clear hb3 T2
  go_wp2_with fail
  go_ret
  exact ⟨rfl, T3.out⟩

set_option maxRecDepth 100000 in
theorem OctetGets_walk (s : ByteArray) (at_ width : Int) (w : World) (hs : s.size ≤ 140737488351232) (w1 : (Lit.int .i64 at_).wf = true) (_ : (Lit.int .i64 width).wf = true) : Calls Try.prog 4 #[.string s, .int .i64 at_, .int .i64 width] w fun e w' => e = .returned (.bool true) ∧ Below w.heap.size w w' := by
  have h := bounds_i64 w1
  have H1 := hide (oGet_calls s hs at_ width (by omega) (by omega))
  have H2 := hide (roGet_calls s hs at_ width (by omega) (by omega))
  have H3 := hide (oNext_calls s hs at_ (by omega) (by omega))
  have H4 := hide (roNext_calls s hs at_ (by omega) (by omega))
  clear h w1 hs
  by_cases hl : 100000 < s.size
  · go_enter Try.func4, Try.ntmps4
    go_wp2_with fail
    refine (lknown1_calls _).mono ?_
    rintro e w3 ⟨rfl, hb3⟩
    have T3 := hide hb3
    clear hb3
    go_wp2_with fail
    go_ret
    exact ⟨rfl, T3.out⟩
  · go_enter Try.func4, Try.ntmps4
    go_wp2_with fail
    refine (H1.out _).mono ?_
    rintro e w1 ⟨rfl, rfl⟩
    go_wp2_with fail
    refine (H2.out _).mono ?_
    rintro e w1 ⟨rfl, rfl⟩
    go_wp2_with fail
    refine (H3.out _).mono ?_
    rintro e w1 ⟨rfl, rfl⟩
    go_wp2_with fail
    refine (H4.out _).mono ?_
    rintro e w1 ⟨rfl, rfl⟩
    clear H1 H2 H3 H4
    generalize getN s at_ width = b
    generalize getE s at_ width = f
    generalize nextM s at_ = r
    obtain ⟨r1, r2, r3⟩ := r
    go_wp2_with fail
    refine (lknown1_calls _).mono ?_
    rintro e w3 ⟨rfl, hb3⟩
    have T3 := hide hb3
    clear hb3
    go_wp2_with fail
    go_ret
    exact ⟨rfl, T3.out⟩

set_option maxRecDepth 100000 in
theorem OctetTexts_walk (s : ByteArray) (w : World) (hs : s.size ≤ 140737488351232) : Calls Try.prog 5 #[.string s] w fun e w' => e = .returned (.bool true) ∧ Below w.heap.size w w' := by
  by_cases hl : 20000 < s.size
  · clear hs
    go_enter Try.func5, Try.ntmps5
    go_wp2_with fail
    refine (lknown1_calls _).mono ?_
    rintro e w3 ⟨rfl, hb3⟩
    have T3 := hide hb3
    clear hb3
    go_wp2_with fail
    go_ret
    exact ⟨rfl, T3.out⟩
  · have H1 := hide (oUnhex_calls s (by omega))
    have H2 := hide (roUnhex_calls s (by omega))
    have H3 := hide (oText_calls s hs)
    have H4 := hide (roText_calls s hs)
    have H5 := hide (oHex_calls s (by omega))
    have H6 := hide (roHex_calls s (by omega))
    clear hs
    go_enter Try.func5, Try.ntmps5
    go_wp2_with fail
    refine (H1.out _).mono ?_
    rintro e w1 ⟨rfl, hb1⟩
    have T1 := hide hb1
    clear hb1
    go_wp2_with fail
    refine (H2.out _).mono ?_
    rintro e w2 ⟨rfl, hb2⟩
    have T2 := hide (T1.out.trans (hb2.mono T1.out.size))
    clear hb2 T1
    go_wp2_with fail
    refine (H3.out _).mono ?_
    rintro e w3 ⟨rfl, hb3⟩
    have T3 := hide (T2.out.trans (hb3.mono T2.out.size))
    clear hb3 T2
    go_wp2_with fail
    refine (H4.out _).mono ?_
    rintro e w4 ⟨rfl, hb4⟩
    have T4 := hide (T3.out.trans (hb4.mono T3.out.size))
    clear hb4 T3
    go_wp2_with fail
    refine (H5.out _).mono ?_
    rintro e w5 ⟨rfl, hb5⟩
    have T5 := hide (T4.out.trans (hb5.mono T4.out.size))
    clear hb5 T4
    go_wp2_with fail
    refine (H6.out _).mono ?_
    rintro e w6 ⟨rfl, hb6⟩
    have T6 := hide (T5.out.trans (hb6.mono T5.out.size))
    clear hb6 T5 H1 H2 H3 H4 H5 H6
    go_wp2_with fail
    refine (lknown1_calls _).mono ?_
    rintro e w7 ⟨rfl, hb7⟩
    have T7 := hide (T6.out.trans (hb7.mono T6.out.size))
    clear hb7 T6
    go_wp2_with fail
    go_ret
    exact ⟨rfl, T7.out⟩
end Go.Proofs.Ytaiedfimdjdoaaa
