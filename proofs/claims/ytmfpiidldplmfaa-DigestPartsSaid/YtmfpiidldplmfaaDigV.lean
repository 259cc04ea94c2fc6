/- Chapter 2: DigestOf, DigestNil come to true. -/
import Derived.Test.YtmfpiidldplmfaaDigU
import Derived.OpenShut
namespace Go.Proofs.Ytmfpiidldplmfaa
open Go.RowKit Zb

theorem DigestOf_walk (s : ByteArray) (w : World) (_ : s.size ≤ 140737488351232) : Calls Try.prog 3 #[.string s] w fun e w' => e = .returned (.bool true) ∧ Below w.heap.size w w' := by
  by_cases hs : 3000 < s.size
  · have hsI : (3000 : Int) < (s.size : Int) := by omega
    clear hs
    go_enter Try.func3, Try.ntmps3
    go_wp2_with fail
    refine (lknown2_calls _).mono ?_
    rintro e w3 ⟨rfl, hb3⟩
    have T3 := hide hb3
    clear hb3
    go_wp2_with fail
    go_ret
    exact ⟨rfl, T3.out⟩
  · have hsI : (s.size : Int) ≤ 3000 := by omega
    have hsN : s.size ≤ 50000000000 := by omega
    clear hs
    go_enter Try.func3, Try.ntmps3
    go_wp2_with fail
    refine (gOf_calls s hsN _).mono ?_
    rintro e w1 ⟨rfl, hb1⟩
    have T1 := hide hb1
    clear hb1
    go_wp2_with fail
    refine (rgOf_calls s hsN _).mono ?_
    rintro e w2 ⟨rfl, hb2⟩
    have T2 := hide (T1.out.trans (hb2.mono T1.out.size))
    clear hb2 T1
    go_wp2_with fail
    refine (lknown2_calls _).mono ?_
    rintro e w3 ⟨rfl, hb3⟩
    have T3 := hide (T2.out.trans (hb3.mono T2.out.size))
    clear hb3 T2
    go_wp2_with fail
    go_ret
    exact ⟨rfl, T3.out⟩

/-- a Hash that is not there -/
def NoHash (w : World) (p : Value) : Prop := p = .pointer none ∨ ∃ b, p = .pointer (some ⟨b, 0, none⟩) ∧ w.cell? ⟨b, 0, none⟩ = some (.bool false)
theorem NoHash.below {w w' : World} {p : Value} (h : NoHash w p) (hb : Below w.heap.size w w') : NoHash w' p := by
  rcases h with h | ⟨b, h, hc⟩
  · exact .inl h
  · exact .inr ⟨b, h, (hb.cell (p := ⟨b, 0, none⟩) (lt_of_cell hc)).trans hc⟩
theorem gthere_no {w : World} {p : Value} (h : NoHash w p) : Calls Try.prog 21 #[p] w fun e w' => e = .returned (.bool false) ∧ w = w' := by
  rcases h with rfl | ⟨b, rfl, hc⟩
  · exact gthere_nil w
  · exact gthere_calls b false w hc
theorem gWrite_no {w : World} {p : Value} (h : NoHash w p) (s : ByteArray) : Calls Try.prog 12 #[p, .string s] w fun e w' => e = .returned (.tuple #[]) ∧ w = w' := by
  have H := hide (gthere_no h)
  clear h
  go_enter Try.func12, Try.ntmps12
  go_wp2_with fail
  refine H.out.mono ?_
  rintro e w' ⟨rfl, rfl⟩
  go_wp2_with fail
  refine bodyPost_ret (results_none rfl _ _ _) rfl ?_
  exact ⟨rfl, rfl⟩
theorem gSum_no {w : World} {p : Value} (h : NoHash w p) : Calls Try.prog 13 #[p] w fun e w' => e = .returned (.string ⟨#[]⟩) ∧ w = w' := by
  have H := hide (gthere_no h)
  clear h
  go_enter Try.func13, Try.ntmps13
  go_wp2_with fail
  refine H.out.mono ?_
  rintro e w' ⟨rfl, rfl⟩
  go_wp2_with fail
  go_ret
  exact ⟨rfl, rfl⟩
theorem gCopy_no {w : World} {p : Value} (h : NoHash w p) : Calls Try.prog 11 #[p] w fun e w' => e = .returned (.pointer none) ∧ w = w' := by
  have H := hide (gthere_no h)
  clear h
  go_enter Try.func11, Try.ntmps11
  go_wp2_with fail
  refine H.out.mono ?_
  rintro e w' ⟨rfl, rfl⟩
  go_wp2_with fail
  go_ret
  exact ⟨rfl, rfl⟩
theorem gLen_no {w : World} {p : Value} (h : NoHash w p) : Calls Try.prog 14 #[p] w fun e w' => e = .returned (.int .i64 0) ∧ w = w' := by
  have H := hide (gthere_no h)
  clear h
  go_enter Try.func14, Try.ntmps14
  go_wp2_with fail
  refine H.out.mono ?_
  rintro e w' ⟨rfl, rfl⟩
  go_wp2_with fail
  go_ret
  exact ⟨rfl, rfl⟩
set_option maxRecDepth 20000 in
theorem DigestNil_walk (s : ByteArray) (w : World) (_ : s.size ≤ 140737488351232) : Calls Try.prog 6 #[.string s] w fun e w' => e = .returned (.bool true) ∧ Below w.heap.size w w' := by
  have HB := hide ((Below.refl w.heap.size w).alloc (Nat.le_refl _) (.cells hzero 38))
  have HN : ∀ w, NoHash w (.pointer none) := fun _ => .inl rfl
  have HZ : Hid (NoHash (w.alloc (.cells hzero 38)) (.pointer (some ⟨w.heap.size, 0, none⟩))) := hide (.inr ⟨_, rfl, (Blk.new w 38 hzero).cell 0⟩)
  have HNil := hide HN
  clear HN
  go_enter Try.func6, Try.ntmps6
  go_wp2_with fail
  refine (gWrite_no (HNil.out _) s).mono ?_
  rintro e w1 ⟨rfl, rfl⟩
  go_wp2_with fail
  refine (gWrite_no HZ.out s).mono ?_
  rintro e W ⟨rfl, hW⟩
  have HB2 : Hid (Below w.heap.size w W) := hide (by rw [← hW]; exact HB.out)
  have HZ2 : Hid (NoHash W (.pointer (some ⟨w.heap.size, 0, none⟩))) := hide (by rw [← hW]; exact HZ.out)
  clear hW HB HZ
  go_wp2_with fail
  refine (gSum_no (HNil.out _)).mono ?_
  rintro e w1 ⟨rfl, rfl⟩
  go_wp2_with fail
  refine (gSum_no HZ2.out).mono ?_
  rintro e w1 ⟨rfl, rfl⟩
  go_wp2_with fail
  refine (gLen_no (HNil.out _)).mono ?_
  rintro e w1 ⟨rfl, rfl⟩
  go_wp2_with fail
  refine (gLen_no HZ2.out).mono ?_
  rintro e w1 ⟨rfl, rfl⟩
  go_wp2_with fail
  refine (gCopy_no (HNil.out _)).mono ?_
  rintro e w1 ⟨rfl, rfl⟩
  go_wp2_with fail
  refine (gCopy_no HZ2.out).mono ?_
  rintro e w1 ⟨rfl, rfl⟩
  go_wp2_with fail
  refine (lknown2_calls _).mono ?_
  rintro e w3 ⟨rfl, hb3⟩
  have T3 := hide (HB2.out.trans (hb3.mono HB2.out.size))
  clear hb3
  go_wp2_with fail
  go_ret
  exact ⟨rfl, T3.out⟩
end Go.Proofs.Ytmfpiidldplmfaa
