/- Chapter 6: slots without a disk; known; SlotsNil comes to true. -/
import Derived.Test.YtpcceinjifdgnaaSlotE
import Derived.OpenShut
namespace Go.Proofs.Ytpcceinjifdgnaa
open Go.RowKit Zb

abbrev DS6 (w : World) (b : Nat) (D : DiskM) (wr : World) : Prop := DSt (fun _ => False) w b D wr
theorem DS6.bel {w wr : World} {b : Nat} {D : DiskM} (h : DS6 w b D wr) : Below w.heap.size w wr := h.1.below (Nat.le_refl _) (fun _ h => h.elim)
theorem ds6_new (n : Nat) (h0 : 16 ≤ n) (h1 : n ≤ 512) (w : World) : Calls Try.prog 11 #[.int .i64 n] w fun e w' => ∃ b, e = .returned (.tuple #[.pointer (some ⟨b, 0, none⟩), .int .i64 0]) ∧ Hid (DS6 w b (DiskM.new n) w') := by
  refine (dnew_calls n h0 h1 w).mono ?_
  rintro e w' ⟨b, F, rfl, hb, hF, hd⟩
  exact ⟨b, rfl, hide ⟨Turned.of_below hb, F, fun x hx => .inr (hF x hx), hd⟩⟩
theorem dblocks_nil6 (w : World) : Calls Try.prog 40 #[.pointer none] w fun e w' => e = .returned (.int .i64 0) ∧ w = w' := by
  go_enter Try.func40, Try.ntmps40
  go_wp2_with fail
  refine (dthere_nil _).mono ?_
  rintro e w' ⟨rfl, rfl⟩
  go_wp2_with fail
  go_ret
  exact ⟨rfl, rfl⟩
theorem sblocks_nil (w : World) : Calls Try.prog 31 #[.pointer none] w fun e w' => e = .returned (.int .i64 0) ∧ w = w' := by
  go_enter Try.func31, Try.ntmps31
  go_wp2_with fail
  refine (dblocks_nil6 _).mono ?_
  rintro e w' ⟨rfl, rfl⟩
  go_wp2_with fail
  go_ret
  exact ⟨rfl, rfl⟩
theorem sRoom_nil (w : World) : Calls Try.prog 15 #[.pointer none] w fun e w' => e = .returned (.int .i64 0) ∧ w = w' := by
  go_enter Try.func15, Try.ntmps15
  go_wp2_with fail
  refine (sblocks_nil _).mono ?_
  rintro e w' ⟨rfl, rfl⟩
  go_wp2_with fail
  go_ret
  exact ⟨rfl, rfl⟩
theorem swrong_nil (slot : Int) (w : World) : Calls Try.prog 25 #[.pointer none, .int .i64 slot] w fun e w' => e = .returned (.int .i64 16) ∧ w = w' := by
  go_enter Try.func25, Try.ntmps25
  go_wp2_with fail
  refine (dblocks_nil6 _).mono ?_
  rintro e w' ⟨rfl, rfl⟩
  go_wp2_with fail
  go_ret
  exact ⟨rfl, rfl⟩
theorem sRead_nil (slot size : Int) (w : World) : Calls Try.prog 9 #[.pointer none, .int .i64 slot, .int .i64 size] w fun e w' => e = .returned (.tuple #[.string ⟨#[]⟩, .int .i64 16]) ∧ w = w' := by
  go_enter Try.func9, Try.ntmps9
  go_wp2_with fail
  refine (swrong_nil _ _).mono ?_
  rintro e w' ⟨rfl, rfl⟩
  go_wp2_with fail
  go_ret2
  exact ⟨rfl, rfl⟩
theorem sWrite_nil (slot : Int) (s : ByteArray) (w : World) : Calls Try.prog 10 #[.pointer none, .int .i64 slot, .string s] w fun e w' => e = .returned (.int .i64 16) ∧ w = w' := by
  go_enter Try.func10, Try.ntmps10
  go_wp2_with fail
  refine (swrong_nil _ _).mono ?_
  rintro e w' ⟨rfl, rfl⟩
  go_wp2_with fail
  go_ret
  exact ⟨rfl, rfl⟩

def k6D : DiskM := (slotWrite (DiskM.new 16) 1 ⟨#[97, 98]⟩).1
theorem k6a : slotWrite (DiskM.new 16) 1 ⟨#[97, 98]⟩ = (k6D, 0) := by kernel_rfl
theorem k6b : slotRead k6D 1 2 = (⟨#[97, 98]⟩, 0) := by kernel_rfl
theorem k6c : k6D.read 12 = (blockB ⟨#[97, 98]⟩ 0, 0) := by kernel_rfl
theorem k6d : (blockB ⟨#[97, 98]⟩ 0).extract 0 3 = ⟨#[97, 98, 0]⟩ := by kernel_rfl
theorem k6e : slotN k6D = 4 := by kernel_rfl
theorem k6f : slotWrite k6D 2 ⟨#[97]⟩ = (k6D, 1) := by kernel_rfl
theorem k6w : k6D.waits.length = 0 := by kernel_rfl
theorem k6full : Full64 k6D := by
  have h : (writeLoop (DiskM.new 16) 12 (blocksB ⟨#[97, 98]⟩)).1 = k6D := by kernel_rfl
  have h2 : writeLoop (DiskM.new 16) 12 (blocksB ⟨#[97, 98]⟩) = ((DiskM.new 16).write 12 (blockB ⟨#[97, 98]⟩ 0)).1.sync := by kernel_rfl
  rw [← h, h2]
  exact ((Full64.new 16).write _ _).sync

set_option maxRecDepth 100000 in
set_option maxHeartbeats 1000000 in
theorem lknown6_calls (w : World) : Calls Try.prog 8 #[] w fun e w' => e = .returned (.bool true) ∧ Below w.heap.size w w' := by
  have hk3 := k6d
  go_enter Try.func8, Try.ntmps8
  go_wp2_with fail
  refine (ds6_new 16 (by omega) (by omega) w).mono ?_
  rintro e w1 ⟨b, rfl, h1⟩
  go_wp2_with fail
  refine (h1.out.op (fun G hG => sWrite_calls hG (by simp [DiskM.new]) 1 ⟨#[97, 98]⟩)).mono ?_
  rintro e w2 ⟨rfl, h2⟩
  rw [k6a] at h2 ⊢
  clear h1
  go_wp2_with fail
  obtain ⟨G2, hG2⟩ := h2.out.at_
  refine (sRead_calls hG2 k6full (by rw [k6w]; omega) 1 2).mono ?_
  rintro e w3 ⟨rfl, hb3⟩
  rw [k6b]
  have h3 := hide (h2.out.below hb3)
  clear hb3 h2 hG2
  go_wp2_with fail
  refine (h3.out.quiet (fun G hG => dread_calls hG (by rw [k6w]; omega) 12)).mono ?_
  rintro e w' ⟨rfl, rfl⟩
  rw [k6c]
  have hz := blockB_size ⟨#[97, 98]⟩ 0
  generalize blockB ⟨#[97, 98]⟩ 0 = bl at *
  go_wp2_with fail
  refine (h3.out.quiet (fun G hG => sRoom_calls hG)).mono ?_
  rintro e w' ⟨rfl, rfl⟩
  rw [k6e]
  go_wp2_with fail
  refine (h3.out.op (fun G hG => sWrite_calls hG (by rw [k6w]; omega) 2 ⟨#[97]⟩)).mono ?_
  rintro e w4 ⟨rfl, h4⟩
  rw [k6f] at h4 ⊢
  clear h3
  go_wp2_with fail
  refine (sRoom_nil _).mono ?_
  rintro e w' ⟨rfl, rfl⟩
  go_wp2_with fail
  go_ret
  exact ⟨rfl, DS6.bel h4.out⟩

set_option maxRecDepth 100000 in
theorem SlotsNil_walk (slot : Int) (s : ByteArray) (w : World) (_ : (Lit.int .i64 slot).wf = true) (_ : s.size ≤ 140737488351232) : Calls Try.prog 3 #[.int .i64 slot, .string s] w fun e w' => e = .returned (.bool true) ∧ Below w.heap.size w w' := by
  by_cases hl : 5000 < s.size
  · go_enter Try.func3, Try.ntmps3
    go_wp2_with fail
    refine (lknown6_calls _).mono ?_
    rintro e w3 ⟨rfl, hb3⟩
    have T3 := hide hb3
    clear hb3
    go_wp2_with fail
    go_ret
    exact ⟨rfl, T3.out⟩
  · go_enter Try.func3, Try.ntmps3
    go_wp2_with fail
    refine (sRead_nil _ _ _).mono ?_
    rintro e w' ⟨rfl, rfl⟩
    go_wp2_with fail
    refine (sWrite_nil _ _ _).mono ?_
    rintro e w' ⟨rfl, rfl⟩
    go_wp2_with fail
    refine (lknown6_calls _).mono ?_
    rintro e w3 ⟨rfl, hb3⟩
    have T3 := hide hb3
    clear hb3
    go_wp2_with fail
    go_ret
    exact ⟨rfl, T3.out⟩
end Go.Proofs.Ytpcceinjifdgnaa
