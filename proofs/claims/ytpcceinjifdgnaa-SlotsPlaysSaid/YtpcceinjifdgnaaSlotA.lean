/- Chapter 6: slots' small functions, Write. -/
import Derived.Test.YtpcceinjifdgnaaSlotM
import Derived.Test.YtpcceinjifdgnaaBufC
import Derived.Test.YtpcceinjifdgnaaDiskE
import Derived.Test.YtpcceinjifdgnaaHeld
namespace Go.Proofs.Ytpcceinjifdgnaa
open Go.RowKit Zb

/-- The disk D, at b, behind w: only F's blocks and new ones have turned. -/
def DSt (F : Nat → Prop) (w : World) (b : Nat) (D : DiskM) (wr : World) : Prop := Turned F w wr ∧ ∃ F', (∀ x, F' x → F x ∨ w.heap.size ≤ x) ∧ DiskAt wr b F' D
section
variable {F : Nat → Prop} {w wr w' : World} {b : Nat} {D D' : DiskM}
theorem DSt.refl (h : DiskAt w b F D) : DSt F w b D w := ⟨.refl _ _, F, fun _ h => .inl h, h⟩
theorem DSt.below (h : DSt F w b D wr) (k : Below wr.heap.size wr w') : DSt F w b D w' := by
  obtain ⟨tu, F', hF, hd⟩ := h
  exact ⟨tu.then_below k, F', hF, hd.below k⟩
theorem DSt.op {f : FuncId} {args : Array Value} {v : Value} (h : DSt F w b D wr) (hc : ∀ G, DiskAt wr b G D → Calls Try.prog f args wr (DPost G wr b v D')) :
    Calls Try.prog f args wr fun e w' => e = .returned v ∧ Hid (DSt F w b D' w') := by
  obtain ⟨tu, F', hF, hd⟩ := h
  refine (hc F' hd).mono ?_
  rintro e w1 ⟨rfl, tu2, F2, hF2, hd2⟩
  have := tu.size
  refine ⟨rfl, hide ⟨tu.trans tu2 hF, F2, fun x hx => ?_, hd2⟩⟩
  rcases hF2 x hx with h | h
  · exact hF x h
  · exact .inr (by omega)
theorem DSt.quiet {f : FuncId} {args : Array Value} {v : Value} (h : DSt F w b D wr) (hc : ∀ G, DiskAt wr b G D → Calls Try.prog f args wr fun e w' => e = .returned v ∧ wr = w') :
    Calls Try.prog f args wr fun e w' => e = .returned v ∧ wr = w' := by
  obtain ⟨_, F', _, hd⟩ := h
  exact hc F' hd
theorem DSt.post {v : Value} (h : DSt F w b D wr) : DPost F w b v D (.returned v) wr := ⟨rfl, h.1, h.2⟩
theorem DSt.at_ (h : DSt F w b D wr) : ∃ G, DiskAt wr b G D := by obtain ⟨_, F', _, hd⟩ := h; exact ⟨F', hd⟩
end

theorem ret_int9 {k : IntKind} {a b : Int} (h : a = b) : Ending.returned (.int k a) = Ending.returned (.int k b) := by rw [h]
section
variable {w : World} {b : Nat} {F : Nat → Prop} {D : DiskM}
theorem slotN_lim (h : DiskAt w b F D) : 4 ≤ slotN D ∧ slotN D ≤ 252 := by
  have := h.ok.len
  unfold slotN
  omega
theorem sblocks_calls (h : DiskAt w b F D) : Calls Try.prog 31 #[.pointer (some ⟨b, 0, none⟩)] w fun e w' => e = .returned (.int .i64 (slotN D)) ∧ w = w' := by
  have hl := h.ok.len
  have E : Hid (((D.lasts.length : Int) - 8) / 2 = (slotN D : Int)) := hide (by unfold slotN; omega)
  go_enter Try.func31, Try.ntmps31
  go_wp2_with fail
  refine (dblocks_calls h).mono ?_
  rintro e w' ⟨rfl, rfl⟩
  go_wp2_with fail
  go_ret
  exact ⟨ret_int9 (by rw [← E.out]), rfl⟩
theorem sRoom_calls (h : DiskAt w b F D) : Calls Try.prog 15 #[.pointer (some ⟨b, 0, none⟩)] w fun e w' => e = .returned (.int .i64 ((slotN D * 64 : Nat) : Int)) ∧ w = w' := by
  have hl := slotN_lim h
  have E : Hid ((slotN D : Int) * 64 = ((slotN D * 64 : Nat) : Int)) := hide (by omega)
  go_enter Try.func15, Try.ntmps15
  go_wp2_with fail
  refine (sblocks_calls h).mono ?_
  rintro e w' ⟨rfl, rfl⟩
  go_wp2_with fail
  go_ret
  exact ⟨ret_int9 E.out, rfl⟩
theorem sfirst_calls (h : DiskAt w b F D) (slot : Int) (h0 : 0 ≤ slot) (h1 : slot < 2) : Calls Try.prog 27 #[.pointer (some ⟨b, 0, none⟩), .int .i64 slot] w fun e w' => e = .returned (.int .i64 ((8 + slot.toNat * slotN D : Nat) : Int)) ∧ w = w' := by
  have hl := slotN_lim h
  have : slot = 0 ∨ slot = 1 := by omega
  rcases this with rfl | rfl
  · have E : Hid ((8 : Int) = ((8 + (0 : Int).toNat * slotN D : Nat) : Int)) := hide (by simp)
    clear h0 h1
    go_enter Try.func27, Try.ntmps27
    go_wp2_with fail
    refine (sblocks_calls h).mono ?_
    rintro e w' ⟨rfl, rfl⟩
    go_wp2_with fail
    go_ret
    exact ⟨ret_int9 E.out, rfl⟩
  · have E : Hid ((8 : Int) + (slotN D : Int) = ((8 + (1 : Int).toNat * slotN D : Nat) : Int)) := hide (by simp)
    clear h0 h1
    go_enter Try.func27, Try.ntmps27
    go_wp2_with fail
    refine (sblocks_calls h).mono ?_
    rintro e w' ⟨rfl, rfl⟩
    go_wp2_with fail
    go_ret
    exact ⟨ret_int9 E.out, rfl⟩
theorem scount_calls (n : Nat) (hn : n ≤ 1000000000000) (w : World) : Calls Try.prog 26 #[.int .i64 n] w fun e w' => e = .returned (.int .i64 ((cntB n : Nat) : Int)) ∧ w = w' := by
  have E : Hid (((n : Int) + 64 - 1) / 64 = ((cntB n : Nat) : Int)) := hide (by unfold cntB; omega)
  have hnI : (n : Int) ≤ 1000000000000 := by omega
  clear hn
  go_enter Try.func26, Try.ntmps26
  go_wp2_with fail
  go_ret
  exact ⟨ret_int9 E.out, rfl⟩
def swrongM (slot : Int) : Int := if slot < 0 ∨ 2 ≤ slot then 1 else 0
theorem swrong_calls (h : DiskAt w b F D) (slot : Int) : Calls Try.prog 25 #[.pointer (some ⟨b, 0, none⟩), .int .i64 slot] w fun e w' => e = .returned (.int .i64 (swrongM slot)) ∧ w = w' := by
  have hl := h.ok.len
  unfold swrongM
  by_cases h0 : slot < 0
  · rw [if_pos (.inl h0)]
    go_enter Try.func25, Try.ntmps25
    go_wp2_with fail
    refine (dblocks_calls h).mono ?_
    rintro e w' ⟨rfl, rfl⟩
    go_wp2_with fail
    go_ret
    exact ⟨rfl, rfl⟩
  · by_cases h1 : 2 ≤ slot
    · rw [if_pos (.inr h1)]
      go_enter Try.func25, Try.ntmps25
      go_wp2_with fail
      refine (dblocks_calls h).mono ?_
      rintro e w' ⟨rfl, rfl⟩
      go_wp2_with fail
      go_ret
      exact ⟨rfl, rfl⟩
    · rw [if_neg (by omega)]
      go_enter Try.func25, Try.ntmps25
      go_wp2_with fail
      refine (dblocks_calls h).mono ?_
      rintro e w' ⟨rfl, rfl⟩
      go_wp2_with fail
      go_ret
      exact ⟨rfl, rfl⟩
end
theorem block_copied (s : ByteArray) (k : Nat) : (⟨(copied (List.replicate 64 0) (s.extract (64 * k) s.size).data.toList).toArray⟩ : ByteArray) = blockB s k := by
  have e : (s.extract (64 * k) s.size).data.toList = s.data.toList.drop (64 * k) := by
    have hl : s.data.toList.length = s.size := rfl
    simp only [ByteArray.data_extract, Array.toList_extract, List.extract_eq_take_drop]
    exact List.take_of_length_le (by simp)
  rw [e]
  unfold blockB copied
  simp only [List.length_replicate, List.drop_replicate]
end Go.Proofs.Ytpcceinjifdgnaa
