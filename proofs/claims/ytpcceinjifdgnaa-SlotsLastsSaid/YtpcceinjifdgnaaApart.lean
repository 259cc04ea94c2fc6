/- Chapter 6: SlotsApart comes to true. -/
import Derived.Test.YtpcceinjifdgnaaFits
namespace Go.Proofs.Ytpcceinjifdgnaa
open Go.RowKit Zb

/-- a disk of 40 blocks that is on, and on which nothing waits -/
structure Calm (D : DiskM) : Prop where
  off : D.off = false
  w : D.waits = []
  len : D.lasts.length = 40
  full : Full64 D
theorem Calm.sN {D : DiskM} (h : Calm D) : slotN D = 16 := by unfold slotN; rw [h.len]
theorem Calm.sA {D : DiskM} (h : Calm D) (slot : Int) : slotAt D slot = 8 + slot.toNat * 16 := by unfold slotAt; rw [h.sN]
/-- what a slot's first blocks hold -/
def Holds (D : DiskM) (slot : Int) (s : ByteArray) : Prop := ∀ j, j < cntB s.size → D.lasts.getD (8 + slot.toNat * 16 + j) ⟨#[]⟩ = blockB s j
/-- everything outside of a slot is as it was -/
def Apart (D D' : DiskM) (slot : Int) : Prop := ∀ i, i < 8 + slot.toNat * 16 ∨ 8 + slot.toNat * 16 + 16 ≤ i → D'.lasts.getD i ⟨#[]⟩ = D.lasts.getD i ⟨#[]⟩
theorem Calm.new : Calm (DiskM.new 40) := ⟨rfl, rfl, by simp [DiskM.new], Full64.new 40⟩
theorem Calm.write {D : DiskM} (h : Calm D) (slot : Int) (s : ByteArray) (h0 : 0 ≤ slot) (h1 : slot < 2) (hs : s.size ≤ 1000) :
    ∃ D' e, slotWrite D slot s = (D', e) ∧ Apart D D' slot ∧ ((e = 0 ∧ Calm D' ∧ Holds D' slot s ∧ (D.pon = false → D'.pon = false)) ∨ (e = 7 ∧ D.pon = true ∧ D'.off = true ∧ D'.waits = [] ∧ D'.lasts.length = 40 ∧ Full64 D' ∧ D'.pon = false)) := by
  obtain ⟨D', e, he, hw, hl, ho, hx⟩ := slotWrite_ok D slot s h0 h1 (by rw [h.len]; omega) (by rw [h.sN]; omega) h.off h.w
  have hc : cntB s.size ≤ 16 := by unfold cntB; omega
  rw [h.sA] at ho hx
  have hf := h.full.slot slot s
  rw [he] at hf
  refine ⟨D', e, he, fun i hi => ho i (by omega), ?_⟩
  rcases hx with ⟨e0, k1, k2, k3⟩ | ⟨e0, k1, k2, k3⟩
  · exact .inl ⟨e0, ⟨k1, hw, hl.trans h.len, hf⟩, k2, fun hp => (k3 hp).1⟩
  · exact .inr ⟨e0, k1, k2, hw, hl.trans h.len, hf, k3⟩
theorem Calm.reads {D : DiskM} (h : Calm D) (slot : Int) (s : ByteArray) (h0 : 0 ≤ slot) (h1 : slot < 2) (hs : s.size ≤ 1000) (hh : Holds D slot s) : slotRead D slot s.size = (s, 0) :=
  slotRead_ok D slot s h0 h1 (by rw [h.len]; omega) (by rw [h.sN]; omega) h.off h.w (by rw [h.sA]; exact hh)
theorem Holds.apart {D D' : DiskM} {slot other : Int} {s : ByteArray} (h : Holds D slot s) (k : Apart D D' other) (h0 : 0 ≤ slot) (h1 : slot < 2) (o0 : 0 ≤ other) (o1 : other < 2) (hne : slot ≠ other) (hs : s.size ≤ 1000) : Holds D' slot s := by
  intro j hj
  have hc : cntB s.size ≤ 16 := by unfold cntB; omega
  rw [k _ (by
    obtain h | h : slot = 0 ∨ slot = 1 := by omega
    · obtain rfl : other = 1 := by omega
      subst h; simp <;> omega
    · obtain rfl : other = 0 := by omega
      subst h; simp <;> omega)]
  exact h j hj
theorem Calm.read {D : DiskM} (h : Calm D) (i : Nat) (hi : i < 40) : D.read (i : Int) = (D.lasts.getD i ⟨#[]⟩, 0) := read_still D h.off h.w i (by rw [h.len]; exact hi)
theorem calm_writes {D : DiskM} (h : Calm D) (hp : D.pon = false) (slot : Int) (s : ByteArray) (h0 : 0 ≤ slot) (h1 : slot < 2) (hs : s.size ≤ 1000) : ∃ D', slotWrite D slot s = (D', 0) ∧ Apart D D' slot ∧ Calm D' ∧ Holds D' slot s ∧ D'.pon = false := by
  obtain ⟨D', e, he, ha, hx⟩ := h.write slot s h0 h1 hs
  rcases hx with ⟨rfl, k1, k2, k3⟩ | ⟨_, k, _⟩
  · exact ⟨D', he, ha, k1, k2, k3 hp⟩
  · rw [hp] at k; cases k
theorem apart_ok (a b c : ByteArray) (ha : a.size ≤ 1000) (hb : b.size ≤ 1000) (hc : c.size ≤ 1000) :
    ∃ D1 D2 D3, slotWrite (DiskM.new 40) 0 a = (D1, 0) ∧ slotWrite D1 1 b = (D2, 0) ∧ slotWrite D2 0 c = (D3, 0) ∧ D1.waits.length = 0 ∧ D2.waits.length = 0 ∧ D3.waits.length = 0 ∧ Full64 D3 ∧ slotRead D3 0 c.size = (c, 0) ∧ slotRead D3 1 b.size = (b, 0) ∧ ∀ i : Nat, i < 8 → D3.read (i : Int) = (zeros 64, 0) := by
  obtain ⟨D1, e1, a1, c1, _, p1⟩ := calm_writes Calm.new rfl 0 a (by omega) (by omega) ha
  obtain ⟨D2, e2, a2, c2, h2, p2⟩ := calm_writes c1 p1 1 b (by omega) (by omega) hb
  obtain ⟨D3, e3, a3, c3, h3, p3⟩ := calm_writes c2 p2 0 c (by omega) (by omega) hc
  refine ⟨D1, D2, D3, e1, e2, e3, by rw [c1.w]; rfl, by rw [c2.w]; rfl, by rw [c3.w]; rfl, c3.full, c3.reads 0 c (by omega) (by omega) hc h3, c3.reads 1 b (by omega) (by omega) hb (h2.apart a3 (by omega) (by omega) (by omega) (by omega) (by omega) hb), fun i hi => ?_⟩
  rw [c3.read i (by omega), a3 i (by omega), a2 i (by omega), a1 i (by omega)]
  congr 1
  rw [List.getD_eq_getElem?_getD]
  simp only [DiskM.new]
  rw [List.getElem?_replicate_of_lt (by omega)]
  rfl

set_option maxRecDepth 100000 in
set_option maxHeartbeats 4000000 in
theorem SlotsApart_walk (a b c : ByteArray) (w : World) (_ : a.size ≤ 140737488351232) (_ : b.size ≤ 140737488351232) (_ : c.size ≤ 140737488351232) : Calls Try.prog 4 #[.string a, .string b, .string c] w fun e w' => e = .returned (.bool true) ∧ Below w.heap.size w w' := by
  by_cases ha : 1000 < a.size
  · go_enter Try.func4, Try.ntmps4
    go_wp2_with fail
    refine (ds6_new 40 (by omega) (by omega) w).mono ?_
    rintro e w1 ⟨q, rfl, h1⟩
    go_wp2_with fail
    refine (lknown6_calls _).mono ?_
    rintro e w4 ⟨rfl, hb4⟩
    have T := hide (DS6.bel (h1.out.below hb4))
    clear hb4
    go_wp2_with fail
    go_ret
    exact ⟨rfl, T.out⟩
  · by_cases hb : 1000 < b.size
    · go_enter Try.func4, Try.ntmps4
      go_wp2_with fail
      refine (ds6_new 40 (by omega) (by omega) w).mono ?_
      rintro e w1 ⟨q, rfl, h1⟩
      go_wp2_with fail
      refine (lknown6_calls _).mono ?_
      rintro e w4 ⟨rfl, hb4⟩
      have T := hide (DS6.bel (h1.out.below hb4))
      clear hb4
      go_wp2_with fail
      go_ret
      exact ⟨rfl, T.out⟩
    · by_cases hc : 1000 < c.size
      · go_enter Try.func4, Try.ntmps4
        go_wp2_with fail
        refine (ds6_new 40 (by omega) (by omega) w).mono ?_
        rintro e w1 ⟨q, rfl, h1⟩
        go_wp2_with fail
        refine (lknown6_calls _).mono ?_
        rintro e w4 ⟨rfl, hb4⟩
        have T := hide (DS6.bel (h1.out.below hb4))
        clear hb4
        go_wp2_with fail
        go_ret
        exact ⟨rfl, T.out⟩
      · obtain ⟨D1, D2, D3, e1, e2, e3, w1z, w2z, w3z, hf, r0, r1, rz⟩ := apart_ok a b c (by omega) (by omega) (by omega)
        have hf := hide hf
        have w1z := hide w1z
        have w2z := hide w2z
        have w3z := hide w3z
        have rz := hide rz
        have hla := hide ha
        go_enter Try.func4, Try.ntmps4
        go_wp2_with fail
        refine (ds6_new 40 (by omega) (by omega) w).mono ?_
        rintro e w1 ⟨q, rfl, h1⟩
        go_wp2_with fail
        refine (h1.out.op (fun G hG => sWrite_calls hG (by simp [DiskM.new]) 0 a)).mono ?_
        rintro e w2 ⟨rfl, h2⟩
        rw [e1] at h2 ⊢
        clear h1
        go_wp2_with fail
        refine (h2.out.op (fun G hG => sWrite_calls hG (by rw [w1z.out]; omega) 1 b)).mono ?_
        rintro e w3 ⟨rfl, h3⟩
        rw [e2] at h3 ⊢
        clear h2
        go_wp2_with fail
        refine (h3.out.op (fun G hG => sWrite_calls hG (by rw [w2z.out]; omega) 0 c)).mono ?_
        rintro e w4 ⟨rfl, h4⟩
        rw [e3] at h4 ⊢
        clear h3
        go_wp2_with fail
        obtain ⟨G4, hG4⟩ := h4.out.at_
        refine (sRead_calls hG4 hf.out (by rw [w3z.out]; omega) 0 c.size).mono ?_
        rintro e w5 ⟨rfl, hb5⟩
        rw [r0]
        have h5 := hide (h4.out.below hb5)
        clear hb5 h4 hG4 G4
        go_wp2_with fail
        obtain ⟨G5, hG5⟩ := h5.out.at_
        refine (sRead_calls hG5 hf.out (by rw [w3z.out]; omega) 1 b.size).mono ?_
        rintro e w6 ⟨rfl, hb6⟩
        rw [r1]
        have h6 := hide (h5.out.below hb6)
        clear hb6 h5 hG5 G5
        go_wp2_with fail
        go_loopw [13] (fun i wr => ∃ k : Nat, k ≤ 8 ∧ i = .int .i64 k ∧ DS6 w q D3 wr) (fun i _ => 8 - (intOf i).toNat)
        case atStart => exact ⟨0, by omega, rfl, h6.out⟩
        case round =>
          obtain ⟨k, hk, rfl, hinv⟩ := hrel
          have hinv := hide hinv
          by_cases hlt : k < 8
          · go_wp2_with fail
            refine (hinv.out.quiet (fun G hG => dread_calls hG (by rw [w3z.out]; omega) k)).mono ?_
            rintro e w' ⟨rfl, rfl⟩
            rw [rz.out k hlt]
            go_wp2_with fail
            refine (rdzero_calls _).mono ?_
            rintro e w7 ⟨rfl, hb7⟩
            have h7 := hide (hinv.out.below hb7)
            clear hb7 hinv
            go_wp2_with fail
            go_roundw
            case rel => exact ⟨k + 1, by omega, by go_num, h7.out⟩
            case measure => simp [intOf]; omega
          · obtain rfl : k = 8 := by omega
            go_wp2_with fail
            refine (lknown6_calls _).mono ?_
            rintro e w7 ⟨rfl, hb7⟩
            have T := hide (DS6.bel (hinv.out.below hb7))
            clear hb7
            go_wp2_with fail
            go_ret
            exact ⟨rfl, T.out⟩
end Go.Proofs.Ytpcceinjifdgnaa
