/- Chapter 3: MacTurned comes to true. -/
import Derived.Test.YtjjpekgkaahpbaaMacH
import Derived.Test.YtjjpekgkaahpbaaBufS
import Derived.Test.YtjjpekgkaahpbaaCount
namespace Go.Proofs.Ytjjpekgkaahpbaa
open Go.RowKit Zb

theorem one_bit (bit : Int) (h0 : 0 ≤ bit) : ∃ p : UInt8, p ≠ 0 ∧ ∀ w' : World, (Op.shift BinOp.shl IntKind.u8 1 IntKind.u8 (bit.tmod 8)).run Try.prog w' = .ok (.int .u8 (p.toNat : Int)) w' := by
  have e : bit.tmod 8 = bit % 8 := Int.tmod_eq_emod_of_nonneg h0
  have : bit % 8 = 0 ∨ bit % 8 = 1 ∨ bit % 8 = 2 ∨ bit % 8 = 3 ∨ bit % 8 = 4 ∨ bit % 8 = 5 ∨ bit % 8 = 6 ∨ bit % 8 = 7 := by omega
  rw [e]
  rcases this with h | h | h | h | h | h | h | h <;> rw [h]
  · exact ⟨1, by decide, fun _ => rfl⟩
  · exact ⟨2, by decide, fun _ => rfl⟩
  · exact ⟨4, by decide, fun _ => rfl⟩
  · exact ⟨8, by decide, fun _ => rfl⟩
  · exact ⟨16, by decide, fun _ => rfl⟩
  · exact ⟨32, by decide, fun _ => rfl⟩
  · exact ⟨64, by decide, fun _ => rfl⟩
  · exact ⟨128, by decide, fun _ => rfl⟩
theorem turned_ne {m : ByteArray} {c : Nat} {x p : UInt8} (hc : c < m.data.toList.length) (hx : m.data.toList[c] = x) (hp : p ≠ 0) : (⟨(m.data.toList.set c (x ^^^ p)).toArray⟩ : ByteArray) ≠ m := by
  intro e
  have h1 : (m.data.toList.set c (x ^^^ p)) = m.data.toList := congrArg (fun b : ByteArray => b.data.toList) e
  have h2 : (m.data.toList.set c (x ^^^ p))[c]'(by simpa using hc) = x ^^^ p := List.getElem_set_self _
  have h3 : x ^^^ p = x := by
    rw [← h2]
    simp only [h1]
    exact hx
  have h4 : p = 0 := by
    have h5 : x ^^^ (x ^^^ p) = x ^^^ x := by rw [h3]
    rw [← UInt8.xor_assoc, UInt8.xor_self, UInt8.zero_xor] at h5
    exact h5
  exact hp h4
set_option maxRecDepth 20000 in
set_option maxHeartbeats 2000000 in
theorem MacTurned_walk (k s : ByteArray) (at_ bit : Int) (w : World) (_ : k.size ≤ maxLen) (_ : s.size ≤ maxLen) (wc : (Lit.int .i64 at_).wf = true) (we : (Lit.int .u8 bit).wf = true) :
    Calls Try.prog 5 #[.agg #[.string k, .string s, .int .i64 at_, .int .u8 bit]] w fun e w' => e = .returned (.bool true) ∧ Below w.heap.size w w' := by
  have bc := bounds_i64 wc
  have be := bounds_u8 we
  have HBLK : Hid (Blk (w.alloc (.cells #[.string k, .string s, .int .i64 at_, .int .u8 bit] 28)) w.heap.size 28 #[.string k, .string s, .int .i64 at_, .int .u8 bit]) := hide (Blk.new w 28 _)
  have HB0 := hide ((Below.refl w.heap.size w).alloc (Nat.le_refl _) (.cells #[.string k, .string s, .int .i64 at_, .int .u8 bit] 28))
  by_cases hk : 500 < k.size
  · have hkI : (500 : Int) < (k.size : Int) := by omega
    clear hk
    go_enter Try.func5, Try.ntmps5
    go_wp2_with fail
    refine (lknown3_calls _).mono ?_
    rintro e w9 ⟨rfl, hb9⟩
    have HB9 := hide (HB0.out.trans (hb9.mono HB0.out.size))
    clear hb9
    go_wp2_with fail
    go_ret
    exact ⟨rfl, HB9.out⟩
  · have hkI : (k.size : Int) ≤ 500 := by omega
    have hkN : k.size ≤ 500 := by omega
    clear hk
    by_cases hs : 1000 < s.size
    · have hsI : (1000 : Int) < (s.size : Int) := by omega
      clear hs
      go_enter Try.func5, Try.ntmps5
      go_wp2_with fail
      refine (lknown3_calls _).mono ?_
      rintro e w9 ⟨rfl, hb9⟩
      have HB9 := hide (HB0.out.trans (hb9.mono HB0.out.size))
      clear hb9
      go_wp2_with fail
      go_ret
      exact ⟨rfl, HB9.out⟩
    · have hsI : (s.size : Int) ≤ 1000 := by omega
      have hsN : s.size ≤ 1000 := by omega
      clear hs
      have HM := hide (mOf_macB k s (by omega) (by omega))
      have HMS := hide (macB_size k s)
      have HR := hide (fun t => mRight_calls k s t (by omega) (by omega))
      have HC := hide (wCount_calls at_ 32 (by omega) (by omega) (by omega) (by omega))
      generalize macB k s = m at *
      have hms : (m.size : Int) = 32 := by rw [HMS.out]; rfl
      have hd1 : Hid (decide (m = m) = true) := hide (by simp)
      have hcM : 0 ≤ countM at_ 32 ∧ countM at_ 32 < 32 := by unfold countM; omega
      obtain ⟨c, hc⟩ : ∃ c : Nat, countM at_ 32 = c := ⟨(countM at_ 32).toNat, by omega⟩
      have hc9 : c < 32 := by omega
      rw [hc] at HC
      obtain ⟨p, hp0, hsh⟩ := one_bit bit be.1
      have HP0 := hide hp0
      clear bc hcM hc hp0
      generalize hw0 : w.alloc (.cells #[.string k, .string s, .int .i64 at_, .int .u8 bit] 28) = w0 at HBLK HB0
      have HW0 := hide hw0
      clear hw0
      go_enter Try.func5, Try.ntmps5
      go_wp2_with fail
      refine (HM.out _).mono ?_
      rintro e w1 ⟨rfl, hb1⟩
      rw [HW0.out] at hb1
      have HB1 := hide (HB0.out.trans (hb1.mono HB0.out.size))
      have HK1 := hide (HBLK.out.below hb1 HBLK.out.lt)
      clear hb1 HB0 HBLK HW0
      go_wp2_with fail
      refine (HR.out m _).mono ?_
      rintro e w2 ⟨rfl, hb2⟩
      rw [show decide (m = m) = true by simp]
      have HB2 := hide (HB1.out.trans (hb2.mono HB1.out.size))
      have HK2 := hide (HK1.out.below hb2 HK1.out.lt)
      clear hb2 HB1 HK1
      have z2 := HK2.out.cell 2
      go_wp2_with fail
      refine (HC.out _).mono ?_
      rintro e w' ⟨rfl, rfl⟩
      clear z2
      go_wp2_with ((with_reducible show wpList _ _ _ (⟨some 38, _, _, _, _, _⟩ :: _) _ _); refine bufq_conv rfl (.tmp 37) rfl (Below.refl w2.heap.size w2) m rfl (by rw [HMS.out]; omega) ?_; intro v3 w3 hb3 hbel3; obtain ⟨g, cp, rfl⟩ := hb3.out.formN (size_toList' m) (by rw [HMS.out]; omega))
      have HB3 := hide (HB2.out.trans (hbel3.out.mono HB2.out.size))
      have HK3 := hide (HK2.out.below hbel3.out HK2.out.lt)
      have hge : w2.heap.size ≤ g := (hb3.out.own g rfl).1
      have hne : w.heap.size ≠ g := by have := HK2.out.lt; omega
      have HGE := hide (Nat.le_trans HB2.out.size hge)
      clear HB2 HK2 hbel3 hge
      have hcl : c < m.size := by rw [HMS.out]; exact hc9
      have yc := hb3.out.cell c (by rw [size_toList']; exact hcl)
      have yf := hb3.out.frozen c (by rw [size_toList']; exact hcl)
      obtain ⟨x, hx⟩ : ∃ x, m.data.toList[c]'(by rw [size_toList']; exact hcl) = x := ⟨_, rfl⟩
      rw [hx] at yc
      have hcI : (c : Int) < 32 := by omega
      have hx1 := xor_u8 x p
      have HTN := hide (turned_ne (p := p) (by rw [size_toList']; exact hcl) hx HP0.out)
      generalize hz : x ^^^ p = z at *
      clear hz
      rw [HMS.out]
      have HB3Q : Hid (BufQ w2 w3 (.slice (some ⟨g, 0, none⟩) 32 cp) m.data.toList) := hide (by have h1 := hb3.out; rw [HMS.out] at h1; exact h1)
      clear hb3
      refine wp_region_heads [0, 1, 2, 3, 4, 6, 7, 8, 9] 4 (fun w' => Blk w' w.heap.size 28 #[.string k, .string s, .int .i64 at_, .int .u8 bit]) (by kernel_rfl) rfl (by kernel_rfl) (by kernel_rfl) (fun _ _ d _ _ h => by cases d <;> exact h) HK3.out ?_
      iterate 9
        refine' Heads.step rfl (by rfl) ?_ ?_
        rotate_left
        · intro w' hSw
          have z3 := hSw.cell 3
          go_simp
          try with_reducible rfl
        simp only [Act.put, List.setIfInBounds_toArray, List.set_cons_zero, List.set_cons_succ]
      refine Heads.done ?_
      refine wpAnyH_ready (rs := [5]) (by kernel_rfl) (by simp) (AllReadyH.cons rfl (fun K hK => ?_) AllReadyH.nil)
      go_simp
      refine hK.out _ _ HK3.out (fun hHeld1 => ?_)
      clear hK K
      refine wpAnyH_more [10, 11] 1 rfl (by kernel_rfl) (by kernel_rfl) (fun _ _ d _ _ h => by cases d <;> exact h) hHeld1 ?_
      iterate 2
        refine' Heads.step rfl (by rfl) ?_ ?_
        rotate_left
        · intro w' hSw
          have z3 := hSw.cell 3
          go_simp
          try with_reducible rfl
        simp only [Act.put, List.setIfInBounds_toArray, List.set_cons_zero, List.set_cons_succ]
      refine Heads.done ?_
      refine wpAnyH_ready (rs := [12]) (by kernel_rfl) (by simp) (AllReadyH.cons rfl (fun K hK => ?_) AllReadyH.nil)
      go_simp
      refine hK.out _ _ (Blk.far (w := w3.drew) HK3.out (p := ⟨g, c, none⟩) hne _) (fun hHeld2 => ?_)
      clear hK K
      refine wpAnyH_done (by kernel_rfl) ?_ _
      have hs4 := (HB3Q.out.set c z).drew
      have hcv := hs4.conv
      have hs4b := hs4.bel
      obtain ⟨m2, hm2⟩ : ∃ m2 : ByteArray, (⟨(m.data.toList.set c z).toArray⟩ : ByteArray) = m2 := ⟨_, rfl⟩
      rw [hm2] at HTN hcv
      have HB5 : Hid (Below w.heap.size w (w3.setCell ⟨g, c, none⟩ (.int .u8 (z.toNat : Int))).drew) := hide ((HB3.out.setCell (by exact HGE.out) _).drew)
      clear hs4 hs4b HB3 HB3Q yc yf hsh hHeld1 hHeld2 hm2 hx1
      generalize (w3.setCell ⟨g, c, none⟩ (.int .u8 (z.toNat : Int))).drew = w5 at *
      have hd2 : Hid (decide (m2 = m) = false) := hide (by simpa using HTN.out)
      obtain ⟨q, hq⟩ : ∃ q : ByteArray, m.extract 0 c = q := ⟨_, rfl⟩
      have hqs : q.size = c := by rw [← hq, ByteArray.size_extract, HMS.out]; omega
      have hd3 : Hid (decide (q = m) = false) := hide (by
        rw [decide_eq_false_iff_not]
        rintro rfl
        have := HMS.out
        omega)
      obtain ⟨y, hy⟩ : ∃ y : ByteArray, m.extract 0 (c + 1) = y := ⟨_, rfl⟩
      have hys : y.size = c + 1 := by rw [← hy, ByteArray.size_extract, HMS.out]; omega
      have hys9 : y.size ≤ 32 := by omega
      have hd4 : Hid (decide (m ++ y = m) = false) := hide (by
        rw [decide_eq_false_iff_not]
        intro e
        have h1 : (m ++ y).size = m.size := by rw [e]
        rw [ByteArray.size_append] at h1
        omega)
      have hms9 : m.size ≤ 32 := by rw [HMS.out]; omega
      clear hqs hys
      go_wp2_with fail
      refine (HR.out m2 _).mono ?_
      rintro e w6 ⟨rfl, hb6⟩
      rw [hd2.out]
      have HB6 := hide (HB5.out.trans (hb6.mono HB5.out.size))
      clear hb6 HB5 hcv
      go_wp2_with fail
      refine (HR.out q _).mono ?_
      rintro e w7 ⟨rfl, hb7⟩
      rw [hd3.out]
      have HB7 := hide (HB6.out.trans (hb7.mono HB6.out.size))
      clear hb7 HB6
      go_wp2_with fail
      refine (HR.out (m ++ y) _).mono ?_
      rintro e w8 ⟨rfl, hb8⟩
      rw [hd4.out]
      have HB8 := hide (HB7.out.trans (hb8.mono HB7.out.size))
      clear hb8 HB7
      go_wp2_with fail
      refine (lknown3_calls _).mono ?_
      rintro e w9 ⟨rfl, hc9⟩
      have HB9 := hide (HB8.out.trans (hc9.mono HB8.out.size))
      clear hc9
      go_wp2_with fail
      go_ret
      exact ⟨rfl, HB9.out⟩
end Go.Proofs.Ytjjpekgkaahpbaa
