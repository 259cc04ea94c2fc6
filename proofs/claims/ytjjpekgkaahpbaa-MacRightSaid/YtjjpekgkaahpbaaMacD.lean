/- Chapter 3: Right, walked. -/
import Derived.Test.YtjjpekgkaahpbaaMacC
namespace Go.Proofs.Ytjjpekgkaahpbaa
open Go.RowKit Zb

theorem u8_or_zero (a b : UInt8) : a ||| b = 0 ↔ a = 0 ∧ b = 0 := by
  rw [← UInt8.toBitVec_inj, ← UInt8.toBitVec_inj, ← UInt8.toBitVec_inj, UInt8.toBitVec_or]
  exact BitVec.or_eq_zero_iff
theorem u8_xor_zero (a b : UInt8) : a ^^^ b = 0 ↔ a = b := by
  rw [← UInt8.toBitVec_inj, ← UInt8.toBitVec_inj (a := a), UInt8.toBitVec_xor]
  exact BitVec.xor_eq_zero_iff
theorem u8_zero_int (o : UInt8) : ((o.toNat : Int) == 0) = decide (o = 0) := by
  rw [Bool.eq_iff_iff, beq_iff_eq, decide_eq_true_iff, ← UInt8.toNat_inj]
  show (o.toNat : Int) = 0 ↔ o.toNat = 0
  omega
theorem bytes_ext {a b : ByteArray} (h : a.size = b.size) (hj : ∀ j, (h1 : j < a.size) → (h2 : j < b.size) → a[j] = b[j]) : a = b := ByteArray.ext_getElem h (fun j h1 h2 => hj j h1 h2)
def OddR (want tag : ByteArray) (i : Nat) (o : UInt8) : Prop := o = 0 ↔ ∀ j, (h1 : j < want.size) → (h2 : j < tag.size) → j < i → want[j] = tag[j]
theorem OddR.step {want tag : ByteArray} {i : Nat} {o : UInt8} (h : OddR want tag i o) (h1 : i < want.size) (h2 : i < tag.size) {x y : UInt8} (hx : want[i] = x) (hy : tag[i] = y) : OddR want tag (i + 1) (o ||| (x ^^^ y)) := by
  subst hx
  subst hy
  unfold OddR at *
  rw [u8_or_zero, u8_xor_zero, h]
  constructor
  · rintro ⟨ha, hb⟩ j hj1 hj2 hj
    rcases Nat.lt_or_eq_of_le (Nat.le_of_lt_succ hj) with hlt | rfl
    · exact ha j hj1 hj2 hlt
    · exact hb
  · intro ha
    exact ⟨fun j hj1 hj2 hj => ha j hj1 hj2 (by omega), ha i h1 h2 (by omega)⟩
theorem OddR.end_ {want tag : ByteArray} {o : UInt8} (h : OddR want tag want.size o) (hs : want.size = tag.size) : o = 0 ↔ tag = want := by
  unfold OddR at h
  rw [h]
  constructor
  · intro ha
    exact (bytes_ext hs (fun j h1 h2 => ha j h1 h2 h1)).symm
  · rintro rfl j h1 h2 _
    rfl
def macB (k s : ByteArray) : ByteArray := ⟨(macM k.data.toList s.data.toList).toArray⟩
theorem macB_size (k s : ByteArray) : (macB k s).size = 32 := by
  show (macM k.data.toList s.data.toList).toArray.size = 32
  rw [List.size_toArray, macM, digW_length]
theorem mOf_macB (k s : ByteArray) (hk : k.size ≤ 50000000000) (hs : s.size ≤ 1000000000) (w : World) : Calls Try.prog 9 #[.string k, .string s] w fun e w' => e = .returned (.string (macB k s)) ∧ Below w.heap.size w w' := mOf_calls k s hk hs w
set_option maxRecDepth 20000 in
set_option maxHeartbeats 2000000 in
theorem mRight_calls (k s t : ByteArray) (hk : k.size ≤ 50000000000) (hs : s.size ≤ 1000000000) (w : World) : Calls Try.prog 13 #[.string k, .string s, .string t] w fun e w' => e = .returned (.bool (decide (t = macB k s))) ∧ Below w.heap.size w w' := by
  have HO := hide (mOf_macB k s hk hs)
  have HMS := hide (macB_size k s)
  generalize macB k s = m at *
  clear hk hs
  by_cases hl : t.size = 32
  · have HTS := hide hl
    have h1 : ((t.size : Int) != (m.size : Int)) = false := by rw [hl, HMS.out]; rfl
    have hmI : (m.size : Int) = 32 := by rw [HMS.out]; rfl
    have htI : (t.size : Int) = 32 := by rw [hl]; rfl
    clear hl h1
    have HI0 : Hid (OddR m t 0 0) := hide ⟨fun _ j _ _ hj => by omega, fun _ => rfl⟩
    go_enter Try.func13, Try.ntmps13
    go_wp2_with fail
    refine (HO.out _).mono ?_
    rintro e w1 ⟨rfl, hb1⟩
    have HB1 := hide hb1
    clear hb1
    go_wp2_with fail
    go_loopw [8, 20] (fun o i wr => ∃ (k : Nat) (z : UInt8), k ≤ 32 ∧ i = .int .i64 k ∧ o = .int .u8 (z.toNat : Int) ∧ Hid (OddR m t k z ∧ Below w.heap.size w wr)) (fun _ i _ => 32 - (intOf i).toNat)
    case atStart => exact ⟨0, 0, by omega, rfl, rfl, hide ⟨HI0.out, HB1.out⟩⟩
    case round =>
    clear HI0 HB1
    obtain ⟨i, z, hi, rfl, rfl, hinv⟩ := hrel
    by_cases hlt : i < 32
    · have l1 : i < m.size := by rw [HMS.out]; exact hlt
      have l2 : i < t.size := by rw [HTS.out]; exact hlt
      have hiI : (i : Int) < 32 := by omega
      have m1 : (i : Int) < (m.size : Int) := by omega
      have m2 : (i : Int) < (t.size : Int) := by omega
      obtain ⟨x, hx⟩ : ∃ x, m[i] = x := ⟨_, rfl⟩
      obtain ⟨y, hy⟩ : ∃ y, t[i] = y := ⟨_, rfl⟩
      have hx1 := xor_u8 x y
      have hx2 := or_u8 z (x ^^^ y)
      have HN := hide (hinv.out.1.step l1 l2 hx hy)
      have HB := hide hinv.out.2
      generalize x ^^^ y = q at *
      generalize z ||| q = z2 at *
      clear hinv hmI htI
      go_wp2_with fail
      refine wp_region_heads [0, 1, 2, 3, 4, 5, 6, 7, 8, 9] 0 (fun _ => True) (by kernel_rfl) rfl (by kernel_rfl) (by kernel_rfl) (fun _ _ d _ _ h => by cases d <;> exact h) trivial ?_
      iterate 10
        refine' Heads.step rfl (by rfl) ?_ ?_
        rotate_left
        · intro w' hSw
          go_simp
          try with_reducible rfl
        simp only [Act.put, List.setIfInBounds_toArray, List.set_cons_zero, List.set_cons_succ]
      refine Heads.done ?_
      refine wpAnyH_done (by kernel_rfl) ?_ _
      have HNN : Hid (OddR m t (i + 1) z2 ∧ Below w.heap.size w wr.drew) := hide ⟨HN.out, HB.out.drew⟩
      clear HN HB hx1 hx2
      go_wp2_with fail
      go_roundw
      case rel => exact ⟨i + 1, z2, by omega, by go_num, rfl, HNN⟩
      case measure => simp [intOf]; omega
    · obtain rfl : i = 32 := by omega
      have hz := u8_zero_int z
      have HE : Hid (z = 0 ↔ t = m) := hide (OddR.end_ (by rw [HMS.out]; exact hinv.out.1) (by rw [HMS.out, HTS.out]))
      have HB := hide hinv.out.2
      clear hinv
      by_cases hq : t = m
      · have hz0 : ((z.toNat : Int) == 0) = true := by rw [hz]; simpa using HE.out.2 hq
        have HD : Hid (decide (t = m) = true) := hide (by simpa using hq)
        clear hz hq
        go_wp2_with fail
        go_ret
        rw [HD.out]
        exact ⟨rfl, HB.out⟩
      · have hz0 : ((z.toNat : Int) == 0) = false := by rw [hz]; simpa using fun e => hq (HE.out.1 e)
        have HD : Hid (decide (t = m) = false) := hide (by simpa using hq)
        clear hz hq
        go_wp2_with fail
        go_ret
        rw [HD.out]
        exact ⟨rfl, HB.out⟩
  · have HD : Hid (decide (t = m) = false) := hide (by
      rw [decide_eq_false_iff_not]
      rintro rfl
      exact hl HMS.out)
    have hmI : (m.size : Int) = 32 := by rw [HMS.out]; rfl
    have hne : ((t.size : Int) == 32) = false := by rw [beq_eq_false_iff_ne]; omega
    clear hl
    go_enter Try.func13, Try.ntmps13
    go_wp2_with fail
    refine (HO.out _).mono ?_
    rintro e w1 ⟨rfl, hb1⟩
    have HB1 := hide hb1
    clear hb1
    go_wp2_with fail
    go_ret
    rw [HD.out]
    exact ⟨rfl, HB1.out⟩
end Go.Proofs.Ytjjpekgkaahpbaa
