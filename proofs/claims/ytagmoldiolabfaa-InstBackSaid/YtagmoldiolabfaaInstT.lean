/- Chapter 13: what was laid down is read as it was, in plain Lean. -/
import Derived.Test.YtagmoldiolabfaaInstS
namespace Go.Proofs.Ytagmoldiolabfaa
open Go.RowKit Zb

theorem sL_right (s x : ByteArray) (i : Nat) (h : i < x.size) : sL (s ++ x) (s.size + i) = sL x i := by
  have h2 : s.size + i < (s ++ x).size := by rw [ByteArray.size_append]; omega
  rw [← sL_at _ _ h2, ← sL_at _ i h, ByteArray.getElem_append_right (by omega)]
  simp
theorem bytesI_size (xs : List Int) : (bytesI xs).size = xs.length := by
  show (xs.map fun x => UInt8.ofNat x.toNat).toArray.size = xs.length
  simp
theorem sL_bytesI (xs : List Int) (i : Nat) (x : Int) (hx : xs[i]? = some x) (h0 : 0 ≤ x) (h1 : x ≤ 255) : sL (bytesI xs) i = x := by
  unfold sL bytesI
  have : ((xs.map fun x => UInt8.ofNat x.toNat).toArray.getD i 0) = UInt8.ofNat x.toNat := by
    rw [Array.getD_eq_getD_getElem?]
    simp [hx]
  rw [this]
  simp
  omega
theorem parse_back {op a b c : Int} (h : rightB op a b c = true) (A B : ByteArray) : parseB (A ++ bytesI [op, a, b, c] ++ B) A.size = ((op, a, b, c), 0) := by
  obtain ⟨⟨h10, h11⟩, ⟨h20, h21⟩, ⟨h30, h31⟩, h40, h41⟩ := rightB_lim h
  have hs : (bytesI [op, a, b, c]).size = 4 := bytesI_size _
  have hz : (A ++ bytesI [op, a, b, c] ++ B).size = A.size + 4 + B.size := by rw [ByteArray.size_append, ByteArray.size_append, hs]
  have e : ∀ i, i < 4 → sL (A ++ bytesI [op, a, b, c] ++ B) (A.size + i) = sL (bytesI [op, a, b, c]) i := fun i hi => by
    rw [sL_append _ _ _ (by rw [ByteArray.size_append, hs]; omega), sL_right _ _ _ (by omega)]
  have e0 := (e 0 (by omega)).trans (sL_bytesI [op, a, b, c] 0 op rfl h10 (by omega))
  have e1 := (e 1 (by omega)).trans (sL_bytesI [op, a, b, c] 1 a rfl h20 h21)
  have e2 := (e 2 (by omega)).trans (sL_bytesI [op, a, b, c] 2 b rfl h30 h31)
  have e3 := (e 3 (by omega)).trans (sL_bytesI [op, a, b, c] 3 c rfl h40 h41)
  rw [Nat.add_zero] at e0
  simp only [parseB, Int.toNat_natCast, e0, e1, e2, e3, h, if_true]
  rw [if_neg (by omega), if_neg (by rw [hz]; omega)]
theorem build_back {B : ByteArray} {y : Int × Int × Int × Int} (h : parseB B 0 = (y, 0)) : rightB y.1 y.2.1 y.2.2.1 y.2.2.2 = true ∧ 4 ≤ B.size ∧ bytesI [y.1, y.2.1, y.2.2.1, y.2.2.2] = B.extract 0 4 := by
  simp only [parseB] at h
  rw [if_neg (by omega)] at h
  split at h
  · simp at h
  · rename_i hlt
    split at h
    · rename_i hr
      simp only [Prod.mk.injEq, and_true] at h
      subst h
      have h4 : 4 ≤ B.size := by omega
      refine ⟨hr, h4, ?_⟩
      apply ByteArray.ext
      apply Array.ext
      · simp [bytesI, ByteArray.data_extract]
        have : B.data.size = B.size := rfl
        omega
      · intro i hi1 hi2
        have hi : i < 4 := by simpa [bytesI] using hi1
        have key : ∀ j, j < 4 → UInt8.ofNat (sL B j).toNat = B.data.getD j 0 := fun j hj => by
          unfold sL
          simp
        have r : (B.extract 0 4).data[i] = B.data.getD i 0 := by
          have hB : i < B.data.size := Nat.lt_of_lt_of_le hi h4
          rw [Array.getD_eq_getD_getElem?, Array.getElem?_eq_getElem hB]
          simp [ByteArray.data_extract]
        rw [r, ← key i hi]
        have hc : i = 0 ∨ i = 1 ∨ i = 2 ∨ i = 3 := by omega
        rcases hc with rfl | rfl | rfl | rfl <;> rfl
    · simp at h
end Go.Proofs.Ytagmoldiolabfaa
