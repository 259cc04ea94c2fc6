/- Chapter 13: the pure model of an instruction's shape, name, and form. No program's text. -/
import Derived.Test.YtagmoldiolabfaaBase
namespace Go.Proofs.Ytagmoldiolabfaa.Zb
open Go.RowKit

def nameTab : List ByteArray := [⟨#[116, 105, 99, 107]⟩, ⟨#[110, 105, 108]⟩, ⟨#[99, 111, 110, 115, 116]⟩, ⟨#[109, 111, 118, 101]⟩, ⟨#[98, 111, 120]⟩, ⟨#[103, 101, 116]⟩, ⟨#[115, 101, 116]⟩, ⟨#[117, 112]⟩, ⟨#[117, 112, 115, 101, 116]⟩, ⟨#[97, 100, 100]⟩, ⟨#[115, 117, 98]⟩, ⟨#[109, 117, 108]⟩, ⟨#[100, 105, 118]⟩, ⟨#[114, 101, 109]⟩, ⟨#[99, 97, 116]⟩, ⟨#[101, 113]⟩, ⟨#[110, 101]⟩, ⟨#[108, 116]⟩, ⟨#[108, 101]⟩, ⟨#[110, 101, 103]⟩, ⟨#[110, 111, 116]⟩, ⟨#[108, 101, 110]⟩, ⟨#[116, 97, 98, 108, 101]⟩, ⟨#[105, 110, 100, 101, 120]⟩, ⟨#[115, 116, 111, 114, 101]⟩, ⟨#[106, 117, 109, 112]⟩, ⟨#[102, 97, 108, 115, 101]⟩, ⟨#[116, 114, 117, 101]⟩, ⟨#[102, 110]⟩, ⟨#[99, 97, 108, 108]⟩, ⟨#[111, 119, 110]⟩, ⟨#[117, 115, 101]⟩, ⟨#[115, 112, 97, 119, 110]⟩, ⟨#[115, 116, 97, 116, 101]⟩, ⟨#[112, 117, 116]⟩, ⟨#[101, 109, 105, 116]⟩, ⟨#[121, 105, 101, 108, 100]⟩, ⟨#[114, 101, 116, 117, 114, 110]⟩]
def shapeTab : List ByteArray := [⟨#[110, 45, 45]⟩, ⟨#[114, 45, 45]⟩, ⟨#[114, 119]⟩, ⟨#[114, 114, 45]⟩, ⟨#[114, 45, 45]⟩, ⟨#[114, 114, 45]⟩, ⟨#[114, 114, 45]⟩, ⟨#[114, 117, 45]⟩, ⟨#[117, 114, 45]⟩, ⟨#[114, 114, 114]⟩, ⟨#[114, 114, 114]⟩, ⟨#[114, 114, 114]⟩, ⟨#[114, 114, 114]⟩, ⟨#[114, 114, 114]⟩, ⟨#[114, 114, 114]⟩, ⟨#[114, 114, 114]⟩, ⟨#[114, 114, 114]⟩, ⟨#[114, 114, 114]⟩, ⟨#[114, 114, 114]⟩, ⟨#[114, 114, 45]⟩, ⟨#[114, 114, 45]⟩, ⟨#[114, 114, 45]⟩, ⟨#[114, 45, 45]⟩, ⟨#[114, 114, 114]⟩, ⟨#[114, 114, 114]⟩, ⟨#[45, 119]⟩, ⟨#[114, 119]⟩, ⟨#[114, 119]⟩, ⟨#[114, 119]⟩, ⟨#[114, 114, 110]⟩, ⟨#[114, 114, 110]⟩, ⟨#[114, 114, 110]⟩, ⟨#[114, 114, 45]⟩, ⟨#[114, 45, 45]⟩, ⟨#[114, 45, 45]⟩, ⟨#[114, 45, 45]⟩, ⟨#[110, 45, 45]⟩, ⟨#[114, 45, 45]⟩]
def isOp (op : Int) : Bool := decide (0 ≤ op) && decide (op < 38)
def nameB (op : Int) : ByteArray := if isOp op then nameTab.getD op.toNat .empty else .empty
def shapeB (op : Int) : ByteArray := if isOp op then shapeTab.getD op.toNat .empty else .empty
/-- may the number stand where the letter c does -/
def fitsB (n : Int) (c : Int) : Bool := if c = 45 then n == 0 else decide (0 ≤ n) && decide (n ≤ 255)
theorem ops38 {op : Int} (h : isOp op = true) : op = 0 ∨ op = 1 ∨ op = 2 ∨ op = 3 ∨ op = 4 ∨ op = 5 ∨ op = 6 ∨ op = 7 ∨ op = 8 ∨ op = 9 ∨ op = 10 ∨ op = 11 ∨ op = 12 ∨ op = 13 ∨ op = 14 ∨ op = 15 ∨ op = 16 ∨ op = 17 ∨ op = 18 ∨ op = 19 ∨ op = 20 ∨ op = 21 ∨ op = 22 ∨ op = 23 ∨ op = 24 ∨ op = 25 ∨ op = 26 ∨ op = 27 ∨ op = 28 ∨ op = 29 ∨ op = 30 ∨ op = 31 ∨ op = 32 ∨ op = 33 ∨ op = 34 ∨ op = 35 ∨ op = 36 ∨ op = 37 := by
  simp [isOp] at h; omega
theorem nameB_out {op : Int} (h : isOp op = false) : nameB op = ⟨#[]⟩ := by simp [nameB, h]; rfl
theorem shapeB_out {op : Int} (h : isOp op = false) : shapeB op = ⟨#[]⟩ := by simp [shapeB, h]; rfl
theorem nameB_0 : nameB 0 = ⟨#[116, 105, 99, 107]⟩ := by kernel_rfl
theorem nameB_1 : nameB 1 = ⟨#[110, 105, 108]⟩ := by kernel_rfl
theorem nameB_2 : nameB 2 = ⟨#[99, 111, 110, 115, 116]⟩ := by kernel_rfl
theorem nameB_3 : nameB 3 = ⟨#[109, 111, 118, 101]⟩ := by kernel_rfl
theorem nameB_4 : nameB 4 = ⟨#[98, 111, 120]⟩ := by kernel_rfl
theorem nameB_5 : nameB 5 = ⟨#[103, 101, 116]⟩ := by kernel_rfl
theorem nameB_6 : nameB 6 = ⟨#[115, 101, 116]⟩ := by kernel_rfl
theorem nameB_7 : nameB 7 = ⟨#[117, 112]⟩ := by kernel_rfl
theorem nameB_8 : nameB 8 = ⟨#[117, 112, 115, 101, 116]⟩ := by kernel_rfl
theorem nameB_9 : nameB 9 = ⟨#[97, 100, 100]⟩ := by kernel_rfl
theorem nameB_10 : nameB 10 = ⟨#[115, 117, 98]⟩ := by kernel_rfl
theorem nameB_11 : nameB 11 = ⟨#[109, 117, 108]⟩ := by kernel_rfl
theorem nameB_12 : nameB 12 = ⟨#[100, 105, 118]⟩ := by kernel_rfl
theorem nameB_13 : nameB 13 = ⟨#[114, 101, 109]⟩ := by kernel_rfl
theorem nameB_14 : nameB 14 = ⟨#[99, 97, 116]⟩ := by kernel_rfl
theorem nameB_15 : nameB 15 = ⟨#[101, 113]⟩ := by kernel_rfl
theorem nameB_16 : nameB 16 = ⟨#[110, 101]⟩ := by kernel_rfl
theorem nameB_17 : nameB 17 = ⟨#[108, 116]⟩ := by kernel_rfl
theorem nameB_18 : nameB 18 = ⟨#[108, 101]⟩ := by kernel_rfl
theorem nameB_19 : nameB 19 = ⟨#[110, 101, 103]⟩ := by kernel_rfl
theorem nameB_20 : nameB 20 = ⟨#[110, 111, 116]⟩ := by kernel_rfl
theorem nameB_21 : nameB 21 = ⟨#[108, 101, 110]⟩ := by kernel_rfl
theorem nameB_22 : nameB 22 = ⟨#[116, 97, 98, 108, 101]⟩ := by kernel_rfl
theorem nameB_23 : nameB 23 = ⟨#[105, 110, 100, 101, 120]⟩ := by kernel_rfl
theorem nameB_24 : nameB 24 = ⟨#[115, 116, 111, 114, 101]⟩ := by kernel_rfl
theorem nameB_25 : nameB 25 = ⟨#[106, 117, 109, 112]⟩ := by kernel_rfl
theorem nameB_26 : nameB 26 = ⟨#[102, 97, 108, 115, 101]⟩ := by kernel_rfl
theorem nameB_27 : nameB 27 = ⟨#[116, 114, 117, 101]⟩ := by kernel_rfl
theorem nameB_28 : nameB 28 = ⟨#[102, 110]⟩ := by kernel_rfl
theorem nameB_29 : nameB 29 = ⟨#[99, 97, 108, 108]⟩ := by kernel_rfl
theorem nameB_30 : nameB 30 = ⟨#[111, 119, 110]⟩ := by kernel_rfl
theorem nameB_31 : nameB 31 = ⟨#[117, 115, 101]⟩ := by kernel_rfl
theorem nameB_32 : nameB 32 = ⟨#[115, 112, 97, 119, 110]⟩ := by kernel_rfl
theorem nameB_33 : nameB 33 = ⟨#[115, 116, 97, 116, 101]⟩ := by kernel_rfl
theorem nameB_34 : nameB 34 = ⟨#[112, 117, 116]⟩ := by kernel_rfl
theorem nameB_35 : nameB 35 = ⟨#[101, 109, 105, 116]⟩ := by kernel_rfl
theorem nameB_36 : nameB 36 = ⟨#[121, 105, 101, 108, 100]⟩ := by kernel_rfl
theorem nameB_37 : nameB 37 = ⟨#[114, 101, 116, 117, 114, 110]⟩ := by kernel_rfl
/-- a text's letter at a place -/
def sL (s : ByteArray) (i : Nat) : Int := ((s.data.getD i 0).toNat : Int)
def rightB (op a b c : Int) : Bool := isOp op && (fitsB a (sL (shapeB op) 0) && fitsB b (sL (shapeB op) 1) && fitsB c (sL (shapeB op) ((shapeB op).size - 1)))
theorem sL_at (s : ByteArray) (i : Nat) (h : i < s.size) : ((s[i]).toNat : Int) = sL s i := by
  unfold sL
  rw [Array.getD_eq_getD_getElem?, Array.getElem?_eq_getElem h]; rfl
theorem shape_facts_nat : ∀ o, o < 38 → (2 ≤ (shapeTab.getD o .empty).size ∧ (shapeTab.getD o .empty).size ≤ 3) ∧ ((shapeTab.getD o .empty).size = 2 → sL (shapeTab.getD o .empty) 1 = 119) := by decide +kernel
theorem shape_facts {op : Int} (h : isOp op = true) : 2 ≤ (shapeB op).size ∧ (shapeB op).size ≤ 3 ∧ ((shapeB op).size = 2 → sL (shapeB op) 1 = 119) := by
  have h' := h
  simp [isOp] at h'
  have := shape_facts_nat op.toNat (by omega)
  simp only [shapeB, h, if_true]
  exact ⟨this.1.1, this.1.2, this.2⟩

end Go.Proofs.Ytagmoldiolabfaa.Zb
