/- Several texts in one: InstM, InstA, InstB, InstC, InstD, InstE. -/
import Derived.Test.YthgjmbcojbmlhaaBase
import Derived.Test.YthgjmbcojbmlhaaRows
import Derived.Deep.QuietTactic
import Derived.Deep.RegionWith
import Derived.BigQuiet
import Derived.Laws.Closers25
import Derived.IntWalk
/- Chapter 13: the pure model of an instruction's shape, name, and form. No program's text. -/
namespace Go.Proofs.Ythgjmbcojbmlhaa.Zb
open Go.RowKit

def nameTab : List ByteArray := [⟨#[116, 105, 99, 107]⟩, ⟨#[110, 105, 108]⟩, ⟨#[99, 111, 110, 115, 116]⟩, ⟨#[109, 111, 118, 101]⟩, ⟨#[98, 111, 120]⟩, ⟨#[103, 101, 116]⟩, ⟨#[115, 101, 116]⟩, ⟨#[117, 112]⟩, ⟨#[117, 112, 115, 101, 116]⟩, ⟨#[97, 100, 100]⟩, ⟨#[115, 117, 98]⟩, ⟨#[109, 117, 108]⟩, ⟨#[100, 105, 118]⟩, ⟨#[114, 101, 109]⟩, ⟨#[99, 97, 116]⟩, ⟨#[101, 113]⟩, ⟨#[110, 101]⟩, ⟨#[108, 116]⟩, ⟨#[108, 101]⟩, ⟨#[110, 101, 103]⟩, ⟨#[110, 111, 116]⟩, ⟨#[108, 101, 110]⟩, ⟨#[116, 97, 98, 108, 101]⟩, ⟨#[105, 110, 100, 101, 120]⟩, ⟨#[115, 116, 111, 114, 101]⟩, ⟨#[106, 117, 109, 112]⟩, ⟨#[102, 97, 108, 115, 101]⟩, ⟨#[116, 114, 117, 101]⟩, ⟨#[102, 110]⟩, ⟨#[99, 97, 108, 108]⟩, ⟨#[111, 119, 110]⟩, ⟨#[117, 115, 101]⟩, ⟨#[115, 112, 97, 119, 110]⟩, ⟨#[115, 116, 97, 116, 101]⟩, ⟨#[112, 117, 116]⟩, ⟨#[101, 109, 105, 116]⟩, ⟨#[121, 105, 101, 108, 100]⟩, ⟨#[114, 101, 116, 117, 114, 110]⟩]
def shapeTab : List ByteArray := [⟨#[110, 45, 45]⟩, ⟨#[114, 45, 45]⟩, ⟨#[114, 119]⟩, ⟨#[114, 114, 45]⟩, ⟨#[114, 45, 45]⟩, ⟨#[114, 114, 45]⟩, ⟨#[114, 114, 45]⟩, ⟨#[114, 117, 45]⟩, ⟨#[117, 114, 45]⟩, ⟨#[114, 114, 114]⟩, ⟨#[114, 114, 114]⟩, ⟨#[114, 114, 114]⟩, ⟨#[114, 114, 114]⟩, ⟨#[114, 114, 114]⟩, ⟨#[114, 114, 114]⟩, ⟨#[114, 114, 114]⟩, ⟨#[114, 114, 114]⟩, ⟨#[114, 114, 114]⟩, ⟨#[114, 114, 114]⟩, ⟨#[114, 114, 45]⟩, ⟨#[114, 114, 45]⟩, ⟨#[114, 114, 45]⟩, ⟨#[114, 45, 45]⟩, ⟨#[114, 114, 114]⟩, ⟨#[114, 114, 114]⟩, ⟨#[45, 119]⟩, ⟨#[114, 119]⟩, ⟨#[114, 119]⟩, ⟨#[114, 119]⟩, ⟨#[114, 114, 110]⟩, ⟨#[114, 114, 110]⟩, ⟨#[114, 114, 110]⟩, ⟨#[114, 114, 45]⟩, ⟨#[114, 45, 45]⟩, ⟨#[114, 45, 45]⟩, ⟨#[114, 45, 45]⟩, ⟨#[110, 45, 45]⟩, ⟨#[114, 45, 45]⟩]
def isOp (op : Int) : Bool := decide (0 ≤ op) && decide (op < 38)
def nameB (op : Int) : ByteArray := if isOp op then nameTab.getD op.toNat .empty else .empty
def shapeB (op : Int) : ByteArray := if isOp op then shapeTab.getD op.toNat .empty else .empty
/-- may the number stand where the letter c does -/
def fitsB (n : Int) (c : Int) : Bool := if c = 45 then n == 0 else decide (0 ≤ n) && decide (n ≤ 255)
set_option maxRecDepth 20000 in
theorem ops38 {op : Int} (h : isOp op = true) : op = 0 ∨ op = 1 ∨ op = 2 ∨ op = 3 ∨ op = 4 ∨ op = 5 ∨ op = 6 ∨ op = 7 ∨ op = 8 ∨ op = 9 ∨ op = 10 ∨ op = 11 ∨ op = 12 ∨ op = 13 ∨ op = 14 ∨ op = 15 ∨ op = 16 ∨ op = 17 ∨ op = 18 ∨ op = 19 ∨ op = 20 ∨ op = 21 ∨ op = 22 ∨ op = 23 ∨ op = 24 ∨ op = 25 ∨ op = 26 ∨ op = 27 ∨ op = 28 ∨ op = 29 ∨ op = 30 ∨ op = 31 ∨ op = 32 ∨ op = 33 ∨ op = 34 ∨ op = 35 ∨ op = 36 ∨ op = 37 := by
  simp [isOp] at h; omega
set_option maxRecDepth 20000 in
theorem nameB_out {op : Int} (h : isOp op = false) : nameB op = ⟨#[]⟩ := by simp [nameB, h]; rfl
set_option maxRecDepth 20000 in
theorem shapeB_out {op : Int} (h : isOp op = false) : shapeB op = ⟨#[]⟩ := by simp [shapeB, h]; rfl
set_option maxRecDepth 20000 in
theorem nameB_0 : nameB 0 = ⟨#[116, 105, 99, 107]⟩ := by kernel_rfl
set_option maxRecDepth 20000 in
theorem nameB_1 : nameB 1 = ⟨#[110, 105, 108]⟩ := by kernel_rfl
set_option maxRecDepth 20000 in
theorem nameB_2 : nameB 2 = ⟨#[99, 111, 110, 115, 116]⟩ := by kernel_rfl
set_option maxRecDepth 20000 in
theorem nameB_3 : nameB 3 = ⟨#[109, 111, 118, 101]⟩ := by kernel_rfl
set_option maxRecDepth 20000 in
theorem nameB_4 : nameB 4 = ⟨#[98, 111, 120]⟩ := by kernel_rfl
set_option maxRecDepth 20000 in
theorem nameB_5 : nameB 5 = ⟨#[103, 101, 116]⟩ := by kernel_rfl
set_option maxRecDepth 20000 in
theorem nameB_6 : nameB 6 = ⟨#[115, 101, 116]⟩ := by kernel_rfl
set_option maxRecDepth 20000 in
theorem nameB_7 : nameB 7 = ⟨#[117, 112]⟩ := by kernel_rfl
set_option maxRecDepth 20000 in
theorem nameB_8 : nameB 8 = ⟨#[117, 112, 115, 101, 116]⟩ := by kernel_rfl
set_option maxRecDepth 20000 in
theorem nameB_9 : nameB 9 = ⟨#[97, 100, 100]⟩ := by kernel_rfl
set_option maxRecDepth 20000 in
theorem nameB_10 : nameB 10 = ⟨#[115, 117, 98]⟩ := by kernel_rfl
set_option maxRecDepth 20000 in
theorem nameB_11 : nameB 11 = ⟨#[109, 117, 108]⟩ := by kernel_rfl
set_option maxRecDepth 20000 in
theorem nameB_12 : nameB 12 = ⟨#[100, 105, 118]⟩ := by kernel_rfl
set_option maxRecDepth 20000 in
theorem nameB_13 : nameB 13 = ⟨#[114, 101, 109]⟩ := by kernel_rfl
set_option maxRecDepth 20000 in
theorem nameB_14 : nameB 14 = ⟨#[99, 97, 116]⟩ := by kernel_rfl
set_option maxRecDepth 20000 in
theorem nameB_15 : nameB 15 = ⟨#[101, 113]⟩ := by kernel_rfl
set_option maxRecDepth 20000 in
theorem nameB_16 : nameB 16 = ⟨#[110, 101]⟩ := by kernel_rfl
set_option maxRecDepth 20000 in
theorem nameB_17 : nameB 17 = ⟨#[108, 116]⟩ := by kernel_rfl
set_option maxRecDepth 20000 in
theorem nameB_18 : nameB 18 = ⟨#[108, 101]⟩ := by kernel_rfl
set_option maxRecDepth 20000 in
theorem nameB_19 : nameB 19 = ⟨#[110, 101, 103]⟩ := by kernel_rfl
set_option maxRecDepth 20000 in
theorem nameB_20 : nameB 20 = ⟨#[110, 111, 116]⟩ := by kernel_rfl
set_option maxRecDepth 20000 in
theorem nameB_21 : nameB 21 = ⟨#[108, 101, 110]⟩ := by kernel_rfl
set_option maxRecDepth 20000 in
theorem nameB_22 : nameB 22 = ⟨#[116, 97, 98, 108, 101]⟩ := by kernel_rfl
set_option maxRecDepth 20000 in
theorem nameB_23 : nameB 23 = ⟨#[105, 110, 100, 101, 120]⟩ := by kernel_rfl
set_option maxRecDepth 20000 in
theorem nameB_24 : nameB 24 = ⟨#[115, 116, 111, 114, 101]⟩ := by kernel_rfl
set_option maxRecDepth 20000 in
theorem nameB_25 : nameB 25 = ⟨#[106, 117, 109, 112]⟩ := by kernel_rfl
set_option maxRecDepth 20000 in
theorem nameB_26 : nameB 26 = ⟨#[102, 97, 108, 115, 101]⟩ := by kernel_rfl
set_option maxRecDepth 20000 in
theorem nameB_27 : nameB 27 = ⟨#[116, 114, 117, 101]⟩ := by kernel_rfl
set_option maxRecDepth 20000 in
theorem nameB_28 : nameB 28 = ⟨#[102, 110]⟩ := by kernel_rfl
set_option maxRecDepth 20000 in
theorem nameB_29 : nameB 29 = ⟨#[99, 97, 108, 108]⟩ := by kernel_rfl
set_option maxRecDepth 20000 in
theorem nameB_30 : nameB 30 = ⟨#[111, 119, 110]⟩ := by kernel_rfl
set_option maxRecDepth 20000 in
theorem nameB_31 : nameB 31 = ⟨#[117, 115, 101]⟩ := by kernel_rfl
set_option maxRecDepth 20000 in
theorem nameB_32 : nameB 32 = ⟨#[115, 112, 97, 119, 110]⟩ := by kernel_rfl
set_option maxRecDepth 20000 in
theorem nameB_33 : nameB 33 = ⟨#[115, 116, 97, 116, 101]⟩ := by kernel_rfl
set_option maxRecDepth 20000 in
theorem nameB_34 : nameB 34 = ⟨#[112, 117, 116]⟩ := by kernel_rfl
set_option maxRecDepth 20000 in
theorem nameB_35 : nameB 35 = ⟨#[101, 109, 105, 116]⟩ := by kernel_rfl
set_option maxRecDepth 20000 in
theorem nameB_36 : nameB 36 = ⟨#[121, 105, 101, 108, 100]⟩ := by kernel_rfl
set_option maxRecDepth 20000 in
theorem nameB_37 : nameB 37 = ⟨#[114, 101, 116, 117, 114, 110]⟩ := by kernel_rfl
/-- a text's letter at a place -/
def sL (s : ByteArray) (i : Nat) : Int := ((s.data.getD i 0).toNat : Int)
def rightB (op a b c : Int) : Bool := isOp op && (fitsB a (sL (shapeB op) 0) && fitsB b (sL (shapeB op) 1) && fitsB c (sL (shapeB op) ((shapeB op).size - 1)))
set_option maxRecDepth 20000 in
theorem sL_at (s : ByteArray) (i : Nat) (h : i < s.size) : ((s[i]).toNat : Int) = sL s i := by
  unfold sL
  rw [Array.getD_eq_getD_getElem?, Array.getElem?_eq_getElem h]; rfl
set_option maxRecDepth 20000 in
theorem shape_facts_nat : ∀ o, o < 38 → (2 ≤ (shapeTab.getD o .empty).size ∧ (shapeTab.getD o .empty).size ≤ 3) ∧ ((shapeTab.getD o .empty).size = 2 → sL (shapeTab.getD o .empty) 1 = 119) := by decide +kernel
set_option maxRecDepth 20000 in
theorem shape_facts {op : Int} (h : isOp op = true) : 2 ≤ (shapeB op).size ∧ (shapeB op).size ≤ 3 ∧ ((shapeB op).size = 2 → sL (shapeB op) 1 = 119) := by
  have h' := h
  simp [isOp] at h'
  have := shape_facts_nat op.toNat (by omega)
  simp only [shapeB, h, if_true]
  exact ⟨this.1.1, this.1.2, this.2⟩

end Go.Proofs.Ythgjmbcojbmlhaa.Zb

/- Chapter 13: inst.known, fits, Shape, Name; the document's Name and Shape. -/
namespace Go.Proofs.Ythgjmbcojbmlhaa
open Go.RowKit Zb

set_option maxRecDepth 20000 in
theorem iknown_calls (op : Int) (w : World) : Calls Try.prog 85 #[.int .i64 op] w fun e w' => e = .returned (.bool (isOp op)) ∧ w' = w := by
  by_cases h0 : 0 ≤ op
  · by_cases h1 : op < 38
    · have e : isOp op = true := by simp [isOp, h0, h1]
      rw [e]
      go_enter Try.func85, Try.ntmps85
      go_wp2_with fail
      go_ret
      exact ⟨rfl, rfl⟩
    · have e : isOp op = false := by simp [isOp, h0, h1]
      rw [e]
      go_enter Try.func85, Try.ntmps85
      go_wp2_with fail
      go_ret
      exact ⟨rfl, rfl⟩
  · have e : isOp op = false := by simp [isOp, h0]
    rw [e]
    go_enter Try.func85, Try.ntmps85
    go_wp2_with fail
    go_ret
    exact ⟨rfl, rfl⟩

set_option maxRecDepth 20000 in
theorem ifits_calls (n c : Int) (w : World) : Calls Try.prog 79 #[.int .i64 n, .int .u8 c] w fun e w' => e = .returned (.bool (fitsB n c)) ∧ w' = w := by
  by_cases hc : c = 45
  · subst hc
    have e : fitsB n 45 = (n == 0) := by simp [fitsB]
    rw [e]
    go_enter Try.func79, Try.ntmps79
    go_wp2_with fail
    go_ret
    exact ⟨rfl, rfl⟩
  · by_cases h0 : 0 ≤ n
    · by_cases h1 : n ≤ 255
      · have e : fitsB n c = true := by simp [fitsB, hc, h0, h1]
        rw [e]
        go_enter Try.func79, Try.ntmps79
        go_wp2_with fail
        go_ret
        exact ⟨rfl, rfl⟩
      · have e : fitsB n c = false := by simp [fitsB, hc, h0, h1]
        rw [e]
        go_enter Try.func79, Try.ntmps79
        go_wp2_with fail
        go_ret
        exact ⟨rfl, rfl⟩
    · have e : fitsB n c = false := by simp [fitsB, hc, h0]
      rw [e]
      go_enter Try.func79, Try.ntmps79
      go_wp2_with fail
      go_ret
      exact ⟨rfl, rfl⟩
set_option maxRecDepth 20000 in
theorem risms_calls (n c : Int) (w : World) : Calls Try.prog 83 #[.int .i64 n, .int .u8 c] w fun e w' => e = .returned (.bool (fitsB n c)) ∧ w' = w := by
  by_cases hc : c = 45
  · subst hc
    have e : fitsB n 45 = (n == 0) := by simp [fitsB]
    rw [e]
    by_cases hn : n = 0
    · subst hn
      go_enter Try.func83, Try.ntmps83
      go_wp2_with fail
      go_ret
      exact ⟨rfl, rfl⟩
    · have e : (n == 0) = false := by simp [hn]
      rw [e]
      by_cases h0 : 0 ≤ n
      · by_cases h1 : n ≤ 255
        all_goals go_enter Try.func83, Try.ntmps83
        all_goals go_wp2_with fail
        all_goals go_ret
        all_goals exact ⟨rfl, rfl⟩
      · go_enter Try.func83, Try.ntmps83
        go_wp2_with fail
        go_ret
        exact ⟨rfl, rfl⟩
  · by_cases h0 : 0 ≤ n
    · by_cases h1 : n ≤ 255
      · have e : fitsB n c = true := by simp [fitsB, hc, h0, h1]
        rw [e]
        go_enter Try.func83, Try.ntmps83
        go_wp2_with fail
        go_ret
        exact ⟨rfl, rfl⟩
      · have e : fitsB n c = false := by simp [fitsB, hc, h0, h1]
        rw [e]
        go_enter Try.func83, Try.ntmps83
        go_wp2_with fail
        go_ret
        exact ⟨rfl, rfl⟩
    · have e : fitsB n c = false := by simp [fitsB, hc, h0]
      rw [e]
      go_enter Try.func83, Try.ntmps83
      go_wp2_with fail
      go_ret
      exact ⟨rfl, rfl⟩

set_option maxRecDepth 100000 in
theorem iShape_calls (op : Int) (w : World) : Calls Try.prog 78 #[.int .i64 op] w fun e w' => e = .returned (.string (shapeB op)) ∧ w' = w := by
  by_cases h : isOp op = true
  · rcases ops38 h with rfl | rfl | rfl | rfl | rfl | rfl | rfl | rfl | rfl | rfl | rfl | rfl | rfl | rfl | rfl | rfl | rfl | rfl | rfl | rfl | rfl | rfl | rfl | rfl | rfl | rfl | rfl | rfl | rfl | rfl | rfl | rfl | rfl | rfl | rfl | rfl | rfl | rfl
    all_goals go_enter Try.func78, Try.ntmps78
    all_goals go_wp2_with fail
    all_goals refine (iknown_calls _ _).mono ?_
    all_goals rintro e w' ⟨rfl, rfl⟩
    all_goals rw [h]
    all_goals clear h
    all_goals go_wp2_with fail
    all_goals go_ret
    all_goals exact ⟨by kernel_rfl, rfl⟩
  · have h : isOp op = false := by simpa using h
    rw [shapeB_out h]
    go_enter Try.func78, Try.ntmps78
    go_wp2_with fail
    refine (iknown_calls _ _).mono ?_
    rintro e w' ⟨rfl, rfl⟩
    rw [h]
    go_wp2_with fail
    go_ret
    exact ⟨rfl, rfl⟩

end Go.Proofs.Ythgjmbcojbmlhaa

/- Chapter 13: the document's Name and Shape; inst.Name. -/
namespace Go.Proofs.Ythgjmbcojbmlhaa
open Go.RowKit Zb

set_option maxRecDepth 20000 in
theorem below_alloc (w : World) (o : Obj) : Below w.heap.size w (w.alloc o) := ((Turned.refl (fun _ => False) w).alloc o).below (Nat.le_refl _) (fun _ h => h.elim)

set_option maxRecDepth 20000 in
theorem nameB_tab (o : Nat) (h : isOp o = true) (ho : o < (nameTab.map Value.string).length) : (nameTab.map Value.string)[o] = .string (nameB o) := by
  simp [nameB, h, List.getD_eq_getElem?_getD]
  rw [List.getElem?_eq_getElem (by simpa using ho)]; rfl

set_option maxRecDepth 100000 in
set_option maxHeartbeats 8000000 in
theorem riName_calls (op : Int) (w : World) : Calls Try.prog 86 #[.int .i64 op] w fun e w' => e = .returned (.string (nameB op)) ∧ Below w.heap.size w w' := by
  by_cases h : isOp op = true
  · obtain ⟨o, rfl⟩ : ∃ o : Nat, op = o := ⟨op.toNat, by simp [isOp] at h; omega⟩
    have ho : o < 38 := by simp [isOp] at h; omega
    go_enter Try.func86, Try.ntmps86
    go_wp2_with fail
    go_ret
    exact ⟨congrArg Ending.returned (nameB_tab o h ho), below_alloc _ _⟩
  · have h : isOp op = false := by simpa using h
    rw [nameB_out h]
    by_cases h0 : op < 0
    · go_enter Try.func86, Try.ntmps86
      go_wp2_with fail
      go_ret
      exact ⟨rfl, below_alloc _ _⟩
    · have h1 : 38 ≤ op := by simp [isOp] at h; omega
      go_enter Try.func86, Try.ntmps86
      go_wp2_with fail
      go_ret
      exact ⟨rfl, below_alloc _ _⟩

set_option maxRecDepth 100000 in
set_option maxHeartbeats 8000000 in
theorem riShape_calls (op : Int) (w : World) : Calls Try.prog 82 #[.int .i64 op] w fun e w' => e = .returned (.string (shapeB op)) ∧ Below w.heap.size w w' := by
  by_cases h : isOp op = true
  · rcases ops38 h with rfl | rfl | rfl | rfl | rfl | rfl | rfl | rfl | rfl | rfl | rfl | rfl | rfl | rfl | rfl | rfl | rfl | rfl | rfl | rfl | rfl | rfl | rfl | rfl | rfl | rfl | rfl | rfl | rfl | rfl | rfl | rfl | rfl | rfl | rfl | rfl | rfl | rfl
    all_goals go_enter Try.func82, Try.ntmps82
    all_goals go_wp2_with fail
    all_goals refine (riName_calls _ _).mono ?_
    all_goals rintro e w' ⟨rfl, hb⟩
    all_goals clear h
    all_goals simp only [nameB_0, nameB_1, nameB_2, nameB_3, nameB_4, nameB_5, nameB_6, nameB_7, nameB_8, nameB_9, nameB_10, nameB_11, nameB_12, nameB_13, nameB_14, nameB_15, nameB_16, nameB_17, nameB_18, nameB_19, nameB_20, nameB_21, nameB_22, nameB_23, nameB_24, nameB_25, nameB_26, nameB_27, nameB_28, nameB_29, nameB_30, nameB_31, nameB_32, nameB_33, nameB_34, nameB_35, nameB_36, nameB_37]
    all_goals go_wp2_with fail
    all_goals go_ret
    all_goals exact ⟨by kernel_rfl, hb⟩
  · have h : isOp op = false := by simpa using h
    rw [shapeB_out h]
    go_enter Try.func82, Try.ntmps82
    go_wp2_with fail
    refine (riName_calls _ _).mono ?_
    rintro e w' ⟨rfl, hb⟩
    rw [nameB_out h]
    go_wp2_with fail
    go_ret
    exact ⟨rfl, hb⟩
end Go.Proofs.Ythgjmbcojbmlhaa

/- Chapter 13: inst.Name, a loop over the names' one constant. -/
namespace Go.Proofs.Ythgjmbcojbmlhaa
open Go.RowKit Zb

def NAMES : List UInt8 := [116, 105, 99, 107, 32, 110, 105, 108, 32, 99, 111, 110, 115, 116, 32, 109, 111, 118, 101, 32, 98, 111, 120, 32, 103, 101, 116, 32, 115, 101, 116, 32, 117, 112, 32, 117, 112, 115, 101, 116, 32, 97, 100, 100, 32, 115, 117, 98, 32, 109, 117, 108, 32, 100, 105, 118, 32, 114, 101, 109, 32, 99, 97, 116, 32, 101, 113, 32, 110, 101, 32, 108, 116, 32, 108, 101, 32, 110, 101, 103, 32, 110, 111, 116, 32, 108, 101, 110, 32, 116, 97, 98, 108, 101, 32, 105, 110, 100, 101, 120, 32, 115, 116, 111, 114, 101, 32, 106, 117, 109, 112, 32, 102, 97, 108, 115, 101, 32, 116, 114, 117, 101, 32, 102, 110, 32, 99, 97, 108, 108, 32, 111, 119, 110, 32, 117, 115, 101, 32, 115, 112, 97, 119, 110, 32, 115, 116, 97, 116, 101, 32, 112, 117, 116, 32, 101, 109, 105, 116, 32, 121, 105, 101, 108, 100, 32, 114, 101, 116, 117, 114, 110, 32]
/-- the blanks ahead of a place, and the place behind the last of them -/
def nmCnt : Nat → Nat
  | 0 => 0
  | i + 1 => if NAMES[i]? = some 32 then nmCnt i + 1 else nmCnt i
def nmFrom : Nat → Nat
  | 0 => 0
  | i + 1 => if NAMES[i]? = some 32 then i + 1 else nmFrom i

def NAMESB : ByteArray := ⟨NAMES.toArray⟩
set_option maxRecDepth 20000 in
theorem nm_facts : ∀ i, i < 174 → nmFrom i ≤ i ∧ nmCnt i ≤ 38 ∧ (i < 173 → nmCnt i < 38) := by decide +kernel
set_option maxRecDepth 20000 in
theorem nm_size : NAMESB.size = 173 := by decide +kernel
set_option maxRecDepth 20000 in
theorem nm_get (k : Nat) (h : k < NAMESB.size) : NAMES[k]? = some NAMESB[k] := by
  have h' : k < NAMES.length := h
  exact List.getElem?_eq_getElem h'
set_option maxRecDepth 20000 in
theorem nm_word : ∀ k, k < 173 → NAMES[k]? = some 32 → NAMESB.extract (nmFrom k) k = nameTab.getD (nmCnt k) .empty := by decide +kernel
set_option maxRecDepth 20000 in
theorem nm_blank {k : Nat} (h : k < NAMESB.size) (hb : ((NAMESB[k].toNat : Int) != 32) = false) : nmFrom (k + 1) = k + 1 ∧ nmCnt (k + 1) = nmCnt k + 1 ∧ NAMES[k]? = some 32 := by
  have e : NAMESB[k] = 32 := by
    have : NAMESB[k].toNat = 32 := by simp at hb; omega
    exact UInt8.toNat_inj.1 this
  have := nm_get k h
  rw [e] at this
  simp [nmFrom, nmCnt, this]
set_option maxRecDepth 20000 in
theorem nm_plain {k : Nat} (h : k < NAMESB.size) (hb : ((NAMESB[k].toNat : Int) != 32) = true) : nmFrom (k + 1) = nmFrom k ∧ nmCnt (k + 1) = nmCnt k := by
  have e : NAMESB[k] ≠ 32 := by
    intro e; rw [e] at hb; simp at hb
  have := nm_get k h
  have hn : NAMES[k]? ≠ some 32 := by rw [this]; simpa using e
  simp [nmFrom, nmCnt, hn]

end Go.Proofs.Ythgjmbcojbmlhaa

/- Chapter 13: whether an instruction can be; its wide number; its bytes. -/
namespace Go.Proofs.Ythgjmbcojbmlhaa
open Go.RowKit Zb

/-- an instruction -/
abbrev instV (op a b c : Int) : Value := .agg #[.int .i64 op, .int .i64 a, .int .i64 b, .int .i64 c]

set_option maxRecDepth 20000 in
theorem below_alloc_drew (w : World) (o : Obj) (n : Nat) : Below w.heap.size w ((w.alloc o).drewN n) := (((Turned.refl (fun _ => False) w).alloc o).drewN n).below (Nat.le_refl _) (fun _ h => h.elim)

set_option maxRecDepth 20000 in
theorem ifits_lit {n c : Int} {v : Bool} (h : fitsB n c = v) (w : World) : Calls Try.prog 79 #[.int .i64 n, .int .u8 c] w fun e w' => e = .returned (.bool v) ∧ w' = w := by
  subst h
  exact ifits_calls n c w
set_option maxRecDepth 20000 in
theorem risms_lit {n c : Int} {v : Bool} (h : fitsB n c = v) (w : World) : Calls Try.prog 83 #[.int .i64 n, .int .u8 c] w fun e w' => e = .returned (.bool v) ∧ w' = w := by
  subst h
  exact risms_calls n c w
set_option maxRecDepth 20000 in
theorem isEmpty_of {s : ByteArray} (h : 0 < s.size) : s.toList.isEmpty = false := by
  rw [← decide_eq_emptyBytes]
  apply decide_eq_false
  intro e; subst e; simp at h
set_option maxHeartbeats 1000000 in
set_option maxRecDepth 20000 in
theorem iRight_calls (op a b c : Int) (w : World) : Calls Try.prog 56 #[instV op a b c] w fun e w' => e = .returned (.bool (rightB op a b c)) ∧ Below w.heap.size w w' := by
  have HS := hide (iShape_calls op)
  by_cases h : isOp op = true
  · obtain ⟨h1, h2, h3⟩ := shape_facts h
    have hr : rightB op a b c = (fitsB a (sL (shapeB op) 0) && fitsB b (sL (shapeB op) 1) && fitsB c (sL (shapeB op) ((shapeB op).size - 1))) := by simp [rightB, h]
    rw [hr]
    clear hr h3
    generalize shapeB op = s at *
    have hne := isEmpty_of (s := s) (by omega)
    have i0 : 0 < s.size := by omega
    have i1 : 1 < s.size := by omega
    have i2 : s.size - 1 < s.size := by omega
    have z0 : (0 : Int) < (s.size : Int) := by omega
    have z1 : (1 : Int) < (s.size : Int) := by omega
    rw [← sL_at s 0 i0, ← sL_at s 1 i1, ← sL_at s _ i2]
    obtain ⟨u, hA⟩ : ∃ u, fitsB a ((s[0]'i0).toNat : Int) = u := ⟨_, rfl⟩
    obtain ⟨v, hB⟩ : ∃ v, fitsB b ((s[1]'i1).toNat : Int) = v := ⟨_, rfl⟩
    rw [hA, hB]
    have HA := hide hA
    have HB := hide hB
    clear hA hB
    cases u
    case' true => cases v
    all_goals go_enter Try.func56, Try.ntmps56
    all_goals go_wp2_with fail
    all_goals refine (HS.out _).mono ?_
    all_goals rintro e w' ⟨rfl, rfl⟩
    all_goals go_wp2_with fail
    all_goals go_quiet ((go_at_call 79; first | (go_at_call_of 79 a; exact Calls.quiet_of_same (ifits_lit HA.out _)) | (go_at_call_of 79 b; exact Calls.quiet_of_same (ifits_lit HB.out _)) | exact Calls.quiet_of_same (ifits_calls _ _ _)))
    all_goals go_wp2_with fail
    all_goals go_ret
    all_goals exact ⟨rfl, below_alloc_drew _ _ _⟩
  · have h : isOp op = false := by simpa using h
    have hr : rightB op a b c = false := by simp [rightB, h]
    rw [hr]
    go_enter Try.func56, Try.ntmps56
    go_wp2_with fail
    refine (iShape_calls _ _).mono ?_
    rintro e w' ⟨rfl, rfl⟩
    rw [shapeB_out h]
    go_wp2_with fail
    go_ret
    exact ⟨rfl, below_alloc _ _⟩

set_option maxRecDepth 20000 in
theorem sL_append (s x : ByteArray) (i : Nat) (h : i < s.size) : sL (s ++ x) i = sL s i := by
  have h2 : i < (s ++ x).size := by rw [ByteArray.size_append]; omega
  rw [← sL_at _ i h2, ← sL_at _ i h, ByteArray.getElem_append_left h]
set_option maxRecDepth 20000 in
theorem sL_append_w (s : ByteArray) : sL (s ++ ⟨#[119]⟩) s.size = 119 := by
  have h2 : s.size < (s ++ ⟨#[119]⟩ : ByteArray).size := by rw [ByteArray.size_append]; show s.size < s.size + 1; omega
  rw [← sL_at _ _ h2, ByteArray.getElem_append_right (Nat.le_refl _)]
  simp
  rfl

set_option maxRecDepth 20000 in
theorem below_alloc_then {w w1 : World} {o : Obj} (h : Below (w.alloc o).heap.size (w.alloc o) w1) (n : Nat) : Below w.heap.size w (w1.drewN n) :=
  ((((Turned.refl (fun _ => False) w).alloc o).then_below h).drewN n).below (Nat.le_refl _) (fun _ h => h.elim)

set_option maxHeartbeats 1000000 in
set_option maxRecDepth 20000 in
theorem riRight_calls (op a b c : Int) (w : World) : Calls Try.prog 60 #[instV op a b c] w fun e w' => e = .returned (.bool (rightB op a b c)) ∧ Below w.heap.size w w' := by
  have HS := hide (riShape_calls op)
  by_cases h : isOp op = true
  · obtain ⟨h1, h2, h3⟩ := shape_facts h
    have hr : rightB op a b c = (fitsB a (sL (shapeB op) 0) && fitsB b (sL (shapeB op) 1) && fitsB c (sL (shapeB op) ((shapeB op).size - 1))) := by simp [rightB, h]
    rw [hr]
    clear hr
    generalize shapeB op = s at *
    have hne := isEmpty_of (s := s) (by omega)
    have i0 : 0 < s.size := by omega
    have i1 : 1 < s.size := by omega
    have z0 : (0 : Int) < (s.size : Int) := by omega
    have z1 : (1 : Int) < (s.size : Int) := by omega
    by_cases hs2 : s.size = 2
    · have h3 := h3 hs2
      have hw := sL_append_w s
      rw [hs2] at hw
      have q2 : ((s.size : Int) == 2) = true := by rw [hs2]; rfl
      have hq := sL_append s ⟨#[119]⟩ 0 i0
      have hq1 := sL_append s ⟨#[119]⟩ 1 i1
      have sz : (s ++ ⟨#[119]⟩ : ByteArray).size = 3 := by rw [ByteArray.size_append, hs2]; rfl
      have e : (fitsB a (sL s 0) && fitsB b (sL s 1) && fitsB c (sL s 1)) = (fitsB a (sL (s ++ ⟨#[119]⟩) 0) && fitsB b (sL (s ++ ⟨#[119]⟩) 1) && fitsB c (sL (s ++ ⟨#[119]⟩) 2)) := by rw [hq, hq1, hw, h3]
      rw [hs2, show 2 - 1 = 1 from rfl, e]
      obtain ⟨t, E⟩ : ∃ t, s ++ ⟨#[119]⟩ = t := ⟨_, rfl⟩
      rw [E] at sz ⊢
      clear e hq hq1 hw h3 h1 h2 z0 z1 i0 i1
      have j0 : 0 < t.size := by omega
      have j1 : 1 < t.size := by omega
      have j2 : 2 < t.size := by omega
      have z0 : (0 : Int) < (t.size : Int) := by omega
      have z1 : (1 : Int) < (t.size : Int) := by omega
      have z2 : (2 : Int) < (t.size : Int) := by omega
      rw [← sL_at _ 0 j0, ← sL_at _ 1 j1, ← sL_at _ 2 j2]
      obtain ⟨u, hA⟩ : ∃ u, fitsB a ((t[0]'j0).toNat : Int) = u := ⟨_, rfl⟩
      obtain ⟨v, hB⟩ : ∃ v, fitsB b ((t[1]'j1).toNat : Int) = v := ⟨_, rfl⟩
      rw [hA, hB]
      have HA := hide hA
      have HB := hide hB
      clear hA hB
      cases u
      case' true => cases v
      all_goals go_enter Try.func60, Try.ntmps60
      all_goals go_wp2_with fail
      all_goals refine (HS.out _).mono ?_
      all_goals rintro e w1 ⟨rfl, hbw⟩
      all_goals have K := (Blk.new w 78 #[.int .i64 op, .int .i64 a, .int .i64 b, .int .i64 c]).below hbw (by simp)
      all_goals have K1 := K.cell 1
      all_goals have K2 := K.cell 2
      all_goals have K3 := K.cell 3
      all_goals have HBW := hide hbw
      all_goals clear hbw K
      all_goals go_wp2_with fail
      all_goals go_quiet ((go_at_call 83; first | (go_at_call_of 83 a; exact Calls.quiet_of_same (risms_lit HA.out _)) | (go_at_call_of 83 b; exact Calls.quiet_of_same (risms_lit HB.out _)) | exact Calls.quiet_of_same (risms_calls _ _ _)))
      all_goals go_wp2_with fail
      all_goals go_ret
      all_goals exact ⟨rfl, below_alloc_then HBW.out _⟩
    · have hs3 : s.size = 3 := by omega
      have i2 : 2 < s.size := by omega
      have z2 : (2 : Int) < (s.size : Int) := by omega
      have q2 : ((s.size : Int) == 2) = false := by rw [hs3]; rfl
      rw [hs3, ← sL_at s 0 i0, ← sL_at s 1 i1, show 3 - 1 = 2 from rfl, ← sL_at s 2 i2]
      clear h1 h2 h3 hs2
      obtain ⟨u, hA⟩ : ∃ u, fitsB a ((s[0]'i0).toNat : Int) = u := ⟨_, rfl⟩
      obtain ⟨v, hB⟩ : ∃ v, fitsB b ((s[1]'i1).toNat : Int) = v := ⟨_, rfl⟩
      rw [hA, hB]
      have HA := hide hA
      have HB := hide hB
      clear hA hB
      cases u
      case' true => cases v
      all_goals go_enter Try.func60, Try.ntmps60
      all_goals go_wp2_with fail
      all_goals refine (HS.out _).mono ?_
      all_goals rintro e w1 ⟨rfl, hbw⟩
      all_goals have K := (Blk.new w 78 #[.int .i64 op, .int .i64 a, .int .i64 b, .int .i64 c]).below hbw (by simp)
      all_goals have K1 := K.cell 1
      all_goals have K2 := K.cell 2
      all_goals have K3 := K.cell 3
      all_goals have HBW := hide hbw
      all_goals clear hbw K
      all_goals go_wp2_with fail
      all_goals go_quiet ((go_at_call 83; first | (go_at_call_of 83 a; exact Calls.quiet_of_same (risms_lit HA.out _)) | (go_at_call_of 83 b; exact Calls.quiet_of_same (risms_lit HB.out _)) | exact Calls.quiet_of_same (risms_calls _ _ _)))
      all_goals go_wp2_with fail
      all_goals go_ret
      all_goals exact ⟨rfl, below_alloc_then HBW.out _⟩
  · have h : isOp op = false := by simpa using h
    have hr : rightB op a b c = false := by simp [rightB, h]
    rw [hr]
    go_enter Try.func60, Try.ntmps60
    go_wp2_with fail
    refine (riShape_calls _ _).mono ?_
    rintro e w1 ⟨rfl, hb⟩
    rw [shapeB_out h]
    have HB := hide hb
    clear hb
    go_wp2_with fail
    go_ret
    exact ⟨rfl, below_alloc_then HB.out 0⟩
end Go.Proofs.Ythgjmbcojbmlhaa

/- Chapter 13: an instruction's wide number and its bytes. -/
namespace Go.Proofs.Ythgjmbcojbmlhaa.Zb
open Go.RowKit
/-- bytes of numbers -/
def bytesI (xs : List Int) : ByteArray := ⟨(xs.map fun x => UInt8.ofNat x.toNat).toArray⟩
set_option maxRecDepth 20000 in
theorem conv_made {P : Program} (w : World) (src dst e : TypeId) (xs : List Int) (hx : ∀ x ∈ xs, 0 ≤ x ∧ x < 256) (hs : P.underlying src = some (.slice e)) (he : P.underlying e = some (.int .u8)) (hd : P.underlying dst = some .string) :
    (convert src dst (.slice (some ⟨w.heap.size, 0, none⟩) xs.length xs.length)).run P (w.alloc (.cells (xs.map (Value.int .u8)).toArray e)) = .ok (.string (bytesI xs)) (w.alloc (.cells (xs.map (Value.int .u8)).toArray e)) := by
  have hl : (xs.map fun x => UInt8.ofNat x.toNat).length = xs.length := List.length_map _
  have := conv_bytes (P := P) (w.alloc (.cells (xs.map (Value.int .u8)).toArray e)) src dst e ⟨w.heap.size, 0, none⟩ xs.length (xs.map fun x => UInt8.ofNat x.toNat) hs he hd (fun j hj => by
    rw [add_plain, (Blk.new w e _).cell j]
    simp only [bytesVals, List.map_map, List.getElem?_toArray, List.getElem?_map]
    cases hq : xs[j]? with
    | none => rfl
    | some x =>
      obtain ⟨h0, h1⟩ := hx x (List.mem_of_getElem? hq)
      simp
      omega)
  rw [hl] at this
  exact this
set_option maxRecDepth 20000 in
theorem or_low (b c : Int) (hb0 : 0 ≤ b) (hb1 : b ≤ 255) (hc0 : 0 ≤ c) (hc1 : c ≤ 255) : bits .or .i64 b (wrap64 (c * 256)) = b + 256 * c := by
  have e : wrap64 (c * 256) = c * 256 := by unfold wrap64; omega
  have hc : bits .or .i64 b (c * 256) = bits .or .i64 (c * 256) b := by simp only [bits, BitVec.or_comm]
  rw [e, hc, bits_join .i64 63 (by decide) (fun n h0 h1 => IntWalk.i64_in n (by omega)) 8 (c * 256) b (by omega) (by omega) (by omega) hb0 (by omega) (by omega)]
  omega
set_option maxRecDepth 20000 in
theorem fitsB_lim {n c : Int} (h : fitsB n c = true) : 0 ≤ n ∧ n ≤ 255 := by
  unfold fitsB at h
  split at h
  · simp at h; omega
  · simp at h; omega
set_option maxRecDepth 20000 in
theorem rightB_lim {op a b c : Int} (h : rightB op a b c = true) : (0 ≤ op ∧ op < 38) ∧ (0 ≤ a ∧ a ≤ 255) ∧ (0 ≤ b ∧ b ≤ 255) ∧ (0 ≤ c ∧ c ≤ 255) := by
  simp only [rightB, Bool.and_eq_true] at h
  obtain ⟨h0, ⟨h1, h2⟩, h3⟩ := h
  simp [isOp] at h0
  exact ⟨h0, fitsB_lim h1, fitsB_lim h2, fitsB_lim h3⟩
end Go.Proofs.Ythgjmbcojbmlhaa.Zb
namespace Go.Proofs.Ythgjmbcojbmlhaa
open Go.RowKit Zb

/-- an instruction's bytes -/
def buildB (op a b c : Int) : ByteArray := if rightB op a b c then bytesI [op, a, b, c] else ⟨#[]⟩
def buildE (op a b c : Int) : Int := if rightB op a b c then 0 else 4

set_option maxRecDepth 20000 in
theorem iBuild_calls (op a b c : Int) (w : World) : Calls Try.prog 46 #[instV op a b c] w fun e w' => e = .returned (.tuple #[.string (buildB op a b c), .int .i64 (buildE op a b c)]) ∧ Below w.heap.size w w' := by
  unfold buildB buildE
  cases hR : rightB op a b c
  · go_enter Try.func46, Try.ntmps46
    go_wp2_with fail
    refine (iRight_calls _ _ _ _ _).mono ?_
    rintro e w1 ⟨rfl, hbw⟩
    rw [hR]
    have HBW := hide hbw
    clear hbw
    go_wp2_with fail
    go_ret2
    exact ⟨rfl, below_alloc_then HBW.out 0⟩
  · obtain ⟨⟨h10, h11⟩, ⟨h20, h21⟩, ⟨h30, h31⟩, h40, h41⟩ := rightB_lim hR
    go_enter Try.func46, Try.ntmps46
    go_wp2_with fail
    refine (iRight_calls _ _ _ _ _).mono ?_
    rintro e w1 ⟨rfl, hbw⟩
    rw [hR]
    have K := (Blk.new w 78 #[.int .i64 op, .int .i64 a, .int .i64 b, .int .i64 c]).below hbw (by simp)
    have K0 := K.cell 0
    have K1 := K.cell 1
    have K2 := K.cell 2
    have K3 := K.cell 3
    have hcv := conv_made (P := Try.prog) w1 47 9 5 [op, a, b, c] (by intro x hx; simp at hx; omega) Try.underlying47 Try.underlying5 Try.underlying9
    simp only [List.length_cons, List.length_nil, List.map_cons, List.map_nil] at hcv
    have m1 : op % 256 = op := by omega
    have m2 : a % 256 = a := by omega
    have m3 : b % 256 = b := by omega
    have m4 : c % 256 = c := by omega
    have HBW := hide hbw
    clear hbw K
    go_wp2_with fail
    go_ret2
    exact ⟨rfl, ((((Turned.refl (fun _ => False) w).alloc _).then_below HBW.out).alloc _).below (Nat.le_refl _) (fun _ h => h.elim)⟩

set_option maxRecDepth 20000 in
theorem riBuild_calls (op a b c : Int) (w : World) : Calls Try.prog 48 #[instV op a b c] w fun e w' => e = .returned (.tuple #[.string (buildB op a b c), .int .i64 (buildE op a b c)]) ∧ Below w.heap.size w w' := by
  unfold buildB buildE
  cases hR : rightB op a b c
  · go_enter Try.func48, Try.ntmps48
    go_wp2_with fail
    refine (riRight_calls _ _ _ _ _).mono ?_
    rintro e w1 ⟨rfl, hbw⟩
    rw [hR]
    have HBW := hide hbw
    clear hbw
    go_wp2_with fail
    go_ret2
    exact ⟨rfl, below_alloc_then HBW.out 0⟩
  · obtain ⟨⟨h10, h11⟩, ⟨h20, h21⟩, ⟨h30, h31⟩, h40, h41⟩ := rightB_lim hR
    go_enter Try.func48, Try.ntmps48
    go_wp2_with fail
    refine (riRight_calls _ _ _ _ _).mono ?_
    rintro e w1 ⟨rfl, hbw⟩
    rw [hR]
    have K := (Blk.new w 78 #[.int .i64 op, .int .i64 a, .int .i64 b, .int .i64 c]).below hbw (by simp)
    have K0 := K.cell 0
    have K1 := K.cell 1
    have K2 := K.cell 2
    have K3 := K.cell 3
    have hcv := conv_made (P := Try.prog) w1 47 9 5 [op, a, b, c] (by intro x hx; simp at hx; omega) Try.underlying47 Try.underlying5 Try.underlying9
    simp only [List.length_cons, List.length_nil, List.map_cons, List.map_nil] at hcv
    have m1 : op % 256 = op := by omega
    have m2 : a % 256 = a := by omega
    have m3 : b % 256 = b := by omega
    have m4 : c % 256 = c := by omega
    have HBW := hide hbw
    clear hbw K
    go_wp2_with fail
    go_ret2
    exact ⟨rfl, ((((Turned.refl (fun _ => False) w).alloc _).then_below HBW.out).alloc _).below (Nat.le_refl _) (fun _ h => h.elim)⟩
end Go.Proofs.Ythgjmbcojbmlhaa
