/- Chapter 13: inst.Name, a loop over the names' one constant. -/
import Derived.Test.YtagmoldiolabfaaInstB
namespace Go.Proofs.Ytagmoldiolabfaa
open Go.RowKit Zb

def NAMES : List UInt8 := [116, 105, 99, 107, 32, 110, 105, 108, 32, 99, 111, 110, 115, 116, 32, 109, 111, 118, 101, 32, 98, 111, 120, 32, 103, 101, 116, 32, 115, 101, 116, 32, 117, 112, 32, 117, 112, 115, 101, 116, 32, 97, 100, 100, 32, 115, 117, 98, 32, 109, 117, 108, 32, 100, 105, 118, 32, 114, 101, 109, 32, 99, 97, 116, 32, 101, 113, 32, 110, 101, 32, 108, 116, 32, 108, 101, 32, 110, 101, 103, 32, 110, 111, 116, 32, 108, 101, 110, 32, 116, 97, 98, 108, 101, 32, 105, 110, 100, 101, 120, 32, 115, 116, 111, 114, 101, 32, 106, 117, 109, 112, 32, 102, 97, 108, 115, 101, 32, 116, 114, 117, 101, 32, 102, 110, 32, 99, 97, 108, 108, 32, 111, 119, 110, 32, 117, 115, 101, 32, 115, 112, 97, 119, 110, 32, 115, 116, 97, 116, 101, 32, 112, 117, 116, 32, 101, 109, 105, 116, 32, 121, 105, 101, 108, 100, 32, 114, 101, 116, 117, 114, 110, 32]
/-- the blanks ahead of a place, and the place behind the last of them -/
def nmCnt : Nat → Nat
  | 0 => 0
  | i + 1 => if NAMES[i]? = some 32 then nmCnt i + 1 else nmCnt i
def nmFrom : Nat → Nat
  | 0 => 0
  | i + 1 => if NAMES[i]? = some 32 then i + 1 else nmFrom i

def NAMESB : ByteArray := ⟨NAMES.toArray⟩
theorem nm_facts : ∀ i, i < 174 → nmFrom i ≤ i ∧ nmCnt i ≤ 38 ∧ (i < 173 → nmCnt i < 38) := by decide +kernel
theorem nm_size : NAMESB.size = 173 := by decide +kernel
theorem nm_get (k : Nat) (h : k < NAMESB.size) : NAMES[k]? = some NAMESB[k] := by
  have h' : k < NAMES.length := h
  exact List.getElem?_eq_getElem h'
theorem nm_word : ∀ k, k < 173 → NAMES[k]? = some 32 → NAMESB.extract (nmFrom k) k = nameTab.getD (nmCnt k) .empty := by decide +kernel
theorem nm_blank {k : Nat} (h : k < NAMESB.size) (hb : ((NAMESB[k].toNat : Int) != 32) = false) : nmFrom (k + 1) = k + 1 ∧ nmCnt (k + 1) = nmCnt k + 1 ∧ NAMES[k]? = some 32 := by
  have e : NAMESB[k] = 32 := by
    have : NAMESB[k].toNat = 32 := by simp at hb; omega
    exact UInt8.toNat_inj.1 this
  have := nm_get k h
  rw [e] at this
  simp [nmFrom, nmCnt, this]
theorem nm_plain {k : Nat} (h : k < NAMESB.size) (hb : ((NAMESB[k].toNat : Int) != 32) = true) : nmFrom (k + 1) = nmFrom k ∧ nmCnt (k + 1) = nmCnt k := by
  have e : NAMESB[k] ≠ 32 := by
    intro e; rw [e] at hb; simp at hb
  have := nm_get k h
  have hn : NAMES[k]? ≠ some 32 := by rw [this]; simpa using e
  simp [nmFrom, nmCnt, hn]

set_option maxRecDepth 100000 in
set_option maxHeartbeats 8000000 in
theorem iName_calls (op : Int) (hop0 : -9223372036854775808 ≤ op) (hop1 : op < 9223372036854775808) (w : World) : Calls Try.prog 16 #[.int .i64 op] w fun e w' => e = .returned (.string (nameB op)) ∧ w' = w := by
  go_enter Try.func16, Try.ntmps16
  go_wp2_with fail
  go_loopw [0, 3, 5] (fun o f i wr => wr = w ∧ ∃ k : Nat, k ≤ 173 ∧ i = .int .i64 k ∧ f = .int .i64 (nmFrom k) ∧ o = .int .i64 (wrap64 (op - nmCnt k)) ∧ Hid (∀ j : Nat, j < nmCnt k → op ≠ j)) (fun _ _ i _ => 173 - (intOf i).toNat)
  case atStart => exact ⟨rfl, 0, by omega, rfl, rfl, by simp [nmCnt, wrap64]; omega, hide (fun j hj => by simp [nmCnt] at hj)⟩
  case round =>
    obtain ⟨rfl, k, hk, rfl, rfl, rfl, hj⟩ := hrel
    have hw0 : wrap64 (op - nmCnt k) = 0 ↔ op = nmCnt k := by have := nm_facts k (by omega); unfold wrap64; omega
    have hf0 : nmFrom k ≤ k := (nm_facts k (by omega)).1
    have hw1 : wrap64 (wrap64 (op - nmCnt k) - 1) = wrap64 (op - (nmCnt k + 1)) := by unfold wrap64; omega
    generalize hq : wrap64 (op - nmCnt k) = q at *
    generalize hF : nmFrom k = fr at *
    by_cases hlt : k < 173
    · go_wp2_with fail
      · rename_i hb
        obtain ⟨e1, e2⟩ := nm_plain (k := k) (by rw [nm_size]; exact hlt) hb
        exact ⟨⟨trivial, k + 1, by omega, by go_num, by rw [e1, hF], by rw [e2, hq], by rw [e2]; exact hj⟩, by simp [intOf]; omega⟩
      · rename_i hb K hK h0
        obtain ⟨e1, e2, e3⟩ := nm_blank (k := k) (by rw [nm_size]; exact hlt) hb
        have ho : op = nmCnt k := hw0.1 (by simpa using h0)
        have hwd := nm_word k hlt e3
        rw [hF] at hwd
        have hc := (nm_facts k (by omega)).2.2 hlt
        have hnm : nameB op = nameTab.getD (nmCnt k) .empty := by rw [ho]; simp [nameB, isOp]; omega
        go_ret
        exact ⟨congrArg (fun s => Ending.returned (Value.string s)) (hwd.trans hnm.symm), rfl⟩
      · rename_i hb h0
        obtain ⟨e1, e2, e3⟩ := nm_blank (k := k) (by rw [nm_size]; exact hlt) hb
        have ho : op ≠ nmCnt k := fun e => by have := hw0.2 e; simp [this] at h0
        refine ⟨⟨trivial, k + 1, by omega, by go_num, by rw [e1]; go_num, ?_, ?_⟩, by simp [intOf]; omega⟩
        · rw [e2, hw1]; rfl
        · rw [e2]
          exact hide fun j hlj => by
            rcases Nat.lt_or_eq_of_le (Nat.le_of_lt_succ hlj) with h | h
            · exact hj.out j h
            · rw [h]; exact ho
    · go_wp2_with fail
      go_ret
      have hk : k = 173 := by omega
      have hc : nmCnt 173 = 38 := by decide +kernel
      subst hk
      rw [hc] at hj
      rw [nameB_out]
      · exact ⟨rfl, rfl⟩
      · have := hj.out
        cases h : isOp op
        · rfl
        · simp [isOp] at h
          exact absurd (by omega) (this op.toNat (by omega))
end Go.Proofs.Ytagmoldiolabfaa
