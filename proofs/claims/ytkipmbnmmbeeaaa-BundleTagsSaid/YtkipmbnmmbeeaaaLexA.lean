/- Names of the language: the program's side, walked. -/
import Derived.Test.YtkipmbnmmbeeaaaLexM
import Derived.Test.YtkipmbnmmbeeaaaProg
import Derived.Deep.LoopGhost
import Derived.Laws.RangeString
import Derived.Laws.RangeAny
import Derived.LoopTactic
import Derived.WalkLawsBesides
import Derived.Outline
namespace Go.Proofs.Ytkipmbnmmbeeaaa
open Go.RowKit Zb

set_option maxRecDepth 20000 in
theorem xletter_calls (c : Nat) (hc : c ≤ 2147483647) (w : World) : Calls Try.prog 73 #[.int .i32 (c : Int)] w fun e w' => e = .returned (.bool (lexL c)) ∧ w = w' := by
  by_cases h0 : 97 ≤ c
  · have h0I : (97 : Int) ≤ (c : Int) := by omega
    by_cases h1 : c ≤ 122
    · have h1I : (c : Int) ≤ 122 := by omega
      have E := hide (show lexL c = true by simp [lexL, h0, h1])
      clear h0 h1
      go_enter Try.func73, Try.ntmps73
      go_wp2_with fail
      go_ret
      exact ⟨by rw [E.out]; rfl, rfl⟩
    · have h1I : ¬ (c : Int) ≤ 122 := by omega
      have E := hide (show lexL c = false by simp [lexL]; omega)
      clear h0 h1
      go_enter Try.func73, Try.ntmps73
      go_wp2_with fail
      go_ret
      exact ⟨by rw [E.out]; rfl, rfl⟩
  · have h0I : ¬ (97 : Int) ≤ (c : Int) := by omega
    have E := hide (show lexL c = false by simp [lexL]; omega)
    clear h0
    go_enter Try.func73, Try.ntmps73
    go_wp2_with fail
    go_ret
    exact ⟨by rw [E.out]; rfl, rfl⟩
def lexD (c : Nat) : Bool := decide (48 ≤ c) && decide (c ≤ 57)
set_option maxRecDepth 20000 in
theorem xdigit_calls (c : Nat) (hc : c ≤ 2147483647) (w : World) : Calls Try.prog 79 #[.int .i32 (c : Int)] w fun e w' => e = .returned (.bool (lexD c)) ∧ w = w' := by
  by_cases h0 : 48 ≤ c
  · have h0I : (48 : Int) ≤ (c : Int) := by omega
    by_cases h1 : c ≤ 57
    · have h1I : (c : Int) ≤ 57 := by omega
      have E := hide (show lexD c = true by simp [lexD, h0, h1])
      clear h0 h1
      go_enter Try.func79, Try.ntmps79
      go_wp2_with fail
      go_ret
      exact ⟨by rw [E.out]; rfl, rfl⟩
    · have h1I : ¬ (c : Int) ≤ 57 := by omega
      have E := hide (show lexD c = false by simp [lexD]; omega)
      clear h0 h1
      go_enter Try.func79, Try.ntmps79
      go_wp2_with fail
      go_ret
      exact ⟨by rw [E.out]; rfl, rfl⟩
  · have h0I : ¬ (48 : Int) ≤ (c : Int) := by omega
    have E := hide (show lexD c = false by simp [lexD]; omega)
    clear h0
    go_enter Try.func79, Try.ntmps79
    go_wp2_with fail
    go_ret
    exact ⟨by rw [E.out]; rfl, rfl⟩
set_option maxRecDepth 20000 in
theorem xinner_calls (c : Nat) (hc : c ≤ 2147483647) (w : World) : Calls Try.prog 75 #[.int .i32 (c : Int)] w fun e w' => e = .returned (.bool (lexI c)) ∧ w = w' := by
  have HL := hide (xletter_calls c hc w)
  have HD := hide (xdigit_calls c hc w)
  have HI : Hid (lexI c = (lexL c || lexD c || decide (c = 95))) := hide rfl
  have H95 : Hid (decide (c = 95) = decide ((c : Int) = 95)) := hide (by rw [decide_eq_decide]; omega)
  rw [H95.out] at HI
  generalize lexL c = b1 at *
  generalize lexD c = b2 at *
  go_enter Try.func75, Try.ntmps75
  go_wp2_with fail
  refine HL.out.mono ?_
  rintro e w' ⟨rfl, rfl⟩
  cases b1
  · go_wp2_with fail
    refine HD.out.mono ?_
    rintro e w' ⟨rfl, rfl⟩
    cases b2
    · by_cases h : (c : Int) = 95
      · have hb : ((c : Int) == 95) = true := by simp [h]
        have E := hide (show lexI c = true by rw [HI.out]; simp [h])
        clear h
        go_wp2_with fail
        go_ret
        exact ⟨by rw [E.out]; rfl, rfl⟩
      · have hb : ((c : Int) == 95) = false := by simp [h]
        have E := hide (show lexI c = false by rw [HI.out]; simp [h])
        clear h
        go_wp2_with fail
        go_ret
        exact ⟨by rw [E.out]; rfl, rfl⟩
    · go_wp2_with fail
      go_ret
      exact ⟨by rw [HI.out]; rfl, rfl⟩
  · go_wp2_with fail
    go_ret
    exact ⟨by rw [HI.out]; rfl, rfl⟩
end Go.Proofs.Ytkipmbnmmbeeaaa
