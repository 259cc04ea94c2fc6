/- Chapter 14: bounds of what is read, plain. -/
import Derived.Test.YthgjmbcojbmlhaaImgO
namespace Go.Proofs.Ythgjmbcojbmlhaa
open Go.RowKit Zb

set_option maxRecDepth 20000 in
theorem rnum_lim (s : ByteArray) (w : Nat) (t : St) : -9223372036854775808 ≤ (rnum s w t).1 ∧ (rnum s w t).1 < 9223372036854775808 := by
  unfold rnum
  split
  · dsimp only
    unfold getN
    split
    · unfold wrap64
      omega
    · omega
  · dsimp only
    omega
set_option maxRecDepth 20000 in
theorem rtext_lim (s : ByteArray) (t : St) : (rtext s t).1.size ≤ s.size := by
  unfold rtext
  split
  · dsimp only
    unfold nextM
    split
    · split
      · rw [ByteArray.size_extract]
        omega
      · exact Nat.zero_le _
    · exact Nat.zero_le _
  · exact Nat.zero_le _
set_option maxRecDepth 20000 in
theorem rlist_all {α : Type} {one : St → α × St} {P : α → Prop} (h : ∀ t, P (one t).1) : ∀ n t, (∀ x ∈ (rlist one n t).1, P x) ∧ (rlist one n t).1.length ≤ n
  | 0, t => ⟨fun x hx => by simp [rlist] at hx, Nat.le_refl _⟩
  | n + 1, t => by
    by_cases hw : t.whole = true
    · simp only [rlist, hw, if_true]
      obtain ⟨i1, i2⟩ := rlist_all h n (one t).2
      refine ⟨fun x hx => ?_, by simp only [List.length_cons]; omega⟩
      rcases List.mem_cons.1 hx with rfl | hx
      · exact h t
      · exact i1 x hx
    · have hw : t.whole = false := by simpa using hw
      rw [rlist_out one _ hw]
      exact ⟨fun x hx => by simp at hx, Nat.zero_le _⟩
set_option maxRecDepth 20000 in
theorem rlists_all {α : Type} {s : ByteArray} {one : St → α × St} {P : α → Prop} (h : ∀ t, P (one t).1) (t : St) : (∀ x ∈ (rlists s one t).1, P x) ∧ (rlists s one t).1.length ≤ 65535 := by
  obtain ⟨i1, i2⟩ := rlist_all h (rnum s 2 t).1.toNat (rnum s 2 t).2
  have := rnum_lim2 s t
  exact ⟨i1, by show (rlist _ _ _).1.length ≤ _; omega⟩
set_option maxRecDepth 20000 in
theorem rcon_lim {s : ByteArray} (hs : s.size ≤ 100000000) (t : St) : (rcon s t).1.s.size ≤ 100000000 ∧ ConR (rcon s t).1 ∧ -9223372036854775808 ≤ (rcon s t).1.kind ∧ (rcon s t).1.kind < 9223372036854775808 := by
  have h1 := rnum_lim s 1 t
  have h8 := rnum_lim s 8 (rnum s 1 t).2
  have ht := rtext_lim s (rnum s 1 t).2
  unfold rcon ConR
  dsimp only
  split
  · exact ⟨Nat.zero_le _, h8, h1⟩
  · split
    · exact ⟨by dsimp only; omega, by dsimp only; omega, h1⟩
    · exact ⟨Nat.zero_le _, by dsimp only; omega, h1⟩
set_option maxRecDepth 20000 in
theorem rproto_lim {s : ByteArray} (hs : s.size ≤ 100000000) (t : St) : ProtoS (rproto s t).1 ∧ ProtoR (rproto s t).1 := by
  unfold rproto
  dsimp only
  refine ⟨⟨Nat.le_trans (rtext_lim _ _) hs, ?_, ⟨?_, ?_⟩, ⟨?_, ?_⟩, rnum_lim _ _ _, rnum_lim _ _ _⟩, ?_⟩
  · exact Nat.le_trans (rlists_all (P := fun _ => True) (fun _ => trivial) _).2 (by decide)
  · exact Nat.le_trans (rlists_all (P := fun _ => True) (fun _ => trivial) _).2 (by decide)
  · exact (rlists_all (one := rcon s) (P := fun v => v.s.size ≤ 100000000 ∧ ConR v ∧ -9223372036854775808 ≤ v.kind ∧ v.kind < 9223372036854775808) (fun t => rcon_lim hs t) _).1
  · exact Nat.le_trans (rlists_all (P := fun _ => True) (fun _ => trivial) _).2 (by decide)
  · exact (rlists_all (one := rcap s) (fun t => rnum_lim s 1 _) _).1
  · exact fun v hv => ((rlists_all (one := rcon s) (P := fun v => v.s.size ≤ 100000000 ∧ ConR v ∧ -9223372036854775808 ≤ v.kind ∧ v.kind < 9223372036854775808) (fun t => rcon_lim hs t) _).1 v hv).2.1
set_option maxRecDepth 20000 in
theorem runit_lim {s : ByteArray} (hs : s.size ≤ 100000000) : UnitS (runit s).1 ∧ UnitR (runit s).1 := by
  unfold runit
  dsimp only
  refine ⟨⟨Nat.le_trans (rtext_lim _ _) hs, rnum_lim _ _ _, ⟨?_, ?_⟩, rnum_lim _ _ _, ⟨?_, ?_⟩⟩, ?_⟩
  · exact Nat.le_trans (rlists_all (P := fun _ => True) (fun _ => trivial) _).2 (by decide)
  · exact (rlists_all (one := ruse s) (fun t => ⟨Nat.le_trans (rtext_lim _ _) hs, Nat.le_trans (rtext_lim _ _) hs, rnum_lim s 1 _⟩) _).1
  · exact Nat.le_trans (rlists_all (P := fun _ => True) (fun _ => trivial) _).2 (by decide)
  · exact fun p hp => ((rlists_all (one := rproto s) (P := fun p => ProtoS p ∧ ProtoR p) (fun t => rproto_lim hs t) _).1 p hp).1
  · exact fun p hp => ((rlists_all (one := rproto s) (P := fun p => ProtoS p ∧ ProtoR p) (fun t => rproto_lim hs t) _).1 p hp).2
end Go.Proofs.Ythgjmbcojbmlhaa
