/- Chapter 25: the readers that take makes (closures over the bytes, the place, the word of whole), walked. -/
import Derived.Test.YtkipmbnmmbeeaaaBunH
namespace Go.Proofs.Ytkipmbnmmbeeaaa
open Go.RowKit Zb

abbrev TkF (ga gw : Nat) : Nat → Prop := fun x => x = ga ∨ x = gw
abbrev ptr0 (g : Nat) : Value := .pointer (some ⟨g, 0, none⟩)
set_option maxRecDepth 20000 in
set_option maxHeartbeats 2000000 in
theorem btakenum_calls {W : World} {gs ga gw : Nat} {s : ByteArray} {a : Nat} (hs : s.size ≤ 1000000) (bs : Blk W gs 9 #[.string s]) (ba : Blk W ga 3 #[.int .i64 a]) (bw : Blk W gw 4 #[.bool true]) (ha : a ≤ 2000000) (width : Nat) (hw : width ≤ 8) :
    Calls Try.prog 45 #[.int .i64 width, ptr0 gs, ptr0 ga, ptr0 gw] W fun e W' => e = .returned (.int .i64 (getN s a width)) ∧ Turned (TkF ga gw) W W' ∧ Blk W' ga 3 #[.int .i64 ((a : Int) + width)] ∧ Blk W' gw 4 #[.bool (decide (getE s a width = 0))] := by
  have HG := hide (oGet_calls s (by omega) a width (by omega) (by omega) W)
  unfold GetPost at HG
  have hne : ga ≠ gw := ba.ne_ bw (by decide)
  have z0 : W.cell? ⟨gs, 0, none⟩ = some (.string s) := bs.cell 0
  have z1 : W.cell? ⟨ga, 0, none⟩ = some (.int .i64 a) := ba.cell 0
  have z2 : W.cell? ⟨gw, 0, none⟩ = some (.bool true) := bw.cell 0
  have z3 : W.frozen? ⟨gw, 0, none⟩ = false := bw.frozen 0
  have haI : IntKind.i64.wrap ((a : Int) + width) = (a : Int) + width := IntWalk.i64_in _ (by omega)
  have HBA := hide ba
  have HBW := hide bw
  obtain ⟨f, hf⟩ : ∃ f, getE s a width = f := ⟨_, rfl⟩
  obtain ⟨n, hn⟩ : ∃ f, getN s a width = f := ⟨_, rfl⟩
  rw [hf, hn] at HG
  rw [hf, hn]
  clear bs bw hf hn hs
  by_cases h : f = 0
  · have HF : Hid (decide (f = 0) = true) := hide (by simpa using h)
    subst h
    have HB1 := hide (ba.far (p := ⟨gw, 0, none⟩) hne (.bool true))
    have q1 : (W.setCell ⟨gw, 0, none⟩ (.bool true)).cell? ⟨ga, 0, none⟩ = some (.int .i64 a) := HB1.out.cell 0
    have q2 : (W.setCell ⟨gw, 0, none⟩ (.bool true)).frozen? ⟨ga, 0, none⟩ = false := HB1.out.frozen 0
    clear ba
    go_enter Try.func45, Try.ntmps45
    go_wp2_with fail
    refine HG.out.mono ?_
    rintro e w' ⟨rfl, rfl⟩
    go_wp2_with fail
    go_ret
    rw [HF.out]
    exact ⟨rfl, ((Turned.refl _ _).setCell (p := ⟨gw, 0, none⟩) (.inl (.inr rfl)) _).setCell (p := ⟨ga, 0, none⟩) (.inl (.inl rfl)) _, HB1.out.set_ 0 _, Blk.far (p := ⟨ga, 0, none⟩) (HBW.out.set_ 0 (.bool true)) (Ne.symm hne) _⟩
  · have HF : Hid (decide (f = 0) = false) := hide (decide_eq_false h)
    have e1 : (f == 0) = false := by simpa using h
    have e2 : decide (f = 0) = false := decide_eq_false h
    have HB1 := hide (ba.far (p := ⟨gw, 0, none⟩) hne (.bool false))
    have q1 : (W.setCell ⟨gw, 0, none⟩ (.bool false)).cell? ⟨ga, 0, none⟩ = some (.int .i64 a) := HB1.out.cell 0
    have q2 : (W.setCell ⟨gw, 0, none⟩ (.bool false)).frozen? ⟨ga, 0, none⟩ = false := HB1.out.frozen 0
    clear ba
    go_enter Try.func45, Try.ntmps45
    go_wp2_with fail
    refine HG.out.mono ?_
    rintro e w' ⟨rfl, rfl⟩
    go_wp2_with fail
    go_ret
    rw [HF.out]
    exact ⟨rfl, ((Turned.refl _ _).setCell (p := ⟨gw, 0, none⟩) (.inl (.inr rfl)) _).setCell (p := ⟨ga, 0, none⟩) (.inl (.inl rfl)) _, HB1.out.set_ 0 _, Blk.far (p := ⟨ga, 0, none⟩) (HBW.out.set_ 0 (.bool false)) (Ne.symm hne) _⟩

set_option maxRecDepth 20000 in
set_option maxHeartbeats 2000000 in
theorem btaketext_calls {W : World} {gs ga gw : Nat} {s : ByteArray} {a : Nat} (hs : s.size ≤ 1000000) (bs : Blk W gs 9 #[.string s]) (ba : Blk W ga 3 #[.int .i64 a]) (bw : Blk W gw 4 #[.bool true]) (ha : a ≤ 2000000) :
    Calls Try.prog 47 #[ptr0 gs, ptr0 ga, ptr0 gw] W fun e W' => e = .returned (.string (nextM s a).1) ∧ Turned (TkF ga gw) W W' ∧ Blk W' ga 3 #[.int .i64 (nextM s a).2.1] ∧ Blk W' gw 4 #[.bool (decide ((nextM s a).2.2 = 0))] := by
  have HG := hide (oNext_calls s (by omega) a (by omega) (by omega) W)
  unfold NextPost at HG
  have hne : ga ≠ gw := ba.ne_ bw (by decide)
  have z0 : W.cell? ⟨gs, 0, none⟩ = some (.string s) := bs.cell 0
  have z1 : W.cell? ⟨ga, 0, none⟩ = some (.int .i64 a) := ba.cell 0
  have z2 : W.cell? ⟨gw, 0, none⟩ = some (.bool true) := bw.cell 0
  have z3 : W.frozen? ⟨gw, 0, none⟩ = false := bw.frozen 0
  have HBA := hide ba
  have HBW := hide bw
  obtain ⟨tx, htx⟩ : ∃ f, (nextM s a).1 = f := ⟨_, rfl⟩
  obtain ⟨to, hto⟩ : ∃ f, (nextM s a).2.1 = f := ⟨_, rfl⟩
  obtain ⟨f, hf⟩ : ∃ f, (nextM s a).2.2 = f := ⟨_, rfl⟩
  rw [hf, htx, hto] at HG
  rw [hf, htx, hto]
  clear bs bw hf htx hto hs
  by_cases h : f = 0
  · have HF : Hid (decide (f = 0) = true) := hide (by simpa using h)
    subst h
    have HB1 := hide (ba.far (p := ⟨gw, 0, none⟩) hne (.bool true))
    have q1 : (W.setCell ⟨gw, 0, none⟩ (.bool true)).cell? ⟨ga, 0, none⟩ = some (.int .i64 a) := HB1.out.cell 0
    have q2 : (W.setCell ⟨gw, 0, none⟩ (.bool true)).frozen? ⟨ga, 0, none⟩ = false := HB1.out.frozen 0
    clear ba
    go_enter Try.func47, Try.ntmps47
    go_wp2_with fail
    refine HG.out.mono ?_
    rintro e w' ⟨rfl, rfl⟩
    go_wp2_with fail
    go_ret
    rw [HF.out]
    exact ⟨rfl, ((Turned.refl _ _).setCell (p := ⟨gw, 0, none⟩) (.inl (.inr rfl)) _).setCell (p := ⟨ga, 0, none⟩) (.inl (.inl rfl)) _, HB1.out.set_ 0 _, Blk.far (p := ⟨ga, 0, none⟩) (HBW.out.set_ 0 (.bool true)) (Ne.symm hne) _⟩
  · have HF : Hid (decide (f = 0) = false) := hide (decide_eq_false h)
    have e1 : (f == 0) = false := by simpa using h
    have e2 : decide (f = 0) = false := decide_eq_false h
    have HB1 := hide (ba.far (p := ⟨gw, 0, none⟩) hne (.bool false))
    have q1 : (W.setCell ⟨gw, 0, none⟩ (.bool false)).cell? ⟨ga, 0, none⟩ = some (.int .i64 a) := HB1.out.cell 0
    have q2 : (W.setCell ⟨gw, 0, none⟩ (.bool false)).frozen? ⟨ga, 0, none⟩ = false := HB1.out.frozen 0
    clear ba
    go_enter Try.func47, Try.ntmps47
    go_wp2_with fail
    refine HG.out.mono ?_
    rintro e w' ⟨rfl, rfl⟩
    go_wp2_with fail
    go_ret
    rw [HF.out]
    exact ⟨rfl, ((Turned.refl _ _).setCell (p := ⟨gw, 0, none⟩) (.inl (.inr rfl)) _).setCell (p := ⟨ga, 0, none⟩) (.inl (.inl rfl)) _, HB1.out.set_ 0 _, Blk.far (p := ⟨ga, 0, none⟩) (HBW.out.set_ 0 (.bool false)) (Ne.symm hne) _⟩
end Go.Proofs.Ytkipmbnmmbeeaaa
