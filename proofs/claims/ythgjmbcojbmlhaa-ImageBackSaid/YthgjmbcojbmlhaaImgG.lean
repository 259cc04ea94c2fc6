/- Chapter 14: the reader of the program: num, text, ok, list, walked. -/
import Derived.Test.YthgjmbcojbmlhaaImgF
namespace Go.Proofs.Ythgjmbcojbmlhaa
open Go.RowKit Zb

/-- what reading turns: the place, the word of whole -/
abbrev TkF (ga gw : Nat) : Nat → Prop := fun x => x = ga ∨ x = gw
set_option maxRecDepth 20000 in
theorem tk_blk {w w' : World} {ga gw g : Nat} {a : Value} {b : Value} {t : TypeId} {cs : Array Value} (h : Turned (TkF ga gw) w w') (hb : Blk w g t cs) (ha : Blk w ga 3 #[a]) (hw : Blk w gw 4 #[b]) (h1 : t ≠ 3) (h2 : t ≠ 4) : Blk w' g t cs :=
  hb.turned h (by
    rintro (e | e)
    · exact hb.ne_ ha h1 e
    · exact hb.ne_ hw h2 e)
set_option maxRecDepth 20000 in
theorem tk_row {w w' : World} {ga gw n size : Nat} {a : Value} {b : Value} {e : TypeId} {v : Value} {xs : List Value} (h : Turned (TkF ga gw) w w') (hr : Row w e size v n xs) (ha : Blk w ga 3 #[a]) (hw : Blk w gw 4 #[b]) (h1 : e ≠ 3) (h2 : e ≠ 4) : Row w' e size v n xs :=
  row_turned hr h (by
    rintro g hg (e | e)
    · exact row_blk_ne hr ha h1 (e ▸ hg)
    · exact row_blk_ne hr hw h2 (e ▸ hg))
/-- a reader in memory -/
structure RdS (w0 w : World) (gs ga gw gx : Nat) (s : ByteArray) (t : St) : Prop where
  bel : Below w0.heap.size w0 w
  bs : Blk w gs 9 #[.string s]
  ba : Blk w ga 3 #[.int .i64 t.at_]
  bw : Blk w gw 4 #[.bool t.whole]
  bx : Blk w gx 66 #[.func (.func 61) #[] #[ptrW gs, ptrW ga, ptrW gw], .func (.func 63) #[] #[ptrW gs, ptrW ga, ptrW gw], .func (.func 65) #[] #[ptrW gx, ptrW gw], .func (.func 66) #[] #[ptrW gw]]
  lea : w0.heap.size ≤ ga
  lew : w0.heap.size ≤ gw
section
variable {w0 w w' : World} {gs ga gw gx : Nat} {s : ByteArray} {t : St}
set_option maxRecDepth 20000 in
theorem RdS.below (h : RdS w0 w gs ga gw gx s t) (hb : Below w.heap.size w w') : RdS w0 w' gs ga gw gx s t :=
  ⟨h.bel.trans (hb.mono h.bel.size), h.bs.below hb h.bs.lt, h.ba.below hb h.ba.lt, h.bw.below hb h.bw.lt, h.bx.below hb h.bx.lt, h.lea, h.lew⟩
set_option maxRecDepth 20000 in
theorem RdS.alloc (h : RdS w0 w gs ga gw gx s t) (o : Obj) : RdS w0 (w.alloc o) gs ga gw gx s t := h.below ((Below.refl _ _).alloc (Nat.le_refl _) o)
set_option maxRecDepth 20000 in
theorem RdS.setW (h : RdS w0 w gs ga gw gx s t) (b : Bool) : RdS w0 (w.setCell ⟨gw, 0, none⟩ (.bool b)) gs ga gw gx s ⟨t.at_, b⟩ :=
  ⟨h.bel.setCell h.lew _, h.bs.far (p := ⟨gw, 0, none⟩) (h.bs.ne_ h.bw (by decide)) _, h.ba.far (p := ⟨gw, 0, none⟩) (h.ba.ne_ h.bw (by decide)) _, h.bw.set_ 0 _, h.bx.far (p := ⟨gw, 0, none⟩) (h.bx.ne_ h.bw (by decide)) _, h.lea, h.lew⟩
set_option maxRecDepth 20000 in
theorem RdS.setA (h : RdS w0 w gs ga gw gx s t) (a : Nat) : RdS w0 (w.setCell ⟨ga, 0, none⟩ (.int .i64 a)) gs ga gw gx s ⟨a, t.whole⟩ :=
  ⟨h.bel.setCell h.lea _, h.bs.far (p := ⟨ga, 0, none⟩) (h.bs.ne_ h.ba (by decide)) _, h.ba.set_ 0 _, h.bw.far (p := ⟨ga, 0, none⟩) (h.bw.ne_ h.ba (by decide)) _, h.bx.far (p := ⟨ga, 0, none⟩) (h.bx.ne_ h.ba (by decide)) _, h.lea, h.lew⟩
end
set_option maxRecDepth 20000 in
theorem next_to14 {s : ByteArray} {a : Nat} : ∃ b : Nat, (nextM s a).2.1 = b ∧ b ≤ s.size := by
  by_cases h : (nextM s a).2.2 = 0
  · obtain ⟨_, n, _, h3, h4⟩ := nextM_nat h
    exact ⟨_, by rw [h4], h3⟩
  · refine ⟨0, ?_, Nat.zero_le _⟩
    unfold nextM at h ⊢
    split at h
    · rename_i h1
      rw [if_pos h1]
      split at h
      · exact absurd rfl h
      · rename_i h2
        rw [if_neg h2]
        rfl
    · rename_i h1
      rw [if_neg h1]
      rfl
set_option maxRecDepth 20000 in
set_option maxHeartbeats 2000000 in
theorem uopen1_calls {w0 w : World} {gs ga gw gx : Nat} {s : ByteArray} {t : St} (h : RdS w0 w gs ga gw gx s t) (hs : s.size ≤ 100000000) (hat : t.at_ ≤ s.size) (width : Nat) (hw : width ≤ 8) : Calls Try.prog 61 #[.int .i64 width, ptrW gs, ptrW ga, ptrW gw] w fun e w' => e = .returned (.int .i64 (rnum s width t).1) ∧ RdS w0 w' gs ga gw gx s (rnum s width t).2 ∧ Turned (TkF ga gw) w w' := by
  have HST := hide h
  have hne : ga ≠ gw := h.ba.ne_ h.bw (by decide)
  have z0 : w.cell? ⟨gs, 0, none⟩ = some (.string s) := h.bs.cell 0
  have z1 : w.cell? ⟨ga, 0, none⟩ = some (.int .i64 t.at_) := h.ba.cell 0
  have z2 : w.cell? ⟨gw, 0, none⟩ = some (.bool t.whole) := h.bw.cell 0
  have z3 : w.frozen? ⟨gw, 0, none⟩ = false := h.bw.frozen 0
  have HG := hide (oGet_calls s (by omega) t.at_ width (by omega) (by omega) w)
  unfold GetPost at HG
  obtain ⟨f, hf⟩ : ∃ f, getE s t.at_ width = f := ⟨_, rfl⟩
  obtain ⟨n, hn⟩ : ∃ f, getN s t.at_ width = f := ⟨_, rfl⟩
  rw [hf, hn] at HG
  have haw : IntKind.i64.wrap ((t.at_ : Int) + width) = ((t.at_ + width : Nat) : Int) := by rw [IntWalk.i64_in _ (by omega)]; omega
  by_cases hwt : t.whole = true
  case neg =>
    have hwt : t.whole = false := by simpa using hwt
    have HM : Hid (rnum s width t = (0, ⟨t.at_, false⟩)) := hide (by unfold rnum; rw [hf, hn]; rw [hwt]; rfl)
    rw [hwt] at z2
    clear hf hn
    have HWn : Hid (Blk (w.setCell ⟨gw, 0, none⟩ (.bool false)) gw 4 #[.bool false]) := hide (HST.out.bw.set_ 0 _)
    have HAn := hide (HST.out.ba.far (p := ⟨gw, 0, none⟩) hne (.bool false))
    have z5 : (w.setCell ⟨gw, 0, none⟩ (.bool false)).cell? ⟨gw, 0, none⟩ = some (.bool false) := HWn.out.cell 0
    clear h
    go_enter Try.func61, Try.ntmps61
    go_wp2_with fail
    refine HG.out.mono ?_
    rintro e w' ⟨rfl, rfl⟩
    go_wp2_with fail
    go_ret
    rw [HM.out]
    exact ⟨rfl, HST.out.setW false, (Turned.refl _ _).setCell (p := ⟨gw, 0, none⟩) (.inl (.inr rfl)) _⟩
  by_cases h0 : f = 0
  · subst h0
    have HM : Hid (rnum s width t = (n, ⟨t.at_ + width, true⟩)) := hide (by unfold rnum; rw [hf, hn]; rw [hwt]; rfl)
    rw [hwt] at z2
    clear hf hn
    have HWn : Hid (Blk (w.setCell ⟨gw, 0, none⟩ (.bool true)) gw 4 #[.bool true]) := hide (HST.out.bw.set_ 0 _)
    have HAn := hide (HST.out.ba.far (p := ⟨gw, 0, none⟩) hne (.bool true))
    have z5 : (w.setCell ⟨gw, 0, none⟩ (.bool true)).cell? ⟨gw, 0, none⟩ = some (.bool true) := HWn.out.cell 0
    have z6 : (w.setCell ⟨gw, 0, none⟩ (.bool true)).cell? ⟨ga, 0, none⟩ = some (.int .i64 t.at_) := HAn.out.cell 0
    have z7 : (w.setCell ⟨gw, 0, none⟩ (.bool true)).frozen? ⟨ga, 0, none⟩ = false := HAn.out.frozen 0
    clear h
    go_enter Try.func61, Try.ntmps61
    go_wp2_with fail
    refine HG.out.mono ?_
    rintro e w' ⟨rfl, rfl⟩
    go_wp2_with fail
    go_ret
    rw [HM.out]
    exact ⟨rfl, (HST.out.setW true).setA _, ((Turned.refl _ _).setCell (p := ⟨gw, 0, none⟩) (.inl (.inr rfl)) _).setCell (p := ⟨ga, 0, none⟩) (.inl (.inl rfl)) _⟩
  · have HM : Hid (rnum s width t = (0, ⟨t.at_, false⟩)) := hide (by unfold rnum; rw [hf, hn]; rw [hwt, decide_eq_false h0]; rfl)
    have e1 : (f == 0) = false := by simpa using h0
    have e2 : decide (f = 0) = false := decide_eq_false h0
    rw [hwt] at z2
    clear hf hn
    have HWn : Hid (Blk (w.setCell ⟨gw, 0, none⟩ (.bool false)) gw 4 #[.bool false]) := hide (HST.out.bw.set_ 0 _)
    have HAn := hide (HST.out.ba.far (p := ⟨gw, 0, none⟩) hne (.bool false))
    have z5 : (w.setCell ⟨gw, 0, none⟩ (.bool false)).cell? ⟨gw, 0, none⟩ = some (.bool false) := HWn.out.cell 0
    clear h
    go_enter Try.func61, Try.ntmps61
    go_wp2_with fail
    refine HG.out.mono ?_
    rintro e w' ⟨rfl, rfl⟩
    go_wp2_with fail
    go_ret
    rw [HM.out]
    exact ⟨rfl, HST.out.setW false, (Turned.refl _ _).setCell (p := ⟨gw, 0, none⟩) (.inl (.inr rfl)) _⟩
set_option maxRecDepth 20000 in
set_option maxHeartbeats 2000000 in
theorem uopen2_calls {w0 w : World} {gs ga gw gx : Nat} {s : ByteArray} {t : St} (h : RdS w0 w gs ga gw gx s t) (hs : s.size ≤ 100000000) (hat : t.at_ ≤ s.size) : Calls Try.prog 63 #[ptrW gs, ptrW ga, ptrW gw] w fun e w' => e = .returned (.string (rtext s t).1) ∧ RdS w0 w' gs ga gw gx s (rtext s t).2 ∧ Turned (TkF ga gw) w w' := by
  have HST := hide h
  have hne : ga ≠ gw := h.ba.ne_ h.bw (by decide)
  have z0 : w.cell? ⟨gs, 0, none⟩ = some (.string s) := h.bs.cell 0
  have z1 : w.cell? ⟨ga, 0, none⟩ = some (.int .i64 t.at_) := h.ba.cell 0
  have z2 : w.cell? ⟨gw, 0, none⟩ = some (.bool t.whole) := h.bw.cell 0
  have z3 : w.frozen? ⟨gw, 0, none⟩ = false := h.bw.frozen 0
  have HG := hide (oNext_calls s (by omega) t.at_ (by omega) (by omega) w)
  unfold NextPost at HG
  obtain ⟨to, hto, htos⟩ := next_to14 (s := s) (a := t.at_)
  obtain ⟨f, hf⟩ : ∃ f, (nextM s t.at_).2.2 = f := ⟨_, rfl⟩
  obtain ⟨n, hn⟩ : ∃ f, (nextM s t.at_).1 = f := ⟨_, rfl⟩
  rw [hf, hn, hto] at HG
  by_cases hwt : t.whole = true
  case neg =>
    have hwt : t.whole = false := by simpa using hwt
    have HM : Hid (rtext s t = (⟨#[]⟩, ⟨t.at_, false⟩)) := hide (by unfold rtext; rw [hf, hn, hto]; rw [hwt]; rfl)
    rw [hwt] at z2
    clear hf hn hto
    have HWn : Hid (Blk (w.setCell ⟨gw, 0, none⟩ (.bool false)) gw 4 #[.bool false]) := hide (HST.out.bw.set_ 0 _)
    have HAn := hide (HST.out.ba.far (p := ⟨gw, 0, none⟩) hne (.bool false))
    have z5 : (w.setCell ⟨gw, 0, none⟩ (.bool false)).cell? ⟨gw, 0, none⟩ = some (.bool false) := HWn.out.cell 0
    clear h
    go_enter Try.func63, Try.ntmps63
    go_wp2_with fail
    refine HG.out.mono ?_
    rintro e w' ⟨rfl, rfl⟩
    go_wp2_with fail
    go_ret
    rw [HM.out]
    exact ⟨rfl, HST.out.setW false, (Turned.refl _ _).setCell (p := ⟨gw, 0, none⟩) (.inl (.inr rfl)) _⟩
  by_cases h0 : f = 0
  · subst h0
    have HM : Hid (rtext s t = (n, ⟨to, true⟩)) := hide (by unfold rtext; rw [hf, hn, hto]; rw [hwt]; rfl)
    rw [hwt] at z2
    clear hf hn hto
    have HWn : Hid (Blk (w.setCell ⟨gw, 0, none⟩ (.bool true)) gw 4 #[.bool true]) := hide (HST.out.bw.set_ 0 _)
    have HAn := hide (HST.out.ba.far (p := ⟨gw, 0, none⟩) hne (.bool true))
    have z5 : (w.setCell ⟨gw, 0, none⟩ (.bool true)).cell? ⟨gw, 0, none⟩ = some (.bool true) := HWn.out.cell 0
    have z6 : (w.setCell ⟨gw, 0, none⟩ (.bool true)).cell? ⟨ga, 0, none⟩ = some (.int .i64 t.at_) := HAn.out.cell 0
    have z7 : (w.setCell ⟨gw, 0, none⟩ (.bool true)).frozen? ⟨ga, 0, none⟩ = false := HAn.out.frozen 0
    clear h
    go_enter Try.func63, Try.ntmps63
    go_wp2_with fail
    refine HG.out.mono ?_
    rintro e w' ⟨rfl, rfl⟩
    go_wp2_with fail
    go_ret
    rw [HM.out]
    exact ⟨rfl, (HST.out.setW true).setA _, ((Turned.refl _ _).setCell (p := ⟨gw, 0, none⟩) (.inl (.inr rfl)) _).setCell (p := ⟨ga, 0, none⟩) (.inl (.inl rfl)) _⟩
  · have HM : Hid (rtext s t = (⟨#[]⟩, ⟨t.at_, false⟩)) := hide (by unfold rtext; rw [hf, hn, hto]; rw [hwt, decide_eq_false h0]; rfl)
    have e1 : (f == 0) = false := by simpa using h0
    have e2 : decide (f = 0) = false := decide_eq_false h0
    rw [hwt] at z2
    clear hf hn hto
    have HWn : Hid (Blk (w.setCell ⟨gw, 0, none⟩ (.bool false)) gw 4 #[.bool false]) := hide (HST.out.bw.set_ 0 _)
    have HAn := hide (HST.out.ba.far (p := ⟨gw, 0, none⟩) hne (.bool false))
    have z5 : (w.setCell ⟨gw, 0, none⟩ (.bool false)).cell? ⟨gw, 0, none⟩ = some (.bool false) := HWn.out.cell 0
    clear h
    go_enter Try.func63, Try.ntmps63
    go_wp2_with fail
    refine HG.out.mono ?_
    rintro e w' ⟨rfl, rfl⟩
    go_wp2_with fail
    go_ret
    rw [HM.out]
    exact ⟨rfl, HST.out.setW false, (Turned.refl _ _).setCell (p := ⟨gw, 0, none⟩) (.inl (.inr rfl)) _⟩
end Go.Proofs.Ythgjmbcojbmlhaa
