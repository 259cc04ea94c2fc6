/- Chapter 14: the document's reader: num, text, walked. -/
import Derived.Test.YthgjmbcojbmlhaaImgW
namespace Go.Proofs.Ythgjmbcojbmlhaa
open Go.RowKit Zb

/-- what reading turns: the reader -/
abbrev TkR (g : Nat) : Nat → Prop := fun x => x = g
/-- a reader in memory -/
def rdc (s : ByteArray) (t : St) : Array Value := #[.string s, .int .i64 t.at_, .bool (!t.whole)]
set_option maxRecDepth 20000 in
theorem tkr_blk {w w' : World} {g k : Nat} {c : Array Value} {t : TypeId} {cs : Array Value} (h : Turned (TkR g) w w') (hb : Blk w k t cs) (hr : Blk w g 71 c) (h1 : t ≠ 71) : Blk w' k t cs := hb.turned h (hb.ne_ hr h1)
set_option maxRecDepth 20000 in
theorem tkr_row {w w' : World} {g n size : Nat} {c : Array Value} {e : TypeId} {v : Value} {xs : List Value} (h : Turned (TkR g) w w') (hr : Row w e size v n xs) (hb : Blk w g 71 c) (h1 : e ≠ 71) : Row w' e size v n xs :=
  row_turned hr h (fun _ hk e => row_blk_ne hr hb h1 (e ▸ hk))
set_option maxRecDepth 20000 in
set_option maxHeartbeats 2000000 in
theorem rugrnum_calls {w : World} {g : Nat} {s : ByteArray} {t : St} (h : Blk w g 71 (rdc s t)) (hs : s.size ≤ 100000000) (hat : t.at_ ≤ s.size) (width : Nat) (hw : width ≤ 8) : Calls Try.prog 39 #[ptrW g, .int .i64 width] w fun e w' => e = .returned (.int .i64 (rnum s width t).1) ∧ Blk w' g 71 (rdc s (rnum s width t).2) ∧ Turned (TkR g) w w' := by
  have HG := hide (roGet_calls s (by omega) t.at_ width (by omega) (by omega) w.drew)
  unfold GetPost at HG
  obtain ⟨f, hf⟩ : ∃ f, getE s t.at_ width = f := ⟨_, rfl⟩
  obtain ⟨n, hn⟩ : ∃ f, getN s t.at_ width = f := ⟨_, rfl⟩
  rw [hf, hn] at HG
  have haw : IntKind.i64.wrap ((t.at_ : Int) + width) = ((t.at_ + width : Nat) : Int) := by rw [IntWalk.i64_in _ (by omega)]; omega
  have H0 := hide h
  have z0 : w.drew.cell? ⟨g, 0, none⟩ = some (.string s) := h.cell 0
  have z1 : w.drew.cell? ⟨g, 1, none⟩ = some (.int .i64 t.at_) := h.cell 1
  by_cases hwt : t.whole = true
  case neg =>
    have hwt : t.whole = false := by simpa using hwt
    have HM : Hid (rnum s width t = (0, ⟨t.at_, false⟩)) := hide (by unfold rnum; rw [hwt]; rfl)
    have z2 : w.drew.cell? ⟨g, 2, none⟩ = some (.bool true) := (h.cell 2).trans (by show some (Value.bool (!t.whole)) = _; rw [hwt]; rfl)
    clear hf hn h
    have z5 : w.drew.frozen? ⟨g, 2, none⟩ = false := H0.out.frozen 2
    go_enter Try.func39, Try.ntmps39
    go_wp2_with fail
    refine wp_region_heads [0, 1, 2, 3, 4, 5, 6, 7, 8] 6 (fun w' => w'.cell? ⟨g, 0, none⟩ = some (.string s) ∧ w'.cell? ⟨g, 1, none⟩ = some (.int .i64 t.at_)) (by kernel_rfl) rfl (by kernel_rfl) (by kernel_rfl) (fun _ _ d _ _ h => by cases d <;> exact h) ⟨z0, z1⟩ ?_
    iterate 9
      refine' Heads.step rfl (by rfl) ?_ ?_
      rotate_left
      · intro w' hSw
        obtain ⟨q0, q1⟩ := hSw
        go_simp
        try with_reducible rfl
      simp only [Act.put, List.setIfInBounds_toArray, List.set_cons_zero, List.set_cons_succ]
    refine Heads.done ?_
    refine wpAnyH_ready (rs := [9]) (by kernel_rfl) (by simp) (AllReadyH.cons rfl (fun K hK => ?_) AllReadyH.nil)
    go_simp
    refine HG.out.mono ?_
    rintro e w' ⟨rfl, rfl⟩
    refine hK.out _ _ ⟨z0, z1⟩ (fun hHeld1 => ?_)
    clear hK K
    refine wpAnyH_more [10, 11, 12, 13, 14] 0 rfl (by kernel_rfl) (by kernel_rfl) (fun _ _ d _ _ h => by cases d <;> exact h) hHeld1 ?_
    iterate 5
      refine' Heads.step rfl (by rfl) ?_ ?_
      rotate_left
      · intro w' hSw
        go_simp
        try with_reducible rfl
      simp only [Act.put, List.setIfInBounds_toArray, List.set_cons_zero, List.set_cons_succ]
    refine Heads.done ?_
    refine wpAnyH_done (by kernel_rfl) ?_ _
    clear hHeld1
    go_wp2_with fail
    go_ret
    rw [HM.out]
    exact ⟨rfl, (show Blk w.drew g 71 _ from H0.out).set_ 2 _, (Turned.refl (TkR g) w).drew.setCell (p := ⟨g, 2, none⟩) (.inl rfl) _⟩
  by_cases h0 : f = 0
  case pos =>
    subst h0
    have HM : Hid (rnum s width t = (n, ⟨t.at_ + width, true⟩)) := hide (by unfold rnum; rw [hf, hn, hwt]; rfl)
    have z2 : w.drew.cell? ⟨g, 2, none⟩ = some (.bool false) := (h.cell 2).trans (by show some (Value.bool (!t.whole)) = _; rw [hwt]; rfl)
    clear hf hn h
    have z5 : w.drew.frozen? ⟨g, 1, none⟩ = false := H0.out.frozen 1
    go_enter Try.func39, Try.ntmps39
    go_wp2_with fail
    refine wp_region_heads [0, 1, 2, 3, 4, 5, 6, 7, 8] 6 (fun w' => w'.cell? ⟨g, 0, none⟩ = some (.string s) ∧ w'.cell? ⟨g, 1, none⟩ = some (.int .i64 t.at_)) (by kernel_rfl) rfl (by kernel_rfl) (by kernel_rfl) (fun _ _ d _ _ h => by cases d <;> exact h) ⟨z0, z1⟩ ?_
    iterate 9
      refine' Heads.step rfl (by rfl) ?_ ?_
      rotate_left
      · intro w' hSw
        obtain ⟨q0, q1⟩ := hSw
        go_simp
        try with_reducible rfl
      simp only [Act.put, List.setIfInBounds_toArray, List.set_cons_zero, List.set_cons_succ]
    refine Heads.done ?_
    refine wpAnyH_ready (rs := [9]) (by kernel_rfl) (by simp) (AllReadyH.cons rfl (fun K hK => ?_) AllReadyH.nil)
    go_simp
    refine HG.out.mono ?_
    rintro e w' ⟨rfl, rfl⟩
    refine hK.out _ _ ⟨z0, z1⟩ (fun hHeld1 => ?_)
    clear hK K
    refine wpAnyH_more [10, 11, 12, 13, 14] 0 rfl (by kernel_rfl) (by kernel_rfl) (fun _ _ d _ _ h => by cases d <;> exact h) hHeld1 ?_
    iterate 5
      refine' Heads.step rfl (by rfl) ?_ ?_
      rotate_left
      · intro w' hSw
        go_simp
        try with_reducible rfl
      simp only [Act.put, List.setIfInBounds_toArray, List.set_cons_zero, List.set_cons_succ]
    refine Heads.done ?_
    refine wpAnyH_done (by kernel_rfl) ?_ _
    clear hHeld1
    go_wp2_with fail
    go_ret
    rw [HM.out]
    refine ⟨rfl, ?_, (Turned.refl (TkR g) w).drew.setCell (p := ⟨g, 1, none⟩) (.inl rfl) _⟩
    have := (show Blk w.drew g 71 _ from H0.out).set_ 1 (.int .i64 ((t.at_ + width : Nat) : Int))
    rw [show rdc s ⟨t.at_ + width, true⟩ = #[.string s, .int .i64 ((t.at_ + width : Nat) : Int), .bool false] from rfl]
    rw [show rdc s t = #[.string s, .int .i64 t.at_, .bool false] by unfold rdc; rw [hwt]; rfl] at this
    exact this
  have HM : Hid (rnum s width t = (0, ⟨t.at_, false⟩)) := hide (by unfold rnum; rw [hf, hwt, decide_eq_false h0]; rfl)
  have e1 : (f == 0) = false := by simpa using h0
  have e2 : decide (f = 0) = false := decide_eq_false h0
  have z2 : w.drew.cell? ⟨g, 2, none⟩ = some (.bool false) := (h.cell 2).trans (by show some (Value.bool (!t.whole)) = _; rw [hwt]; rfl)
  clear hf hn h
  have z5 : w.drew.frozen? ⟨g, 2, none⟩ = false := H0.out.frozen 2
  go_enter Try.func39, Try.ntmps39
  go_wp2_with fail
  refine wp_region_heads [0, 1, 2, 3, 4, 5, 6, 7, 8] 6 (fun w' => w'.cell? ⟨g, 0, none⟩ = some (.string s) ∧ w'.cell? ⟨g, 1, none⟩ = some (.int .i64 t.at_)) (by kernel_rfl) rfl (by kernel_rfl) (by kernel_rfl) (fun _ _ d _ _ h => by cases d <;> exact h) ⟨z0, z1⟩ ?_
  iterate 9
    refine' Heads.step rfl (by rfl) ?_ ?_
    rotate_left
    · intro w' hSw
      obtain ⟨q0, q1⟩ := hSw
      go_simp
      try with_reducible rfl
    simp only [Act.put, List.setIfInBounds_toArray, List.set_cons_zero, List.set_cons_succ]
  refine Heads.done ?_
  refine wpAnyH_ready (rs := [9]) (by kernel_rfl) (by simp) (AllReadyH.cons rfl (fun K hK => ?_) AllReadyH.nil)
  go_simp
  refine HG.out.mono ?_
  rintro e w' ⟨rfl, rfl⟩
  refine hK.out _ _ ⟨z0, z1⟩ (fun hHeld1 => ?_)
  clear hK K
  refine wpAnyH_more [10, 11, 12, 13, 14] 0 rfl (by kernel_rfl) (by kernel_rfl) (fun _ _ d _ _ h => by cases d <;> exact h) hHeld1 ?_
  iterate 5
    refine' Heads.step rfl (by rfl) ?_ ?_
    rotate_left
    · intro w' hSw
      go_simp
      try with_reducible rfl
    simp only [Act.put, List.setIfInBounds_toArray, List.set_cons_zero, List.set_cons_succ]
  refine Heads.done ?_
  refine wpAnyH_done (by kernel_rfl) ?_ _
  clear hHeld1
  go_wp2_with fail
  go_ret
  rw [HM.out]
  exact ⟨rfl, (show Blk w.drew g 71 _ from H0.out).set_ 2 _, (Turned.refl (TkR g) w).drew.setCell (p := ⟨g, 2, none⟩) (.inl rfl) _⟩
set_option maxRecDepth 20000 in
set_option maxHeartbeats 2000000 in
theorem rugrtext_calls {w : World} {g : Nat} {s : ByteArray} {t : St} (h : Blk w g 71 (rdc s t)) (hs : s.size ≤ 100000000) (hat : t.at_ ≤ s.size) : Calls Try.prog 40 #[ptrW g] w fun e w' => e = .returned (.string (rtext s t).1) ∧ Blk w' g 71 (rdc s (rtext s t).2) ∧ Turned (TkR g) w w' := by
  have HG := hide (roNext_calls s (by omega) t.at_ (by omega) (by omega) w.drew)
  unfold NextPost at HG
  obtain ⟨to, hto, htos⟩ := next_to14 (s := s) (a := t.at_)
  obtain ⟨f, hf⟩ : ∃ f, (nextM s t.at_).2.2 = f := ⟨_, rfl⟩
  obtain ⟨n, hn⟩ : ∃ f, (nextM s t.at_).1 = f := ⟨_, rfl⟩
  rw [hf, hn, hto] at HG
  have H0 := hide h
  have z0 : w.drew.cell? ⟨g, 0, none⟩ = some (.string s) := h.cell 0
  have z1 : w.drew.cell? ⟨g, 1, none⟩ = some (.int .i64 t.at_) := h.cell 1
  by_cases hwt : t.whole = true
  case neg =>
    have hwt : t.whole = false := by simpa using hwt
    have HM : Hid (rtext s t = (⟨#[]⟩, ⟨t.at_, false⟩)) := hide (by unfold rtext; rw [hwt]; rfl)
    have z2 : w.drew.cell? ⟨g, 2, none⟩ = some (.bool true) := (h.cell 2).trans (by show some (Value.bool (!t.whole)) = _; rw [hwt]; rfl)
    clear hf hn hto h
    have z5 : w.drew.frozen? ⟨g, 2, none⟩ = false := H0.out.frozen 2
    go_enter Try.func40, Try.ntmps40
    go_wp2_with fail
    refine wp_region_heads [0, 1, 2, 3, 4, 5, 6, 7] 8 (fun w' => w'.cell? ⟨g, 0, none⟩ = some (.string s) ∧ w'.cell? ⟨g, 1, none⟩ = some (.int .i64 t.at_)) (by kernel_rfl) rfl (by kernel_rfl) (by kernel_rfl) (fun _ _ d _ _ h => by cases d <;> exact h) ⟨z0, z1⟩ ?_
    iterate 8
      refine' Heads.step rfl (by rfl) ?_ ?_
      rotate_left
      · intro w' hSw
        obtain ⟨q0, q1⟩ := hSw
        go_simp
        try with_reducible rfl
      simp only [Act.put, List.setIfInBounds_toArray, List.set_cons_zero, List.set_cons_succ]
    refine Heads.done ?_
    refine wpAnyH_ready (rs := [8]) (by kernel_rfl) (by simp) (AllReadyH.cons rfl (fun K hK => ?_) AllReadyH.nil)
    go_simp
    refine HG.out.mono ?_
    rintro e w' ⟨rfl, rfl⟩
    refine hK.out _ _ ⟨z0, z1⟩ (fun hHeld1 => ?_)
    clear hK K
    refine wpAnyH_more [9, 10, 11, 12, 13, 14, 15] 0 rfl (by kernel_rfl) (by kernel_rfl) (fun _ _ d _ _ h => by cases d <;> exact h) hHeld1 ?_
    iterate 7
      refine' Heads.step rfl (by rfl) ?_ ?_
      rotate_left
      · intro w' hSw
        go_simp
        try with_reducible rfl
      simp only [Act.put, List.setIfInBounds_toArray, List.set_cons_zero, List.set_cons_succ]
    refine Heads.done ?_
    refine wpAnyH_done (by kernel_rfl) ?_ _
    clear hHeld1
    go_wp2_with fail
    go_ret
    rw [HM.out]
    exact ⟨rfl, (show Blk w.drew g 71 _ from H0.out).set_ 2 _, (Turned.refl (TkR g) w).drew.setCell (p := ⟨g, 2, none⟩) (.inl rfl) _⟩
  by_cases h0 : f = 0
  case pos =>
    subst h0
    have HM : Hid (rtext s t = (n, ⟨to, true⟩)) := hide (by unfold rtext; rw [hf, hn, hto, hwt]; rfl)
    have z2 : w.drew.cell? ⟨g, 2, none⟩ = some (.bool false) := (h.cell 2).trans (by show some (Value.bool (!t.whole)) = _; rw [hwt]; rfl)
    clear hf hn hto h
    have z5 : w.drew.frozen? ⟨g, 1, none⟩ = false := H0.out.frozen 1
    go_enter Try.func40, Try.ntmps40
    go_wp2_with fail
    refine wp_region_heads [0, 1, 2, 3, 4, 5, 6, 7] 8 (fun w' => w'.cell? ⟨g, 0, none⟩ = some (.string s) ∧ w'.cell? ⟨g, 1, none⟩ = some (.int .i64 t.at_)) (by kernel_rfl) rfl (by kernel_rfl) (by kernel_rfl) (fun _ _ d _ _ h => by cases d <;> exact h) ⟨z0, z1⟩ ?_
    iterate 8
      refine' Heads.step rfl (by rfl) ?_ ?_
      rotate_left
      · intro w' hSw
        obtain ⟨q0, q1⟩ := hSw
        go_simp
        try with_reducible rfl
      simp only [Act.put, List.setIfInBounds_toArray, List.set_cons_zero, List.set_cons_succ]
    refine Heads.done ?_
    refine wpAnyH_ready (rs := [8]) (by kernel_rfl) (by simp) (AllReadyH.cons rfl (fun K hK => ?_) AllReadyH.nil)
    go_simp
    refine HG.out.mono ?_
    rintro e w' ⟨rfl, rfl⟩
    refine hK.out _ _ ⟨z0, z1⟩ (fun hHeld1 => ?_)
    clear hK K
    refine wpAnyH_more [9, 10, 11, 12, 13, 14, 15] 0 rfl (by kernel_rfl) (by kernel_rfl) (fun _ _ d _ _ h => by cases d <;> exact h) hHeld1 ?_
    iterate 7
      refine' Heads.step rfl (by rfl) ?_ ?_
      rotate_left
      · intro w' hSw
        go_simp
        try with_reducible rfl
      simp only [Act.put, List.setIfInBounds_toArray, List.set_cons_zero, List.set_cons_succ]
    refine Heads.done ?_
    refine wpAnyH_done (by kernel_rfl) ?_ _
    clear hHeld1
    go_wp2_with fail
    go_ret
    rw [HM.out]
    refine ⟨rfl, ?_, (Turned.refl (TkR g) w).drew.setCell (p := ⟨g, 1, none⟩) (.inl rfl) _⟩
    have := (show Blk w.drew g 71 _ from H0.out).set_ 1 (.int .i64 (to : Int))
    rw [show rdc s ⟨to, true⟩ = #[.string s, .int .i64 (to : Int), .bool false] from rfl]
    rw [show rdc s t = #[.string s, .int .i64 t.at_, .bool false] by unfold rdc; rw [hwt]; rfl] at this
    exact this
  have HM : Hid (rtext s t = (⟨#[]⟩, ⟨t.at_, false⟩)) := hide (by unfold rtext; rw [hf, hwt, decide_eq_false h0]; rfl)
  have e1 : (f == 0) = false := by simpa using h0
  have e2 : decide (f = 0) = false := decide_eq_false h0
  have z2 : w.drew.cell? ⟨g, 2, none⟩ = some (.bool false) := (h.cell 2).trans (by show some (Value.bool (!t.whole)) = _; rw [hwt]; rfl)
  clear hf hn hto h
  have z5 : w.drew.frozen? ⟨g, 2, none⟩ = false := H0.out.frozen 2
  go_enter Try.func40, Try.ntmps40
  go_wp2_with fail
  refine wp_region_heads [0, 1, 2, 3, 4, 5, 6, 7] 8 (fun w' => w'.cell? ⟨g, 0, none⟩ = some (.string s) ∧ w'.cell? ⟨g, 1, none⟩ = some (.int .i64 t.at_)) (by kernel_rfl) rfl (by kernel_rfl) (by kernel_rfl) (fun _ _ d _ _ h => by cases d <;> exact h) ⟨z0, z1⟩ ?_
  iterate 8
    refine' Heads.step rfl (by rfl) ?_ ?_
    rotate_left
    · intro w' hSw
      obtain ⟨q0, q1⟩ := hSw
      go_simp
      try with_reducible rfl
    simp only [Act.put, List.setIfInBounds_toArray, List.set_cons_zero, List.set_cons_succ]
  refine Heads.done ?_
  refine wpAnyH_ready (rs := [8]) (by kernel_rfl) (by simp) (AllReadyH.cons rfl (fun K hK => ?_) AllReadyH.nil)
  go_simp
  refine HG.out.mono ?_
  rintro e w' ⟨rfl, rfl⟩
  refine hK.out _ _ ⟨z0, z1⟩ (fun hHeld1 => ?_)
  clear hK K
  refine wpAnyH_more [9, 10, 11, 12, 13, 14, 15] 0 rfl (by kernel_rfl) (by kernel_rfl) (fun _ _ d _ _ h => by cases d <;> exact h) hHeld1 ?_
  iterate 7
    refine' Heads.step rfl (by rfl) ?_ ?_
    rotate_left
    · intro w' hSw
      go_simp
      try with_reducible rfl
    simp only [Act.put, List.setIfInBounds_toArray, List.set_cons_zero, List.set_cons_succ]
  refine Heads.done ?_
  refine wpAnyH_done (by kernel_rfl) ?_ _
  clear hHeld1
  go_wp2_with fail
  go_ret
  rw [HM.out]
  exact ⟨rfl, (show Blk w.drew g 71 _ from H0.out).set_ 2 _, (Turned.refl (TkR g) w).drew.setCell (p := ⟨g, 2, none⟩) (.inl rfl) _⟩
set_option maxRecDepth 20000 in
theorem rnum114 {w : World} {g : Nat} {s : ByteArray} {t : St} (h : Blk w g 71 (rdc s t)) (hs : s.size ≤ 100000000) (hat : t.at_ ≤ s.size) : Calls Try.prog 39 #[ptrW g, .int .i64 1] w fun e w' => e = .returned (.int .i64 (rnum s 1 t).1) ∧ Blk w' g 71 (rdc s (rnum s 1 t).2) ∧ Turned (TkR g) w w' := rugrnum_calls h hs hat 1 (by omega)
set_option maxRecDepth 20000 in
theorem rnum214 {w : World} {g : Nat} {s : ByteArray} {t : St} (h : Blk w g 71 (rdc s t)) (hs : s.size ≤ 100000000) (hat : t.at_ ≤ s.size) : Calls Try.prog 39 #[ptrW g, .int .i64 2] w fun e w' => e = .returned (.int .i64 (rnum s 2 t).1) ∧ Blk w' g 71 (rdc s (rnum s 2 t).2) ∧ Turned (TkR g) w w' := rugrnum_calls h hs hat 2 (by omega)
set_option maxRecDepth 20000 in
theorem rnum414 {w : World} {g : Nat} {s : ByteArray} {t : St} (h : Blk w g 71 (rdc s t)) (hs : s.size ≤ 100000000) (hat : t.at_ ≤ s.size) : Calls Try.prog 39 #[ptrW g, .int .i64 4] w fun e w' => e = .returned (.int .i64 (rnum s 4 t).1) ∧ Blk w' g 71 (rdc s (rnum s 4 t).2) ∧ Turned (TkR g) w w' := rugrnum_calls h hs hat 4 (by omega)
set_option maxRecDepth 20000 in
theorem rnum814 {w : World} {g : Nat} {s : ByteArray} {t : St} (h : Blk w g 71 (rdc s t)) (hs : s.size ≤ 100000000) (hat : t.at_ ≤ s.size) : Calls Try.prog 39 #[ptrW g, .int .i64 8] w fun e w' => e = .returned (.int .i64 (rnum s 8 t).1) ∧ Blk w' g 71 (rdc s (rnum s 8 t).2) ∧ Turned (TkR g) w w' := rugrnum_calls h hs hat 8 (by omega)
end Go.Proofs.Ythgjmbcojbmlhaa
