/- The disk's operations, walked: what reads, plans and starts. -/
import Derived.Test.YtpcceinjifdgnaaDiskC
namespace Go.Proofs.Ytpcceinjifdgnaa
open Go.RowKit Zb

section
variable {w : World} {b : Nat} {F : Nat → Prop} {D : DiskM}

theorem dsync_calls (h : DiskAt w b F D) (hW : D.waits.length ≤ 4294967290) : Calls Try.prog 29 #[.pointer (some ⟨b, 0, none⟩)] w (DPost F w b (.int .i64 D.sync.2) D.sync.1) := by
  have HWR := hide (dwrong_calls h 0)
  have HC := hide (dcut_calls h (by omega))
  have h0 := h
  obtain ⟨lv, wv, bm, P, h⟩ := h
  by_cases hwr : D.wrong 0 = 0
  · have HWR0 := hide hwr; clear hwr
    cases hcc : D.cut.2
    · have HCC := hide hcc; clear hcc
      have e : D.sync = ({ D.cut.1 with lasts := settleTo (fun _ => true) 0 D.cut.1.waits D.cut.1.lasts, waits := [] }, 0) := by
        unfold DiskM.sync; rw [if_neg (by simp [HWR0.out]), if_neg (by simp [HCC.out])]
      have hwl : D.cut.1.waits.length ≤ 4294967296 := by
        unfold DiskM.cut
        split
        · simp; omega
        · split
          · simp; omega
          · simp only [DiskM.fail]; split <;> simp; omega
      have E := hide e; clear e
      go_enter Try.func29, Try.ntmps29
      go_wp2_with fail
      refine HWR.out.mono ?_
      rintro e w' ⟨rfl, rfl⟩
      rw [HWR0.out]
      go_wp2_with fail
      refine HC.out.mono ?_
      rintro e w1 ⟨rfl, tu1, F1, hF1, hd1⟩
      rw [HCC.out]
      obtain ⟨lv1, wv1, bm1, P1, h1⟩ := hd1
      have HS := hide (dsettle_calls F1 b bm1 lv1 wv1 42 #[] (fun _ => true) D.cut.1.lasts D.cut.1.waits P1 _ _ _ _ _ w1 h1.hb h1.hl h1.hw h1.hm h1.ok.inr h1.ok.len.2 ⟨h1.Fb, h1.Fm, h1.Fl⟩ hwl (fun x w1 => by kernel_rfl) (fun k w1 _ _ => dSync1_calls k w1))
      go_wp2_with fail
      refine HS.out.mono ?_
      rintro e w2 ⟨rfl, tu2, hb2, hl2, Pk, hPk, hx⟩
      have HX := hide hx; clear hx
      go_wp2_with fail
      go_ret
      rw [E.out]
      have hfw : ∀ x, F1 x → F x ∨ w.heap.size ≤ x := hF1
      refine ⟨rfl, tu1.trans tu2 hfw, F1, hfw, lv1, .slice none 0 0, bm1, Pk, hb2, ?_, row_nil _ _ _, hPk, ?_, h1.Fb, h1.Fm, h1.Fl, fun g hg => by simp [Value.ownBlock] at hg, fun x hx => Nat.lt_of_lt_of_le (h1.Fx x hx) tu2.size, ?_⟩
      · simp only [settleTo_length]
        exact hl2
      · intro x
        rw [HX.out, h1.hP]
        simp only [lastIdx]
        split
        · rfl
        · rename_i hnot
          cases hli : lastIdx 0 D.cut.1.waits x with
          | none => rfl
          | some j =>
            obtain ⟨i, _, _, s, hs⟩ := lastIdx_some 0 _ x j hli
            exact absurd (List.mem_map.2 ⟨_, List.mem_of_getElem? hs, rfl⟩) hnot
      · exact ⟨by simp only [settleTo_length]; exact h1.ok.len, by simp⟩
    · have HCC := hide hcc; clear hcc
      have e : D.sync = (D.cut.1, 7) := by
        unfold DiskM.sync; rw [if_neg (by simp [HWR0.out]), if_pos (by simp [HCC.out])]
      have E := hide e; clear e
      go_enter Try.func29, Try.ntmps29
      go_wp2_with fail
      refine HWR.out.mono ?_
      rintro e w' ⟨rfl, rfl⟩
      rw [HWR0.out]
      go_wp2_with fail
      refine HC.out.mono ?_
      rintro e w1 ⟨rfl, tu1, F1, hF1, hd1⟩
      rw [HCC.out]
      go_wp2_with fail
      go_ret
      rw [E.out]
      exact ⟨rfl, tu1, F1, hF1, hd1⟩
  · have hs2 : (D.wrong 0 != 0) = true := by simp [hwr]
    have HWR0 := hide hwr; clear hwr
    go_enter Try.func29, Try.ntmps29
    go_wp2_with fail
    refine HWR.out.mono ?_
    rintro e w' ⟨rfl, rfl⟩
    go_wp2_with fail
    go_ret
    rw [show D.sync = (D, D.wrong 0) by unfold DiskM.sync; rw [if_pos HWR0.out]]
    exact ⟨rfl, .refl _ _, F, fun x hx => .inl hx, h0⟩

theorem dq_look (w : World) (bm : Nat) (P : Prs) (h : MapAt w bm P) (x : Int) : (Instr.lookup 63 (.map (some bm)) (.int .i64 x) true).run Try.prog w = .ok (.tuple #[.int .i64 ((Prs.look P x).getD 0), .bool (Prs.look P x).isSome]) w :=
  h.lookup Try.underlying63 Try.underlying3 (fun w => by kernel_rfl) x

theorem dread_calls (h : DiskAt w b F D) (hW : D.waits.length ≤ 4294967290) (i : Int) : Calls Try.prog 12 #[.pointer (some ⟨b, 0, none⟩), .int .i64 i] w fun e w' => e = .returned (.tuple #[.string (D.read i).1, .int .i64 (D.read i).2]) ∧ w = w' := by
  have HWR := hide (dwrong_calls h i)
  obtain ⟨lv, wv, bm, P, h⟩ := h
  by_cases hwr : D.wrong i = 0
  · have hi : 0 ≤ i ∧ i < D.lasts.length := by
      unfold DiskM.wrong at hwr
      split at hwr
      · omega
      · split at hwr
        · omega
        · omega
    have E := hide (show D.read i = (seen i D.waits (D.lasts.getD i.toNat ⟨#[]⟩), 0) by unfold DiskM.read; rw [if_pos hwr])
    have HWR0 := hide hwr; clear hwr
    have hq := dq_look w bm P h.hm i
    have hs := lastIdx_seen 0 D.waits i (D.lasts.getD i.toNat ⟨#[]⟩)
    have hstr := strs_get D.lasts i.toNat (by omega)
    generalize hL : D.lasts.getD i.toNat ⟨#[]⟩ = s0 at *
    generalize hS : seen i D.waits s0 = s1 at *
    clear hL
    have c0 : w.cell? ⟨b, 0, none⟩ = some lv := h.hb.cell 0
    have c1 : w.cell? ⟨b, 1, none⟩ = some wv := h.hb.cell 1
    have c2 : w.cell? ⟨b, 2, none⟩ = some (.map (some bm)) := h.hb.cell 2
    rw [h.hP] at hq
    cases hli : lastIdx 0 D.waits i with
    | some j =>
      rw [hli] at hq hs
      obtain ⟨k, rfl, hk⟩ := hs
      have hkl : k < D.waits.length := by
        rcases Nat.lt_or_ge k D.waits.length with h | h
        · exact h
        · rw [List.getElem?_eq_none h] at hk; cases hk
      obtain ⟨g, c, hwv, hc, hg, _, hcells⟩ := row_form h.hw (by omega)
      subst hwv
      have hd := (hcells (k * 2 + 1) (by omega)).trans (wcells_get _ k _ hk).2
      have HK := hide hk; clear hk hcells hli hS hstr
      simp only [Option.getD_some, Option.isSome_some, Int.natCast_zero, Int.zero_add] at hq
      go_enter Try.func12, Try.ntmps12
      go_wp2_with fail
      refine HWR.out.mono ?_
      rintro e w' ⟨rfl, rfl⟩
      rw [HWR0.out]
      go_wp2_with fail
      go_ret2
      rw [E.out]
      exact ⟨rfl, rfl⟩
    | none =>
      rw [hli] at hq hs
      obtain ⟨g, c, hlv, hc, hg, _, hcells⟩ := row_form h.hl (by omega)
      subst hlv
      have hd := (hcells i.toNat (by omega)).trans hstr
      have HS := hide hs; clear hs hcells hli hS hstr
      simp only [Option.getD_none, Option.isSome_none] at hq
      go_enter Try.func12, Try.ntmps12
      go_wp2_with fail
      refine HWR.out.mono ?_
      rintro e w' ⟨rfl, rfl⟩
      rw [HWR0.out]
      go_wp2_with fail
      go_ret2
      rw [E.out, HS.out]
      exact ⟨rfl, rfl⟩
  · have hs2 : (D.wrong i != 0) = true := by simp [hwr]
    have E := hide (show D.read i = (⟨#[]⟩, D.wrong i) by unfold DiskM.read; rw [if_neg hwr])
    clear hwr
    go_enter Try.func12, Try.ntmps12
    go_wp2_with fail
    refine HWR.out.mono ?_
    rintro e w' ⟨rfl, rfl⟩
    go_wp2_with fail
    go_ret2
    rw [E.out]
    exact ⟨rfl, rfl⟩

theorem dplan_calls (h : DiskAt w b F D) (k m : Int) : Calls Try.prog 19 #[.pointer (some ⟨b, 0, none⟩), .int .i64 k, .int .u64 m] w (DPost F w b (.int .i64 (D.plan k m).2) (D.plan k m).1) := by
  have h0 := h
  obtain ⟨lv, wv, bm, P, h⟩ := h
  have c2 : w.cell? ⟨b, 2, none⟩ = some (.map (some bm)) := h.hb.cell 2
  have c5 : w.cell? ⟨b, 5, none⟩ = some (.bool D.pon) := h.hb.cell 5
  have c6 : w.cell? ⟨b, 6, none⟩ = some (.int .i64 D.after) := h.hb.cell 6
  have c7 : w.cell? ⟨b, 7, none⟩ = some (.int .u64 D.mask) := h.hb.cell 7
  have f5 := h.hb.frozen 5
  have f6 := h.hb.frozen 6
  have f7 := h.hb.frozen 7
  by_cases hk : k < 0
  · go_enter Try.func19, Try.ntmps19
    go_wp2_with (go_at_call 32; refine (dthere_calls _ _ _ c2).mono ?_; rintro e w' ⟨rfl, rfl⟩)
    go_ret
    rw [show D.plan k m = (D, 1) by unfold DiskM.plan; rw [if_pos hk]]
    exact ⟨rfl, .refl _ _, F, fun x hx => .inl hx, h0⟩
  · go_enter Try.func19, Try.ntmps19
    go_wp2_with (go_at_call 32; refine (dthere_calls _ _ _ c2).mono ?_; rintro e w' ⟨rfl, rfl⟩)
    go_ret
    rw [show D.plan k m = ({ D with pon := true, after := k, mask := m }, 0) by unfold DiskM.plan; rw [if_neg (by omega)]]
    have h1 := h.put (D' := { D with pon := true }) (i := 5) (u := .bool true) rfl rfl rfl
    have h2 := h1.put (D' := { D with pon := true, after := k }) (i := 6) (u := .int .i64 k) rfl rfl rfl
    have h3 := h2.put (D' := { D with pon := true, after := k, mask := m }) (i := 7) (u := .int .u64 m) rfl rfl rfl
    exact ⟨rfl, (((Turned.refl F w).setCell (.inl h.Fb) _).setCell (.inl h.Fb) _).setCell (.inl h.Fb) _, F, fun x hx => .inl hx, h3.at_⟩

theorem dstart_calls (h : DiskAt w b F D) : Calls Try.prog 18 #[.pointer (some ⟨b, 0, none⟩)] w (DPost F w b (.tuple #[]) D.start) := by
  obtain ⟨lv, wv, bm, P, h⟩ := h
  have c2 : w.cell? ⟨b, 2, none⟩ = some (.map (some bm)) := h.hb.cell 2
  have c3 : w.cell? ⟨b, 3, none⟩ = some (.bool D.off) := h.hb.cell 3
  have f3 := h.hb.frozen 3
  go_enter Try.func18, Try.ntmps18
  go_wp2_with (go_at_call 32; refine (dthere_calls _ _ _ c2).mono ?_; rintro e w' ⟨rfl, rfl⟩)
  go_end0
  have h1 := h.put (D' := { D with off := false }) (i := 3) (u := .bool false) rfl rfl rfl
  exact ⟨rfl, (Turned.refl F w).setCell (.inl h.Fb) _, F, fun x hx => .inl hx, h1.at_⟩

theorem don_calls (h : DiskAt w b F D) : Calls Try.prog 22 #[.pointer (some ⟨b, 0, none⟩)] w fun e w' => e = .returned (.bool (!D.off)) ∧ w = w' := by
  obtain ⟨lv, wv, bm, P, h⟩ := h
  have c2 : w.cell? ⟨b, 2, none⟩ = some (.map (some bm)) := h.hb.cell 2
  have c3 : w.cell? ⟨b, 3, none⟩ = some (.bool D.off) := h.hb.cell 3
  go_enter Try.func22, Try.ntmps22
  go_wp2_with (go_at_call 32; refine (dthere_calls _ _ _ c2).mono ?_; rintro e w' ⟨rfl, rfl⟩)
  go_ret
  exact ⟨rfl, rfl⟩

theorem dops_calls (h : DiskAt w b F D) : Calls Try.prog 16 #[.pointer (some ⟨b, 0, none⟩)] w fun e w' => e = .returned (.int .i64 D.ops) ∧ w = w' := by
  obtain ⟨lv, wv, bm, P, h⟩ := h
  have c2 : w.cell? ⟨b, 2, none⟩ = some (.map (some bm)) := h.hb.cell 2
  have c4 : w.cell? ⟨b, 4, none⟩ = some (.int .i64 D.ops) := h.hb.cell 4
  go_enter Try.func16, Try.ntmps16
  go_wp2_with (go_at_call 32; refine (dthere_calls _ _ _ c2).mono ?_; rintro e w' ⟨rfl, rfl⟩)
  go_ret
  exact ⟨rfl, rfl⟩

theorem dblocks_calls (h : DiskAt w b F D) : Calls Try.prog 40 #[.pointer (some ⟨b, 0, none⟩)] w fun e w' => e = .returned (.int .i64 D.lasts.length) ∧ w = w' := by
  obtain ⟨lv, wv, bm, P, h⟩ := h
  obtain ⟨A, c, rfl, hc⟩ := row_slice h.hl
  have c2 : w.cell? ⟨b, 2, none⟩ = some (.map (some bm)) := h.hb.cell 2
  have c0 : w.cell? ⟨b, 0, none⟩ = some (.slice A D.lasts.length c) := h.hb.cell 0
  go_enter Try.func40, Try.ntmps40
  go_wp2_with (go_at_call 32; refine (dthere_calls _ _ _ c2).mono ?_; rintro e w' ⟨rfl, rfl⟩)
  go_ret
  exact ⟨rfl, rfl⟩
end
end Go.Proofs.Ytpcceinjifdgnaa
