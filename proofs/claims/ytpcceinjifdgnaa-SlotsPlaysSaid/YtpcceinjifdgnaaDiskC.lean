/- The disk's operations, walked: each does what the model's does. -/
import Derived.Test.YtpcceinjifdgnaaDiskB
namespace Go.Proofs.Ytpcceinjifdgnaa
open Go.RowKit Zb

section
variable {w : World} {b : Nat} {F : Nat → Prop} {D : DiskM} {lv wv : Value} {bm : Nat} {P : Prs}
theorem DiskRep.ne_ (h : DiskRep w b F D lv wv bm P) : lv.ownBlock ≠ some b ∧ wv.ownBlock ≠ some b ∧ bm ≠ b := by
  refine ⟨row_blk_ne h.hl h.hb (by decide), row_blk_ne h.hw h.hb (by decide), ?_⟩
  intro e
  subst e
  obtain ⟨es, cl, hh, _⟩ := h.hm
  have hb := h.hb
  unfold Blk at hb
  rw [hb] at hh
  cases hh
/-- a store into one of the struct's own cells -/
theorem DiskRep.put (h : DiskRep w b F D lv wv bm P) {D' : DiskM} {i : Nat} {u : Value} (hl : D'.lasts = D.lasts) (hw : D'.waits = D.waits)
    (hc : #[lv, wv, .map (some bm), .bool D.off, .int .i64 D.ops, .bool D.pon, .int .i64 D.after, .int .u64 D.mask].setIfInBounds i u = #[lv, wv, .map (some bm), .bool D'.off, .int .i64 D'.ops, .bool D'.pon, .int .i64 D'.after, .int .u64 D'.mask]) :
    DiskRep (w.setCell ⟨b, i, none⟩ u) b F D' lv wv bm P := by
  obtain ⟨n1, n2, n3⟩ := h.ne_
  refine ⟨by rw [← hc]; exact h.hb.set_ i u, by rw [hl]; exact row_set h.hl n1 _, by rw [hw]; exact row_set h.hw n2 _, h.hm.of_block (Below.heap_setCell _ _ _ _ n3), by rw [hw]; exact h.hP, h.Fb, h.Fm, h.Fl, h.Fw, fun x hx => ?_, ?_⟩
  · have := h.Fx x hx
    simpa [World.setCell] using this
  · exact ⟨by rw [hl]; exact h.ok.len, by rw [hl, hw]; exact h.ok.inr⟩
theorem DiskRep.at_ (h : DiskRep w b F D lv wv bm P) : DiskAt w b F D := ⟨_, _, _, _, h⟩
end

theorem dcut_calls {w : World} {b : Nat} {F : Nat → Prop} {D : DiskM} (h : DiskAt w b F D) (hW : D.waits.length ≤ 4294967296) :
    Calls Try.prog 41 #[.pointer (some ⟨b, 0, none⟩)] w (DPost F w b (.bool D.cut.2) D.cut.1) := by
  obtain ⟨lv, wv, bm, P, h⟩ := h
  have c4 : w.cell? ⟨b, 4, none⟩ = some (.int .i64 D.ops) := h.hb.cell 4
  have c5 : w.cell? ⟨b, 5, none⟩ = some (.bool D.pon) := h.hb.cell 5
  have c6 : w.cell? ⟨b, 6, none⟩ = some (.int .i64 D.after) := h.hb.cell 6
  have c7 : w.cell? ⟨b, 7, none⟩ = some (.int .u64 D.mask) := h.hb.cell 7
  have f4 := h.hb.frozen 4
  have f5 := h.hb.frozen 5
  have f6 := h.hb.frozen 6
  have h1 := h.put (D' := { D with ops := wrap64 (D.ops + 1) }) (i := 4) (u := .int .i64 (wrap64 (D.ops + 1))) rfl rfl rfl
  cases hp : D.pon
  · have HO := hide hp; clear hp
    rw [HO.out] at c5
    go_enter Try.func41, Try.ntmps41
    go_wp2_with fail
    go_ret
    have e : D.cut = ({ D with ops := wrap64 (D.ops + 1) }, false) := by simp [DiskM.cut, HO.out]
    rw [e]
    exact ⟨rfl, (Turned.refl F w).setCell (.inl h.Fb) _, F, fun x hx => .inl hx, h1.at_⟩
  · have HO := hide hp; clear hp
    rw [HO.out] at c5
    by_cases ha : 0 < D.after
    · go_enter Try.func41, Try.ntmps41
      go_wp2_with fail
      go_ret
      have e : D.cut = ({ D with ops := wrap64 (D.ops + 1), after := wrap64 (D.after - 1) }, false) := by simp [DiskM.cut, HO.out, ha]
      rw [e]
      have h2 := h1.put (D' := { D with ops := wrap64 (D.ops + 1), after := wrap64 (D.after - 1) }) (i := 6) (u := .int .i64 (wrap64 (D.after - 1))) rfl rfl rfl
      exact ⟨rfl, ((Turned.refl F w).setCell (.inl h.Fb) _).setCell (.inl h.Fb) _, F, fun x hx => .inl hx, h2.at_⟩
    · have h2 := h1.put (D' := { D with ops := wrap64 (D.ops + 1), pon := false }) (i := 5) (u := .bool false) rfl rfl rfl
      have HF := hide (dfail_calls h2.at_ D.mask hW)
      go_enter Try.func41, Try.ntmps41
      go_wp2_with fail
      refine HF.out.mono ?_
      rintro e w1 ⟨rfl, tu, F', hF', hd⟩
      go_wp2_with fail
      go_ret
      have e : D.cut = (({ D with ops := wrap64 (D.ops + 1), pon := false } : DiskM).fail D.mask, true) := by simp [DiskM.cut, HO.out, ha]
      rw [e]
      exact ⟨rfl, (((Turned.refl F w).setCell (.inl h.Fb) _).setCell (.inl h.Fb) _).trans tu (fun x hx => .inl hx), F', fun x hx => by rcases hF' x hx with h | h; exact .inl h; exact .inr (by simpa [World.setCell] using h), hd⟩

theorem info_write : (Try.prog.info? 72).map (fun i => (i.zero, i.size, i.bytes)) = some (some (.agg #[.int .i64 0, .string ⟨#[]⟩]), 2, 24) := by kernel_rfl

theorem dwrite_calls {w : World} {b : Nat} {F : Nat → Prop} {D : DiskM} (h : DiskAt w b F D) (hW : D.waits.length ≤ 4294967290) (i : Int) (s : ByteArray) :
    Calls Try.prog 28 #[.pointer (some ⟨b, 0, none⟩), .int .i64 i, .string s] w (DPost F w b (.int .i64 (D.write i s).2) (D.write i s).1) := by
  have HWR := hide (dwrong_calls h i)
  have h0 := h
  obtain ⟨lv, wv, bm, P, h⟩ := h
  by_cases hwr : D.wrong i = 0
  · by_cases hs : s.size = 64
    · have hi : 0 ≤ i ∧ i < D.lasts.length := by
        unfold DiskM.wrong at hwr
        split at hwr
        · omega
        · split at hwr
          · omega
          · omega
      have HWR0 := hide hwr; clear hwr
      obtain ⟨A, c, rfl, hc⟩ := row_slice h.hw
      have c1 : w.cell? ⟨b, 1, none⟩ = some (.slice A D.waits.length c) := h.hb.cell 1
      have c2 : w.cell? ⟨b, 2, none⟩ = some (.map (some bm)) := h.hb.cell 2
      have hs1 : (s.size : Int) = 64 := by omega
      have HS := hide hs1
      have hs2 : ((s.size : Int) != 64) = false := by simp [hs1]
      clear hs hs1
      go_enter Try.func28, Try.ntmps28
      go_wp2_with fail
      refine HWR.out.mono ?_
      rintro e w' ⟨rfl, rfl⟩
      rw [HWR0.out]
      go_wp2_with fail
      refine wp_region_tail 10 (by kernel_rfl) (by kernel_rfl) ?_
      simp only [List.take_succ_cons, List.take_zero, List.drop_succ_cons, List.drop_zero]
      repeat still_step
      refine wpStill_nil ?_
      refine wpList_mapUpd w.drew rfl (.tmp 20) (.tmp 21) (.tmp 26) 63 rfl 3 3 Try.underlying63 Try.underlying3 bm P h.hm i D.waits.length rfl rfl rfl ?_
      intro w1 hm1 hg1
      obtain ⟨n1, n2, n3⟩ := h.ne_
      have hb1 : Blk w1 b 68 _ := Blk.grown (w := w.drew) h.hb hg1 (by simpa using Ne.symm n3)
      have hmw : (Value.slice A D.waits.length c).ownBlock ≠ some bm := by
        obtain ⟨es, cl, hh, _⟩ := h.hm
        exact row_obj_ne h.hw hh (by intros; simp)
      have hml : lv.ownBlock ≠ some bm := by
        obtain ⟨es, cl, hh, _⟩ := h.hm
        exact row_obj_ne h.hl hh (by intros; simp)
      have hl1 : Row w1 9 1 lv D.lasts.length (strs D.lasts) := row_of h.hl fun g hg => hg1.block g (row_lt h.hl g hg) (fun e => hml (hg.trans e))
      have hw1 : Row w1 72 2 (.slice A D.waits.length c) D.waits.length (wcells D.waits) := row_of h.hw fun g hg => hg1.block g (row_lt h.hw g hg) (fun e => hmw (hg.trans e))
      have hsz1 : w.heap.size ≤ w1.heap.size := hg1.size
      clear c1 c2
      have c1 : w1.cell? ⟨b, 1, none⟩ = some (.slice A D.waits.length c) := hb1.cell 1
      have HB := hide hb1; clear hb1
      have HNE := hide (And.intro n1 (And.intro n2 n3)); clear n1 n2 n3
      have HM := hide (And.intro hmw hml); clear hmw hml
      go_wp2_with (at_builtin; refine wpList_app (w1.alloc (.cells #[.int .i64 i, .string s] 72)) rfl (.tmp 31) (.tmp 35) 64 72 rfl _ 2 24 Try.underlying64 info_write rfl (by omega) (.slice A D.waits.length c) D.waits.length (wcells D.waits) rfl (row_alloc hw1 _) ⟨w1.heap.size, 0, none⟩ 1 1 [.int .i64 i, .string s] rfl rfl (Blk.news (Blk.new w1 72 #[.int .i64 i, .string s])) (by simp [Value.oneCell']) (by unfold maxLen; omega) (by omega) ?_; intro v' w2 hr2 hg2 hat; obtain ⟨A2, c2, rfl, hc2⟩ := row_slice hr2; have HAT := hide hat; clear hat; have hb2 := hide (Blk.grown (HB.out.alloc (.cells #[.int .i64 i, .string s] 72)) hg2 (fun e => HNE.out.2.1 e.symm)); have c1' := hb2.out.cell 1; have f1' := hb2.out.frozen 1; simp only [List.getElem?_toArray, List.getElem?_cons_succ, List.getElem?_cons_zero] at c1')
      have hsz2 : w1.heap.size + 1 ≤ w2.heap.size := by simpa using hg2.size
      obtain ⟨n1, n2, n3⟩ := HNE.out
      have hl2 : Row w2 9 1 lv D.lasts.length (strs D.lasts) := row_of (row_alloc hl1 _) fun g hg => hg2.block g (row_lt (row_alloc hl1 _) g hg) (fun e => row_types hl1 hw1 (by decide) g hg e.symm)
      have hm2 : MapAt w2 bm (Prs.put P i D.waits.length) := (hm1.of_block (w' := w1.alloc (.cells #[.int .i64 i, .string s] 72)) (Below.heap_alloc _ _ _ hm1.lt)).of_block (hg2.block bm (by have := hm1.lt; simp; omega) (fun e => HM.out.1 e.symm))
      have hx2 : ∀ x, Prs.look (Prs.put P i D.waits.length) x = lastIdx 0 (D.waits ++ [(i, s)]) x := fun x => by
        rw [Prs.look_put, lastIdx_snoc, h.hP]; simp
      have tu2 : Turned F w w2 := (((Turned.refl F w).drew.grown hg1 (fun k hk => .inl (by cases hk; exact h.Fm))).alloc _).grown hg2 (fun k hk => .inl (h.Fw k hk))
      have hown : ∀ g, (Value.slice A2 (D.waits.length + 1) c2).ownBlock = some g → F g ∨ (w.heap.size ≤ g ∧ g < w2.heap.size) := by
        intro g hg
        rcases HAT.out with e | e
        · rw [hg] at e; exact .inl (h.Fw g e.symm)
        · rw [hg] at e
          have : g = w1.heap.size + 1 := by simpa using e
          have := row_lt hr2 g hg
          exact .inr ⟨by omega, this⟩
      have hrep : DiskRep (w2.setCell ⟨b, 1, none⟩ (.slice A2 (D.waits.length + 1) c2)) b (fun x => F x ∨ (w.heap.size ≤ x ∧ x < w2.heap.size)) { D with waits := D.waits ++ [(i, s)] } lv (.slice A2 (D.waits.length + 1) c2) bm (Prs.put P i D.waits.length) := by
        refine ⟨by simpa using hb2.out.set_ 1 (.slice A2 (D.waits.length + 1) c2), row_set hl2 n1 _, ?_, hm2.of_block (Below.heap_setCell _ _ _ _ n3), hx2, .inl h.Fb, .inl h.Fm, fun g hg => .inl (h.Fl g hg), hown, ?_, ?_⟩
        · have e := row_set (p := ⟨b, 1, none⟩) hr2 (row_blk_ne hr2 hb2.out (by decide)) (.slice A2 (D.waits.length + 1) c2)
          rw [wcells_snoc, show (({ D with waits := D.waits ++ [(i, s)] } : DiskM).waits).length = D.waits.length + 1 by simp]
          exact e
        · rintro x (hx | hx)
          · have := h.Fx x hx
            simp only [World.setCell, Array.size_modify]; omega
          · simpa [World.setCell] using hx.2
        · refine ⟨h.ok.len, fun p hp => ?_⟩
          rcases List.mem_append.1 hp with hp | hp
          · exact h.ok.inr p hp
          · obtain rfl : p = (i, s) := by simpa using hp
            exact hi
      have HC := hide (dcut_calls hrep.at_ (by simp; omega))
      refine HC.out.mono ?_
      rintro e w3 ⟨rfl, tu3, F', hF', hd⟩
      have e : D.write i s = (({ D with waits := D.waits ++ [(i, s)] } : DiskM).cut.1, if ({ D with waits := D.waits ++ [(i, s)] } : DiskM).cut.2 then 7 else 0) := by
        unfold DiskM.write
        rw [if_neg (by simp [HWR0.out]), if_neg (by have := HS.out; omega)]
      have hF2 : ∀ x, F' x → F x ∨ w.heap.size ≤ x := by
        intro x hx
        rcases hF' x hx with (h | h) | h
        · exact .inl h
        · exact .inr h.1
        · exact .inr (by simp only [World.setCell, Array.size_modify] at h; omega)
      have tu4 : Turned F w w3 := (tu2.setCell (.inl h.Fb) _).trans tu3 (fun x hx => by rcases hx with h | h; exact .inl h; exact .inr h.1)
      cases hcc : ({ D with waits := D.waits ++ [(i, s)] } : DiskM).cut.2
      · have HCC := hide hcc; clear hcc
        have E := hide e; clear e
        go_wp2_with fail
        go_ret
        rw [E.out, HCC.out]
        exact ⟨rfl, tu4, F', hF2, hd⟩
      · have HCC := hide hcc; clear hcc
        have E := hide e; clear e
        go_wp2_with fail
        go_ret
        rw [E.out, HCC.out]
        exact ⟨rfl, tu4, F', hF2, hd⟩
    · have hs2 : ((s.size : Int) != 64) = true := by simp; omega
      have HS := hide hs; clear hs
      have HWR0 := hide hwr; clear hwr
      go_enter Try.func28, Try.ntmps28
      go_wp2_with fail
      refine HWR.out.mono ?_
      rintro e w' ⟨rfl, rfl⟩
      rw [HWR0.out]
      go_wp2_with fail
      go_ret
      rw [show D.write i s = (D, 1) by unfold DiskM.write; rw [if_neg (by simp [HWR0.out]), if_pos HS.out]]
      exact ⟨rfl, .refl _ _, F, fun x hx => .inl hx, h0⟩
  · have hs2 : (D.wrong i != 0) = true := by simp [hwr]
    have HWR0 := hide hwr; clear hwr
    go_enter Try.func28, Try.ntmps28
    go_wp2_with fail
    refine HWR.out.mono ?_
    rintro e w' ⟨rfl, rfl⟩
    go_wp2_with fail
    go_ret
    rw [show D.write i s = (D, D.wrong i) by unfold DiskM.write; rw [if_pos HWR0.out]]
    exact ⟨rfl, .refl _ _, F, fun x hx => .inl hx, h0⟩
end Go.Proofs.Ytpcceinjifdgnaa
