/- Chapter 7: StoreCrashes, walked. -/
import Derived.Test.YtacbnoagdlelgaaStS
namespace Go.Proofs.Ytacbnoagdlelgaa
open Go.RowKit Zb

set_option maxRecDepth 20000 in
theorem fail_len7 (D : DiskM) (m : Int) : (D.fail m).lasts.length = D.lasts.length := by
  unfold DiskM.fail
  split
  · rfl
  · simp only [settleTo_length]
set_option maxRecDepth 20000 in
theorem cut_len7 (D : DiskM) : D.cut.1.lasts.length = D.lasts.length := by
  unfold DiskM.cut
  split
  · rfl
  · split
    · rfl
    · exact fail_len7 _ _
set_option maxRecDepth 20000 in
theorem sync_len7 (D : DiskM) : D.sync.1.lasts.length = D.lasts.length := by
  unfold DiskM.sync
  split
  · rfl
  · split
    · exact cut_len7 D
    · simp only [settleTo_length]; exact cut_len7 D
set_option maxRecDepth 20000 in
theorem wl_len7 : ∀ (bs : List ByteArray) (D : DiskM) (a : Nat), (writeLoop D a bs).1.lasts.length = D.lasts.length
  | [], D, _ => sync_len7 D
  | x :: r, D, a => by
    show (if (D.write a x).2 = 0 then writeLoop (D.write a x).1 (a + 1) r else D.write a x).1.lasts.length = _
    split
    · rw [wl_len7 r, write_len]
    · exact write_len _ _
set_option maxRecDepth 20000 in
theorem slot_len7 (D : DiskM) (slot : Int) (t : ByteArray) : (slotWrite D slot t).1.lasts.length = D.lasts.length := by
  unfold slotWrite
  split
  · rfl
  · split
    · rfl
    · exact wl_len7 _ _ _
set_option maxRecDepth 20000 in
theorem append_len7 (D : DiskM) (e : EntM) : (appendM D e).1.lasts.length = D.lasts.length := by
  unfold appendM
  split
  · rfl
  · split
    · rfl
    · dsimp only
      split
      · rfl
      · split
        · exact write_len _ _
        · split <;> rw [sync_len7, write_len]
set_option maxRecDepth 20000 in
theorem prepare_len7 (S : StoreM) (D : DiskM) (t : ByteArray) : (prepareS S D t).2.1.lasts.length = D.lasts.length := by
  unfold prepareS
  split
  · exact slot_len7 _ _ _
  · split <;> (show (appendM _ _).1.lasts.length = _) <;> rw [append_len7, slot_len7]
set_option maxRecDepth 20000 in
theorem commit_len7 (S : StoreM) (D : DiskM) : (commitS S D).2.1.lasts.length = D.lasts.length := by
  unfold commitS
  split
  · rfl
  · split <;> exact append_len7 _ _
set_option maxRecDepth 20000 in
theorem drop_len7 (S : StoreM) (D : DiskM) : (dropS S D).2.1.lasts.length = D.lasts.length := by
  unfold dropS
  split
  · rfl
  · exact append_len7 _ _
set_option maxRecDepth 20000 in
theorem G7.up {D : DiskM} {K : KeptM} {n m : Nat} (h : G7 D K n) (hm : n ≤ m) : G7 D K m := ⟨h.rest, h.full, h.tells, h.n0, by have := h.n1; omega, h.len⟩
set_option maxRecDepth 20000 in
theorem text_next (S : StoreM) (t : ByteArray) : textS ⟨nextK S t, false, none⟩ = (t, true) := by
  unfold textS nextK otherS
  split <;> rfl
set_option maxRecDepth 20000 in
theorem G7.planned {D : DiskM} {K : KeptM} {n : Nat} (h : G7 D K n) (i m : Int) : G7 (D.plan i m).1 K n ∧ (D.plan i m).1.lasts.length = D.lasts.length := by
  have e : (D.plan i m).1.lasts = D.lasts ∧ (D.plan i m).1.off = D.off ∧ (D.plan i m).1.waits = D.waits := by unfold DiskM.plan; split <;> exact ⟨rfl, rfl, rfl⟩
  exact ⟨h.moved ⟨by rw [e.2.1]; exact h.rest.off, by rw [e.2.2]; exact h.rest.wts, by rw [e.1]; exact h.rest.len⟩ (h.full.plan i m) (by rw [e.1]) (fun i _ => by rw [e.1]) (fun _ _ i _ _ => by rw [e.1]), by rw [e.1]⟩
/-- what StoreCrashes carries along -/
def CrashW (w wx : World) (b n : Nat) (s5 s7 s8 : Value) : Prop := ∃ (s : Nat) (K : KeptM) (D : DiskM), s5 = .pointer (some ⟨s, 0, none⟩) ∧ Hid (ST w.heap.size w wx b D s ⟨K, false, none⟩) ∧ Hid (G7 D K n) ∧ D.lasts.length = 40 ∧ s7 = .string (textS ⟨K, false, none⟩).1 ∧ s8 = .bool (textS ⟨K, false, none⟩).2
set_option maxRecDepth 20000 in
set_option maxHeartbeats 16000000 in
theorem StoreCrashes_walk (A : Option Addr) (cap : Nat) (l : List QOp) (w : World) (_ : l.length ≤ 9223372036854775807) (hr : ReadsRows 4 QOp.cells w A l) (hok : ∀ x ∈ l, x.Ok) : Calls Try.prog 5 #[.slice A l.length cap] w fun r w' => r = .returned (.bool true) ∧ Below w.heap.size w w' := by
  have HR := hide hr
  have HOK := hide hok
  have HN := hide (ds_new 40 (by omega) (by omega) (Below.refl w.heap.size w) (Nat.le_refl _))
  have G0 := hide (G7.new (N := 40) (by decide) (by decide))
  clear hr hok
  go_enter Try.func5, Try.ntmps5
  go_wp2_with fail
  refine HN.out.mono ?_
  rintro r w1 ⟨b, rfl, HD1⟩
  have HO := hide (st_open (DO.of_ds HD1.out) G0.out.full (by simp [DiskM.new]))
  go_wp2_with fail
  refine HO.out.mono ?_
  rintro r w2 ⟨_, hr⟩
  rcases hr with ⟨_, s, rfl, HS2⟩ | ⟨h, _⟩
  rotate_left
  · exact absurd G0.out.opens.1 h
  rw [G0.out.opens.2] at HS2
  have HI0 : Hid (CrashW w w2 b (2 * 0) (.pointer (some ⟨s, 0, none⟩)) (.string ⟨#[]⟩) (.bool false)) := hide ⟨s, _, _, rfl, HS2, G0, by simp [DiskM.new], rfl, rfl⟩
  clear HN HO HS2 HD1 G0
  go_wp2_with fail
  go_loopw [5, 7, 8, 9] (fun s5 s7 s8 i wr => ∃ k : Nat, k ≤ l.length ∧ k ≤ 30 ∧ i = .int .i64 (k : Int) ∧ Hid (CrashW w wr b (2 * k) s5 s7 s8)) (fun _ _ _ i _ => 30 - (intOf i).toNat)
  case atStart => exact ⟨0, by omega, by omega, rfl, HI0⟩
  case round =>
  clear HI0
  obtain ⟨k, hk, hk30, rfl, HL⟩ := hrel
  obtain ⟨s, K, D, rfl, HST, HG, hl40, rfl, rfl⟩ := HL.out
  obtain ⟨T, hT⟩ : ∃ T, textS ⟨K, false, none⟩ = T := ⟨_, rfl⟩
  rw [hT]
  obtain ⟨tx, hs⟩ := T
  have HT := hide hT
  have HL40 := hide hl40
  have HI := hide (SI.opened HG.out)
  have HW : Hid (D.waits = []) := hide HG.out.rest.wts
  clear hT hl40 HL
  dsimp only
  by_cases hlt : k < l.length ∧ k < 30
  · obtain ⟨hlt1, hlt2⟩ := hlt
    obtain ⟨x, hx⟩ : ∃ x, l[k]? = some x := ⟨_, List.getElem?_eq_getElem hlt1⟩
    have HX := hide (HOK.out x (List.mem_of_getElem? hx))
    obtain ⟨bb, off, hA, hblt, hc⟩ := HR.out.kept HST.out.bel hx
    subst hA
    have x0 : wr.cell? ⟨bb, off + k * 4, none⟩ = some (.int .i64 x.kind) := hc 0 _ rfl
    have x1 : wr.cell? ⟨bb, off + k * 4 + 1, none⟩ = some (.string x.s) := hc 1 _ rfl
    have x2 : wr.cell? ⟨bb, off + k * 4 + 2, none⟩ = some (.int .i64 x.i) := hc 2 _ rfl
    have x3 : wr.cell? ⟨bb, off + k * 4 + 3, none⟩ = some (.int .u64 x.mask) := hc 3 _ rfl
    have hkI1 : (k : Int) < (l.length : Int) := by omega
    have hkI2 : (k : Int) < 30 := by omega
    have HHB : Hid (Blk (wr.alloc (.cells #[.int .i64 x.kind, .string x.s, .int .i64 x.i, .int .u64 x.mask] 39)) wr.heap.size 39 x.cells.toArray) := hide (Blk.new wr 39 x.cells.toArray)
    have hST : Hid (BST w.heap.size w (wr.alloc (.cells #[.int .i64 x.kind, .string x.s, .int .i64 x.i, .int .u64 x.mask] 39)) b D s ⟨K, false, none⟩ [(wr.heap.size, 39, x.cells.toArray)]) := hide ((BST.of HST.out).alloc 39 x.cells.toArray)
    have HC40 := hide (wCount_calls x.i 40 HX.out.i.1 HX.out.i.2 (by decide) (by decide))
    clear hc hx
    by_cases h1 : 1000 < x.s.size
    · have h1I : (1000 : Int) < (x.s.size : Int) := by omega
      clear h1
      go_wp2_with fail
      refine (lknown7_calls _).mono ?_
      rintro r wk ⟨rfl, hbk⟩
      go_wp2_with fail
      go_ret
      exact ⟨rfl, hST.out.st.bel.trans (hbk.mono hST.out.st.bel.size)⟩
    have h1I : (x.s.size : Int) ≤ 1000 := by omega
    have h1N := hide (show x.s.size ≤ 1000 by omega)
    clear h1
    go_upto_region 13 with (fail)
    generalize hWA : wr.alloc (.cells #[.int .i64 x.kind, .string x.s, .int .i64 x.i, .int .u64 x.mask] 39) = w3 at *
    generalize hg8 : wr.heap.size = g8 at *
    clear hWA hg8 x0 x1 x2 x3 hblt
    obtain ⟨z0, z1, z2, z3⟩ := qop_all HHB.out
    by_cases hk3 : x.kind = 3
    · have q3 : (x.kind == 3) = true := by simp [hk3]
      clear hk3
      have HPL := hide (hST.out.below (Below.refl _ _).drew |>.op (fun F hF => dplan_calls hF (countM x.i 40) x.mask))
      have HGP := hide (HG.out.planned (countM x.i 40) x.mask)
      go_wp2_with fail
      refine wp_region_heads [0, 1, 2, 4, 5] 2 (fun w' => Blk w' g8 39 x.cells.toArray) (by kernel_rfl) rfl (by kernel_rfl) (by kernel_rfl) (fun _ _ d _ _ h => by cases d <;> exact h) HHB.out ?_
      iterate 5
        refine' Heads.step rfl (by rfl) ?_ ?_
        rotate_left
        · intro w' hSw
          obtain ⟨z0, z1, z2, z3⟩ := qop_all hSw
          go_simp
          try with_reducible rfl
        simp only [Act.put, List.setIfInBounds_toArray, List.set_cons_zero, List.set_cons_succ]
      refine Heads.done ?_
      refine wpAnyH_ready (rs := [3]) (by kernel_rfl) (by simp) (AllReadyH.cons rfl (fun K hK => ?_) AllReadyH.nil)
      go_simp
      refine (HC40.out _).mono ?_
      rintro r _ ⟨rfl, rfl⟩
      refine hK.out _ _ HHB.out (fun hHeld1 => ?_)
      clear hK K
      refine wpAnyH_ready (rs := [6]) (by kernel_rfl) (by simp) (AllReadyH.cons rfl (fun K hK => ?_) AllReadyH.nil)
      go_simp
      refine (HPL.out).mono ?_
      rintro r w5 ⟨rfl, HS5⟩
      refine hK.out _ _ (HS5.out.get (List.mem_cons_self ..)) (fun hHeld2 => ?_)
      clear hK K
      refine wpAnyH_done (by kernel_rfl) ?_ _
      go_wp2_with fail
      have HNX : Hid (CrashW w w5 b (2 * (k + 1)) (.pointer (some ⟨s, 0, none⟩)) (.string tx) (.bool hs)) := hide ⟨s, K, _, rfl, hide HS5.out.st, hide (HGP.out.1.up (by omega)), by rw [HGP.out.2]; exact HL40.out, by rw [HT.out], by rw [HT.out]⟩
      refine ⟨⟨k + 1, by omega, by omega, by go_num, HNX⟩, ?_⟩
      simp [intOf]
      omega
    have q3 : (x.kind == 3) = false := by simp [hk3]
    clear hk3
    have HPR := hide (tPrepare_kept hST.out (odd3_op _ _) (by rw [HL40.out]; decide) (by rw [HW.out]; exact Nat.zero_le _) x.s (by have := h1N.out; omega))
    have LP := prepare_len7 ⟨K, false, none⟩ D x.s
    rw [HL40.out] at LP
    rcases HI.out.prepare (by omega) x.s with ⟨h1, _⟩ | ⟨_, D1, h2, h3, h4, h5⟩ | ⟨_, D1, h2, h3⟩
    · exact absurd h1 (by unfold slotN; rw [HL40.out]; have := h1N.out; omega)
    · rw [h2] at HPR LP
      have I1 := hide h3
      have LEN1 := hide LP
      clear h2 h3 h4 h5 LP
      go_wp2_with fail
      refine HPR.out.mono ?_
      rintro r w5 ⟨rfl, HS5⟩
      obtain ⟨u0, u1, u2, u3⟩ := qop_all (HS5.out.get (List.mem_cons_self ..))
      by_cases hk2 : x.kind = 2
      · have q2 : (x.kind == 2) = true := by simp [hk2]
        have q2n : (x.kind != 2) = false := by simp [hk2]
        clear hk2
        have HDR := hide (tDrop_kept HS5.out (odd3_op _ _) (by rw [I1.out.g.rest.wts]; exact Nat.zero_le _))
        have LD := drop_len7 (StoreM.wait ⟨K, false, none⟩ (nextK ⟨K, false, none⟩ x.s)) D1
        have L1' := LEN1.out
        rw [L1'] at LD
        rcases I1.out.drop (by omega) rfl with ⟨D2, h2, h3, _, _⟩ | ⟨_, D2, h2, h3⟩
        · rw [h2] at HDR LD
          have AF2 := hide h3.g.af
          have LEN2 := hide LD
          clear h2 h3 LD L1'
          go_wp2_with fail
          refine HDR.out.mono ?_
          rintro r w5b ⟨rfl, HS5b⟩
          obtain ⟨v0, v1, v2, v3⟩ := qop_all (HS5b.out.get (List.mem_cons_self ..))
          obtain ⟨y0, y1, y2, y3⟩ := qop_all (HS5b.out.get (List.mem_cons_self ..))
          have HF := hide (HS5b.out.op (fun F hF => dfail_calls hF x.mask (by rw [AF2.out.wts]; exact Nat.zero_le _)))
          obtain ⟨K', hP, hG⟩ := AF2.out.again x.mask
          have LEN4 : Hid ((D2.fail x.mask).start.lasts.length = 40) := hide (by rw [← LEN2.out, ← fail_len7 D2 x.mask]; rfl)
          go_wp2_with fail
          refine HF.out.mono ?_
          rintro r w6 ⟨rfl, HS6⟩
          clear y0 y1 y2 y3
          have HSS := hide (HS6.out.op (fun F hF => dstart_calls hF))
          go_wp2_with fail
          refine HSS.out.mono ?_
          rintro r w7 ⟨rfl, HS7⟩
          generalize (D2.fail x.mask).start = D4 at *
          have G4 := hide hG
          have HPK := hide hP
          clear hG hP
          have HOP := hide (by
            obtain ⟨_, G, h, _⟩ := HS7.out.st
            exact st_open h.own G4.out.full (by rw [G4.out.rest.wts]; exact Nat.zero_le _))
          go_wp2_with fail
          refine HOP.out.mono ?_
          rintro r w8 ⟨hb8, hr⟩
          rcases hr with ⟨_, s2, rfl, HS8⟩ | ⟨h, _⟩
          rotate_left
          · exact absurd G4.out.opens.1 h
          rw [G4.out.opens.2] at HS8
          have HB8 := hide (HS7.out.below hb8.out)
          have HOP2 := hide (by
            obtain ⟨_, G, h, _⟩ := HS8.out
            exact st_open h.own G4.out.full (by rw [G4.out.rest.wts]; exact Nat.zero_le _))
          go_wp2_with fail
          refine HOP2.out.mono ?_
          rintro r w9 ⟨hb9, hr⟩
          rcases hr with ⟨_, s3, rfl, HSm⟩ | ⟨h, _⟩
          rotate_left
          · exact absurd G4.out.opens.1 h
          rw [G4.out.opens.2] at HSm
          have HSn := hide (HS8.out.below hb9.out)
          have HB9 := hide (HB8.out.below hb9.out)
          clear hb8 hb9
          go_wp2_with fail
          refine (tOdd_calls HSn.out.st).mono ?_
          rintro r _ ⟨rfl, rfl⟩
          obtain rfl : K' = K := HPK.out
          have HTX : Hid (textS ⟨K', false, none⟩ = (tx, hs)) := hide HT.out
          have HTN := hide (tText_calls HSn.out.st)
          have HTM := hide (tText_calls HSm.out.st)
          rw [HTX.out] at HTN HTM
          obtain ⟨z0, z1, z2, z3⟩ := qop_all (HB9.out.get (List.mem_cons_self ..))
          have HNX : Hid (CrashW w w9 b (2 * (k + 1)) (.pointer (some ⟨s2, 0, none⟩)) (.string ((tx, hs)).1) (.bool ((tx, hs)).2)) := hide ⟨s2, _, _, rfl, HSn, hide (G4.out.up (by omega)), LEN4.out, by rw [HTX.out], by rw [HTX.out]⟩
          dsimp only at HNX HTN HTM
          go_wp2_with fail
          refine HTN.out.mono ?_
          rintro r _ ⟨rfl, rfl⟩
          go_wp2_with fail
          refine HTM.out.mono ?_
          rintro r _ ⟨rfl, rfl⟩
          go_wp2_with fail
          all_goals
            refine ⟨⟨k + 1, by omega, by omega, by go_num, HNX⟩, ?_⟩
            simp [intOf]
            omega
        · rw [h2] at HDR LD
          have AF2 := hide h3
          have LEN2 := hide LD
          clear h2 h3 LD L1'
          go_wp2_with fail
          refine HDR.out.mono ?_
          rintro r w5b ⟨rfl, HS5b⟩
          obtain ⟨v0, v1, v2, v3⟩ := qop_all (HS5b.out.get (List.mem_cons_self ..))
          obtain ⟨y0, y1, y2, y3⟩ := qop_all (HS5b.out.get (List.mem_cons_self ..))
          have HF := hide (HS5b.out.op (fun F hF => dfail_calls hF x.mask (by rw [AF2.out.wts]; exact Nat.zero_le _)))
          obtain ⟨K', hP, hG⟩ := AF2.out.again x.mask
          have LEN4 : Hid ((D2.fail x.mask).start.lasts.length = 40) := hide (by rw [← LEN2.out, ← fail_len7 D2 x.mask]; rfl)
          go_wp2_with fail
          refine HF.out.mono ?_
          rintro r w6 ⟨rfl, HS6⟩
          clear y0 y1 y2 y3
          have HSS := hide (HS6.out.op (fun F hF => dstart_calls hF))
          go_wp2_with fail
          refine HSS.out.mono ?_
          rintro r w7 ⟨rfl, HS7⟩
          generalize (D2.fail x.mask).start = D4 at *
          have G4 := hide hG
          have HPK := hide hP
          clear hG hP
          have HOP := hide (by
            obtain ⟨_, G, h, _⟩ := HS7.out.st
            exact st_open h.own G4.out.full (by rw [G4.out.rest.wts]; exact Nat.zero_le _))
          go_wp2_with fail
          refine HOP.out.mono ?_
          rintro r w8 ⟨hb8, hr⟩
          rcases hr with ⟨_, s2, rfl, HS8⟩ | ⟨h, _⟩
          rotate_left
          · exact absurd G4.out.opens.1 h
          rw [G4.out.opens.2] at HS8
          have HB8 := hide (HS7.out.below hb8.out)
          have HOP2 := hide (by
            obtain ⟨_, G, h, _⟩ := HS8.out
            exact st_open h.own G4.out.full (by rw [G4.out.rest.wts]; exact Nat.zero_le _))
          go_wp2_with fail
          refine HOP2.out.mono ?_
          rintro r w9 ⟨hb9, hr⟩
          rcases hr with ⟨_, s3, rfl, HSm⟩ | ⟨h, _⟩
          rotate_left
          · exact absurd G4.out.opens.1 h
          rw [G4.out.opens.2] at HSm
          have HSn := hide (HS8.out.below hb9.out)
          have HB9 := hide (HB8.out.below hb9.out)
          clear hb8 hb9
          go_wp2_with fail
          refine (tOdd_calls HSn.out.st).mono ?_
          rintro r _ ⟨rfl, rfl⟩
          obtain rfl : K' = K := HPK.out
          have HTX : Hid (textS ⟨K', false, none⟩ = (tx, hs)) := hide HT.out
          have HTN := hide (tText_calls HSn.out.st)
          have HTM := hide (tText_calls HSm.out.st)
          rw [HTX.out] at HTN HTM
          obtain ⟨z0, z1, z2, z3⟩ := qop_all (HB9.out.get (List.mem_cons_self ..))
          have HNX : Hid (CrashW w w9 b (2 * (k + 1)) (.pointer (some ⟨s2, 0, none⟩)) (.string ((tx, hs)).1) (.bool ((tx, hs)).2)) := hide ⟨s2, _, _, rfl, HSn, hide (G4.out.up (by omega)), LEN4.out, by rw [HTX.out], by rw [HTX.out]⟩
          dsimp only at HNX HTN HTM
          go_wp2_with fail
          refine HTN.out.mono ?_
          rintro r _ ⟨rfl, rfl⟩
          go_wp2_with fail
          refine HTM.out.mono ?_
          rintro r _ ⟨rfl, rfl⟩
          go_wp2_with fail
          all_goals
            refine ⟨⟨k + 1, by omega, by omega, by go_num, HNX⟩, ?_⟩
            simp [intOf]
            omega
      · have q2 : (x.kind == 2) = false := by simp [hk2]
        have q2n : (x.kind != 2) = true := by simp [hk2]
        clear hk2
        have HCM := hide (tCommit_kept HS5.out (odd3_op _ _) (by rw [I1.out.g.rest.wts]; exact Nat.zero_le _))
        have LD := commit_len7 (StoreM.wait ⟨K, false, none⟩ (nextK ⟨K, false, none⟩ x.s)) D1
        have L1' := LEN1.out
        rw [L1'] at LD
        rcases I1.out.commit (by omega) (k := nextK ⟨K, false, none⟩ x.s) rfl with ⟨D2, h2, h3, _, _⟩ | ⟨_, D2, h2, h3⟩
        · rw [h2] at HCM LD
          have AF2 := hide h3.g.af
          have LEN2 := hide LD
          clear h2 h3 LD L1'
          go_wp2_with fail
          refine HCM.out.mono ?_
          rintro r w5b ⟨rfl, HS5b⟩
          obtain ⟨v0, v1, v2, v3⟩ := qop_all (HS5b.out.get (List.mem_cons_self ..))
          obtain ⟨y0, y1, y2, y3⟩ := qop_all (HS5b.out.get (List.mem_cons_self ..))
          have HF := hide (HS5b.out.op (fun F hF => dfail_calls hF x.mask (by rw [AF2.out.wts]; exact Nat.zero_le _)))
          obtain ⟨K', hP, hG⟩ := AF2.out.again x.mask
          have LEN4 : Hid ((D2.fail x.mask).start.lasts.length = 40) := hide (by rw [← LEN2.out, ← fail_len7 D2 x.mask]; rfl)
          go_wp2_with fail
          refine HF.out.mono ?_
          rintro r w6 ⟨rfl, HS6⟩
          clear y0 y1 y2 y3
          have HSS := hide (HS6.out.op (fun F hF => dstart_calls hF))
          go_wp2_with fail
          refine HSS.out.mono ?_
          rintro r w7 ⟨rfl, HS7⟩
          generalize (D2.fail x.mask).start = D4 at *
          have G4 := hide hG
          have HPK := hide hP
          clear hG hP
          have HOP := hide (by
            obtain ⟨_, G, h, _⟩ := HS7.out.st
            exact st_open h.own G4.out.full (by rw [G4.out.rest.wts]; exact Nat.zero_le _))
          go_wp2_with fail
          refine HOP.out.mono ?_
          rintro r w8 ⟨hb8, hr⟩
          rcases hr with ⟨_, s2, rfl, HS8⟩ | ⟨h, _⟩
          rotate_left
          · exact absurd G4.out.opens.1 h
          rw [G4.out.opens.2] at HS8
          have HB8 := hide (HS7.out.below hb8.out)
          have HOP2 := hide (by
            obtain ⟨_, G, h, _⟩ := HS8.out
            exact st_open h.own G4.out.full (by rw [G4.out.rest.wts]; exact Nat.zero_le _))
          go_wp2_with fail
          refine HOP2.out.mono ?_
          rintro r w9 ⟨hb9, hr⟩
          rcases hr with ⟨_, s3, rfl, HSm⟩ | ⟨h, _⟩
          rotate_left
          · exact absurd G4.out.opens.1 h
          rw [G4.out.opens.2] at HSm
          have HSn := hide (HS8.out.below hb9.out)
          have HB9 := hide (HB8.out.below hb9.out)
          clear hb8 hb9
          go_wp2_with fail
          refine (tOdd_calls HSn.out.st).mono ?_
          rintro r _ ⟨rfl, rfl⟩
          obtain rfl : K' = nextK ⟨K, false, none⟩ x.s := HPK.out
          have HTX : Hid (textS ⟨nextK ⟨K, false, none⟩ x.s, false, none⟩ = (x.s, true)) := hide (text_next _ _)
          have HTN := hide (tText_calls HSn.out.st)
          have HTM := hide (tText_calls HSm.out.st)
          rw [HTX.out] at HTN HTM
          obtain ⟨z0, z1, z2, z3⟩ := qop_all (HB9.out.get (List.mem_cons_self ..))
          have HNX : Hid (CrashW w w9 b (2 * (k + 1)) (.pointer (some ⟨s2, 0, none⟩)) (.string ((x.s, true)).1) (.bool ((x.s, true)).2)) := hide ⟨s2, _, _, rfl, HSn, hide (G4.out.up (by omega)), LEN4.out, by rw [HTX.out], by rw [HTX.out]⟩
          dsimp only at HNX HTN HTM
          go_wp2_with fail
          refine HTN.out.mono ?_
          rintro r _ ⟨rfl, rfl⟩
          go_wp2_with fail
          refine HTM.out.mono ?_
          rintro r _ ⟨rfl, rfl⟩
          go_wp2_with fail
          all_goals
            refine ⟨⟨k + 1, by omega, by omega, by go_num, HNX⟩, ?_⟩
            simp [intOf]
            omega
        · rw [h2] at HCM LD
          have AF2 := hide h3
          have LEN2 := hide LD
          clear h2 h3 LD L1'
          go_wp2_with fail
          refine HCM.out.mono ?_
          rintro r w5b ⟨rfl, HS5b⟩
          obtain ⟨v0, v1, v2, v3⟩ := qop_all (HS5b.out.get (List.mem_cons_self ..))
          obtain ⟨y0, y1, y2, y3⟩ := qop_all (HS5b.out.get (List.mem_cons_self ..))
          have HF := hide (HS5b.out.op (fun F hF => dfail_calls hF x.mask (by rw [AF2.out.wts]; exact Nat.zero_le _)))
          obtain ⟨K', hP, hG⟩ := AF2.out.again x.mask
          have LEN4 : Hid ((D2.fail x.mask).start.lasts.length = 40) := hide (by rw [← LEN2.out, ← fail_len7 D2 x.mask]; rfl)
          go_wp2_with fail
          refine HF.out.mono ?_
          rintro r w6 ⟨rfl, HS6⟩
          clear y0 y1 y2 y3
          have HSS := hide (HS6.out.op (fun F hF => dstart_calls hF))
          go_wp2_with fail
          refine HSS.out.mono ?_
          rintro r w7 ⟨rfl, HS7⟩
          generalize (D2.fail x.mask).start = D4 at *
          have G4 := hide hG
          have HPK := hide hP
          clear hG hP
          have HOP := hide (by
            obtain ⟨_, G, h, _⟩ := HS7.out.st
            exact st_open h.own G4.out.full (by rw [G4.out.rest.wts]; exact Nat.zero_le _))
          go_wp2_with fail
          refine HOP.out.mono ?_
          rintro r w8 ⟨hb8, hr⟩
          rcases hr with ⟨_, s2, rfl, HS8⟩ | ⟨h, _⟩
          rotate_left
          · exact absurd G4.out.opens.1 h
          rw [G4.out.opens.2] at HS8
          have HB8 := hide (HS7.out.below hb8.out)
          have HOP2 := hide (by
            obtain ⟨_, G, h, _⟩ := HS8.out
            exact st_open h.own G4.out.full (by rw [G4.out.rest.wts]; exact Nat.zero_le _))
          go_wp2_with fail
          refine HOP2.out.mono ?_
          rintro r w9 ⟨hb9, hr⟩
          rcases hr with ⟨_, s3, rfl, HSm⟩ | ⟨h, _⟩
          rotate_left
          · exact absurd G4.out.opens.1 h
          rw [G4.out.opens.2] at HSm
          have HSn := hide (HS8.out.below hb9.out)
          have HB9 := hide (HB8.out.below hb9.out)
          clear hb8 hb9
          go_wp2_with fail
          refine (tOdd_calls HSn.out.st).mono ?_
          rintro r _ ⟨rfl, rfl⟩
          rcases HPK.out with hk | hk
          · obtain rfl : K' = nextK ⟨K, false, none⟩ x.s := hk
            have HTX : Hid (textS ⟨nextK ⟨K, false, none⟩ x.s, false, none⟩ = (x.s, true)) := hide (text_next _ _)
            have HTN := hide (tText_calls HSn.out.st)
            have HTM := hide (tText_calls HSm.out.st)
            rw [HTX.out] at HTN HTM
            obtain ⟨z0, z1, z2, z3⟩ := qop_all (HB9.out.get (List.mem_cons_self ..))
            have HNX : Hid (CrashW w w9 b (2 * (k + 1)) (.pointer (some ⟨s2, 0, none⟩)) (.string ((x.s, true)).1) (.bool ((x.s, true)).2)) := hide ⟨s2, _, _, rfl, HSn, hide (G4.out.up (by omega)), LEN4.out, by rw [HTX.out], by rw [HTX.out]⟩
            dsimp only at HNX HTN HTM
            go_wp2_with fail
            refine HTN.out.mono ?_
            rintro r _ ⟨rfl, rfl⟩
            go_wp2_with fail
            refine HTM.out.mono ?_
            rintro r _ ⟨rfl, rfl⟩
            go_wp2_with fail
            all_goals
              refine ⟨⟨k + 1, by omega, by omega, by go_num, HNX⟩, ?_⟩
              simp [intOf]
              omega
          · obtain rfl : K' = K := hk
            have HTX : Hid (textS ⟨K', false, none⟩ = (tx, hs)) := hide HT.out
            have HTN := hide (tText_calls HSn.out.st)
            have HTM := hide (tText_calls HSm.out.st)
            rw [HTX.out] at HTN HTM
            obtain ⟨z0, z1, z2, z3⟩ := qop_all (HB9.out.get (List.mem_cons_self ..))
            have HNX : Hid (CrashW w w9 b (2 * (k + 1)) (.pointer (some ⟨s2, 0, none⟩)) (.string ((tx, hs)).1) (.bool ((tx, hs)).2)) := hide ⟨s2, _, _, rfl, HSn, hide (G4.out.up (by omega)), LEN4.out, by rw [HTX.out], by rw [HTX.out]⟩
            dsimp only at HNX HTN HTM
            go_wp2_with fail
            refine HTN.out.mono ?_
            rintro r _ ⟨rfl, rfl⟩
            go_wp2_with fail
            refine HTM.out.mono ?_
            rintro r _ ⟨rfl, rfl⟩
            go_wp2_with fail
            all_goals
              refine ⟨⟨k + 1, by omega, by omega, by go_num, HNX⟩, ?_⟩
              simp [intOf]
              omega
    · rw [h2] at HPR LP
      have AF2 := hide h3
      have LEN2 := hide LP
      clear h2 h3 LP
      go_wp2_with fail
      refine HPR.out.mono ?_
      rintro r w5b ⟨rfl, HS5b⟩
      obtain ⟨v0, v1, v2, v3⟩ := qop_all (HS5b.out.get (List.mem_cons_self ..))
      obtain ⟨y0, y1, y2, y3⟩ := qop_all (HS5b.out.get (List.mem_cons_self ..))
      have HF := hide (HS5b.out.op (fun F hF => dfail_calls hF x.mask (by rw [AF2.out.wts]; exact Nat.zero_le _)))
      obtain ⟨K', hP, hG⟩ := AF2.out.again x.mask
      have LEN4 : Hid ((D1.fail x.mask).start.lasts.length = 40) := hide (by rw [← LEN2.out, ← fail_len7 D1 x.mask]; rfl)
      go_wp2_with fail
      refine HF.out.mono ?_
      rintro r w6 ⟨rfl, HS6⟩
      clear y0 y1 y2 y3
      have HSS := hide (HS6.out.op (fun F hF => dstart_calls hF))
      go_wp2_with fail
      refine HSS.out.mono ?_
      rintro r w7 ⟨rfl, HS7⟩
      generalize (D1.fail x.mask).start = D4 at *
      have G4 := hide hG
      have HPK := hide hP
      clear hG hP
      have HOP := hide (by
        obtain ⟨_, G, h, _⟩ := HS7.out.st
        exact st_open h.own G4.out.full (by rw [G4.out.rest.wts]; exact Nat.zero_le _))
      go_wp2_with fail
      refine HOP.out.mono ?_
      rintro r w8 ⟨hb8, hr⟩
      rcases hr with ⟨_, s2, rfl, HS8⟩ | ⟨h, _⟩
      rotate_left
      · exact absurd G4.out.opens.1 h
      rw [G4.out.opens.2] at HS8
      have HB8 := hide (HS7.out.below hb8.out)
      have HOP2 := hide (by
        obtain ⟨_, G, h, _⟩ := HS8.out
        exact st_open h.own G4.out.full (by rw [G4.out.rest.wts]; exact Nat.zero_le _))
      go_wp2_with fail
      refine HOP2.out.mono ?_
      rintro r w9 ⟨hb9, hr⟩
      rcases hr with ⟨_, s3, rfl, HSm⟩ | ⟨h, _⟩
      rotate_left
      · exact absurd G4.out.opens.1 h
      rw [G4.out.opens.2] at HSm
      have HSn := hide (HS8.out.below hb9.out)
      have HB9 := hide (HB8.out.below hb9.out)
      clear hb8 hb9
      go_wp2_with fail
      refine (tOdd_calls HSn.out.st).mono ?_
      rintro r _ ⟨rfl, rfl⟩
      obtain rfl : K' = K := HPK.out
      have HTX : Hid (textS ⟨K', false, none⟩ = (tx, hs)) := hide HT.out
      have HTN := hide (tText_calls HSn.out.st)
      have HTM := hide (tText_calls HSm.out.st)
      rw [HTX.out] at HTN HTM
      obtain ⟨z0, z1, z2, z3⟩ := qop_all (HB9.out.get (List.mem_cons_self ..))
      have HNX : Hid (CrashW w w9 b (2 * (k + 1)) (.pointer (some ⟨s2, 0, none⟩)) (.string ((tx, hs)).1) (.bool ((tx, hs)).2)) := hide ⟨s2, _, _, rfl, HSn, hide (G4.out.up (by omega)), LEN4.out, by rw [HTX.out], by rw [HTX.out]⟩
      dsimp only at HNX HTN HTM
      go_wp2_with fail
      refine HTN.out.mono ?_
      rintro r _ ⟨rfl, rfl⟩
      go_wp2_with fail
      refine HTM.out.mono ?_
      rintro r _ ⟨rfl, rfl⟩
      go_wp2_with fail
      all_goals
        refine ⟨⟨k + 1, by omega, by omega, by go_num, HNX⟩, ?_⟩
        simp [intOf]
        omega
  · by_cases hl1 : k < l.length
    · have hkI1 : (k : Int) < (l.length : Int) := by omega
      have hkI2 : ¬ ((k : Int) < 30) := by omega
      clear hlt hk hk30 hl1
      go_wp2_with fail
      refine (lknown7_calls _).mono ?_
      rintro r wk ⟨rfl, hbk⟩
      go_wp2_with fail
      go_ret
      exact ⟨rfl, HST.out.bel.trans (hbk.mono HST.out.bel.size)⟩
    · have hkI1 : ¬ ((k : Int) < (l.length : Int)) := by omega
      clear hlt hk hk30 hl1
      go_wp2_with fail
      refine (lknown7_calls _).mono ?_
      rintro r wk ⟨rfl, hbk⟩
      go_wp2_with fail
      go_ret
      exact ⟨rfl, HST.out.bel.trans (hbk.mono HST.out.bel.size)⟩
end Go.Proofs.Ytacbnoagdlelgaa
