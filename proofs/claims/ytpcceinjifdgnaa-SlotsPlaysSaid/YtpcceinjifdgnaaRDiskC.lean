/- The document's disk: cut, Write. -/
import Derived.Test.YtpcceinjifdgnaaRDiskB
namespace Go.Proofs.Ytpcceinjifdgnaa
open Go.RowKit Zb

theorem RRep.put {w : World} {b : Nat} {F : Nat → Prop} {D D' : DiskM} {lv wv : Value} (h : RRep w b F D lv wv) {i : Nat} {u : Value} (hl : D'.lasts = D.lasts) (hw : D'.waits = D.waits) (hm : 0 ≤ D'.mask ∧ D'.mask ≤ 18446744073709551615)
    (hc : #[lv, wv, .bool D.off, .int .i64 D.ops, .bool D.pon, .int .i64 D.after, .int .u64 D.mask].setIfInBounds i u = #[lv, wv, .bool D'.off, .int .i64 D'.ops, .bool D'.pon, .int .i64 D'.after, .int .u64 D'.mask]) :
    RRep (w.setCell ⟨b, i, none⟩ u) b F D' lv wv := by
  have n1 := row_blk_ne h.hl h.hb (by decide)
  have n2 := row_blk_ne h.hw h.hb (by decide)
  refine ⟨by rw [← hc]; exact h.hb.set_ i u, by rw [hl]; exact row_set h.hl n1 _, by rw [hw]; exact row_set h.hw n2 _, h.Fb, h.Fl, h.Fw, fun x hx => ?_, ?_, hm⟩
  · have := h.Fx x hx
    simpa [World.setCell] using this
  · exact ⟨by rw [hl]; exact h.ok.len, by rw [hl, hw]; exact h.ok.inr⟩
theorem RRep.at_ {w : World} {b : Nat} {F : Nat → Prop} {D : DiskM} {lv wv : Value} (h : RRep w b F D lv wv) : RAt w b F D := ⟨_, _, h⟩

theorem rdcut_calls {w : World} {b : Nat} {F : Nat → Prop} {D : DiskM} (h : RAt w b F D) (hW : D.waits.length ≤ 4294967296) :
    Calls Try.prog 46 #[.pointer (some ⟨b, 0, none⟩)] w (RPost F w b (.bool D.cut.2) D.cut.1) := by
  obtain ⟨lv, wv, h⟩ := h
  have c3 : w.cell? ⟨b, 3, none⟩ = some (.int .i64 D.ops) := h.hb.cell 3
  have c4 : w.cell? ⟨b, 4, none⟩ = some (.bool D.pon) := h.hb.cell 4
  have c5 : w.cell? ⟨b, 5, none⟩ = some (.int .i64 D.after) := h.hb.cell 5
  have c6 : w.cell? ⟨b, 6, none⟩ = some (.int .u64 D.mask) := h.hb.cell 6
  have f3 := h.hb.frozen 3
  have f4 := h.hb.frozen 4
  have f5 := h.hb.frozen 5
  have h1 := h.put (D' := { D with ops := wrap64 (D.ops + 1) }) (i := 3) (u := .int .i64 (wrap64 (D.ops + 1))) rfl rfl h.msk rfl
  have HMK := hide h.msk
  cases hp : D.pon
  · have HO := hide hp; clear hp
    rw [HO.out] at c4
    go_enter Try.func46, Try.ntmps46
    go_wp2_with fail
    go_ret
    have e : D.cut = ({ D with ops := wrap64 (D.ops + 1) }, false) := by simp [DiskM.cut, HO.out]
    rw [e]
    exact ⟨rfl, (Turned.refl F w).setCell (.inl h.Fb) _, F, fun x hx => .inl hx, h1.at_⟩
  · have HO := hide hp; clear hp
    rw [HO.out] at c4
    by_cases ha : 0 < D.after
    · go_enter Try.func46, Try.ntmps46
      go_wp2_with fail
      go_ret
      have e : D.cut = ({ D with ops := wrap64 (D.ops + 1), after := wrap64 (D.after - 1) }, false) := by simp [DiskM.cut, HO.out, ha]
      rw [e]
      have h2 := h1.put (D' := { D with ops := wrap64 (D.ops + 1), after := wrap64 (D.after - 1) }) (i := 5) (u := .int .i64 (wrap64 (D.after - 1))) rfl rfl HMK.out rfl
      exact ⟨rfl, ((Turned.refl F w).setCell (.inl h.Fb) _).setCell (.inl h.Fb) _, F, fun x hx => .inl hx, h2.at_⟩
    · have h2 := h1.put (D' := { D with ops := wrap64 (D.ops + 1), pon := false }) (i := 4) (u := .bool false) rfl rfl h.msk rfl
      have HF := hide (rdfail_calls h2.at_ D.mask HMK.out.1 HMK.out.2 hW)
      go_enter Try.func46, Try.ntmps46
      go_wp2_with fail
      refine HF.out.mono ?_
      rintro e w1 ⟨rfl, tu, F', hF', hd⟩
      go_wp2_with fail
      go_ret
      have e : D.cut = (({ D with ops := wrap64 (D.ops + 1), pon := false } : DiskM).fail D.mask, true) := by simp [DiskM.cut, HO.out, ha]
      rw [e]
      exact ⟨rfl, (((Turned.refl F w).setCell (.inl h.Fb) _).setCell (.inl h.Fb) _).trans tu (fun x hx => .inl hx), F', fun x hx => by rcases hF' x hx with h | h; exact .inl h; exact .inr (by simpa [World.setCell] using h), hd⟩

theorem rinfo_put : (Try.prog.info? 79).map (fun i => (i.zero, i.size, i.bytes)) = some (some (.agg #[.int .i64 0, .string ⟨#[]⟩]), 2, 24) := by kernel_rfl
theorem wrong_0 {D : DiskM} {i : Int} (h : D.wrong i = 0) : D.off = false ∧ 0 ≤ i ∧ i < D.lasts.length := by
  unfold DiskM.wrong at h
  split at h
  · omega
  · split at h
    · omega
    · rename_i h1 h2; exact ⟨by simpa using h1, by omega, by omega⟩
theorem RRep.wait {w w2 : World} {b : Nat} {F : Nat → Prop} {D : DiskM} {lv wv v' : Value} {i : Int} {s : ByteArray} {c : Array Value} (h : RRep w b F D lv wv) (hi : 0 ≤ i ∧ i < D.lasts.length)
    (hr : Row w2 79 2 v' (D.waits.length + 1) (wcells D.waits ++ [.int .i64 i, .string s])) (hg : (w.alloc (.cells c 79)).grownBy w2 wv.ownBlock) (hat : v'.ownBlock = wv.ownBlock ∨ v'.ownBlock = some (w.alloc (.cells c 79)).heap.size) :
    RRep (w2.setCell ⟨b, 1, none⟩ v') b (fun x => F x ∨ (w.heap.size ≤ x ∧ x < w2.heap.size)) { D with waits := D.waits ++ [(i, s)] } lv v' ∧ Turned F w (w2.setCell ⟨b, 1, none⟩ v') := by
  have n1 := row_blk_ne h.hl h.hb (by decide)
  have n2 := row_blk_ne h.hw h.hb (by decide)
  have hlw := row_types h.hl h.hw (by decide)
  have hb2 := (h.hb.alloc (.cells c 79)).grown hg (fun e => n2 e.symm)
  have hl2 : Row w2 9 1 lv D.lasts.length (strs D.lasts) := row_of (row_alloc h.hl (.cells c 79)) fun g hg' => hg.block g (row_lt (row_alloc h.hl _) g hg') (fun e => hlw g hg' e.symm)
  have hne : v'.ownBlock ≠ some b := row_blk_ne hr hb2 (by decide)
  refine ⟨⟨by simpa using hb2.set_ 1 v', row_set hl2 n1 _, ?_, .inl h.Fb, fun g hg => .inl (h.Fl g hg), fun g hg' => ?_, ?_, ⟨h.ok.len, fun p hp => ?_⟩, h.msk⟩, (((Turned.refl F w).alloc _).grown hg (fun k hk => .inl (h.Fw k hk))).setCell (.inl h.Fb) _⟩
  · have e := row_set (p := ⟨b, 1, none⟩) hr hne v'
    rw [wcells_snoc, show (({ D with waits := D.waits ++ [(i, s)] } : DiskM).waits).length = D.waits.length + 1 by simp]
    exact e
  · rcases hat with e | e
    · rw [hg'] at e; exact .inl (h.Fw g e.symm)
    · rw [hg'] at e
      have e2 : g = w.heap.size + 1 := by simpa using e
      exact .inr ⟨by omega, row_lt hr g hg'⟩
  · have := hg.size
    rintro x (hx | hx)
    · have := h.Fx x hx
      simp only [World.setCell, Array.size_modify]
      simp at *
      omega
    · simpa [World.setCell] using hx.2
  · rcases List.mem_append.1 hp with hp | hp
    · exact h.ok.inr p hp
    · obtain rfl : p = (i, s) := by simpa using hp
      exact hi

theorem rdwrite_calls {w : World} {b : Nat} {F : Nat → Prop} {D : DiskM} (h : RAt w b F D) (hW : D.waits.length ≤ 4294967290) (i : Int) (s : ByteArray) :
    Calls Try.prog 43 #[.pointer (some ⟨b, 0, none⟩), .int .i64 i, .string s] w (RPost F w b (.int .i64 (D.write i s).2) (D.write i s).1) := by
  have h0 := h
  obtain ⟨lv, wv, h⟩ := h
  have c2 : w.cell? ⟨b, 2, none⟩ = some (.bool D.off) := h.hb.cell 2
  obtain ⟨lA, lcap, hlv, _⟩ := row_slice h.hl
  have c0 : w.cell? ⟨b, 0, none⟩ = some (.slice lA D.lasts.length lcap) := by rw [← hlv]; exact h.hb.cell 0
  have HLV := hide hlv
  clear hlv
  cases hoff : D.off
  · have HO := hide hoff
    by_cases hi : 0 ≤ i ∧ i < D.lasts.length
    · have hw0 : D.wrong i = 0 := by unfold DiskM.wrong; rw [hoff, if_neg (by simp), if_neg (by omega)]
      obtain ⟨hi0, hi1⟩ := hi
      rw [hoff] at c2
      clear hoff
      by_cases hs : s.size = 64
      · have hs2 : ((s.size : Int) != 64) = false := by simp [hs]
        have HS := hide hs
        have HW0 := hide hw0
        have HREP := hide h
        have c1 : w.cell? ⟨b, 1, none⟩ = some wv := h.hb.cell 1
        clear hs hw0 h
        go_enter Try.func43, Try.ntmps43
        go_wp2_with (at_builtin; refine app_list rfl (.tmp 31) (.tmp 35) 53 79 rfl _ 2 24 Try.underlying53 rinfo_put rfl (by decide) wv D.waits.length (wcells D.waits) (by rfl) (row_alloc HREP.out.hw _) (.slice (some ⟨w.heap.size, 0, none⟩) 1 1) 1 [.int .i64 i, .string s] (by rfl) (Src.blk (Blk.new w 79 #[.int .i64 i, .string s])) rfl (by simp [Value.oneCell']) (by unfold maxLen; omega) (by omega) ?_; intro v' w2 hr2 hg2 hat; obtain ⟨A2, cap2, rfl, hc2⟩ := row_slice hr2.out; have hb2 := (HREP.out.hb.alloc (.cells #[.int .i64 i, .string s] 79)).grown hg2.out (fun e => row_blk_ne HREP.out.hw HREP.out.hb (by decide) e.symm); have z1 := hb2.cell 1; have y1 := hb2.frozen 1; simp only [List.getElem?_toArray, List.getElem?_cons_succ, List.getElem?_cons_zero] at z1; clear hb2)
        have hP := HREP.out.wait (i := i) (s := s) ⟨hi0, hi1⟩ hr2.out hg2.out hat.out
        have HC := hide (rdcut_calls hP.1.at_ (by simp; omega))
        have HT := hide hP.2
        have HSZ := hide (show w.heap.size ≤ w2.heap.size by have := hg2.out.size; simp at this; omega)
        clear hP z1 y1 hat hg2 hr2
        refine HC.out.mono ?_
        rintro e w3 ⟨rfl, tu3, F', hF', hd⟩
        have e : D.write i s = (({ D with waits := D.waits ++ [(i, s)] } : DiskM).cut.1, if ({ D with waits := D.waits ++ [(i, s)] } : DiskM).cut.2 then 7 else 0) := by
          unfold DiskM.write
          rw [if_neg (by simp [HW0.out]), if_neg (by have := HS.out; omega)]
        have hF2 : ∀ x, F' x → F x ∨ w.heap.size ≤ x := by
          intro x hx
          rcases hF' x hx with (h | h) | h
          · exact .inl h
          · exact .inr h.1
          · refine .inr ?_
            have := HSZ.out
            simp only [World.setCell, Array.size_modify] at h
            omega
        have tu4 : Turned F w w3 := HT.out.trans tu3 (fun x hx => by rcases hx with h | h; exact .inl h; exact .inr h.1)
        have E := hide e
        have HF2 := hide hF2
        have HT4 := hide tu4
        have HD := hide hd
        clear e hF2 tu4 hd hF' tu3 HC
        cases hcc : ({ D with waits := D.waits ++ [(i, s)] } : DiskM).cut.2
        · have HCC := hide hcc; clear hcc
          go_wp2_with fail
          go_ret
          rw [E.out, HCC.out]
          exact ⟨rfl, HT4.out, F', HF2.out, HD.out⟩
        · have HCC := hide hcc; clear hcc
          go_wp2_with fail
          go_ret
          rw [E.out, HCC.out]
          exact ⟨rfl, HT4.out, F', HF2.out, HD.out⟩
      · have hs2 : ((s.size : Int) != 64) = true := by simp; omega
        have e : D.write i s = (D, 1) := by unfold DiskM.write; rw [if_neg (by simp [hw0]), if_pos hs]
        have E := hide e
        clear hs hw0 h e
        go_enter Try.func43, Try.ntmps43
        go_wp2_with fail
        go_ret
        rw [E.out]
        exact ⟨rfl, .refl _ _, F, fun x hx => .inl hx, h0⟩
    · have e : D.write i s = (D, 1) := by
        have : D.wrong i = 1 := by unfold DiskM.wrong; rw [hoff, if_neg (by simp), if_pos (by omega)]
        unfold DiskM.write
        rw [if_pos (by rw [this]; decide), this]
      have E := hide e
      rw [hoff] at c2
      clear e hoff h
      by_cases h1 : i < 0
      · clear hi
        go_enter Try.func43, Try.ntmps43
        go_wp2_with fail
        go_ret
        rw [E.out]
        exact ⟨rfl, .refl _ _, F, fun x hx => .inl hx, h0⟩
      · have h2 : ¬ i < D.lasts.length := by omega
        clear hi
        go_enter Try.func43, Try.ntmps43
        go_wp2_with fail
        go_ret
        rw [E.out]
        exact ⟨rfl, .refl _ _, F, fun x hx => .inl hx, h0⟩
  · have e : D.write i s = (D, 7) := by
      have : D.wrong i = 7 := by unfold DiskM.wrong; rw [hoff]; rfl
      unfold DiskM.write
      rw [if_pos (by rw [this]; decide), this]
    have E := hide e
    rw [hoff] at c2
    clear e hoff h
    go_enter Try.func43, Try.ntmps43
    go_wp2_with fail
    go_ret
    rw [E.out]
    exact ⟨rfl, .refl _ _, F, fun x hx => .inl hx, h0⟩
end Go.Proofs.Ytpcceinjifdgnaa
