/- The document's disk: Read, New. -/
import Derived.Test.YtpcceinjifdgnaaRDiskD
namespace Go.Proofs.Ytpcceinjifdgnaa
open Go.RowKit Zb

set_option maxRecDepth 100000 in
set_option maxHeartbeats 1000000 in
theorem rdread_calls {w : World} {b : Nat} {F : Nat → Prop} {D : DiskM} (h : RAt w b F D) (hW : D.waits.length ≤ 4294967290) (i : Int) :
    Calls Try.prog 24 #[.pointer (some ⟨b, 0, none⟩), .int .i64 i] w fun e w' => e = .returned (.tuple #[.string (D.read i).1, .int .i64 (D.read i).2]) ∧ w = w' := by
  obtain ⟨lv, wv, h⟩ := h
  have c2 : w.cell? ⟨b, 2, none⟩ = some (.bool D.off) := h.hb.cell 2
  cases hoff : D.off
  · by_cases hi : 0 ≤ i ∧ i < D.lasts.length
    · obtain ⟨hi0, hi1⟩ := hi
      obtain ⟨n, rfl⟩ : ∃ n : Nat, i = n := ⟨i.toNat, by omega⟩
      have hn : n < D.lasts.length := by omega
      obtain ⟨g, lcap, rfl, _, _, _, hcells⟩ := row_form h.hl (by omega)
      obtain ⟨wA, wcap, rfl, _⟩ := row_slice h.hw
      have hwr : D.wrong n = 0 := by unfold DiskM.wrong; rw [hoff, if_neg (by simp), if_neg (by omega)]
      have c0 : w.cell? ⟨b, 0, none⟩ = some (.slice (some ⟨g, 0, none⟩) D.lasts.length lcap) := h.hb.cell 0
      have c1 : w.cell? ⟨b, 1, none⟩ = some (.slice wA D.waits.length wcap) := h.hb.cell 1
      have ln : w.cell? ⟨g, n, none⟩ = some (.string (D.lasts.getD n ⟨#[]⟩)) := (hcells n (by omega)).trans (strs_get _ _ hn)
      have E := hide (show D.read n = (seen n D.waits (D.lasts.getD n ⟨#[]⟩), 0) by rw [DiskM.read, if_pos hwr]; rfl)
      rw [hoff] at c2
      have HREP := hide h
      generalize hs0 : D.lasts.getD n ⟨#[]⟩ = s0 at *
      clear hoff hwr hcells h hs0
      go_enter Try.func24, Try.ntmps24
      go_wp2_with fail
      go_loop [6, 7] (fun s k => ∃ m : Nat, m ≤ D.waits.length ∧ k = .int .i64 m ∧ s = .string (seen n (D.waits.take m) s0)) (fun _ k => D.waits.length - (intOf k).toNat)
      case atStart => exact ⟨0, Nat.zero_le _, rfl, rfl⟩
      case round =>
        obtain ⟨m, hm, rfl, rfl⟩ := hrel
        by_cases hlt : m < D.waits.length
        · obtain ⟨g2, cc, hsl, _, _, _, hcells⟩ := row_form HREP.out.hw (by omega)
          obtain ⟨rfl, rfl⟩ : wA = some ⟨g2, 0, none⟩ ∧ wcap = cc := by simpa using hsl
          obtain ⟨p, hp⟩ : ∃ p, D.waits[m]? = some p := ⟨_, List.getElem?_eq_getElem hlt⟩
          obtain ⟨j, t⟩ := p
          have hwc2 := wcells_get D.waits m _ hp
          have y0 : w.cell? ⟨g2, m * 2, none⟩ = some (.int .i64 j) := (hcells _ (by omega)).trans hwc2.1
          have y1 : w.cell? ⟨g2, m * 2 + 1, none⟩ = some (.string t) := (hcells _ (by omega)).trans hwc2.2
          have hsn : seen n (D.waits.take (m + 1)) s0 = if j = (n : Int) then t else seen n (D.waits.take m) s0 := by
            have e : D.waits.take (m + 1) = D.waits.take m ++ [(j, t)] := by rw [List.take_add_one, hp]; rfl
            rw [e, seen_snoc]
          have HSN := hide hsn
          clear hp hsl hwc2 hcells hsn
          by_cases hj : j = (n : Int)
          · have hjb : (j == (n : Int)) = true := by simp [hj]
            have HSN2 := hide (HSN.out.trans (if_pos hj))
            clear hj HSN
            go_wp2_with fail
            go_round
            case rel => exact ⟨m + 1, by omega, by go_num, by rw [HSN2.out]⟩
            case measure => simp [intOf]; omega
          · have hjb : (j == (n : Int)) = false := by simp [hj]
            have HSN2 := hide (HSN.out.trans (if_neg hj))
            clear hj HSN
            go_wp2_with fail
            go_round
            case rel => exact ⟨m + 1, by omega, by go_num, by rw [HSN2.out]⟩
            case measure => simp [intOf]; omega
        · obtain rfl : m = D.waits.length := by omega
          go_wp2_with fail
          go_ret2
          rw [E.out]
          exact ⟨rfl, rfl⟩
    · have hwr : D.wrong i = 1 := by unfold DiskM.wrong; rw [hoff, if_neg (by simp), if_pos (by omega)]
      have E := hide (show D.read i = (⟨#[]⟩, 1) by rw [DiskM.read, hwr]; rfl)
      rw [hoff] at c2
      obtain ⟨lA, lcap, rfl, _⟩ := row_slice h.hl
      have c0 : w.cell? ⟨b, 0, none⟩ = some (.slice lA D.lasts.length lcap) := h.hb.cell 0
      clear hoff hwr h
      by_cases h1 : i < 0
      · clear hi
        go_enter Try.func24, Try.ntmps24
        go_wp2_with fail
        go_ret2
        rw [E.out]
        exact ⟨rfl, rfl⟩
      · have h2 : ¬ i < D.lasts.length := by omega
        clear hi
        go_enter Try.func24, Try.ntmps24
        go_wp2_with fail
        go_ret2
        rw [E.out]
        exact ⟨rfl, rfl⟩
  · have hwr : D.wrong i = 7 := by unfold DiskM.wrong; rw [hoff]; rfl
    have E := hide (show D.read i = (⟨#[]⟩, 7) by rw [DiskM.read, hwr]; rfl)
    rw [hoff] at c2
    clear hoff hwr h
    go_enter Try.func24, Try.ntmps24
    go_wp2_with fail
    go_ret2
    rw [E.out]
    exact ⟨rfl, rfl⟩

theorem rdzero_calls (w : World) : Calls Try.prog 13 #[] w fun e w' => e = .returned (.string (zeros 64)) ∧ Below w.heap.size w w' := by
  have hmk2 : ∀ W : World, (Instr.makeSlice 35 (.int .i64 64) (.int .i64 64)).run Try.prog W = .ok (.slice (some ⟨W.heap.size, 0, none⟩) 64 64) (W.alloc (.cells (madeCells #[.int .u8 0] 64) 5)) := fun W => make_row (P := Try.prog) 35 5 _ 1 Try.underlying35 info_u8 rfl .i64 .i64 64 (by omega) (by omega) W
  have hcv : ∀ W : World, (convert 35 9 (.slice (some ⟨W.heap.size, 0, none⟩) 64 64)).run Try.prog (W.alloc (.cells (madeCells #[.int .u8 0] 64) 5)) = .ok (.string (zeros 64)) (W.alloc (.cells (madeCells #[.int .u8 0] 64) 5)) := fun W => by
    have hr := row_made W 5 (.int .u8 0) 64 (by unfold maxLen; omega)
    refine conv_bytes _ 35 9 5 _ 64 (List.replicate 64 0) Try.underlying35 Try.underlying5 Try.underlying9 ?_
    intro j hj
    rw [add_plain]
    refine (World.ownsRow.cellAt hr j (by simpa using hj)).trans ?_
    simp [bytesVals]
  go_enter Try.func13, Try.ntmps13
  go_wp2_with fail
  go_ret
  exact ⟨rfl, (Below.refl _ _).alloc (Nat.le_refl _) _⟩
def RNewPost (n : Nat) (w : World) (e : Ending) (w' : World) : Prop :=
  ∃ b F, e = .returned (.tuple #[.pointer (some ⟨b, 0, none⟩), .int .i64 0]) ∧ Below w.heap.size w w' ∧ (∀ x, F x → w.heap.size ≤ x) ∧ RAt w' b F (DiskM.new n)
def RBadPost (w : World) (e : Ending) (w' : World) : Prop := ∃ b, e = .returned (.tuple #[.pointer (some ⟨b, 0, none⟩), .int .i64 1]) ∧ Below w.heap.size w w'
theorem rdnew_bad (n : Int) (h : n < 16 ∨ 512 < n) (w : World) : Calls Try.prog 20 #[.int .i64 n] w (RBadPost w) := by
  rcases h with h | h
  · go_enter Try.func20, Try.ntmps20
    go_wp2_with fail
    go_ret2
    exact ⟨w.heap.size, rfl, (Below.refl _ _).alloc (Nat.le_refl _) _⟩
  · have h' : ¬ n < 16 := by omega
    go_enter Try.func20, Try.ntmps20
    go_wp2_with fail
    go_ret2
    exact ⟨w.heap.size, rfl, (Below.refl _ _).alloc (Nat.le_refl _) _⟩

structure RNInv (w : World) (b k : Nat) (lv : Value) (wr : World) : Prop where
  bel : Below w.heap.size w wr
  hb : Blk wr b 55 #[lv, .slice none 0 0, .bool false, .int .i64 0, .bool false, .int .i64 0, .int .u64 0]
  hl : Row wr 9 1 lv k (strs (List.replicate k (zeros 64)))
  own : OwnNew w lv
theorem below_drew_l {w w' : World} (h : Below w.drew.heap.size w.drew w') : Below w.heap.size w w' := (Below.refl _ _).drew.trans h
theorem RNInv.below {w wr w2 : World} {b k : Nat} {lv : Value} (h : RNInv w b k lv wr) (hb : Below wr.heap.size wr w2) : RNInv w b k lv w2 :=
  ⟨h.bel.trans (hb.mono h.bel.size), h.hb.below hb h.hb.lt, row_of h.hl fun g hg => hb.block g (row_lt h.hl g hg), h.own⟩
theorem RNInv.step {w wr w2 : World} {b k : Nat} {lv v' : Value} {c : Array Value} (h : RNInv w b k lv wr) (hB : w.heap.size ≤ b) (hr : Row w2 9 1 v' (k + 1) (strs (List.replicate k (zeros 64)) ++ [.string (zeros 64)]))
    (hg : (wr.alloc (.cells c 9)).grownBy w2 lv.ownBlock) (hat : v'.ownBlock = lv.ownBlock ∨ v'.ownBlock = some (wr.alloc (.cells c 9)).heap.size) : RNInv w b (k + 1) v' (w2.setCell ⟨b, 0, none⟩ v') := by
  have hne := row_blk_ne h.hl h.hb (by decide)
  have hb2 := (h.hb.alloc (.cells c 9)).grown hg (fun e => hne e.symm)
  have h0 := h.bel.alloc h.bel.size (.cells c 9)
  refine ⟨(h0.grown hg h0.size (fun k hk => h.own k hk)).setCell hB _, hb2.set_ 0 v', ?_, fun g hg' => ?_⟩
  · rw [List.replicate_succ', show strs (List.replicate k (zeros 64) ++ [zeros 64]) = strs (List.replicate k (zeros 64)) ++ [.string (zeros 64)] by simp [strs]]
    exact row_set hr (row_blk_ne hr hb2 (by decide)) _
  · rcases hat with e | e
    · exact h.own g (e.symm.trans hg')
    · rw [hg'] at e
      have := h.bel.size
      have e2 : g = wr.heap.size + 1 := by simpa using e
      omega

set_option maxRecDepth 100000 in
set_option maxHeartbeats 1000000 in
theorem rdnew_calls (n : Nat) (h0 : 16 ≤ n) (h1 : n ≤ 512) (w : World) : Calls Try.prog 20 #[.int .i64 n] w (RNewPost n w) := by
  have hn0 : ¬ (n : Int) < 16 := by omega
  have hn1 : ¬ (n : Int) > 512 := by omega
  have hn2 : decide ((n : Int) < 16) = false := by simp only [decide_eq_false_iff_not]; omega
  have hn3 : decide ((512 : Int) < n) = false := by simp only [decide_eq_false_iff_not]; omega
  have HI0 : Hid (RNInv w w.heap.size 0 (.slice none 0 0) (w.alloc (.cells #[.slice none 0 0, .slice none 0 0, .bool false, .int .i64 0, .bool false, .int .i64 0, .int .u64 0] 55))) :=
    hide ⟨(Below.refl _ _).alloc (Nat.le_refl _) _, Blk.new w 55 _, row_nil _ _ _, fun g hg => by simp [Value.ownBlock] at hg⟩
  go_enter Try.func20, Try.ntmps20
  go_wp2_with fail
  go_loopw [5] (fun i wr => ∃ k : Nat, k ≤ n ∧ i = .int .i64 k ∧ Hid (∃ lv, RNInv w w.heap.size k lv wr)) (fun i _ => n - (intOf i).toNat)
  case atStart => exact ⟨0, Nat.zero_le _, rfl, hide ⟨_, HI0.out⟩⟩
  case round =>
    clear HI0
    obtain ⟨k, hk, rfl, hinv⟩ := hrel
    obtain ⟨lv, hi⟩ := hinv.out
    generalize hq : w.heap.size = q at *
    by_cases hlt : k < n
    · have z0 : wr.cell? ⟨q, 0, none⟩ = some lv := hi.hb.cell 0
      have HI := hide hi
      have HQ := hide hq
      clear hi hinv hq
      go_wp2_with fail
      refine wp_region_heads [0, 1, 2, 3] 7 (fun _ => True) (by kernel_rfl) rfl (by kernel_rfl) (by kernel_rfl) (fun _ _ d _ _ h => by cases d <;> exact h) trivial ?_
      iterate 4
        refine' Heads.step rfl (by rfl) ?_ ?_
        rotate_left
        · intro w' hSw
          go_simp
          try with_reducible rfl
        simp only [Act.put, List.setIfInBounds_toArray, List.set_cons_zero, List.set_cons_succ]
      refine Heads.done ?_
      refine wpAnyH_ready (rs := [4, 5]) (by kernel_rfl) (by simp) (AllReadyH.cons rfl (fun K hK => ?_) (AllReadyH.cons rfl (fun K hK => ?_) AllReadyH.nil))
      · go_simp
        refine hK.out _ _ trivial (fun _ => ?_)
        clear hK K
        refine wpAnyH_ready (rs := [5]) (by kernel_rfl) (by simp) (AllReadyH.cons rfl (fun K hK => ?_) AllReadyH.nil)
        go_simp
        refine (rdzero_calls _).mono ?_
        rintro e w2 ⟨rfl, hb2⟩
        have HI2 := hide (HI.out.below (wr := wr) (w2 := w2) (below_drew_l hb2))
        have z2 : w2.cell? ⟨q, 0, none⟩ = some lv := HI2.out.hb.cell 0
        have z3 : (w2.alloc (.cells #[.string (zeros 64)] 9)).cell? ⟨q, 0, none⟩ = some lv := (HI2.out.hb.alloc _).cell 0
        clear hb2
        refine hK.out _ _ trivial (fun _ => ?_)
        clear hK K
        refine wpAnyH_ready (rs := [6]) (by kernel_rfl) (by simp) (AllReadyH.cons rfl (fun K hK => ?_) AllReadyH.nil)
        go_simp
        refine hK.out _ _ trivial (fun hHeld1 => ?_)
        clear hK K
        refine wpAnyH_ready (rs := [7]) (by kernel_rfl) (by simp) (AllReadyH.cons rfl (fun K hK => ?_) AllReadyH.nil)
        rw [if_pos (by rfl)]
        refine app_op (.tmp 24) (.tmp 26) 52 9 rfl (.string ⟨#[]⟩) 1 16 Try.underlying52 info_string rfl (by decide) lv k (strs (List.replicate k (zeros 64))) (by rfl) (row_alloc HI2.out.hl _) (.slice (some ⟨w2.heap.size, 0, none⟩) 1 1) 1 [.string (zeros 64)] (by rfl) (Src.blk (Blk.new w2 9 #[.string (zeros 64)])) rfl (by simp [Value.oneCell']) (by unfold maxLen; omega) (by omega) ?_
        intro v' w3 hr hg hat
        obtain ⟨A2, c2, rfl, hc2⟩ := row_slice hr.out
        have hb3 := (HI2.out.hb.alloc (.cells #[.string (zeros 64)] 9)).grown hg.out (fun e => row_blk_ne HI2.out.hl HI2.out.hb (by decide) e.symm)
        have x0 := hb3.cell 0
        have f0 := hb3.frozen 0
        simp only [List.getElem?_toArray, List.getElem?_cons_zero] at x0
        have hs := hide (HI2.out.step (by rw [HQ.out]; exact Nat.le_refl _) hr.out hg.out hat.out)
        clear hb3 hr hg hat
        refine hK.out _ _ trivial (fun hHeld2 => ?_)
        clear hK K
        refine wpAnyH_more [8, 9] 1 rfl (by kernel_rfl) (by kernel_rfl) (fun _ _ d _ _ h => by cases d <;> exact h) trivial ?_
        iterate 2
          refine' Heads.step rfl (by rfl) ?_ ?_
          rotate_left
          · intro w' hSw
            go_simp
            try with_reducible rfl
          simp only [Act.put, List.setIfInBounds_toArray]
        refine Heads.done ?_
        refine wpAnyH_ready (rs := [10]) (by kernel_rfl) (by simp) (AllReadyH.cons rfl (fun K hK => ?_) AllReadyH.nil)
        go_simp
        refine hK.out _ _ trivial (fun hHeld3 => ?_)
        clear hK K
        refine wpAnyH_done (by kernel_rfl) ?_ _
        clear x0 f0 z2 z3 HI2
        go_wp2_with fail
        go_roundw
        case rel => exact ⟨k + 1, by omega, by go_num, hide ⟨_, hs.out⟩⟩
        case measure => simp [intOf]; omega
      · go_simp
        refine (rdzero_calls _).mono ?_
        rintro e w2 ⟨rfl, hb2⟩
        have HI2 := hide (HI.out.below (wr := wr) (w2 := w2) (below_drew_l hb2))
        have z2 : w2.cell? ⟨q, 0, none⟩ = some lv := HI2.out.hb.cell 0
        have z3 : (w2.alloc (.cells #[.string (zeros 64)] 9)).cell? ⟨q, 0, none⟩ = some lv := (HI2.out.hb.alloc _).cell 0
        clear hb2
        refine hK.out _ _ trivial (fun _ => ?_)
        clear hK K
        refine wpAnyH_ready (rs := [4, 6]) (by kernel_rfl) (by simp) (AllReadyH.cons rfl (fun K hK => ?_) (AllReadyH.cons rfl (fun K hK => ?_) AllReadyH.nil))
        · go_simp
          refine hK.out _ _ trivial (fun _ => ?_)
          clear hK K
          refine wpAnyH_ready (rs := [6]) (by kernel_rfl) (by simp) (AllReadyH.cons rfl (fun K hK => ?_) AllReadyH.nil)
          go_simp
          refine hK.out _ _ trivial (fun hHeld1 => ?_)
          clear hK K
          refine wpAnyH_ready (rs := [7]) (by kernel_rfl) (by simp) (AllReadyH.cons rfl (fun K hK => ?_) AllReadyH.nil)
          rw [if_pos (by rfl)]
          refine app_op (.tmp 24) (.tmp 26) 52 9 rfl (.string ⟨#[]⟩) 1 16 Try.underlying52 info_string rfl (by decide) lv k (strs (List.replicate k (zeros 64))) (by rfl) (row_alloc HI2.out.hl _) (.slice (some ⟨w2.heap.size, 0, none⟩) 1 1) 1 [.string (zeros 64)] (by rfl) (Src.blk (Blk.new w2 9 #[.string (zeros 64)])) rfl (by simp [Value.oneCell']) (by unfold maxLen; omega) (by omega) ?_
          intro v' w3 hr hg hat
          obtain ⟨A2, c2, rfl, hc2⟩ := row_slice hr.out
          have hb3 := (HI2.out.hb.alloc (.cells #[.string (zeros 64)] 9)).grown hg.out (fun e => row_blk_ne HI2.out.hl HI2.out.hb (by decide) e.symm)
          have x0 := hb3.cell 0
          have f0 := hb3.frozen 0
          simp only [List.getElem?_toArray, List.getElem?_cons_zero] at x0
          have hs := hide (HI2.out.step (by rw [HQ.out]; exact Nat.le_refl _) hr.out hg.out hat.out)
          clear hb3 hr hg hat
          refine hK.out _ _ trivial (fun hHeld2 => ?_)
          clear hK K
          refine wpAnyH_more [8, 9] 1 rfl (by kernel_rfl) (by kernel_rfl) (fun _ _ d _ _ h => by cases d <;> exact h) trivial ?_
          iterate 2
            refine' Heads.step rfl (by rfl) ?_ ?_
            rotate_left
            · intro w' hSw
              go_simp
              try with_reducible rfl
            simp only [Act.put, List.setIfInBounds_toArray]
          refine Heads.done ?_
          refine wpAnyH_ready (rs := [10]) (by kernel_rfl) (by simp) (AllReadyH.cons rfl (fun K hK => ?_) AllReadyH.nil)
          go_simp
          refine hK.out _ _ trivial (fun hHeld3 => ?_)
          clear hK K
          refine wpAnyH_done (by kernel_rfl) ?_ _
          clear x0 f0 z2 z3 HI2
          go_wp2_with fail
          go_roundw
          case rel => exact ⟨k + 1, by omega, by go_num, hide ⟨_, hs.out⟩⟩
          case measure => simp [intOf]; omega
        · go_simp
          refine hK.out _ _ trivial (fun _ => ?_)
          clear hK K
          refine wpAnyH_ready (rs := [4]) (by kernel_rfl) (by simp) (AllReadyH.cons rfl (fun K hK => ?_) AllReadyH.nil)
          go_simp
          refine hK.out _ _ trivial (fun _ => ?_)
          clear hK K
          refine wpAnyH_ready (rs := [7]) (by kernel_rfl) (by simp) (AllReadyH.cons rfl (fun K hK => ?_) AllReadyH.nil)
          rw [if_pos (by rfl)]
          refine app_op (.tmp 24) (.tmp 26) 52 9 rfl (.string ⟨#[]⟩) 1 16 Try.underlying52 info_string rfl (by decide) lv k (strs (List.replicate k (zeros 64))) (by rfl) (row_alloc HI2.out.hl _) (.slice (some ⟨w2.heap.size, 0, none⟩) 1 1) 1 [.string (zeros 64)] (by rfl) (Src.blk (Blk.new w2 9 #[.string (zeros 64)])) rfl (by simp [Value.oneCell']) (by unfold maxLen; omega) (by omega) ?_
          intro v' w3 hr hg hat
          obtain ⟨A2, c2, rfl, hc2⟩ := row_slice hr.out
          have hb3 := (HI2.out.hb.alloc (.cells #[.string (zeros 64)] 9)).grown hg.out (fun e => row_blk_ne HI2.out.hl HI2.out.hb (by decide) e.symm)
          have x0 := hb3.cell 0
          have f0 := hb3.frozen 0
          simp only [List.getElem?_toArray, List.getElem?_cons_zero] at x0
          have hs := hide (HI2.out.step (by rw [HQ.out]; exact Nat.le_refl _) hr.out hg.out hat.out)
          clear hb3 hr hg hat
          refine hK.out _ _ trivial (fun hHeld1 => ?_)
          clear hK K
          refine wpAnyH_more [8, 9] 1 rfl (by kernel_rfl) (by kernel_rfl) (fun _ _ d _ _ h => by cases d <;> exact h) trivial ?_
          iterate 2
            refine' Heads.step rfl (by rfl) ?_ ?_
            rotate_left
            · intro w' hSw
              go_simp
              try with_reducible rfl
            simp only [Act.put, List.setIfInBounds_toArray]
          refine Heads.done ?_
          refine wpAnyH_ready (rs := [10]) (by kernel_rfl) (by simp) (AllReadyH.cons rfl (fun K hK => ?_) AllReadyH.nil)
          go_simp
          refine hK.out _ _ trivial (fun hHeld2 => ?_)
          clear hK K
          refine wpAnyH_done (by kernel_rfl) ?_ _
          clear x0 f0 z2 z3 HI2
          go_wp2_with fail
          go_roundw
          case rel => exact ⟨k + 1, by omega, by go_num, hide ⟨_, hs.out⟩⟩
          case measure => simp [intOf]; omega
    · obtain rfl : k = n := by omega
      have HI := hide hi
      clear hi hinv
      go_wp2_with fail
      go_ret2
      have hi := HI.out
      have hl : Row wr 9 1 lv (DiskM.new k).lasts.length (strs (DiskM.new k).lasts) := by
        have e : (DiskM.new k).lasts.length = k := by simp [DiskM.new]
        rw [e]
        exact hi.hl
      refine ⟨q, fun x => q ≤ x ∧ x < wr.heap.size, rfl, hi.bel, fun x hx => by rw [hq]; exact hx.1, lv, .slice none 0 0, hi.hb, hl, row_nil _ _ _, ⟨Nat.le_refl _, hi.hb.lt⟩, fun g hg => ⟨by have := hi.own g hg; omega, row_lt hi.hl g hg⟩, fun g hg => by simp [Value.ownBlock] at hg, fun x hx => hx.2, ⟨by simp [DiskM.new]; omega, by simp [DiskM.new]⟩, by simp [DiskM.new]⟩
end Go.Proofs.Ytpcceinjifdgnaa
