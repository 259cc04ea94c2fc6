/- The disk's Copy: another disk that is alike, in blocks of its own. -/
import Derived.Test.YtfdikdacknfoeaaDiskO
import Derived.Test.YtfdikdacknfoeaaApp
import Derived.Test.YtfdikdacknfoeaaHeld
namespace Go.Proofs.Ytfdikdacknfoeaa
open Go.RowKit Zb

theorem disk_cells {w : World} {b : Nat} {u0 u1 u2 u3 u4 u5 u6 u7 : Value} (h : Blk w b 62 #[u0, u1, u2, u3, u4, u5, u6, u7]) :
    w.cell? ⟨b, 0, none⟩ = some u0 ∧ w.cell? ⟨b, 1, none⟩ = some u1 ∧ w.cell? ⟨b, 2, none⟩ = some u2 ∧ w.cell? ⟨b, 3, none⟩ = some u3 ∧ w.cell? ⟨b, 4, none⟩ = some u4 ∧ w.cell? ⟨b, 5, none⟩ = some u5 ∧ w.cell? ⟨b, 6, none⟩ = some u6 ∧ w.cell? ⟨b, 7, none⟩ = some u7 :=
  ⟨h.cell 0, h.cell 1, h.cell 2, h.cell 3, h.cell 4, h.cell 5, h.cell 6, h.cell 7⟩
def CopyPost (w : World) (D : DiskM) (e : Ending) (w' : World) : Prop :=
  ∃ b F, e = .returned (.pointer (some ⟨b, 0, none⟩)) ∧ Below w.heap.size w w' ∧ (∀ x, F x → w.heap.size ≤ x) ∧ DiskAt w' b F D

/-- the copy on its way: its struct at q + 1, its map at q -/
structure CopyInv (w : World) (q : Nat) (D : DiskM) (lc wc : Value) (Pk : Prs) (W : World) : Prop where
  hq : q = w.heap.size
  bel : Below w.heap.size w W
  c : Blk W (q + 1) 62 #[lc, wc, .map (some q), .bool D.off, .int .i64 D.ops, .bool D.pon, .int .i64 D.after, .int .u64 D.mask]
  m : MapAt W q Pk
theorem CopyInv.old {w W : World} {q : Nat} {D : DiskM} {lc wc : Value} {Pk : Prs} {b : Nat} {F : Nat → Prop} {lv wv : Value} {bm : Nat} {P : Prs} (h : CopyInv w q D lc wc Pk W) (hd : DiskRep w b F D lv wv bm P) :
    Blk W b 62 #[lv, wv, .map (some bm), .bool D.off, .int .i64 D.ops, .bool D.pon, .int .i64 D.after, .int .u64 D.mask] := hd.hb.below h.bel hd.hb.lt
theorem mapAt_ne {w : World} {g : Nat} {t : TypeId} {cs : Array Value} {q : Nat} {Pk : Prs} (h : Blk w g t cs) (hm : MapAt w q Pk) : g ≠ q := by
  rintro rfl
  obtain ⟨es, cl, hh, _⟩ := hm
  unfold Blk at h
  rw [h] at hh
  cases hh
theorem row_map_ne {w : World} {e : TypeId} {size : Nat} {v : Value} {n : Nat} {xs : List Value} {q : Nat} {Pk : Prs} (h : Row w e size v n xs) (hm : MapAt w q Pk) : v.ownBlock ≠ some q := by
  obtain ⟨es, cl, hh, _⟩ := hm
  exact row_obj_ne h hh (by intros; simp)
/-- a slice of the copy's is laid, and stored in its field -/
theorem CopyInv.put {w W w' : World} {q : Nat} {D : DiskM} {lc wc lc' wc' : Value} {Pk : Prs} {e : TypeId} {size : Nat} {v' : Value} {n : Nat} {xs : List Value} {i : Nat} (h : CopyInv w q D lc wc Pk W)
    (hg : W.grownBy w' none) (hr : Row w' e size v' n xs) (he : e ≠ 62)
    (hc : #[lc, wc, .map (some q), .bool D.off, .int .i64 D.ops, .bool D.pon, .int .i64 D.after, .int .u64 D.mask].setIfInBounds i v' = #[lc', wc', .map (some q), .bool D.off, .int .i64 D.ops, .bool D.pon, .int .i64 D.after, .int .u64 D.mask]) :
    CopyInv w q D lc' wc' Pk (w'.setCell ⟨q + 1, i, none⟩ v') ∧ Row (w'.setCell ⟨q + 1, i, none⟩ v') e size v' n xs := by
  have hc4 := h.c.grown hg (by simp)
  have hm4 := h.m.of_block (hg.block q h.m.lt (by simp))
  have hq := h.hq
  refine ⟨⟨h.hq, (h.bel.grown hg h.bel.size (by simp)).setCell (by show w.heap.size ≤ q + 1; omega) _, ?_, hm4.of_block (Below.heap_setCell _ _ _ _ (by show q ≠ q + 1; omega))⟩, row_set hr (row_blk_ne hr hc4 he) _⟩
  rw [← hc]
  exact hc4.set_ i v'

def CopyLoop (w : World) (q : Nat) (D : DiskM) (A0 : Option Addr) (c0 : Nat) (A1 : Option Addr) (c1 : Nat) (k : Nat) (W : World) : Prop :=
  ∃ Pk, CopyInv w q D (.slice A0 D.lasts.length c0) (.slice A1 D.waits.length c1) Pk W ∧ (∀ x, Prs.look Pk x = lastIdx 0 (D.waits.take k) x) ∧
    Row W 9 1 (.slice A0 D.lasts.length c0) D.lasts.length (strs D.lasts) ∧ Row W 69 2 (.slice A1 D.waits.length c1) D.waits.length (wcells D.waits)
def OwnNew (w : World) (v : Value) : Prop := ∀ g, v.ownBlock = some g → w.heap.size ≤ g
theorem own_new {w W : World} {v' : Value} (h : v'.ownBlock = (Value.slice none 0 0).ownBlock ∨ v'.ownBlock = some W.heap.size) (hle : w.heap.size ≤ W.heap.size) : OwnNew w v' := by
  intro g hg
  rcases h with e | e
  · rw [e] at hg; simp [Value.ownBlock] at hg
  · rw [e] at hg; cases hg; exact hle
section
variable {w W w1 : World} {q : Nat} {D : DiskM} {A0 : Option Addr} {c0 : Nat} {A1 : Option Addr} {c1 : Nat} {k : Nat} {Pk : Prs} {i : Int} {s : ByteArray}
theorem CopyLoop.step (h : CopyInv w q D (.slice A0 D.lasts.length c0) (.slice A1 D.waits.length c1) Pk W) (hl : ∀ x, Prs.look Pk x = lastIdx 0 (D.waits.take k) x)
    (hL : Row W 9 1 (.slice A0 D.lasts.length c0) D.lasts.length (strs D.lasts)) (hR : Row W 69 2 (.slice A1 D.waits.length c1) D.waits.length (wcells D.waits)) (hp : D.waits[k]? = some (i, s))
    (hm : MapAt w1 q (Prs.put Pk i k)) (hg : (W.alloc (.cells #[.int .i64 i, .string s] 69)).drew.grownBy w1 (some q)) : CopyLoop w q D A0 c0 A1 c1 (k + 1) w1 := by
  have hb : ∀ x, x < W.heap.size → x ≠ q → w1.heap[x]? = W.heap[x]? := fun x hx hq => (hg.block x (by simp; omega) (by simpa using hq)).trans (Below.heap_alloc W _ x hx)
  have hk : k < D.waits.length := (List.getElem?_eq_some_iff.1 hp).1
  refine ⟨_, ⟨h.hq, ?_, (hb _ h.c.lt (mapAt_ne h.c h.m)).trans h.c, hm⟩, fun x => ?_, row_of hL fun g hg' => hb g (row_lt hL g hg') (fun e => row_map_ne hL h.m (hg'.trans (by rw [e]))), row_of hR fun g hg' => hb g (row_lt hR g hg') (fun e => row_map_ne hR h.m (hg'.trans (by rw [e])))⟩
  · have h0 := h.bel.alloc h.bel.size (.cells #[.int .i64 i, .string s] 69)
    exact h0.drew.grown hg h0.size (fun k hk => by cases hk; rw [h.hq]; exact Nat.le_refl _)
  · have e : D.waits.take (k + 1) = D.waits.take k ++ [(i, s)] := by rw [List.take_add_one, hp]; rfl
    rw [Prs.look_put, e, lastIdx_snoc, hl, List.length_take, Nat.min_eq_left (Nat.le_of_lt hk)]
    simp
theorem CopyLoop.done (h : CopyLoop w q D A0 c0 A1 c1 D.waits.length W) (hok : D.Ok) (ho0 : OwnNew w (.slice A0 D.lasts.length c0)) (ho1 : OwnNew w (.slice A1 D.waits.length c1)) : CopyPost w D (.returned (.pointer (some ⟨q + 1, 0, none⟩))) W := by
  obtain ⟨Pk, hI, hl, hL, hR⟩ := h
  rw [List.take_length] at hl
  have hq := hI.hq
  refine ⟨q + 1, fun x => w.heap.size ≤ x ∧ x < W.heap.size, rfl, hI.bel, fun x hx => hx.1, _, _, q, Pk, hI.c, hL, hR, hI.m, hl, ⟨by omega, hI.c.lt⟩, ⟨by omega, hI.m.lt⟩, fun g hg => ⟨ho0 g hg, row_lt hL g hg⟩, fun g hg => ⟨ho1 g hg, row_lt hR g hg⟩, fun x hx => hx.2, hok⟩
end

set_option maxRecDepth 100000 in
set_option maxHeartbeats 2000000 in
theorem dcopy_calls {w : World} {b : Nat} {F : Nat → Prop} {D : DiskM} (h : DiskAt w b F D) (hW : D.waits.length ≤ 4294967290) :
    Calls Try.prog 25 #[.pointer (some ⟨b, 0, none⟩)] w (CopyPost w D) := by
  obtain ⟨lv, wv, bm, P, h⟩ := h
  have hmm := @run_makeMap Try.prog
  have hok := h.ok
  have HI0 : Hid (CopyInv w w.heap.size D (.slice none 0 0) (.slice none 0 0) [] (((w.alloc (.map #[] 0)).alloc (.cells #[.slice none 0 0, .slice none 0 0, .map (some w.heap.size), .bool D.off, .int .i64 D.ops, .bool D.pon, .int .i64 D.after, .int .u64 D.mask] 62)).drew)) := by
    refine hide ⟨rfl, (((Below.refl _ _).alloc (Nat.le_refl _) _).alloc (by simp) _).drew, ?_, ?_⟩
    · have := Blk.new (w.alloc (.map #[] 0)) 62 #[.slice none 0 0, .slice none 0 0, .map (some w.heap.size), .bool D.off, .int .i64 D.ops, .bool D.pon, .int .i64 D.after, .int .u64 D.mask]
      rw [show (w.alloc (.map #[] 0)).heap.size = w.heap.size + 1 by simp] at this
      exact this
    · have := MapAt.new w
      exact this.of_block (Below.heap_alloc _ _ _ this.lt)
  go_enter Try.func25, Try.ntmps25
  go_wp2_with fail
  refine (dthere_calls b bm w (h.hb.cell 2)).mono ?_
  rintro e w' ⟨rfl, rfl⟩
  go_wp2_with fail
  refine wp_region_heads [0, 1, 2, 3, 4, 5, 6, 7, 8, 9, 10, 11] 4 (fun w' => Blk w' b 62 #[lv, wv, .map (some bm), .bool D.off, .int .i64 D.ops, .bool D.pon, .int .i64 D.after, .int .u64 D.mask]) (by kernel_rfl) rfl (by kernel_rfl) (by kernel_rfl) (fun _ _ d _ _ h => by cases d <;> exact h) h.hb ?_
  iterate 12
    refine' Heads.step rfl (by rfl) ?_ ?_
    rotate_left
    · intro w' hSw
      obtain ⟨c0, c1, c2, c3, c4, c5, c6, c7⟩ := disk_cells hSw
      go_simp
      try with_reducible rfl
    simp only [Act.put, List.setIfInBounds_toArray, List.set_cons_zero, List.set_cons_succ]
  refine Heads.done ?_
  refine wpAnyH_ready (rs := [12]) (by kernel_rfl) (by simp) (AllReadyH.cons rfl (fun K hK => ?_) AllReadyH.nil)
  go_simp
  refine hK.out _ _ (Blk.alloc h.hb _) (fun hHeld1 => ?_)
  clear hK K
  refine wpAnyH_more [13] 2 rfl (by kernel_rfl) (by kernel_rfl) (fun _ _ d _ _ h => by cases d <;> exact h) hHeld1 ?_
  iterate 1
    refine' Heads.step rfl (by rfl) ?_ ?_
    rotate_left
    · intro w' hSw
      obtain ⟨c0, c1, c2, c3, c4, c5, c6, c7⟩ := disk_cells hSw
      go_simp
      try with_reducible rfl
    simp only [Act.put, List.setIfInBounds_toArray, List.set_cons_zero, List.set_cons_succ]
  refine Heads.done ?_
  refine wpAnyH_ready (rs := [14]) (by kernel_rfl) (by simp) (AllReadyH.cons rfl (fun K hK => ?_) AllReadyH.nil)
  go_simp
  refine hK.out _ _ (Blk.alloc hHeld1 _) (fun hHeld2 => ?_)
  clear hK K
  refine wpAnyH_more [15] 0 rfl (by kernel_rfl) (by kernel_rfl) (fun _ _ d _ _ h => by cases d <;> exact h) hHeld2 ?_
  iterate 1
    refine' Heads.step rfl (by rfl) ?_ ?_
    rotate_left
    · intro w' hSw
      obtain ⟨c0, c1, c2, c3, c4, c5, c6, c7⟩ := disk_cells hSw
      go_simp
      try with_reducible rfl
    simp only [Act.put, List.setIfInBounds_toArray, List.set_cons_zero, List.set_cons_succ]
  refine Heads.done ?_
  refine wpAnyH_done (by kernel_rfl) ?_ _
  have HI := HI0
  clear HI0 hmm
  generalize hW3 : ((w.alloc (.map #[] 0)).alloc (.cells #[.slice none 0 0, .slice none 0 0, .map (some w.heap.size), .bool D.off, .int .i64 D.ops, .bool D.pon, .int .i64 D.after, .int .u64 D.mask] 62)).drew = W3 at *
  generalize hq0 : w.heap.size = q at *
  clear hW3
  have k0 : W3.cell? ⟨q + 1, 0, none⟩ = some (.slice none 0 0) := HI.out.c.cell 0
  have HQ := hide hq0
  clear hq0
  have d0 : W3.cell? ⟨b, 0, none⟩ = some lv := (HI.out.old h).cell 0
  go_wp2_with fail
  refine wp_region_heads [0, 1, 2, 3, 5, 6, 7, 8] 5 (fun w' => Blk w' b 62 #[lv, wv, .map (some bm), .bool D.off, .int .i64 D.ops, .bool D.pon, .int .i64 D.after, .int .u64 D.mask]) (by kernel_rfl) rfl (by kernel_rfl) (by kernel_rfl) (fun _ _ d _ _ h => by cases d <;> exact h) (HI.out.old h) ?_
  iterate 8
    refine' Heads.step rfl (by rfl) ?_ ?_
    rotate_left
    · intro w' hSw
      obtain ⟨c0, c1, c2, c3, c4, c5, c6, c7⟩ := disk_cells hSw
      go_simp
      try with_reducible rfl
    simp only [Act.put, List.setIfInBounds_toArray, List.set_cons_zero, List.set_cons_succ]
  refine Heads.done ?_
  refine wpAnyH_ready (rs := [4]) (by kernel_rfl) (by simp) (AllReadyH.cons rfl (fun K hK => ?_) AllReadyH.nil)
  go_simp
  refine hK.out _ _ (HI.out.old h) (fun hHeld1 => ?_)
  clear hK K
  refine wpAnyH_ready (rs := [9]) (by kernel_rfl) (by simp) (AllReadyH.cons rfl (fun K hK => ?_) AllReadyH.nil)
  rw [if_pos (by rfl)]
  refine app_op (.tmp 28) (.tmp 32) 29 9 rfl (.string ⟨#[]⟩) 1 16 Try.underlying29 info_string rfl (by decide) (.slice none 0 0) 0 [] (by rfl) (row_nil _ _ _) _ D.lasts.length (strs D.lasts) (by rfl) (Src.row (row_of (w' := W3.drew) h.hl (fun g hg => HI.out.bel.block g (row_lt h.hl g hg)))) (by rw [strs_len, Nat.mul_one]) (by intro u hu; obtain ⟨x, _, rfl⟩ := List.mem_map.1 hu; rfl) (by have := h.ok.len; unfold maxLen; omega) (by have := h.ok.len; omega) ?_
  intro v' w' hr hg hat
  rw [Nat.zero_add, List.nil_append] at hr
  obtain ⟨A0, cA0, rfl, hcA0⟩ := row_slice hr.out
  have hC4 : Blk w' (q + 1) 62 _ := Blk.grown (w := W3.drew) HI.out.c hg.out (by simp [Value.ownBlock])
  have cc := hC4.cell 0
  have cf := hC4.frozen 0
  have hD4 := hide (Blk.grown hHeld1 hg.out (by simp [Value.ownBlock]))
  clear hC4
  refine hK.out _ _ hD4.out (fun hHeld2 => ?_)
  clear hK K
  refine wpAnyH_more [10, 11] 1 rfl (by kernel_rfl) (by kernel_rfl) (fun _ _ d _ _ h => by cases d <;> exact h) hHeld2 ?_
  iterate 2
    refine' Heads.step rfl (by rfl) ?_ ?_
    rotate_left
    · intro w' hSw
      obtain ⟨c0, c1, c2, c3, c4, c5, c6, c7⟩ := disk_cells hSw
      go_simp
      try with_reducible rfl
    simp only [Act.put, List.setIfInBounds_toArray]
  refine Heads.done ?_
  refine wpAnyH_ready (rs := [12]) (by kernel_rfl) (by simp) (AllReadyH.cons rfl (fun K hK => ?_) AllReadyH.nil)
  go_simp
  refine hK.out _ _ (hD4.out.far (p := ⟨q + 1, 0, none⟩) (by have := h.hb.lt; have := HQ.out; show b ≠ q + 1; omega) _) (fun hHeld3 => ?_)
  clear hK K
  refine wpAnyH_done (by kernel_rfl) ?_ _
  clear k0 d0
  go_wp2_with fail
  have hP := CopyInv.put (i := 0) (lc' := .slice A0 D.lasts.length cA0) (wc' := .slice none 0 0) (W := W3.drew) ⟨HI.out.hq, HI.out.bel.drew, HI.out.c, HI.out.m⟩ hg.out hr.out (by decide) rfl
  have O0 := hide (own_new hat.out HI.out.bel.size)
  have HI2 := hide hP.1
  have HL2 := hide hP.2
  clear HI hr hg hat cc cf hP
  generalize hW4 : w'.setCell ⟨q + 1, 0, none⟩ (.slice A0 D.lasts.length cA0) = W4 at *
  clear hW4
  have k0 : W4.cell? ⟨q + 1, 1, none⟩ = some (.slice none 0 0) := HI2.out.c.cell 1
  have d0 : W4.cell? ⟨b, 1, none⟩ = some wv := (HI2.out.old h).cell 1
  go_wp2_with fail
  refine wp_region_heads [0, 1, 2, 3, 5, 6, 7, 8] 5 (fun w' => Blk w' b 62 #[lv, wv, .map (some bm), .bool D.off, .int .i64 D.ops, .bool D.pon, .int .i64 D.after, .int .u64 D.mask]) (by kernel_rfl) rfl (by kernel_rfl) (by kernel_rfl) (fun _ _ d _ _ h => by cases d <;> exact h) (HI2.out.old h) ?_
  iterate 8
    refine' Heads.step rfl (by rfl) ?_ ?_
    rotate_left
    · intro w' hSw
      obtain ⟨c0, c1, c2, c3, c4, c5, c6, c7⟩ := disk_cells hSw
      go_simp
      try with_reducible rfl
    simp only [Act.put, List.setIfInBounds_toArray, List.set_cons_zero, List.set_cons_succ]
  refine Heads.done ?_
  refine wpAnyH_ready (rs := [4]) (by kernel_rfl) (by simp) (AllReadyH.cons rfl (fun K hK => ?_) AllReadyH.nil)
  go_simp
  refine hK.out _ _ (HI2.out.old h) (fun hHeld1 => ?_)
  clear hK K
  refine wpAnyH_ready (rs := [9]) (by kernel_rfl) (by simp) (AllReadyH.cons rfl (fun K hK => ?_) AllReadyH.nil)
  rw [if_pos (by rfl)]
  refine app_op (.tmp 40) (.tmp 44) 57 69 rfl (.agg #[.int .i64 0, .string ⟨#[]⟩]) 2 24 Try.underlying57 info_write rfl (by decide) (.slice none 0 0) 0 [] (by rfl) (row_nil _ _ _) _ D.waits.length (wcells D.waits) (by rfl) (Src.row (row_of (w' := W4.drew) h.hw (fun g hg => HI2.out.bel.block g (row_lt h.hw g hg)))) (wcells_len _) (by intro u hu; simp only [wcells, List.mem_flatMap] at hu; obtain ⟨p, _, hp⟩ := hu; simp at hp; rcases hp with rfl | rfl <;> rfl) (by unfold maxLen; omega) (by omega) ?_
  intro v' w' hr hg hat
  rw [Nat.zero_add, List.nil_append] at hr
  obtain ⟨A1, cA1, rfl, hcA1⟩ := row_slice hr.out
  have hC4 : Blk w' (q + 1) 62 _ := Blk.grown (w := W4.drew) HI2.out.c hg.out (by simp [Value.ownBlock])
  have cc := hC4.cell 1
  have cf := hC4.frozen 1
  have hD4 := hide (Blk.grown hHeld1 hg.out (by simp [Value.ownBlock]))
  clear hC4
  refine hK.out _ _ hD4.out (fun hHeld2 => ?_)
  clear hK K
  refine wpAnyH_more [10, 11] 1 rfl (by kernel_rfl) (by kernel_rfl) (fun _ _ d _ _ h => by cases d <;> exact h) hHeld2 ?_
  iterate 2
    refine' Heads.step rfl (by rfl) ?_ ?_
    rotate_left
    · intro w' hSw
      obtain ⟨c0, c1, c2, c3, c4, c5, c6, c7⟩ := disk_cells hSw
      go_simp
      try with_reducible rfl
    simp only [Act.put, List.setIfInBounds_toArray]
  refine Heads.done ?_
  refine wpAnyH_ready (rs := [12]) (by kernel_rfl) (by simp) (AllReadyH.cons rfl (fun K hK => ?_) AllReadyH.nil)
  go_simp
  refine hK.out _ _ (hD4.out.far (p := ⟨q + 1, 1, none⟩) (by have := h.hb.lt; have := HQ.out; show b ≠ q + 1; omega) _) (fun hHeld3 => ?_)
  clear hK K
  refine wpAnyH_done (by kernel_rfl) ?_ _
  clear k0 d0
  go_wp2_with fail
  have hP := CopyInv.put (i := 1) (lc' := .slice A0 D.lasts.length cA0) (wc' := .slice A1 D.waits.length cA1) (W := W4.drew) ⟨HI2.out.hq, HI2.out.bel.drew, HI2.out.c, HI2.out.m⟩ hg.out hr.out (by decide) rfl
  have O1 := hide (own_new hat.out HI2.out.bel.size)
  have HI3 := hide hP.1
  have HW3 := hide hP.2
  have hlb := row_blk_ne HL2.out HI2.out.c (by decide)
  have HL3 := hide (row_set (p := ⟨q + 1, 1, none⟩) (row_of (w' := w') HL2.out (fun g hg' => hg.out.block g (row_lt HL2.out g hg') (by simp [Value.ownBlock]))) hlb (.slice A1 D.waits.length cA1))
  clear HI2 HL2 hr hg hat cc cf hP hlb
  generalize hW5 : w'.setCell ⟨q + 1, 1, none⟩ (.slice A1 D.waits.length cA1) = W5 at *
  clear hW5
  have HL0 : Hid (CopyLoop w q D A0 cA0 A1 cA1 0 W5) := hide ⟨[], HI3.out, fun x => rfl, HL3.out, HW3.out⟩
  clear HI3 HL3 HW3 HQ
  clear h
  go_loopw [53] (fun i wr => ∃ k : Nat, k ≤ D.waits.length ∧ i = .int .i64 k ∧ Hid (CopyLoop w q D A0 cA0 A1 cA1 k wr)) (fun i _ => D.waits.length - (intOf i).toNat)
  case atStart => exact ⟨0, Nat.zero_le _, rfl, HL0⟩
  case round =>
    clear HL0
    obtain ⟨k, hk, rfl, hinv⟩ := hrel
    by_cases hlt : k < D.waits.length
    · obtain ⟨Pk, hI, hlook, hL, hR⟩ := hinv.out
      obtain ⟨g, cc, hsl, _, hg, _, hcells⟩ := row_form hR (by omega)
      have HSL := hide hsl
      obtain ⟨p, hp⟩ : ∃ p, D.waits[k]? = some p := ⟨_, List.getElem?_eq_getElem hlt⟩
      obtain ⟨i, s⟩ := p
      have hwc2 := wcells_get D.waits k _ hp
      have HP := hide hp
      obtain ⟨rfl, rfl⟩ : A1 = some ⟨g, 0, none⟩ ∧ cA1 = cc := by simpa using hsl
      have x0 : wr.cell? ⟨g, k * 2, none⟩ = some (.int .i64 i) := (hcells _ (by omega)).trans hwc2.1
      have x1 : wr.cell? ⟨g, k * 2 + 1, none⟩ = some (.string s) := (hcells _ (by omega)).trans hwc2.2
      have HI := hide hI
      have HLK := hide hlook
      have HL := hide hL
      have HR := hide hR
      have hC1 : Blk (wr.alloc (.cells #[.int .i64 i, .string s] 69)) (q + 1) 62 _ := hI.c.alloc _
      have y2 : (wr.alloc (.cells #[.int .i64 i, .string s] 69)).cell? ⟨q + 1, 2, none⟩ = some (.map (some q)) := hC1.cell 2
      have n0 : (wr.alloc (.cells #[.int .i64 i, .string s] 69)).cell? ⟨wr.heap.size, 0, none⟩ = some (.int .i64 i) := (Blk.new wr 69 _).cell 0
      have hm1 : MapAt (wr.alloc (.cells #[.int .i64 i, .string s] 69)) q Pk := hI.m.of_block (Below.heap_alloc _ _ _ hI.m.lt)
      have HM1 := hide hm1
      clear hp hsl hwc2 hcells hI hlook hL hR hC1 hg hm1
      go_wp2_with fail
      refine wp_region_tail 7 (by kernel_rfl) (by kernel_rfl) ?_
      simp only [List.take_succ_cons, List.take_zero, List.drop_succ_cons, List.drop_zero]
      repeat still_step
      refine wpStill_nil ?_
      refine wpList_mapUpd (wr.alloc (.cells #[.int .i64 i, .string s] 69)).drew rfl (.tmp 61) (.tmp 63) (.tmp 64) 58 rfl 3 3 Try.underlying58 Try.underlying3 q Pk HM1.out i k rfl rfl rfl ?_
      intro w1 hm2 hg2
      have hs : Hid (CopyLoop w q D A0 cA0 (some ⟨g, 0, none⟩) cA1 (k + 1) w1) := hide (CopyLoop.step HI.out HLK.out HL.out HR.out HP.out hm2 hg2)
      clear x0 x1 y2 n0 HM1 hm2 hg2
      go_wp2_with fail
      go_roundw
      case rel => exact ⟨k + 1, by omega, by go_num, hs⟩
      case measure => simp [intOf]; omega
    · obtain rfl : k = D.waits.length := by omega
      go_wp2_with fail
      go_ret
      exact CopyLoop.done hinv.out hok O0.out O1.out
end Go.Proofs.Ytfdikdacknfoeaa
