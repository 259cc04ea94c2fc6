/- Chapter 5: RingCrashes, walked. -/
import Derived.Test.YtmbkncckcpgdgaaRingO
import Derived.Test.YtmbkncckcpgdgaaRingAm
import Derived.Deep.CutRange
import Derived.Test.YtmbkncckcpgdgaaRingX
import Derived.Test.YtmbkncckcpgdgaaArgs7
namespace Go.Proofs.Ytmbkncckcpgdgaa
open Go.RowKit Zb

set_option maxRecDepth 20000 in
theorem merge_two {M : World → Nat → Prop} {C : World → Nat → Prop} {G : Prop} (m : ∀ W g, C W g → M W g) (g : Boxed (∀ W g, C W g → M W g) → G) : G := g ⟨m⟩
structure CrR (w wr : World) (b g5 k : Nat) (D : DiskM) : Prop where
  own : Hid (DO w.heap.size w wr b D (fun x => x = g5))
  blk : Hid (Blk wr g5 28 (lastM D).cells.toArray)
  inv : CrInv k D
/-- what a round carries along behind its Scan: the disk, the statement's variables, the list -/
structure CrH (w wx : World) (b g5 g8 g9 : Nat) (v : Value) (D : DiskM) (L : List EntM) (x : POp) (las want : EntM) : Prop where
  own : DO w.heap.size w wx b D (fun y => y = g5 ∨ y = g8 ∨ y = g9 ∨ v.ownBlock = some y)
  b5 : Blk wx g5 28 las.cells.toArray
  b8 : Blk wx g8 59 x.cells.toArray
  b9 : Blk wx g9 28 want.cells.toArray
  row : Row wx 28 5 v L.length (ecells L)
section
variable {w wx wy : World} {b g5 g8 g9 : Nat} {v : Value} {D D' : DiskM} {L : List EntM} {x : POp} {las want : EntM}
set_option maxRecDepth 20000 in
theorem CrH.below (h : CrH w wx b g5 g8 g9 v D L x las want) (k : Below wx.heap.size wx wy) : CrH w wy b g5 g8 g9 v D L x las want :=
  ⟨h.own.below k, h.b5.below k h.b5.lt, h.b8.below k h.b8.lt, h.b9.below k h.b9.lt, row_of h.row fun g hg => k.block g (row_lt h.row g hg)⟩
set_option maxRecDepth 20000 in
theorem CrH.keep (h : CrH w wx b g5 g8 g9 v D L x las want) (ho : DO w.heap.size w wy b D' (fun y => y = g5 ∨ y = g8 ∨ y = g9 ∨ v.ownBlock = some y)) (k : Keeps (fun y => y = g5 ∨ y = g8 ∨ y = g9 ∨ v.ownBlock = some y) wx wy) : CrH w wy b g5 g8 g9 v D' L x las want :=
  ⟨ho, k.blk h.b5 (.inl rfl), k.blk h.b8 (.inr (.inl rfl)), k.blk h.b9 (.inr (.inr (.inl rfl))), row_of h.row fun g hg => k g (.inr (.inr (.inr hg)))⟩
set_option maxRecDepth 20000 in
theorem turned_setRow {F : Nat → Prop} {g : Nat} (hg : F g) (cs : Array Value) : Turned F wx (wx.setRow g cs) :=
  ⟨rfl, rfl, rfl, Nat.le_of_eq (setRow_size _ _ _).symm, fun i _ hF => setRow_other _ _ _ _ (fun e => hF (by rw [e]; exact hg))⟩
end
set_option maxRecDepth 20000 in
set_option maxHeartbeats 8000000 in
theorem RingCrashes_walk (A : Option Addr) (cap : Nat) (l : List POp) (w : World) (_ : l.length ≤ 9223372036854775807) (hr : ReadsRows 9 POp.cells w A l) (hok : ∀ x ∈ l, x.Ok) : Calls Try.prog 8 #[.slice A l.length cap] w fun r w' => r = .returned (.bool true) ∧ Below w.heap.size w w' := by
  have HR := hide hr
  have HOK := hide hok
  have HN := hide (ds_new 16 (by omega) (by omega) (Below.refl w.heap.size w) (Nat.le_refl _))
  clear hr hok
  go_enter Try.func8, Try.ntmps8
  go_wp2_with fail
  refine HN.out.mono ?_
  rintro r w1 ⟨b, rfl, HD1⟩
  have HZ := hide (varW_new w1)
  have HI0 : Hid (CrR w (varW w1 EntM.zero) b w1.heap.size 0 (DiskM.new 16)) := hide ⟨hide ((DO.of_ds HD1.out).more (Turned.of_below (varW_below w1 EntM.zero)) (fun x hx => .inr ⟨by omega, by have := (varW_blk w1 EntM.zero).lt; omega⟩)), hide (by rw [last_new.1]; exact varW_blk w1 EntM.zero), CrInv.zero⟩
  have HB0 := hide (HD1.out.below (varW_below w1 EntM.zero)).1
  go_wp2_with (first | ((with_reducible show wpList _ _ _ (⟨some 30, _, _, _, _, _⟩ :: _) _ _); refine wpList_build_as rfl _ _ EntM.zero.cells.toArray rfl (by kernel_rfl) ?_) | ((with_reducible show wpList _ _ _ (⟨none, _, _, _, _, _⟩ :: _) _ _); refine wpList_store_row rfl _ _ _ rfl w1.heap.size EntM.zero.cells.toArray rfl rfl 28 _ HZ.out (by kernel_rfl) rfl (by kernel_rfl) ?_; change wpList _ _ _ _ _ (varW w1 EntM.zero); generalize varW w1 EntM.zero = w2 at *))
  generalize w1.heap.size = g5 at *
  clear HZ HD1 HN
  have HLN := hide last_new.2
  go_loopw [6, 7] (fun has i wr => ∃ (k : Nat) (D : DiskM), k ≤ l.length ∧ k ≤ 40 ∧ i = .int .i64 (k : Int) ∧ has = .bool (lastIs D) ∧ Hid (CrR w wr b g5 k D)) (fun _ i _ => 40 - (intOf i).toNat)
  case atStart => exact ⟨0, _, by omega, by omega, rfl, by rw [HLN.out], HI0⟩
  case round =>
  clear HI0 HLN HB0
  obtain ⟨k, D, hk, hk40, rfl, rfl, HC⟩ := hrel
  obtain ⟨h6, hh6⟩ : ∃ h6, lastIs D = h6 := ⟨_, rfl⟩
  rw [hh6]
  have HH6I := hide hh6
  clear hh6
  by_cases hlt : k < l.length ∧ k < 40
  · obtain ⟨hlt1, hlt2⟩ := hlt
    obtain ⟨x, hx⟩ : ∃ x, l[k]? = some x := ⟨_, List.getElem?_eq_getElem hlt1⟩
    have HX := hide (HOK.out x (List.mem_of_getElem? hx))
    obtain ⟨bb, off, hA, hblt, hc⟩ := HR.out.kept HC.out.own.out.bel hx
    subst hA
    have x0 : wr.cell? ⟨bb, off + k * 9, none⟩ = some (.int .i64 x.kind) := hc 0 _ rfl
    have x1 : wr.cell? ⟨bb, off + k * 9 + 1, none⟩ = some (.int .i64 x.e.kind) := hc 1 _ rfl
    have x2 : wr.cell? ⟨bb, off + k * 9 + 2, none⟩ = some (.int .i64 x.e.number) := hc 2 _ rfl
    have x3 : wr.cell? ⟨bb, off + k * 9 + 3, none⟩ = some (.int .i64 x.e.slot) := hc 3 _ rfl
    have x4 : wr.cell? ⟨bb, off + k * 9 + 4, none⟩ = some (.int .i64 x.e.size) := hc 4 _ rfl
    have x5 : wr.cell? ⟨bb, off + k * 9 + 5, none⟩ = some (.string x.e.sum) := hc 5 _ rfl
    have x6 : wr.cell? ⟨bb, off + k * 9 + 6, none⟩ = some (.int .i64 x.i) := hc 6 _ rfl
    have x7 : wr.cell? ⟨bb, off + k * 9 + 7, none⟩ = some (.string x.s) := hc 7 _ rfl
    have x8 : wr.cell? ⟨bb, off + k * 9 + 8, none⟩ = some (.int .u64 x.mask) := hc 8 _ rfl
    have hkI1 : (k : Int) < (l.length : Int) := by omega
    have hkI2 : (k : Int) < 40 := by omega
    clear hc hx
    have HV := hide (crash_step HC.out.inv hlt2 x.kind x.i x.mask)
    have hHB8 : Hid (Blk (wr.alloc (.cells #[.int .i64 x.kind, .int .i64 x.e.kind, .int .i64 x.e.number, .int .i64 x.e.slot, .int .i64 x.e.size, .string x.e.sum, .int .i64 x.i, .string x.s, .int .u64 x.mask] 59)) wr.heap.size 59 x.cells.toArray) := hide (Blk.new wr 59 x.cells.toArray)
    have hHB5 : Hid (Blk (wr.alloc (.cells #[.int .i64 x.kind, .int .i64 x.e.kind, .int .i64 x.e.number, .int .i64 x.e.slot, .int .i64 x.e.size, .string x.e.sum, .int .i64 x.i, .string x.s, .int .u64 x.mask] 59)) g5 28 (lastM D).cells.toArray) := hide (HC.out.blk.out.alloc (.cells #[.int .i64 x.kind, .int .i64 x.e.kind, .int .i64 x.e.number, .int .i64 x.e.slot, .int .i64 x.e.size, .string x.e.sum, .int .i64 x.i, .string x.s, .int .u64 x.mask] 59))
    have hHO : Hid (DO w.heap.size w (wr.alloc (.cells #[.int .i64 x.kind, .int .i64 x.e.kind, .int .i64 x.e.number, .int .i64 x.e.slot, .int .i64 x.e.size, .string x.e.sum, .int .i64 x.i, .string x.s, .int .u64 x.mask] 59)) b D (fun y => y = g5 ∨ y = wr.heap.size)) := hide (HC.out.own.out.more (Turned.of_below ((Below.refl _ _).alloc (Nat.le_refl _) (.cells #[.int .i64 x.kind, .int .i64 x.e.kind, .int .i64 x.e.number, .int .i64 x.e.slot, .int .i64 x.e.size, .string x.e.sum, .int .i64 x.i, .string x.s, .int .u64 x.mask] 59))) (fun y hy => hy.elim (fun h => .inl h) (fun h => .inr ⟨by omega, by have := (Blk.new wr 59 x.cells.toArray).lt; rw [h]; exact this⟩)))
    have hg85 : g5 < wr.heap.size := HC.out.blk.out.lt
    have hn0 := HC.out.inv.n0
    have hn1 := HC.out.inv.n1
    have hW : D.waits = [] := HC.out.inv.rest.wts
    have c3 := countM_rng x.i 3 (by decide)
    have c2 := countM_rng x.i 2 (by decide)
    have HC3 := hide (wCount_calls x.i 3 HX.out.i.1 HX.out.i.2 (by decide) (by decide))
    have HC2 := hide (wCount_calls x.i 2 HX.out.i.1 HX.out.i.2 (by decide) (by decide))
    have hk8 : ((UInt8.ofNat k).toNat : Int) = (k : Int) := by simp; omega
    have HS8 := hide (lSum5_calls (UInt8.ofNat k))
    rw [hk8] at HS8
    go_wp2_with fail
    generalize hW0 : wr.alloc (.cells #[.int .i64 x.kind, .int .i64 x.e.kind, .int .i64 x.e.number, .int .i64 x.e.slot, .int .i64 x.e.size, .string x.e.sum, .int .i64 x.i, .string x.s, .int .u64 x.mask] 59) = w0 at *
    generalize hg8 : wr.heap.size = g8 at *
    have hs8 : g8 < w0.heap.size := hHB8.out.lt
    obtain ⟨s0, hs0h⟩ : ∃ s0, Hid (w0.heap.size = s0) := ⟨_, hide rfl⟩
    clear x0 x1 x2 x3 x4 x5 x6 x7 x8 hblt hW0 hg8 hk8
    have a3 : IntKind.i64.wrap (1 + countM x.i 3) = 1 + countM x.i 3 := IntWalk.i64_in _ (by omega)
    have au : IntKind.u8.wrap (k : Int) = (k : Int) := IntWalk.u8_in _ (by omega)
    have an : IntKind.i64.wrap ((lastM D).number + 1) = (lastM D).number + 1 := IntWalk.i64_in _ (by omega)
    have hS0 : Blk w0.drew g8 59 x.cells.toArray ∧ Blk w0.drew g5 28 (lastM D).cells.toArray := ⟨hHB8.out, hHB5.out⟩
    have hB0 : Below s0 w0 w0.drew := ⟨rfl, rfl, rfl, Nat.le_refl _, fun _ _ => rfl⟩
    have hle0 : s0 ≤ w0.drew.heap.size := by exact Nat.le_of_eq hs0h.out.symm
    refine wp_region_heads [0, 1, 4, 5, 7, 8, 9, 11, 12, 13] 7 (fun w' => Blk w' g8 59 x.cells.toArray ∧ Blk w' g5 28 (lastM D).cells.toArray) (by kernel_rfl) rfl (by kernel_rfl) (by kernel_rfl) (fun _ _ d _ _ h => by cases d <;> exact h) hS0 ?_
    iterate 10
      refine' Heads.step rfl (by rfl) ?_ ?_
      rotate_left
      · intro w' hSw
        obtain ⟨z0, z5, z6, z7, z8⟩ := pop_all hSw.1
        obtain ⟨l0, l1, l2, l3, l4⟩ := ent_all hSw.2
        go_simp
        try with_reducible rfl
      simp only [Act.put, List.setIfInBounds_toArray, List.set_cons_zero, List.set_cons_succ]
    refine Heads.done ?_
    refine' merge_two (C := fun W g => Hid (Below s0 w0 W) ∧ Hid (Blk W g 28 EntM.zero.cells.toArray) ∧ s0 ≤ g) ?_ ?_
    rotate_left 2
    · intro HM
      refine wpAnyH_ready (rs := [2, 15]) (by kernel_rfl) (by simp) (AllReadyH.cons rfl (fun K hK => ?_) (AllReadyH.cons rfl (fun K hK => ?_) AllReadyH.nil))
      rotate_left
      · go_simp
        have HCC : Hid (Below s0 w0 (w0.drew.alloc (.cells #[.int .i64 0, .int .i64 0, .int .i64 0, .int .i64 0, .string ⟨#[]⟩] 28))) ∧ Hid (Blk (w0.drew.alloc (.cells #[.int .i64 0, .int .i64 0, .int .i64 0, .int .i64 0, .string ⟨#[]⟩] 28)) w0.heap.size 28 EntM.zero.cells.toArray) ∧ s0 ≤ w0.heap.size := ⟨hide (hB0.alloc hle0 _), hide (Blk.new w0.drew 28 _), hle0⟩
        have hS9 : Blk (w0.drew.alloc (.cells #[.int .i64 0, .int .i64 0, .int .i64 0, .int .i64 0, .string ⟨#[]⟩] 28)) g8 59 x.cells.toArray ∧ Blk (w0.drew.alloc (.cells #[.int .i64 0, .int .i64 0, .int .i64 0, .int .i64 0, .string ⟨#[]⟩] 28)) g5 28 (lastM D).cells.toArray := ⟨hS0.1.alloc _, hS0.2.alloc _⟩
        refine hK.out _ _ hS9 (fun _ => ?_)
        clear hK K
        refine wpAnyH_ready (rs := [2]) (by kernel_rfl) (by simp) (AllReadyH.cons rfl (fun K hK => ?_) AllReadyH.nil)
        go_simp
        refine (HC3.out _).mono ?_
        rintro r _ ⟨rfl, rfl⟩
        refine hK.out _ _ hS9 (fun _ => ?_)
        clear hK K
        refine wpAnyH_more [3] 4 rfl (by kernel_rfl) (by kernel_rfl) (fun _ _ d _ _ h => by cases d <;> exact h) hS9 ?_
        iterate 1
          refine' Heads.step rfl (by rfl) ?_ ?_
          rotate_left
          · intro w' hSw
            obtain ⟨z0, z5, z6, z7, z8⟩ := pop_all hSw.1
            obtain ⟨l0, l1, l2, l3, l4⟩ := ent_all hSw.2
            go_simp
            try with_reducible rfl
          simp only [Act.put, List.setIfInBounds_toArray, List.set_cons_zero, List.set_cons_succ]
        refine Heads.done ?_
        refine wpAnyH_ready (rs := [6]) (by kernel_rfl) (by simp) (AllReadyH.cons rfl (fun K hK => ?_) AllReadyH.nil)
        go_simp
        refine (HC2.out _).mono ?_
        rintro r _ ⟨rfl, rfl⟩
        refine hK.out _ _ hS9 (fun _ => ?_)
        clear hK K
        refine wpAnyH_ready (rs := [10]) (by kernel_rfl) (by simp) (AllReadyH.cons rfl (fun K hK => ?_) AllReadyH.nil)
        go_simp
        refine (HS8.out _).mono ?_
        rintro r w3 ⟨rfl, hb3⟩
        have hS3 : Blk w3 g8 59 x.cells.toArray ∧ Blk w3 g5 28 (lastM D).cells.toArray := ⟨hS9.1.below hb3 hS9.1.lt, hS9.2.below hb3 hS9.2.lt⟩
        replace HCC : Hid (Below s0 w0 w3) ∧ Hid (Blk w3 w0.heap.size 28 EntM.zero.cells.toArray) ∧ s0 ≤ w0.heap.size := ⟨hide (HCC.1.out.trans (hb3.mono (Nat.le_trans (Nat.le_of_eq hs0h.out.symm) HCC.1.out.size))), hide (HCC.2.1.out.below hb3 HCC.2.1.out.lt), HCC.2.2⟩
        refine hK.out _ _ hS3 (fun _ => ?_)
        clear hK K
        refine wpAnyH_ready (rs := [14]) (by kernel_rfl) (by simp) (AllReadyH.cons rfl (fun K hK => ?_) AllReadyH.nil)
        rw [if_pos (by rfl)]
        refine wp_build_as _ _ (crashWant k x.i (lastM D)).cells.toArray rfl (by kernel_rfl) ?_
        refine hK.out _ _ hS3 (fun _ => ?_)
        clear hK K
        simp only [Act.put, List.setIfInBounds_toArray]
        generalize hgz : w0.heap.size = gz at HCC ⊢
        refine wpAnyH_at #[true, true, true, true, true, true, true, true, true, true, true, true, true, true, true, true, false] (by kernel_rfl) ?_
        exact HM.out _ _ HCC
      go_simp
      refine (HC3.out _).mono ?_
      rintro r _ ⟨rfl, rfl⟩
      refine hK.out _ _ hS0 (fun _ => ?_)
      clear hK K
      refine wpAnyH_more [3] 5 rfl (by kernel_rfl) (by kernel_rfl) (fun _ _ d _ _ h => by cases d <;> exact h) hS0 ?_
      iterate 1
        refine' Heads.step rfl (by rfl) ?_ ?_
        rotate_left
        · intro w' hSw
          obtain ⟨z0, z5, z6, z7, z8⟩ := pop_all hSw.1
          obtain ⟨l0, l1, l2, l3, l4⟩ := ent_all hSw.2
          go_simp
          try with_reducible rfl
        simp only [Act.put, List.setIfInBounds_toArray, List.set_cons_zero, List.set_cons_succ]
      refine Heads.done ?_
      refine wpAnyH_ready (rs := [6, 15]) (by kernel_rfl) (by simp) (AllReadyH.cons rfl (fun K hK => ?_) (AllReadyH.cons rfl (fun K hK => ?_) AllReadyH.nil))
      rotate_left
      · go_simp
        have HCC : Hid (Below s0 w0 (w0.drew.alloc (.cells #[.int .i64 0, .int .i64 0, .int .i64 0, .int .i64 0, .string ⟨#[]⟩] 28))) ∧ Hid (Blk (w0.drew.alloc (.cells #[.int .i64 0, .int .i64 0, .int .i64 0, .int .i64 0, .string ⟨#[]⟩] 28)) w0.heap.size 28 EntM.zero.cells.toArray) ∧ s0 ≤ w0.heap.size := ⟨hide (hB0.alloc hle0 _), hide (Blk.new w0.drew 28 _), hle0⟩
        have hS9 : Blk (w0.drew.alloc (.cells #[.int .i64 0, .int .i64 0, .int .i64 0, .int .i64 0, .string ⟨#[]⟩] 28)) g8 59 x.cells.toArray ∧ Blk (w0.drew.alloc (.cells #[.int .i64 0, .int .i64 0, .int .i64 0, .int .i64 0, .string ⟨#[]⟩] 28)) g5 28 (lastM D).cells.toArray := ⟨hS0.1.alloc _, hS0.2.alloc _⟩
        refine hK.out _ _ hS9 (fun _ => ?_)
        clear hK K
        refine wpAnyH_ready (rs := [6]) (by kernel_rfl) (by simp) (AllReadyH.cons rfl (fun K hK => ?_) AllReadyH.nil)
        go_simp
        refine (HC2.out _).mono ?_
        rintro r _ ⟨rfl, rfl⟩
        refine hK.out _ _ hS9 (fun _ => ?_)
        clear hK K
        refine wpAnyH_ready (rs := [10]) (by kernel_rfl) (by simp) (AllReadyH.cons rfl (fun K hK => ?_) AllReadyH.nil)
        go_simp
        refine (HS8.out _).mono ?_
        rintro r w3 ⟨rfl, hb3⟩
        have hS3 : Blk w3 g8 59 x.cells.toArray ∧ Blk w3 g5 28 (lastM D).cells.toArray := ⟨hS9.1.below hb3 hS9.1.lt, hS9.2.below hb3 hS9.2.lt⟩
        replace HCC : Hid (Below s0 w0 w3) ∧ Hid (Blk w3 w0.heap.size 28 EntM.zero.cells.toArray) ∧ s0 ≤ w0.heap.size := ⟨hide (HCC.1.out.trans (hb3.mono (Nat.le_trans (Nat.le_of_eq hs0h.out.symm) HCC.1.out.size))), hide (HCC.2.1.out.below hb3 HCC.2.1.out.lt), HCC.2.2⟩
        refine hK.out _ _ hS3 (fun _ => ?_)
        clear hK K
        refine wpAnyH_ready (rs := [14]) (by kernel_rfl) (by simp) (AllReadyH.cons rfl (fun K hK => ?_) AllReadyH.nil)
        rw [if_pos (by rfl)]
        refine wp_build_as _ _ (crashWant k x.i (lastM D)).cells.toArray rfl (by kernel_rfl) ?_
        refine hK.out _ _ hS3 (fun _ => ?_)
        clear hK K
        simp only [Act.put, List.setIfInBounds_toArray]
        generalize hgz : w0.heap.size = gz at HCC ⊢
        refine wpAnyH_at #[true, true, true, true, true, true, true, true, true, true, true, true, true, true, true, true, false] (by kernel_rfl) ?_
        exact HM.out _ _ HCC
      go_simp
      refine (HC2.out _).mono ?_
      rintro r _ ⟨rfl, rfl⟩
      refine hK.out _ _ hS0 (fun _ => ?_)
      clear hK K
      refine wpAnyH_ready (rs := [10, 15]) (by kernel_rfl) (by simp) (AllReadyH.cons rfl (fun K hK => ?_) (AllReadyH.cons rfl (fun K hK => ?_) AllReadyH.nil))
      rotate_left
      · go_simp
        have HCC : Hid (Below s0 w0 (w0.drew.alloc (.cells #[.int .i64 0, .int .i64 0, .int .i64 0, .int .i64 0, .string ⟨#[]⟩] 28))) ∧ Hid (Blk (w0.drew.alloc (.cells #[.int .i64 0, .int .i64 0, .int .i64 0, .int .i64 0, .string ⟨#[]⟩] 28)) w0.heap.size 28 EntM.zero.cells.toArray) ∧ s0 ≤ w0.heap.size := ⟨hide (hB0.alloc hle0 _), hide (Blk.new w0.drew 28 _), hle0⟩
        have hS9 : Blk (w0.drew.alloc (.cells #[.int .i64 0, .int .i64 0, .int .i64 0, .int .i64 0, .string ⟨#[]⟩] 28)) g8 59 x.cells.toArray ∧ Blk (w0.drew.alloc (.cells #[.int .i64 0, .int .i64 0, .int .i64 0, .int .i64 0, .string ⟨#[]⟩] 28)) g5 28 (lastM D).cells.toArray := ⟨hS0.1.alloc _, hS0.2.alloc _⟩
        refine hK.out _ _ hS9 (fun _ => ?_)
        clear hK K
        refine wpAnyH_ready (rs := [10]) (by kernel_rfl) (by simp) (AllReadyH.cons rfl (fun K hK => ?_) AllReadyH.nil)
        go_simp
        refine (HS8.out _).mono ?_
        rintro r w3 ⟨rfl, hb3⟩
        have hS3 : Blk w3 g8 59 x.cells.toArray ∧ Blk w3 g5 28 (lastM D).cells.toArray := ⟨hS9.1.below hb3 hS9.1.lt, hS9.2.below hb3 hS9.2.lt⟩
        replace HCC : Hid (Below s0 w0 w3) ∧ Hid (Blk w3 w0.heap.size 28 EntM.zero.cells.toArray) ∧ s0 ≤ w0.heap.size := ⟨hide (HCC.1.out.trans (hb3.mono (Nat.le_trans (Nat.le_of_eq hs0h.out.symm) HCC.1.out.size))), hide (HCC.2.1.out.below hb3 HCC.2.1.out.lt), HCC.2.2⟩
        refine hK.out _ _ hS3 (fun _ => ?_)
        clear hK K
        refine wpAnyH_ready (rs := [14]) (by kernel_rfl) (by simp) (AllReadyH.cons rfl (fun K hK => ?_) AllReadyH.nil)
        rw [if_pos (by rfl)]
        refine wp_build_as _ _ (crashWant k x.i (lastM D)).cells.toArray rfl (by kernel_rfl) ?_
        refine hK.out _ _ hS3 (fun _ => ?_)
        clear hK K
        simp only [Act.put, List.setIfInBounds_toArray]
        generalize hgz : w0.heap.size = gz at HCC ⊢
        refine wpAnyH_at #[true, true, true, true, true, true, true, true, true, true, true, true, true, true, true, true, false] (by kernel_rfl) ?_
        exact HM.out _ _ HCC
      go_simp
      refine (HS8.out _).mono ?_
      rintro r w3 ⟨rfl, hb3⟩
      have hS3 : Blk w3 g8 59 x.cells.toArray ∧ Blk w3 g5 28 (lastM D).cells.toArray := ⟨hS0.1.below hb3 hS0.1.lt, hS0.2.below hb3 hS0.2.lt⟩
      have hB3 : Below s0 w0 w3 := hB0.trans (hb3.mono (Nat.le_trans (Nat.le_of_eq hs0h.out.symm) hB0.size))
      have hle3 : s0 ≤ w3.heap.size := Nat.le_trans (Nat.le_of_eq hs0h.out.symm) hB3.size
      refine hK.out _ _ hS3 (fun _ => ?_)
      clear hK K
      refine wpAnyH_ready (rs := [14, 15]) (by kernel_rfl) (by simp) (AllReadyH.cons rfl (fun K hK => ?_) (AllReadyH.cons rfl (fun K hK => ?_) AllReadyH.nil))
      rotate_left
      · go_simp
        have HCC : Hid (Below s0 w0 (w3.alloc (.cells #[.int .i64 0, .int .i64 0, .int .i64 0, .int .i64 0, .string ⟨#[]⟩] 28))) ∧ Hid (Blk (w3.alloc (.cells #[.int .i64 0, .int .i64 0, .int .i64 0, .int .i64 0, .string ⟨#[]⟩] 28)) w3.heap.size 28 EntM.zero.cells.toArray) ∧ s0 ≤ w3.heap.size := ⟨hide (hB3.alloc hle3 _), hide (Blk.new w3 28 _), hle3⟩
        have hS9 : Blk (w3.alloc (.cells #[.int .i64 0, .int .i64 0, .int .i64 0, .int .i64 0, .string ⟨#[]⟩] 28)) g8 59 x.cells.toArray ∧ Blk (w3.alloc (.cells #[.int .i64 0, .int .i64 0, .int .i64 0, .int .i64 0, .string ⟨#[]⟩] 28)) g5 28 (lastM D).cells.toArray := ⟨hS3.1.alloc _, hS3.2.alloc _⟩
        refine hK.out _ _ hS9 (fun _ => ?_)
        clear hK K
        refine wpAnyH_ready (rs := [14]) (by kernel_rfl) (by simp) (AllReadyH.cons rfl (fun K hK => ?_) AllReadyH.nil)
        rw [if_pos (by rfl)]
        refine wp_build_as _ _ (crashWant k x.i (lastM D)).cells.toArray rfl (by kernel_rfl) ?_
        refine hK.out _ _ hS9 (fun _ => ?_)
        clear hK K
        simp only [Act.put, List.setIfInBounds_toArray]
        generalize hgz : w3.heap.size = gz at HCC ⊢
        refine wpAnyH_at #[true, true, true, true, true, true, true, true, true, true, true, true, true, true, true, true, false] (by kernel_rfl) ?_
        exact HM.out _ _ HCC
      rw [if_pos (by rfl)]
      refine wp_build_as _ _ (crashWant k x.i (lastM D)).cells.toArray rfl (by kernel_rfl) ?_
      refine hK.out _ _ hS3 (fun _ => ?_)
      clear hK K
      simp only [Act.put, List.setIfInBounds_toArray]
      refine wpAnyH_ready (rs := [15]) (by kernel_rfl) (by simp) (AllReadyH.cons rfl (fun K hK => ?_) AllReadyH.nil)
      go_simp
      have HCC : Hid (Below s0 w0 (w3.alloc (.cells #[.int .i64 0, .int .i64 0, .int .i64 0, .int .i64 0, .string ⟨#[]⟩] 28))) ∧ Hid (Blk (w3.alloc (.cells #[.int .i64 0, .int .i64 0, .int .i64 0, .int .i64 0, .string ⟨#[]⟩] 28)) w3.heap.size 28 EntM.zero.cells.toArray) ∧ s0 ≤ w3.heap.size := ⟨hide (hB3.alloc hle3 _), hide (Blk.new w3 28 _), hle3⟩
      have hS9 : Blk (w3.alloc (.cells #[.int .i64 0, .int .i64 0, .int .i64 0, .int .i64 0, .string ⟨#[]⟩] 28)) g8 59 x.cells.toArray ∧ Blk (w3.alloc (.cells #[.int .i64 0, .int .i64 0, .int .i64 0, .int .i64 0, .string ⟨#[]⟩] 28)) g5 28 (lastM D).cells.toArray := ⟨hS3.1.alloc _, hS3.2.alloc _⟩
      refine hK.out _ _ hS9 (fun _ => ?_)
      clear hK K
      generalize hgz : w3.heap.size = gz at HCC ⊢
      refine wpAnyH_at #[true, true, true, true, true, true, true, true, true, true, true, true, true, true, true, true, false] (by kernel_rfl) ?_
      exact HM.out _ _ HCC
    intro W g9 HM
    obtain ⟨HBW, HZ9, hle9⟩ := HM
    have hse := hs0h.out
    have HB9 : Hid (Blk (W.setRow g9 (crashWant k x.i (lastM D)).cells.toArray) g9 28 (crashWant k x.i (lastM D)).cells.toArray) := hide (setRow_heap _ _ _ _ _ _ HZ9.out)
    have HB8 : Hid (Blk (W.setRow g9 (crashWant k x.i (lastM D)).cells.toArray) g8 59 x.cells.toArray) := hide ((setRow_other _ _ _ _ (by omega)).trans (hHB8.out.below HBW.out (by omega)))
    have HB5 : Hid (Blk (W.setRow g9 (crashWant k x.i (lastM D)).cells.toArray) g5 28 (lastM D).cells.toArray) := hide ((setRow_other _ _ _ _ (by omega)).trans (hHB5.out.below HBW.out (by omega)))
    have HBX : Below w0.heap.size w0 (W.setRow g9 (crashWant k x.i (lastM D)).cells.toArray) := below_setRow (HBW.out.mono (Nat.le_of_eq hs0h.out)) (by rw [hs0h.out]; exact hle9) _
    have HO4 : Hid (DO w.heap.size w (W.setRow g9 (crashWant k x.i (lastM D)).cells.toArray) b D (fun y => y = g5 ∨ y = g8 ∨ y = g9)) := hide (hHO.out.more (Turned.of_below HBX) (fun y hy => by
      rcases hy with h | h | h
      · exact .inl (.inl h)
      · exact .inl (.inr h)
      · exact .inr ⟨by rw [h, hs0h.out]; exact hle9, by rw [h]; exact HB9.out.lt⟩))
    have h98 : g9 ≠ g8 := by omega
    have h95 : g9 ≠ g5 := by omega
    refine wpAnyH_ready (rs := [16]) (by kernel_rfl) (by simp) (AllReadyH.cons rfl (fun K hK => ?_) AllReadyH.nil)
    rw [if_pos (by rfl)]
    refine wp_store_row _ _ _ rfl g9 (crashWant k x.i (lastM D)).cells.toArray rfl (by kernel_rfl) 28 _ HZ9.out (by kernel_rfl) rfl (by kernel_rfl) ?_
    refine hK.out _ _ ⟨HB8.out, HB5.out⟩ (fun _ => ?_)
    clear hK K
    refine wpAnyH_done (by kernel_rfl) ?_ _
    change Exit.then _ _ _ _ (W.setRow g9 (crashWant k x.i (lastM D)).cells.toArray)
    generalize (W.setRow g9 (crashWant k x.i (lastM D)).cells.toArray) = w4 at *
    clear HBX HBW HZ9 hHB8 hHB5 hHO hs0h hse hle9 hs8 hg85
    have R1 := hide (crash_d1 HC.out.inv.rest HC.out.inv.plan x.kind x.i x.mask)
    have HNW : Hid ((crashWant k x.i (lastM D)).number = (lastM D).number + 1) := hide rfl
    obtain ⟨z0, z5, z6, z7, z8⟩ := pop_all HB8.out
    go_upto_if 62 with (fail)
    go_cut [] from 31 to 182 (fun wx => Hid (DO w.heap.size w wx b (crashD1 x.kind x.i x.mask D) (fun y => y = g5 ∨ y = g8 ∨ y = g9)) ∧ Hid (Blk wx g5 28 (lastM D).cells.toArray) ∧ Hid (Blk wx g8 59 x.cells.toArray) ∧ Hid (Blk wx g9 28 (crashWant k x.i (lastM D)).cells.toArray))
    case first =>
      by_cases hk2 : x.kind = 2
      · have HD1 : Hid (crashD1 x.kind x.i x.mask D = (D.plan (countM x.i 3) x.mask).1) := hide (by unfold crashD1; rw [if_pos hk2])
        have HPL := hide (do_plan (hide HO4.out.drew) (countM x.i 3) x.mask)
        have hkb : (x.kind == 2) = true := by simp [hk2]
        clear hk2
        go_wp2_with fail
        refine wp_region_heads [0, 1, 2, 4, 5] 2 (fun w' => Blk w' g8 59 x.cells.toArray) (by kernel_rfl) rfl (by kernel_rfl) (by kernel_rfl) (fun _ _ d _ _ h => by cases d <;> exact h) HB8.out ?_
        iterate 5
          refine' Heads.step rfl (by rfl) ?_ ?_
          rotate_left
          · intro w' hSw
            obtain ⟨z0, z5, z6, z7, z8⟩ := pop_all hSw
            go_simp
            try with_reducible rfl
          simp only [Act.put, List.setIfInBounds_toArray, List.set_cons_zero, List.set_cons_succ]
        refine Heads.done ?_
        refine wpAnyH_ready (rs := [3]) (by kernel_rfl) (by simp) (AllReadyH.cons rfl (fun K hK => ?_) AllReadyH.nil)
        go_simp
        refine (HC3.out _).mono ?_
        rintro r _ ⟨rfl, rfl⟩
        refine hK.out _ _ HB8.out (fun hHeld1 => ?_)
        clear hK K
        refine wpAnyH_ready (rs := [6]) (by kernel_rfl) (by simp) (AllReadyH.cons rfl (fun K hK => ?_) AllReadyH.nil)
        go_simp
        refine (HPL.out).mono ?_
        rintro r w5 ⟨rfl, HO5, HK5⟩
        refine hK.out _ _ (HK5.out.blk HB8.out (.inr (.inl rfl))) (fun hHeld2 => ?_)
        clear hK K
        refine wpAnyH_done (by kernel_rfl) ?_ _
        go_wp2_with fail
        go_meet
        case rel => exact ⟨by rw [HD1.out]; exact HO5, hide (HK5.out.blk HB5.out (.inl rfl)), hide (HK5.out.blk HB8.out (.inr (.inl rfl))), hide (HK5.out.blk HB9.out (.inr (.inr rfl)))⟩
      · have HD1 : Hid (crashD1 x.kind x.i x.mask D = D) := hide (by unfold crashD1; rw [if_neg hk2])
        have hkb : (x.kind == 2) = false := by simp [hk2]
        clear hk2
        go_wp2_with fail
        go_meet
        case rel => exact ⟨by rw [HD1.out]; exact HO4, HB5, HB8, HB9⟩
    case rest =>
    obtain ⟨HO5, HC5, HC8, HC9⟩ := hcut
    clear HO4 HB5 HB8 HB9 z0 z5 z6 z7 z8
    generalize hD1 : crashD1 x.kind x.i x.mask D = D1 at *
    have hW1 : D1.waits.length ≤ 1000 := by rw [R1.out.1.wts]; exact Nat.zero_le _
    have HSC := hide (do_scan HO5 (by omega))
    go_wp2_with fail
    refine HSC.out.mono ?_
    rintro r w6 ⟨v, rfl, hb6, hrow, hown⟩
    have HROW := hide hrow
    have HO6 : Hid (DO w.heap.size w w6 b D1 (fun y => y = g5 ∨ y = g8 ∨ y = g9 ∨ v.ownBlock = some y)) := hide (HO5.out.more (Turned.of_below hb6) (fun y hy => by
      rcases hy with h | h | h | h
      · exact .inl (.inl h)
      · exact .inl (.inr (.inl h))
      · exact .inl (.inr (.inr h))
      · exact .inr ⟨hown y h, row_lt hrow y h⟩))
    have HH6 : Hid (CrH w w6 b g5 g8 g9 v D1 (scanL D1) x (lastM D) (crashWant k x.i (lastM D))) := hide ⟨HO6.out, HC5.out.below hb6 HC5.out.lt, HC8.out.below hb6 HC8.out.lt, HC9.out.below hb6 HC9.out.lt, hrow⟩
    clear hb6 hrow hown HSC HO5 HC5 HC8 HC9
    obtain ⟨want, hwant⟩ : ∃ want, crashWant k x.i (lastM D) = want := ⟨_, rfl⟩
    rw [hwant] at HV HH6 HNW
    have HAP := hide (do_append HO6 (by omega) want)
    obtain ⟨R, hR⟩ : ∃ R, appendM D1 want = R := ⟨_, rfl⟩
    rw [hR] at HV HAP
    clear hwant hR
    obtain ⟨D2, X, f⟩ := R
    dsimp only at HV HAP
    obtain ⟨A', c', hv, _⟩ := row_slice HH6.out.row
    subst hv
    go_wp2_with (((with_reducible show wpList _ _ _ (⟨some 77, _, _, _, _, _⟩ :: _) _ _); refine wpList_load_row rfl _ _ rfl g9 rfl 28 _ (0, 0) _ HH6.out.b9 Try.underlying28 rfl (by kernel_rfl) ?_))
    refine HAP.out.mono ?_
    rintro r w7 ⟨rfl, HO7, HK7⟩
    have HH7 := hide (HH6.out.keep HO7.out HK7.out)
    have HZ := hide (varW_new w7)
    have HB12 := hide (varW_blk w7 X)
    have HH8 := hide (HH7.out.below (varW_below w7 X))
    clear HH6 HH7 HO6 HO7 HK7 HAP
    go_upto_region 15 with (((with_reducible show wpList _ _ _ (⟨none, _, _, _, _, _⟩ :: _) _ _); refine wpList_store_row rfl _ _ _ rfl w7.heap.size X.cells.toArray rfl rfl 28 _ HZ.out (by kernel_rfl) rfl (by kernel_rfl) ?_; change wpList _ _ _ _ _ (varW w7 X); generalize varW w7 X = w8 at *))
    clear HZ
    go_cut [95] from 31 to 182 (fun s95 wx => s95 = .bool false ∧ wx = w8)
    case first =>
      rcases HV.out.ans with ⟨hf, hx⟩ | hf
      · subst hf hx
        go_wp2_with (first | ((with_reducible show wpList _ _ _ (⟨some 84, _, _, _, _, _⟩ :: _) _ _); refine wpList_want_row rfl _ _ rfl w7.heap.size rfl 28 _ (0, 0) _ HB12.out Try.underlying28 rfl (by kernel_rfl) ?_) | ((with_reducible show wpList _ _ _ (⟨some 85, _, _, _, _, _⟩ :: _) _ _); refine wpList_want_row rfl _ _ rfl g9 rfl 28 _ (0, 0) _ HH8.out.b9 Try.underlying28 rfl (by kernel_rfl) ?_) | ((with_reducible show wpList _ _ _ (⟨some 86, _, _, _, _, _⟩ :: _) _ _); refine wpList_want_wp rfl (fun _ hK => ent_ne_op rfl rfl rfl hK) ?_))
        all_goals (go_meet; case rel => exact ⟨rfl, rfl⟩)
      · subst hf
        go_wp2_with fail
        all_goals (go_meet; case rel => exact ⟨rfl, rfl⟩)
    case rest =>
    obtain ⟨rfl, rfl⟩ := hcut
    clear HB12
    have hW2 : D2.waits.length ≤ 1000 := by rw [HV.out.wts]; exact Nat.zero_le _
    obtain ⟨Dp, hDp⟩ : ∃ Dp, (D2.plan 1099511627776 0).1 = Dp := ⟨_, rfl⟩
    have hWp : Dp.waits.length ≤ 1000 := by rw [← hDp]; show D2.waits.length ≤ 1000; exact hW2
    have HPL := hide (do_plan (hide HH8.out.own) 1099511627776 0)
    rw [hDp] at HPL
    go_wp2_with fail
    refine HPL.out.mono ?_
    rintro r w9 ⟨rfl, HO9, HK9⟩
    have HH9 := hide (HH8.out.keep HO9.out HK9.out)
    have HFL := hide (do_fail HO9 (by omega) x.mask)
    obtain ⟨z0, z5, z6, z7, z8⟩ := pop_all HH9.out.b8
    go_wp2_with fail
    refine HFL.out.mono ?_
    rintro r w10 ⟨rfl, HO10, HK10⟩
    clear z0 z5 z6 z7 z8
    have HH10 := hide (HH9.out.keep HO10.out HK10.out)
    have HST := hide (do_start HO10)
    go_wp2_with fail
    refine HST.out.mono ?_
    rintro r w11 ⟨rfl, HO11, HK11⟩
    have HH11 := hide (HH10.out.keep HO11.out HK11.out)
    have HD3 : Hid (crashD3 x.mask D2 = (Dp.fail x.mask).start) := hide (by unfold crashD3; rw [hDp])
    rw [← HD3.out] at HH11 HO11
    clear HH8 HH9 HH10 HO9 HO10 HK9 HK10 HK11 HPL HFL HST HD3 hDp hWp hW2
    obtain ⟨D3, hD3⟩ : ∃ D3, crashD3 x.mask D2 = D3 := ⟨_, rfl⟩
    rw [hD3] at HV HH11 HO11
    clear hD3
    have hW3 : D3.waits.length ≤ 1000 := by rw [HV.out.inv.rest.wts]; exact Nat.zero_le _
    have HLA := hide (do_last HO11 (by omega))
    have HS0 := hide HV.out.scan0
    go_wp2_with fail
    refine HLA.out.mono ?_
    rintro r w12 ⟨rfl, hb12⟩
    rw [HS0.out]
    obtain ⟨i3, hi3⟩ : ∃ i3, lastIs D3 = i3 := ⟨_, rfl⟩
    rw [hi3]
    have HI3 := hide hi3
    clear hi3
    obtain ⟨Y, hY3⟩ : ∃ Y, lastM D3 = Y := ⟨_, rfl⟩
    rw [hY3]
    have HY3 := hide hY3
    clear hY3
    have HH12 := hide (HH11.out.below hb12)
    have HZ := hide (varW_new w12)
    have HB14 := hide (varW_blk w12 Y)
    have HH13 := hide (HH12.out.below (varW_below w12 Y))
    have HSC := hide (do_scan (hide HH13.out.own) (by omega))
    clear hb12 HH11 HH12 HO11 HLA
    go_wp2_with (((with_reducible show wpList _ _ _ (⟨none, _, _, _, _, _⟩ :: _) _ _); refine wpList_store_row rfl _ _ _ rfl w12.heap.size Y.cells.toArray rfl rfl 28 _ HZ.out (by kernel_rfl) rfl (by kernel_rfl) ?_; change wpList _ _ _ _ _ (varW w12 Y); generalize varW w12 Y = w13 at *))
    refine HSC.out.mono ?_
    rintro r w14 ⟨v3, rfl, hb14, hrow3, _⟩
    rw [HS0.out]
    have HR3 := hide hrow3
    have HB15 := hide (HB14.out.below hb14 HB14.out.lt)
    have HH14 := hide (HH13.out.below hb14)
    clear hb14 HH13 HB14 HZ HSC hrow3 hW3
    go_upto_region 22 with (fail)
    go_cut [156] from 31 to 182 (fun s156 wx => s156 = .bool false ∧ w14 = wx)
    case first =>
      rcases HV.out.ans with ⟨hf, _⟩ | hf
      · obtain ⟨hi, hl⟩ := HV.out.good hf
        subst hf
        obtain rfl : i3 = true := by rw [← HI3.out, hi]
        obtain rfl : Y = _ := HY3.out.symm.trans hl
        clear hi hl
        go_wp2_with (first | ((with_reducible show wpList _ _ _ (⟨some 128, _, _, _, _, _⟩ :: _) _ _); refine wpList_want_row rfl _ _ rfl w12.heap.size rfl 28 _ (0, 0) _ HB15.out Try.underlying28 rfl (by kernel_rfl) ?_) | ((with_reducible show wpList _ _ _ (⟨some 129, _, _, _, _, _⟩ :: _) _ _); refine wpList_want_row rfl _ _ rfl g9 rfl 28 _ (0, 0) _ HH14.out.b9 Try.underlying28 rfl (by kernel_rfl) ?_) | ((with_reducible show wpList _ _ _ (⟨some 130, _, _, _, _, _⟩ :: _) _ _); refine wpList_want_wp rfl (fun _ hK => ent_ne_op rfl rfl rfl hK) ?_) | ((with_reducible show wpList _ _ _ (⟨some 140, _, _, _, _, _⟩ :: _) _ _); refine wpList_want_row rfl _ _ rfl w12.heap.size rfl 28 _ (0, 0) _ HB15.out Try.underlying28 rfl (by kernel_rfl) ?_) | ((with_reducible show wpList _ _ _ (⟨some 141, _, _, _, _, _⟩ :: _) _ _); refine wpList_want_row rfl _ _ rfl g9 rfl 28 _ (0, 0) _ HH14.out.b9 Try.underlying28 rfl (by kernel_rfl) ?_) | ((with_reducible show wpList _ _ _ (⟨some 142, _, _, _, _, _⟩ :: _) _ _); refine wpList_want_wp rfl (fun _ hK => ent_eq_op rfl rfl rfl hK) ?_) | ((with_reducible show wpList _ _ _ (⟨some 151, _, _, _, _, _⟩ :: _) _ _); refine wpList_want_row rfl _ _ rfl w12.heap.size rfl 28 _ (0, 0) _ HB15.out Try.underlying28 rfl (by kernel_rfl) ?_) | ((with_reducible show wpList _ _ _ (⟨some 152, _, _, _, _, _⟩ :: _) _ _); refine wpList_want_row rfl _ _ rfl g5 rfl 28 _ (0, 0) _ HH14.out.b5 Try.underlying28 rfl (by kernel_rfl) ?_) | ((with_reducible show wpList _ _ _ (⟨some 153, _, _, _, _, _⟩ :: _) _ _); refine wpList_want_wp rfl (fun _ hK => ent_ne_op rfl rfl rfl hK) ?_))
        all_goals (go_meet; case rel => exact ⟨rfl, rfl⟩)
      · rcases HV.out.bad (by rw [hf]; decide) with ⟨hi, hl⟩ | ⟨hi, hl⟩
        · subst hf
          obtain rfl : i3 = true := by rw [← HI3.out, hi]
          obtain rfl : Y = _ := HY3.out.symm.trans hl
          clear hi hl
          go_wp2_with (first | ((with_reducible show wpList _ _ _ (⟨some 128, _, _, _, _, _⟩ :: _) _ _); refine wpList_want_row rfl _ _ rfl w12.heap.size rfl 28 _ (0, 0) _ HB15.out Try.underlying28 rfl (by kernel_rfl) ?_) | ((with_reducible show wpList _ _ _ (⟨some 129, _, _, _, _, _⟩ :: _) _ _); refine wpList_want_row rfl _ _ rfl g9 rfl 28 _ (0, 0) _ HH14.out.b9 Try.underlying28 rfl (by kernel_rfl) ?_) | ((with_reducible show wpList _ _ _ (⟨some 130, _, _, _, _, _⟩ :: _) _ _); refine wpList_want_wp rfl (fun _ hK => ent_ne_op rfl rfl rfl hK) ?_) | ((with_reducible show wpList _ _ _ (⟨some 140, _, _, _, _, _⟩ :: _) _ _); refine wpList_want_row rfl _ _ rfl w12.heap.size rfl 28 _ (0, 0) _ HB15.out Try.underlying28 rfl (by kernel_rfl) ?_) | ((with_reducible show wpList _ _ _ (⟨some 141, _, _, _, _, _⟩ :: _) _ _); refine wpList_want_row rfl _ _ rfl g9 rfl 28 _ (0, 0) _ HH14.out.b9 Try.underlying28 rfl (by kernel_rfl) ?_) | ((with_reducible show wpList _ _ _ (⟨some 142, _, _, _, _, _⟩ :: _) _ _); refine wpList_want_wp rfl (fun _ hK => ent_eq_op rfl rfl rfl hK) ?_) | ((with_reducible show wpList _ _ _ (⟨some 151, _, _, _, _, _⟩ :: _) _ _); refine wpList_want_row rfl _ _ rfl w12.heap.size rfl 28 _ (0, 0) _ HB15.out Try.underlying28 rfl (by kernel_rfl) ?_) | ((with_reducible show wpList _ _ _ (⟨some 152, _, _, _, _, _⟩ :: _) _ _); refine wpList_want_row rfl _ _ rfl g5 rfl 28 _ (0, 0) _ HH14.out.b5 Try.underlying28 rfl (by kernel_rfl) ?_) | ((with_reducible show wpList _ _ _ (⟨some 153, _, _, _, _, _⟩ :: _) _ _); refine wpList_want_wp rfl (fun _ hK => ent_ne_op rfl rfl rfl hK) ?_))
          all_goals (go_meet; case rel => exact ⟨rfl, rfl⟩)
        · subst hf
          obtain rfl : i3 = h6 := by rw [← HI3.out, hi, HH6I.out]
          obtain rfl : Y = _ := HY3.out.symm.trans hl
          clear hi hl
          cases i3 <;>
          go_wp2_with (first | ((with_reducible show wpList _ _ _ (⟨some 128, _, _, _, _, _⟩ :: _) _ _); refine wpList_want_row rfl _ _ rfl w12.heap.size rfl 28 _ (0, 0) _ HB15.out Try.underlying28 rfl (by kernel_rfl) ?_) | ((with_reducible show wpList _ _ _ (⟨some 129, _, _, _, _, _⟩ :: _) _ _); refine wpList_want_row rfl _ _ rfl g9 rfl 28 _ (0, 0) _ HH14.out.b9 Try.underlying28 rfl (by kernel_rfl) ?_) | ((with_reducible show wpList _ _ _ (⟨some 130, _, _, _, _, _⟩ :: _) _ _); refine wpList_want_wp rfl (fun _ hK => ent_ne_op rfl rfl rfl hK) ?_) | ((with_reducible show wpList _ _ _ (⟨some 140, _, _, _, _, _⟩ :: _) _ _); refine wpList_want_row rfl _ _ rfl w12.heap.size rfl 28 _ (0, 0) _ HB15.out Try.underlying28 rfl (by kernel_rfl) ?_) | ((with_reducible show wpList _ _ _ (⟨some 141, _, _, _, _, _⟩ :: _) _ _); refine wpList_want_row rfl _ _ rfl g9 rfl 28 _ (0, 0) _ HH14.out.b9 Try.underlying28 rfl (by kernel_rfl) ?_) | ((with_reducible show wpList _ _ _ (⟨some 142, _, _, _, _, _⟩ :: _) _ _); refine wpList_want_wp rfl (fun _ hK => ent_eq_op rfl rfl rfl hK) ?_) | ((with_reducible show wpList _ _ _ (⟨some 151, _, _, _, _, _⟩ :: _) _ _); refine wpList_want_row rfl _ _ rfl w12.heap.size rfl 28 _ (0, 0) _ HB15.out Try.underlying28 rfl (by kernel_rfl) ?_) | ((with_reducible show wpList _ _ _ (⟨some 152, _, _, _, _, _⟩ :: _) _ _); refine wpList_want_row rfl _ _ rfl g5 rfl 28 _ (0, 0) _ HH14.out.b5 Try.underlying28 rfl (by kernel_rfl) ?_) | ((with_reducible show wpList _ _ _ (⟨some 153, _, _, _, _, _⟩ :: _) _ _); refine wpList_want_wp rfl (fun _ hK => ent_ne_op rfl rfl rfl hK) ?_))
          all_goals (go_meet; case rel => exact ⟨rfl, rfl⟩)
    obtain ⟨rfl, rfl⟩ := hcut
    have hrow := HH14.out.row
    have HLEN : Hid ((scanL D1).length ≤ 8) := hide (by rw [R1.out.1.list]; exact scanTo_len D1 8)
    have hnw : want.number = (lastM D).number + 1 := HNW.out
    go_wp2_with fail
    go_loopw [19] (fun i wx => ∃ q : Nat, q ≤ (scanL D1).length ∧ i = .int .i64 (q : Int) ∧ Hid (Below w14.heap.size w14 wx)) (fun i _ => (scanL D1).length - (intOf i).toNat)
    case atStart => exact ⟨0, by omega, rfl, hide (Below.refl _ _)⟩
    case round =>
      obtain ⟨q, hq, rfl, HB⟩ := hrel
      by_cases hql : q < (scanL D1).length
      · have hqI : (q : Int) < ((scanL D1).length : Int) := by omega
        have HQL := hide hql
        have hl8 : ((scanL D1).length : Int) ≤ 8 := by have := HLEN.out; omega
        obtain ⟨g, c2', hv, _, hgl, _, hcell⟩ := row_form hrow (by omega)
        obtain ⟨rfl, rfl⟩ : A' = some ⟨g, 0, none⟩ ∧ c' = c2' := by simpa using hv
        obtain ⟨y, hy⟩ : ∃ y, (scanL D1)[q]? = some y := ⟨_, List.getElem?_eq_getElem hql⟩
        have hym : y ∈ scanL D1 := List.mem_of_getElem? hy
        have hc5 : ∀ j, j < 5 → wr.cell? ⟨g, q * 5 + j, none⟩ = y.cells[j]? := fun j hj => by
          rw [World.cell?_of_block (HB.out.block g hgl), hcell _ (by omega), ecells_get _ _ _ hy j hj]
        have y0 : wr.cell? ⟨g, q * 5, none⟩ = some (.int .i64 y.kind) := hc5 0 (by omega)
        have y1 : wr.cell? ⟨g, q * 5 + 1, none⟩ = some (.int .i64 y.number) := hc5 1 (by omega)
        have y2 : wr.cell? ⟨g, q * 5 + 2, none⟩ = some (.int .i64 y.slot) := hc5 2 (by omega)
        have y3 : wr.cell? ⟨g, q * 5 + 3, none⟩ = some (.int .i64 y.size) := hc5 3 (by omega)
        have y4 : wr.cell? ⟨g, q * 5 + 4, none⟩ = some (.string y.sum) := hc5 4 (by omega)
        have n9 : wr.cell? ⟨g9, 1, none⟩ = some (.int .i64 want.number) := (HH14.out.below HB.out).b9.cell 1
        have s8 : IntKind.i64.wrap (want.number - 8) = want.number - 8 := IntWalk.i64_in _ (by omega)
        have hg9w : g9 < wr.heap.size := (HH14.out.below HB.out).b9.lt
        have hgw : g < wr.heap.size := Nat.lt_of_lt_of_le hgl HB.out.size
        have HYM := hide hym
        have HNW2 := hide hnw
        clear hv hcell hc5 hy hym hnw
        by_cases hgt : want.number - 8 < y.number
        · have HIN := hide (HV.out.keeps y (by rw [← HV.out.was]; exact HYM.out) hgt)
          have HAM := hide (lamong5_calls (row_of HR3.out (fun g hg => HB.out.drew.block g (row_lt HR3.out g hg))) (by rw [HV.out.inv.rest.list]; exact Nat.le_trans (scanTo_len D3 8) (by decide)) y HIN.out)
          go_wp2_with fail
          refine wp_region_heads [0, 1, 2, 3, 4, 5, 6, 7, 8, 9, 10, 11, 12, 13, 14] 3 (fun w' => w'.cell? ⟨g, q * 5, none⟩ = some (.int .i64 y.kind) ∧ w'.cell? ⟨g, q * 5 + 1, none⟩ = some (.int .i64 y.number) ∧ w'.cell? ⟨g, q * 5 + 2, none⟩ = some (.int .i64 y.slot) ∧ w'.cell? ⟨g, q * 5 + 3, none⟩ = some (.int .i64 y.size) ∧ w'.cell? ⟨g, q * 5 + 4, none⟩ = some (.string y.sum) ∧ w'.cell? ⟨g9, 1, none⟩ = some (.int .i64 want.number)) (by kernel_rfl) rfl (by kernel_rfl) (by kernel_rfl) (fun _ _ d _ _ h => by cases d <;> exact h) ⟨y0, y1, y2, y3, y4, n9⟩ ?_
          iterate 15
            first
            | refine' Heads.skip rfl (by rfl) ?_
            | (refine' Heads.step rfl (by rfl) ?_ ?_
               rotate_left
               · intro w' hSw
                 obtain ⟨z0, z1, z2, z3, z4, z5⟩ := hSw
                 go_simp
                 try with_reducible rfl)
            simp only [Act.put, List.setIfInBounds_toArray, List.set_cons_zero, List.set_cons_succ]
          refine Heads.done ?_
          refine wpAnyH_ready (rs := [15]) (by kernel_rfl) (by simp) (AllReadyH.cons rfl (fun K hK => ?_) AllReadyH.nil)
          go_simp
          refine (HAM.out).mono ?_
          rintro r w15 ⟨rfl, hb15⟩
          have HB15' := hide (HB.out.drew.trans (hb15.mono HB.out.size))
          refine hK.out _ _ ⟨(World.cell?_of_block (hb15.block _ hgw)).trans y0, (World.cell?_of_block (hb15.block _ hgw)).trans y1, (World.cell?_of_block (hb15.block _ hgw)).trans y2, (World.cell?_of_block (hb15.block _ hgw)).trans y3, (World.cell?_of_block (hb15.block _ hgw)).trans y4, (World.cell?_of_block (hb15.block _ hg9w)).trans n9⟩ (fun hHeld1 => ?_)
          clear hK K
          refine wpAnyH_more [16, 17] 0 rfl (by kernel_rfl) (by kernel_rfl) (fun _ _ d _ _ h => by cases d <;> exact h) hHeld1 ?_
          iterate 2
            first
            | refine' Heads.skip rfl (by rfl) ?_
            | (refine' Heads.step rfl (by rfl) ?_ ?_
               rotate_left
               · intro w' hSw
                 obtain ⟨z0, z1, z2, z3, z4, z5⟩ := hSw
                 go_simp
                 try with_reducible rfl)
            simp only [Act.put, List.setIfInBounds_toArray, List.set_cons_zero, List.set_cons_succ]
          refine Heads.done ?_
          refine wpAnyH_done (by kernel_rfl) ?_ _
          go_wp2_with fail
          refine ⟨⟨q + 1, HQL.out, by go_num, HB15'⟩, ?_⟩
          have hql' := HQL.out
          simp [intOf]
          omega
        · have hgd : decide (want.number - 8 < y.number) = false := decide_eq_false hgt
          clear hgt
          go_wp2_with fail
          refine wp_region_heads [0, 1, 2, 3, 4, 5, 6, 7, 8, 9, 10, 11, 12, 13, 14, 15, 16, 17] 0 (fun w' => w'.cell? ⟨g, q * 5, none⟩ = some (.int .i64 y.kind) ∧ w'.cell? ⟨g, q * 5 + 1, none⟩ = some (.int .i64 y.number) ∧ w'.cell? ⟨g, q * 5 + 2, none⟩ = some (.int .i64 y.slot) ∧ w'.cell? ⟨g, q * 5 + 3, none⟩ = some (.int .i64 y.size) ∧ w'.cell? ⟨g, q * 5 + 4, none⟩ = some (.string y.sum) ∧ w'.cell? ⟨g9, 1, none⟩ = some (.int .i64 want.number)) (by kernel_rfl) rfl (by kernel_rfl) (by kernel_rfl) (fun _ _ d _ _ h => by cases d <;> exact h) ⟨y0, y1, y2, y3, y4, n9⟩ ?_
          iterate 18
            first
            | refine' Heads.skip rfl (by rfl) ?_
            | (refine' Heads.step rfl (by rfl) ?_ ?_
               rotate_left
               · intro w' hSw
                 obtain ⟨z0, z1, z2, z3, z4, z5⟩ := hSw
                 go_simp
                 try with_reducible rfl)
            simp only [Act.put, List.setIfInBounds_toArray, List.set_cons_zero, List.set_cons_succ]
          refine Heads.done ?_
          refine wpAnyH_done (by kernel_rfl) ?_ _
          go_wp2_with fail
          refine ⟨⟨q + 1, HQL.out, by go_num, hide HB.out.drew⟩, ?_⟩
          have hql' := HQL.out
          simp [intOf]
          omega
      · have hqe : q = (scanL D1).length := by omega
        have HJ := hide (HH14.out.below HB.out)
        have HJ14 := hide (HB15.out.below HB.out HB15.out.lt)
        have HNX : Hid (CrR w (wr.setRow g5 Y.cells.toArray) b g5 (k + 1) D3) := hide ⟨hide ((HJ.out.own.turned (turned_setRow (F := fun y => y = g5 ∨ y = g8 ∨ y = g9 ∨ (Value.slice A' (scanL D1).length c').ownBlock = some y) (.inl rfl) _)).fewer (fun y hy => .inl hy)), hide (by rw [HY3.out]; exact setRow_heap _ _ _ _ _ _ HJ.out.b5), HV.out.inv⟩
        have hqI : ¬ ((q : Int) < ((scanL D1).length : Int)) := by omega
        have HL3 := HI3
        clear hnw
        go_wp2_with (first | ((with_reducible show wpList _ _ _ (⟨some 181, _, _, _, _, _⟩ :: _) _ _); refine wpList_load_row rfl _ _ rfl w12.heap.size rfl 28 _ (0, 0) _ HJ14.out Try.underlying28 rfl (by kernel_rfl) ?_) | ((with_reducible show wpList _ _ _ (⟨none, _, _, _, _, _⟩ :: _) _ _); refine wpList_store_row rfl _ _ _ rfl g5 Y.cells.toArray rfl rfl 28 _ HJ.out.b5 (by kernel_rfl) (by show (5 : Nat) = 5; rfl) (by kernel_rfl) ?_; change wpList _ _ _ _ _ (wr.setRow g5 Y.cells.toArray); generalize wr.setRow g5 Y.cells.toArray = w20 at *))
        refine ⟨⟨k + 1, D3, by omega, by omega, by go_num, by rw [HL3.out], HNX⟩, ?_⟩
        simp [intOf]
        omega
  · by_cases hl1 : k < l.length
    · have hkI1 : (k : Int) < (l.length : Int) := by omega
      have hkI2 : ¬ ((k : Int) < 40) := by omega
      clear hlt hk hk40 hl1
      go_wp2_with fail
      refine (lknown5_calls _).mono ?_
      rintro r wk ⟨rfl, hbk⟩
      go_wp2_with fail
      go_ret
      exact ⟨rfl, HC.out.own.out.bel.trans (hbk.mono HC.out.own.out.le)⟩
    · have hkI1 : ¬ ((k : Int) < (l.length : Int)) := by omega
      clear hlt hk hk40 hl1
      go_wp2_with fail
      refine (lknown5_calls _).mono ?_
      rintro r wk ⟨rfl, hbk⟩
      go_wp2_with fail
      go_ret
      exact ⟨rfl, HC.out.own.out.bel.trans (hbk.mono HC.out.own.out.le)⟩
end Go.Proofs.Ytmbkncckcpgdgaa
