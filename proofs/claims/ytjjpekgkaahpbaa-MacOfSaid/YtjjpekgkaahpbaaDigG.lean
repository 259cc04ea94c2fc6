/- Chapter 2: mix (a block taken in), walked. -/
import Derived.Test.YtjjpekgkaahpbaaDigF
namespace Go.Proofs.Ytjjpekgkaahpbaa
open Go.RowKit Zb

theorem gr2 (x : Int) (w : World) : Calls Try.prog 36 #[.int .u32 x, .int .i64 2] w fun e w' => e = .returned (.int .u32 (rotW x 2)) ∧ w = w' := gright_calls x 2 (by omega) (by omega) w
theorem gr6 (x : Int) (w : World) : Calls Try.prog 36 #[.int .u32 x, .int .i64 6] w fun e w' => e = .returned (.int .u32 (rotW x 6)) ∧ w = w' := gright_calls x 6 (by omega) (by omega) w
theorem gr11 (x : Int) (w : World) : Calls Try.prog 36 #[.int .u32 x, .int .i64 11] w fun e w' => e = .returned (.int .u32 (rotW x 11)) ∧ w = w' := gright_calls x 11 (by omega) (by omega) w
theorem gr13 (x : Int) (w : World) : Calls Try.prog 36 #[.int .u32 x, .int .i64 13] w fun e w' => e = .returned (.int .u32 (rotW x 13)) ∧ w = w' := gright_calls x 13 (by omega) (by omega) w
theorem gr22 (x : Int) (w : World) : Calls Try.prog 36 #[.int .u32 x, .int .i64 22] w fun e w' => e = .returned (.int .u32 (rotW x 22)) ∧ w = w' := gright_calls x 22 (by omega) (by omega) w
theorem gr25 (x : Int) (w : World) : Calls Try.prog 36 #[.int .u32 x, .int .i64 25] w fun e w' => e = .returned (.int .u32 (rotW x 25)) ∧ w = w' := gright_calls x 25 (by omega) (by omega) w
theorem ch_bits (e f g : Int) : bits .xor .u32 g (bits .and .u32 e (bits .xor .u32 f g)) = chW e f g := ch_eq e f g
theorem maj_bits (a b c : Int) : bits .or .u32 (bits .and .u32 a b) (bits .and .u32 c (bits .or .u32 a b)) = majW a b c := maj_eq a b c
def S1W (e : Int) : Int := xorW (xorW (rotW e 6) (rotW e 11)) (rotW e 25)
def S0W (a : Int) : Int := xorW (xorW (rotW a 2) (rotW a 13)) (rotW a 22)
theorem S1_bits (e : Int) : bits .xor .u32 (bits .xor .u32 (rotW e 6) (rotW e 11)) (rotW e 25) = S1W e := rfl
theorem S0_bits (a : Int) : bits .xor .u32 (bits .xor .u32 (rotW a 2) (rotW a 13)) (rotW a 22) = S0W a := rfl

/-- mix at its loop: the state's row, the result's, the two tables. -/
structure MixAt (w wr : World) (v : List Int) (ws : List Int) (g5 g6 : Nat) : Prop where
  bel : Below w.heap.size w wr
  hv : Blk wr w.heap.size 43 (wcs v).toArray
  hr : Blk wr (w.heap.size + 1) 43 (wcs [0, 0, 0, 0, 0, 0, 0, 0]).toArray
  hk : Blk wr g5 54 (wcs kW).toArray
  hw : Blk wr g6 54 (wcs ws).toArray
theorem MixAt.below {w wr w2 : World} {v ws : List Int} {g5 g6 : Nat} (h : MixAt w wr v ws g5 g6) (hb : Below wr.heap.size wr w2) : MixAt w w2 v ws g5 g6 :=
  ⟨h.bel.trans (hb.mono h.bel.size), h.hv.below hb h.hv.lt, h.hr.below hb h.hr.lt, h.hk.below hb h.hk.lt, h.hw.below hb h.hw.lt⟩
theorem below_drewN (w : World) (n : Nat) : Below w.heap.size w (w.drewN n) := ⟨rfl, rfl, rfl, Nat.le_refl _, fun _ _ => rfl⟩
theorem kW_length : kW.length = 64 := rfl

/-- the two tables laid, their cells written -/
def mixW2 (w2 : World) (ws : List Int) : World := (((w2.alloc (.cells (wcs (padTo [])).toArray 54)).alloc (.cells (wcs (padTo [])).toArray 54)).setRow w2.heap.size (wcs kW).toArray).setRow (w2.heap.size + 1) (wcs ws).toArray
theorem mix_b5 (w2 : World) : Blk ((w2.alloc (.cells (wcs (padTo [])).toArray 54)).alloc (.cells (wcs (padTo [])).toArray 54)) w2.heap.size 54 (wcs (padTo [])).toArray := (Blk.new w2 54 _).alloc _
theorem mix_b6 (w2 : World) (cs : Array Value) : Blk (((w2.alloc (.cells (wcs (padTo [])).toArray 54)).alloc (.cells (wcs (padTo [])).toArray 54)).setRow w2.heap.size cs) (w2.heap.size + 1) 54 (wcs (padTo [])).toArray := by
  have := Blk.new (w2.alloc (.cells (wcs (padTo [])).toArray 54)) 54 (wcs (padTo [])).toArray
  have e : (w2.alloc (.cells (wcs (padTo [])).toArray 54)).heap.size = w2.heap.size + 1 := by simp
  rw [e] at this
  exact (setRow_other _ _ _ _ (by omega)).trans this
theorem MixAt.start {w w1 w2 : World} {v ws : List Int}
    (hb1 : Below ((w.alloc (.cells (wcs v).toArray 43)).alloc (.cells (wcs [0, 0, 0, 0, 0, 0, 0, 0]).toArray 43)).heap.size ((w.alloc (.cells (wcs v).toArray 43)).alloc (.cells (wcs [0, 0, 0, 0, 0, 0, 0, 0]).toArray 43)) w1) (hb2 : Below w1.heap.size w1 w2) :
    MixAt w (mixW2 w2 ws) v ws w2.heap.size (w2.heap.size + 1) := by
  have hb : Below w2.heap.size w2 (mixW2 w2 ws) := below_setRow (below_setRow (((Below.refl _ _).alloc (Nat.le_refl _) _).alloc (by simp) _) (Nat.le_refl _) _) (by simp) _
  have s1 := hb1.size
  have s2 := hb2.size
  simp only [World.size_alloc] at s1
  have b0 : Below w.heap.size w ((w.alloc (.cells (wcs v).toArray 43)).alloc (.cells (wcs [0, 0, 0, 0, 0, 0, 0, 0]).toArray 43)) := ((Below.refl _ _).alloc (Nat.le_refl _) _).alloc (by simp) _
  have hbb := ((hb1.trans (hb2.mono hb1.size)).trans (hb.mono (by have := hb1.size; omega)))
  have hn : Blk ((w.alloc (.cells (wcs v).toArray 43)).alloc (.cells (wcs [0, 0, 0, 0, 0, 0, 0, 0]).toArray 43)) (w.heap.size + 1) 43 (wcs [0, 0, 0, 0, 0, 0, 0, 0]).toArray := by
    have := Blk.new (w.alloc (.cells (wcs v).toArray 43)) 43 (wcs [0, 0, 0, 0, 0, 0, 0, 0]).toArray
    have e : (w.alloc (.cells (wcs v).toArray 43)).heap.size = w.heap.size + 1 := by simp
    rw [e] at this
    exact this
  have hv : Blk ((w.alloc (.cells (wcs v).toArray 43)).alloc (.cells (wcs [0, 0, 0, 0, 0, 0, 0, 0]).toArray 43)) w.heap.size 43 (wcs v).toArray := (Blk.new w 43 _).alloc _
  refine ⟨b0.trans (hbb.mono (by simp; omega)), hv.below hbb hv.lt, hn.below hbb hn.lt, ?_, setRow_heap _ _ _ _ _ _ (mix_b6 w2 (wcs kW).toArray)⟩
  exact (setRow_other _ _ _ _ (by omega)).trans (setRow_heap _ _ _ _ _ _ (mix_b5 w2))
theorem MixAt.vcells {w wr : World} {ws : List Int} {g5 g6 : Nat} {v0 v1 v2 v3 v4 v5 v6 v7 : Int} (h : MixAt w wr [v0, v1, v2, v3, v4, v5, v6, v7] ws g5 g6) :
    wr.cell? ⟨w.heap.size, 0, none⟩ = some (.int .u32 v0) ∧ wr.cell? ⟨w.heap.size, 1, none⟩ = some (.int .u32 v1) ∧ wr.cell? ⟨w.heap.size, 2, none⟩ = some (.int .u32 v2) ∧ wr.cell? ⟨w.heap.size, 3, none⟩ = some (.int .u32 v3) ∧
    wr.cell? ⟨w.heap.size, 4, none⟩ = some (.int .u32 v4) ∧ wr.cell? ⟨w.heap.size, 5, none⟩ = some (.int .u32 v5) ∧ wr.cell? ⟨w.heap.size, 6, none⟩ = some (.int .u32 v6) ∧ wr.cell? ⟨w.heap.size, 7, none⟩ = some (.int .u32 v7) :=
  ⟨h.hv.cell 0, h.hv.cell 1, h.hv.cell 2, h.hv.cell 3, h.hv.cell 4, h.hv.cell 5, h.hv.cell 6, h.hv.cell 7⟩

set_option maxRecDepth 100000 in
set_option maxHeartbeats 4000000 in
theorem gmix_calls (v0 v1 v2 v3 v4 v5 v6 v7 : Int) (s : ByteArray) (h : s.size = 64) (w : World) : Calls Try.prog 27 #[.agg (wcs [v0, v1, v2, v3, v4, v5, v6, v7]).toArray, .string s] w fun e w' => e = .returned (.agg (wcs (mixW [v0, v1, v2, v3, v4, v5, v6, v7] s.data.toList)).toArray) ∧ Below w.heap.size w w' := by
  have HS := hide h
  clear h
  obtain ⟨ws, hws⟩ : ∃ ws, wordsW s.data.toList 64 = ws := ⟨_, rfl⟩
  have hlw : ws.length = 64 := by rw [← hws, wordsW_length]
  have HLW := hide hlw
  have HWS := hide hws
  clear hlw hws
  go_enter Try.func27, Try.ntmps27
  go_wp2_with fail
  refine (gconst_calls _).mono ?_
  rintro e w1 ⟨rfl, hb1⟩
  go_wp2_with fail
  refine (gspread_calls s HS.out _).mono ?_
  rintro e w2 ⟨rfl, hb2⟩
  rw [HWS.out]
  have HM := hide (MixAt.start (ws := ws) hb1 hb2)
  have H5 := hide (mix_b5 w2)
  have H6 := hide (mix_b6 w2 (wcs kW).toArray)
  have HL1 : Hid ((wcs ws).toArray.size = 64) := hide (by rw [List.size_toArray, wcs_length, HLW.out])
  have HONE : Hid ((wcs ws).toArray.all (·.oneCell') = true) := hide (by simp [wcs]; intro _ _; rfl)
  clear hb1 hb2
  go_wp2_with ((with_reducible show wpList _ _ _ (⟨none, _, _, _, _, _⟩ :: _ :: _) _ _); refine wpList_store_row rfl _ _ _ rfl w2.heap.size (wcs kW).toArray rfl rfl 54 _ H5.out (by kernel_rfl) rfl (by kernel_rfl) ?_; refine wpList_store_row rfl _ _ _ rfl (w2.heap.size + 1) (wcs ws).toArray rfl rfl 54 _ H6.out (by rw [HL1.out]; kernel_rfl) (by rw [HL1.out]; rfl) HONE.out ?_)
  simp only [Act.put]
  change Code.wp _ _ _ _ (mixW2 w2 ws)
  generalize mixW2 w2 ws = wr at *
  generalize w2.heap.size + 1 = g6 at *
  generalize w2.heap.size = g5 at *
  clear H5 H6
  obtain ⟨c0, c1, c2, c3, c4, c5, c6, c7⟩ := HM.out.vcells
  go_quiet (fail)
  clear c0 c1 c2 c3 c4 c5 c6 c7
  have HI0 : Hid (MixAt w (wr.drewN nq) [v0, v1, v2, v3, v4, v5, v6, v7] ws g5 g6) := hide (HM.out.below (below_drewN wr nq))
  clear HM
  generalize wr.drewN nq = wr0 at *
  go_wp2_with fail
  go_loopw [7, 8, 9, 10, 11, 12, 13, 14, 39] (fun a b c d e f g h i wr => ∃ k : Nat, k ≤ 64 ∧ i = .int .i64 k ∧ Hid (MixAt w wr [v0, v1, v2, v3, v4, v5, v6, v7] ws g5 g6) ∧
    a = .int .u32 (at0 (runW [v0, v1, v2, v3, v4, v5, v6, v7] ws k) 0) ∧ b = .int .u32 (at0 (runW [v0, v1, v2, v3, v4, v5, v6, v7] ws k) 1) ∧ c = .int .u32 (at0 (runW [v0, v1, v2, v3, v4, v5, v6, v7] ws k) 2) ∧ d = .int .u32 (at0 (runW [v0, v1, v2, v3, v4, v5, v6, v7] ws k) 3) ∧
    e = .int .u32 (at0 (runW [v0, v1, v2, v3, v4, v5, v6, v7] ws k) 4) ∧ f = .int .u32 (at0 (runW [v0, v1, v2, v3, v4, v5, v6, v7] ws k) 5) ∧ g = .int .u32 (at0 (runW [v0, v1, v2, v3, v4, v5, v6, v7] ws k) 6) ∧ h = .int .u32 (at0 (runW [v0, v1, v2, v3, v4, v5, v6, v7] ws k) 7)) (fun _ _ _ _ _ _ _ _ i _ => 64 - (intOf i).toNat)
  case atStart => exact ⟨0, Nat.zero_le _, rfl, HI0, rfl, rfl, rfl, rfl, rfl, rfl, rfl, rfl⟩
  case round =>
  clear HI0
  obtain ⟨k, hk, rfl, hinv, rfl, rfl, rfl, rfl, rfl, rfl, rfl, rfl⟩ := hrel
  by_cases hlt : k < 64
  · have hs0 : ∀ kk ww, at0 (stepW (runW [v0, v1, v2, v3, v4, v5, v6, v7] ws k) kk ww) 0 = at0 (stepW (runW [v0, v1, v2, v3, v4, v5, v6, v7] ws k) kk ww) 0 := fun _ _ => rfl
    have hn : Hid (runW [v0, v1, v2, v3, v4, v5, v6, v7] ws (k + 1) = stepW (runW [v0, v1, v2, v3, v4, v5, v6, v7] ws k) (at0 kW k) (at0 ws k)) := hide rfl
    clear hs0
    have y5 : wr.cell? ⟨g5, k, none⟩ = some (.int .u32 (at0 kW k)) := by rw [hinv.out.hk.cell, wcs_get _ _ (by rw [kW_length]; omega)]
    have y6 : wr.cell? ⟨g6, k, none⟩ = some (.int .u32 (at0 ws k)) := by rw [hinv.out.hw.cell, wcs_get _ _ (by rw [HLW.out]; omega)]
    have hkI : (k : Int) < 64 := by omega
    generalize at0 kW k = kk at *
    generalize at0 ws k = ww at *
    obtain ⟨R, hR⟩ : ∃ R, runW [v0, v1, v2, v3, v4, v5, v6, v7] ws k = R := ⟨_, rfl⟩
    rw [hR] at hn
    simp only [hR]
    clear hR
    have e0 : at0 (runW [v0, v1, v2, v3, v4, v5, v6, v7] ws (k + 1)) 0 = addW (addW (addW (addW (addW (at0 R 7) (S1W (at0 R 4))) (chW (at0 R 4) (at0 R 5) (at0 R 6))) kk) ww) (addW (S0W (at0 R 0)) (majW (at0 R 0) (at0 R 1) (at0 R 2))) := by rw [hn.out]; rfl
    have e1 : at0 (runW [v0, v1, v2, v3, v4, v5, v6, v7] ws (k + 1)) 1 = at0 R 0 := by rw [hn.out]; rfl
    have e2 : at0 (runW [v0, v1, v2, v3, v4, v5, v6, v7] ws (k + 1)) 2 = at0 R 1 := by rw [hn.out]; rfl
    have e3 : at0 (runW [v0, v1, v2, v3, v4, v5, v6, v7] ws (k + 1)) 3 = at0 R 2 := by rw [hn.out]; rfl
    have e4 : at0 (runW [v0, v1, v2, v3, v4, v5, v6, v7] ws (k + 1)) 4 = addW (at0 R 3) (addW (addW (addW (addW (at0 R 7) (S1W (at0 R 4))) (chW (at0 R 4) (at0 R 5) (at0 R 6))) kk) ww) := by rw [hn.out]; rfl
    have e5 : at0 (runW [v0, v1, v2, v3, v4, v5, v6, v7] ws (k + 1)) 5 = at0 R 4 := by rw [hn.out]; rfl
    have e6 : at0 (runW [v0, v1, v2, v3, v4, v5, v6, v7] ws (k + 1)) 6 = at0 R 5 := by rw [hn.out]; rfl
    have e7 : at0 (runW [v0, v1, v2, v3, v4, v5, v6, v7] ws (k + 1)) 7 = at0 R 6 := by rw [hn.out]; rfl
    have HE := hide (And.intro e0 (And.intro e1 (And.intro e2 (And.intro e3 (And.intro e4 (And.intro e5 (And.intro e6 e7)))))))
    clear e0 e1 e2 e3 e4 e5 e6 e7 hn
    generalize at0 R 0 = a at *
    generalize at0 R 1 = b at *
    generalize at0 R 2 = c at *
    generalize at0 R 3 = d at *
    generalize at0 R 4 = e at *
    generalize at0 R 5 = f at *
    generalize at0 R 6 = g at *
    generalize at0 R 7 = h at *
    go_wp2_with fail
    rw [ch_bits, maj_bits]
    generalize chW e f g = pick at *
    generalize majW a b c = most at *
    refine wp_region_heads [0, 1, 3, 6, 10, 12, 13, 14, 16, 17, 18] 10 (fun w' => w'.cell? ⟨g5, k, none⟩ = some (.int .u32 kk) ∧ w'.cell? ⟨g6, k, none⟩ = some (.int .u32 ww)) (by kernel_rfl) rfl (by kernel_rfl) (by kernel_rfl) (fun _ _ d _ _ h => by cases d <;> exact h) ⟨y5, y6⟩ ?_
    iterate 11
      refine' Heads.step rfl (by rfl) ?_ ?_
      rotate_left
      · intro w' hSw
        obtain ⟨z5, z6⟩ := hSw
        go_simp
        try with_reducible rfl
      simp only [Act.put, List.setIfInBounds_toArray, List.set_cons_zero, List.set_cons_succ]
    refine Heads.done ?_
    refine wpAnyH_ready (rs := [2]) (by kernel_rfl) (by simp) (AllReadyH.cons rfl (fun K hK => ?_) AllReadyH.nil)
    go_simp
    refine (gr6 e _).mono ?_
    rintro e w' ⟨rfl, rfl⟩
    refine hK.out _ _ ⟨y5, y6⟩ (fun hHeld1 => ?_)
    clear hK K
    refine wpAnyH_ready (rs := [4]) (by kernel_rfl) (by simp) (AllReadyH.cons rfl (fun K hK => ?_) AllReadyH.nil)
    go_simp
    refine (gr11 e _).mono ?_
    rintro e w' ⟨rfl, rfl⟩
    refine hK.out _ _ ⟨y5, y6⟩ (fun hHeld2 => ?_)
    clear hK K
    refine wpAnyH_more [5] 7 rfl (by kernel_rfl) (by kernel_rfl) (fun _ _ d _ _ h => by cases d <;> exact h) hHeld2 ?_
    iterate 1
      refine' Heads.step rfl (by rfl) ?_ ?_
      rotate_left
      · intro w' hSw
        obtain ⟨z5, z6⟩ := hSw
        go_simp
        try with_reducible rfl
      simp only [Act.put, List.setIfInBounds_toArray, List.set_cons_zero, List.set_cons_succ]
    refine Heads.done ?_
    refine wpAnyH_ready (rs := [7]) (by kernel_rfl) (by simp) (AllReadyH.cons rfl (fun K hK => ?_) AllReadyH.nil)
    go_simp
    refine (gr25 e _).mono ?_
    rintro e w' ⟨rfl, rfl⟩
    refine hK.out _ _ ⟨y5, y6⟩ (fun hHeld3 => ?_)
    clear hK K
    refine wpAnyH_more [8, 9, 11, 15, 19, 20] 0 rfl (by kernel_rfl) (by kernel_rfl) (fun _ _ d _ _ h => by cases d <;> exact h) hHeld3 ?_
    iterate 6
      refine' Heads.step rfl (by rfl) ?_ ?_
      rotate_left
      · intro w' hSw
        obtain ⟨z5, z6⟩ := hSw
        go_simp
        try with_reducible rfl
      simp only [Act.put, List.setIfInBounds_toArray, List.set_cons_zero, List.set_cons_succ]
    refine Heads.done ?_
    refine wpAnyH_done (by kernel_rfl) ?_ _
    have HN := hide (hinv.out.below (below_drewN wr 1))
    have HN2 : Hid (MixAt w wr.drew [v0, v1, v2, v3, v4, v5, v6, v7] ws g5 g6) := hide (hinv.out.below (Below.refl _ _).drew)
    clear HN hHeld1 hHeld2 hHeld3 y5 y6 hinv
    generalize wr.drew = wd at *
    rw [S1_bits]
    simp only [wrap_u32]
    have ex : addW (addW (addW (addW h (S1W e)) pick) kk) ww = ((((h + S1W e) % 4294967296 + pick) % 4294967296 + kk) % 4294967296 + ww) % 4294967296 := rfl
    rw [← ex]
    clear ex
    generalize addW (addW (addW (addW h (S1W e)) pick) kk) ww = x at *
    go_wp2_with fail
    refine (gr2 a _).mono ?_
    rintro e' w' ⟨rfl, rfl⟩
    go_wp2_with fail
    refine (gr13 a _).mono ?_
    rintro e' w' ⟨rfl, rfl⟩
    go_wp2_with fail
    refine (gr22 a _).mono ?_
    rintro e' w' ⟨rfl, rfl⟩
    rw [show addW (S0W a) most = (bits .xor .u32 (bits .xor .u32 (rotW a 2) (rotW a 13)) (rotW a 22) + most) % 4294967296 from rfl] at HE
    generalize rotW a 2 = r2 at *
    generalize rotW a 13 = r13 at *
    generalize rotW a 22 = r22 at *
    go_wp2_with fail
    obtain ⟨e0, e1, e2, e3, e4, e5, e6, e7⟩ := HE.out
    go_roundw
    case rel => exact ⟨k + 1, by omega, by go_num, HN2, by rw [e0]; rfl, by rw [e1], by rw [e2], by rw [e3], by rw [e4]; rfl, by rw [e5], by rw [e6], by rw [e7]⟩
    case measure => simp [intOf]; omega
  · obtain rfl : k = 64 := by omega
    obtain ⟨c0, c1, c2, c3, c4, c5, c6, c7⟩ := hinv.out.vcells
    have HRES : Hid (mixW [v0, v1, v2, v3, v4, v5, v6, v7] s.data.toList = [addW v0 (at0 (runW [v0, v1, v2, v3, v4, v5, v6, v7] ws 64) 0), addW v1 (at0 (runW [v0, v1, v2, v3, v4, v5, v6, v7] ws 64) 1), addW v2 (at0 (runW [v0, v1, v2, v3, v4, v5, v6, v7] ws 64) 2), addW v3 (at0 (runW [v0, v1, v2, v3, v4, v5, v6, v7] ws 64) 3), addW v4 (at0 (runW [v0, v1, v2, v3, v4, v5, v6, v7] ws 64) 4), addW v5 (at0 (runW [v0, v1, v2, v3, v4, v5, v6, v7] ws 64) 5), addW v6 (at0 (runW [v0, v1, v2, v3, v4, v5, v6, v7] ws 64) 6), addW v7 (at0 (runW [v0, v1, v2, v3, v4, v5, v6, v7] ws 64) 7)]) := hide (by
      unfold mixW
      rw [HWS.out]
      rfl)
    generalize at0 (runW [v0, v1, v2, v3, v4, v5, v6, v7] ws 64) 0 = a at *
    generalize at0 (runW [v0, v1, v2, v3, v4, v5, v6, v7] ws 64) 1 = b at *
    generalize at0 (runW [v0, v1, v2, v3, v4, v5, v6, v7] ws 64) 2 = c at *
    generalize at0 (runW [v0, v1, v2, v3, v4, v5, v6, v7] ws 64) 3 = d at *
    generalize at0 (runW [v0, v1, v2, v3, v4, v5, v6, v7] ws 64) 4 = e at *
    generalize at0 (runW [v0, v1, v2, v3, v4, v5, v6, v7] ws 64) 5 = f at *
    generalize at0 (runW [v0, v1, v2, v3, v4, v5, v6, v7] ws 64) 6 = g at *
    generalize at0 (runW [v0, v1, v2, v3, v4, v5, v6, v7] ws 64) 7 = h at *
    have hr := hinv.out.hr
    have h2 : Blk (wr.setRow (w.heap.size + 1) (wcs [addW v0 a, addW v1 b, addW v2 c, addW v3 d, addW v4 e, addW v5 f, addW v6 g, addW v7 h]).toArray) (w.heap.size + 1) 43 (wcs [addW v0 a, addW v1 b, addW v2 c, addW v3 d, addW v4 e, addW v5 f, addW v6 g, addW v7 h]).toArray := setRow_heap wr _ _ _ _ _ hr
    have HB2 : Hid (Below w.heap.size w (wr.setRow (w.heap.size + 1) (wcs [addW v0 a, addW v1 b, addW v2 c, addW v3 d, addW v4 e, addW v5 f, addW v6 g, addW v7 h]).toArray)) := hide (below_setRow hinv.out.bel (Nat.le_succ _) _)
    have HR2 := hide h2
    have HR := hide hr
    clear h2 hr hinv
    go_wp2_with ((with_reducible show wpList _ _ _ (⟨some 133, _, _, _, _, _⟩ :: _) _ _); refine wpList_build rfl _ _ rfl (by kernel_rfl) ?_; refine wpList_store_row rfl _ _ _ rfl (w.heap.size + 1) (wcs [addW v0 a, addW v1 b, addW v2 c, addW v3 d, addW v4 e, addW v5 f, addW v6 g, addW v7 h]).toArray rfl (by kernel_rfl) 43 _ HR.out (by kernel_rfl) (by kernel_rfl) (by kernel_rfl) ?_)
    generalize wr.setRow (w.heap.size + 1) (wcs [addW v0 a, addW v1 b, addW v2 c, addW v3 d, addW v4 e, addW v5 f, addW v6 g, addW v7 h]).toArray = wz at *
    repeat go_step
    exact ret_cell1 rfl rfl rfl HR2.out Try.underlying43 rfl (by kernel_rfl) ⟨by rw [HRES.out], HB2.out⟩
end Go.Proofs.Ytjjpekgkaahpbaa
