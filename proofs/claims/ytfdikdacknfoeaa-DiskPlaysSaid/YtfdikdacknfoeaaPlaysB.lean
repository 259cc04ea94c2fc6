/- DiskPlays comes to true. -/
import Derived.Test.YtfdikdacknfoeaaPlaysA
namespace Go.Proofs.Ytfdikdacknfoeaa
open Go.RowKit Zb

theorem ldoes_calls {w0 w : World} {b rb : Nat} {D : DiskM} (x : DOp) (hx : Hid x.Ok) (h : Hid (PD w0 w b rb D D (fun _ => False))) (hW : D.waits.length ≤ 4294967280) :
    Calls Try.prog 22 #[.pointer (some ⟨b, 0, none⟩), .pointer (some ⟨rb, 0, none⟩), .agg x.cells.toArray] w (PlayPost w0 rb (playStep D x)) := by
  by_cases h0 : x.kind = 0
  · exact ldoes_0 x hx h (by omega) h0
  by_cases h1 : x.kind = 1
  · exact ldoes_1 x hx h (by omega) h1
  by_cases h2 : x.kind = 2
  · exact ldoes_2 x hx h (by omega) h2
  by_cases h3 : x.kind = 3
  · exact ldoes_3 x hx h h3
  by_cases h4 : x.kind = 4
  · exact ldoes_4 x hx h (by omega) h4
  by_cases h5 : x.kind = 5
  · exact ldoes_5 x hx h h5
  · exact ldoes_6 x hx h hW (by omega)
def playRun : List DOp → DiskM → DiskM
  | [], D => D
  | x :: l, D => playRun l (playStep D x)
theorem playRun_snoc : ∀ (l : List DOp) (x : DOp) (D : DiskM), playRun (l ++ [x]) D = playStep (playRun l D) x
  | [], _, _ => rfl
  | y :: l, x, D => playRun_snoc l x (playStep D y)
theorem play_grows (D : DiskM) (x : DOp) : (playStep D x).waits.length ≤ D.waits.length + 1 := by
  unfold playStep
  split
  · exact play_waits _ _ _
  · split
    · have := sync_waits D; omega
    · split
      · omega
      · split
        · unfold DiskM.plan; split <;> simp
        · split
          · unfold DiskM.fail; split <;> simp
          · split
            · simp [DiskM.start]
            · omega
def playAt (n : Nat) (l : List DOp) (k : Nat) : DiskM := playRun (l.take k) (DiskM.new n)
theorem playAt_succ (n : Nat) (l : List DOp) (k : Nat) (x : DOp) (h : l[k]? = some x) : playAt n l (k + 1) = playStep (playAt n l k) x := by
  unfold playAt
  rw [List.take_add_one, h]
  exact playRun_snoc _ _ _
theorem playRun_waits : ∀ (l : List DOp) (D : DiskM), (playRun l D).waits.length ≤ D.waits.length + l.length
  | [], D => Nat.le_refl _
  | x :: l, D => by
    have h1 := playRun_waits l (playStep D x)
    have h2 := play_grows D x
    simp only [playRun, List.length_cons]
    omega
theorem playAt_waits (n : Nat) (l : List DOp) (k : Nat) : (playAt n l k).waits.length ≤ k := by
  have h1 := playRun_waits (l.take k) (DiskM.new n)
  have h2 : (l.take k).length ≤ k := List.length_take_le _ _
  have h3 : (DiskM.new n).waits.length = 0 := rfl
  unfold playAt
  omega
theorem PD.begin {w w1 w2 : World} {b rb n : Nat} {F G : Nat → Prop} (hb1 : Below w.heap.size w w1) (hF : ∀ x, F x → w.heap.size ≤ x) (hd : DiskAt w1 b F (DiskM.new n)) (hb2 : Below w1.heap.size w1 w2) (hG : ∀ x, G x → w1.heap.size ≤ x) (hr : RAt w2 rb G (DiskM.new n)) :
    PD w w2 b rb (DiskM.new n) (DiskM.new n) (fun _ => False) := by
  have := hb1.size
  exact ⟨hb1.trans (hb2.mono hb1.size), fun _ h => h.elim, F, G, fun x hx => ⟨hF x hx, fun h => h⟩, fun x hx => ⟨by have := hG x hx; omega, fun h => h, fun hf => by have := hd.lt x hf; have := hG x hx; omega⟩, hd.below hb2, hr⟩

set_option maxRecDepth 100000 in
set_option maxHeartbeats 4000000 in
theorem DiskPlays_walk (n : Int) (A : Option Addr) (cap : Nat) (l : List DOp) (w : World) (_ : (Lit.int .i64 n).wf = true) (_ : l.length ≤ 9223372036854775807) (hr : ReadsRows 6 DOp.cells w A l) (hok : ∀ x ∈ l, x.Ok) :
    Calls Try.prog 6 #[.int .i64 n, .slice A l.length cap] w fun e w' => e = .returned (.bool true) ∧ Below w.heap.size w w' := by
  have HR := hide hr
  have HOK := hide hok
  clear hr hok
  by_cases hn : 16 ≤ n ∧ n ≤ 512
  · obtain ⟨N, rfl⟩ : ∃ N : Nat, n = N := ⟨n.toNat, by omega⟩
    have hN0 : 16 ≤ N := by omega
    have hN1 : N ≤ 512 := by omega
    have HN := hide (dnew_calls N hN0 hN1)
    have HRN := hide (rdnew_calls N hN0 hN1)
    clear hn hN0 hN1
    go_enter Try.func6, Try.ntmps6
    go_wp2_with fail
    refine (HN.out _).mono ?_
    rintro e w1 ⟨b, F, rfl, hb1, hF, hd⟩
    have HB1 := hide hb1
    have HF := hide hF
    have HD := hide hd
    clear hb1 hF hd
    go_wp2_with fail
    refine (HRN.out _).mono ?_
    rintro e w2 ⟨rb, G, rfl, hb2, hG, hr⟩
    have HI0 : Hid (PD w w2 b rb (playAt N l 0) (playAt N l 0) (fun _ => False)) := hide (PD.begin HB1.out HF.out HD.out hb2 hG hr)
    clear hb2 hG hr HB1 HF HD HN HRN
    go_wp2_with fail
    go_loopw [5, 9] (fun dp i wr => ∃ (k b : Nat), k ≤ l.length ∧ k ≤ 60 ∧ i = .int .i64 k ∧ dp = .pointer (some ⟨b, 0, none⟩) ∧ Hid (PD w wr b rb (playAt N l k) (playAt N l k) (fun _ => False))) (fun _ i _ => 60 - (intOf i).toNat)
    case atStart => exact ⟨0, b, by omega, by omega, rfl, rfl, HI0⟩
    case round =>
      clear HI0
      obtain ⟨k, b, hk, hk60, rfl, rfl, hinv⟩ := hrel
      by_cases hlt : k < l.length ∧ k < 60
      · obtain ⟨hlt1, hlt2⟩ := hlt
        obtain ⟨x, hx⟩ : ∃ x, l[k]? = some x := ⟨_, List.getElem?_eq_getElem hlt1⟩
        have HX := hide (HOK.out x (List.mem_of_getElem? hx))
        have HS := hide (playAt_succ N l k x hx)
        have hw9 := playAt_waits N l k
        obtain ⟨bb, off, hA, hblt, hc⟩ := HR.out.kept hinv.out.bel hx
        subst hA
        have x0 : wr.cell? ⟨bb, off + k * 6, none⟩ = some (.int .i64 x.kind) := hc 0 _ rfl
        have x1 : wr.cell? ⟨bb, off + k * 6 + 1, none⟩ = some (.int .i64 x.i) := hc 1 _ rfl
        have x2 : wr.cell? ⟨bb, off + k * 6 + 2, none⟩ = some (.int .u8 x.c) := hc 2 _ rfl
        have x3 : wr.cell? ⟨bb, off + k * 6 + 3, none⟩ = some (.string x.s) := hc 3 _ rfl
        have x4 : wr.cell? ⟨bb, off + k * 6 + 4, none⟩ = some (.bool x.odd) := hc 4 _ rfl
        have x5 : wr.cell? ⟨bb, off + k * 6 + 5, none⟩ = some (.int .u64 x.mask) := hc 5 _ rfl
        clear hc hx
        go_wp2_with fail
        refine (ldoes_calls x HX hinv (by omega)).mono ?_
        rintro e w3 ⟨b3, rfl, P3⟩
        have P4 : Hid (PD w w3 b3 rb (playAt N l (k + 1)) (playAt N l (k + 1)) (fun _ => False)) := hide (by rw [HS.out]; exact P3.out)
        clear P3 hinv x0 x1 x2 x3 x4 x5 hw9
        generalize hD : playAt N l (k + 1) = D at *
        obtain ⟨F, G, hF, hG, hd, lv, wv, hr⟩ := P4.out.dk
        obtain ⟨lA, lcap, rfl, _⟩ := row_slice hr.hl
        obtain ⟨wA, wcap, rfl, _⟩ := row_slice hr.hw
        have y0 : w3.cell? ⟨rb, 0, none⟩ = some (.slice lA D.lasts.length lcap) := hr.hb.cell 0
        have y1 : w3.cell? ⟨rb, 1, none⟩ = some (.slice wA D.waits.length wcap) := hr.hb.cell 1
        have y2 : w3.cell? ⟨rb, 2, none⟩ = some (.bool D.off) := hr.hb.cell 2
        have y3 : w3.cell? ⟨rb, 3, none⟩ = some (.int .i64 D.ops) := hr.hb.cell 3
        have hdd := hide (hd.below (w1 := w3.drew) ⟨rfl, rfl, rfl, Nat.le_refl _, fun _ _ => rfl⟩)
        have P5 := hide P4.out.drew
        have HDD := hide hD
        clear hF hG hd hr P4 hD
        cases hof : D.off
        all_goals
          have HOF := hide hof
          rw [hof] at y2
          clear hof
          go_wp2_with fail
          refine wp_region_heads [0, 2, 3, 4, 5] 31 (fun w' => w'.cell? ⟨rb, 0, none⟩ = some (.slice lA D.lasts.length lcap) ∧ w'.cell? ⟨rb, 1, none⟩ = some (.slice wA D.waits.length wcap) ∧ w'.cell? ⟨rb, 2, none⟩ = w3.cell? ⟨rb, 2, none⟩ ∧ w'.cell? ⟨rb, 3, none⟩ = some (.int .i64 D.ops)) (by kernel_rfl) rfl (by kernel_rfl) (by kernel_rfl) (fun _ _ d _ _ h => by cases d <;> exact h) ⟨y0, y1, rfl, y3⟩ ?_
          iterate 5
            first
            | refine' Heads.skip rfl (by rfl) ?_
            | (refine' Heads.step rfl (by rfl) ?_ ?_
               rotate_left
               · intro w' hSw
                 obtain ⟨s0, s1, s2, s3⟩ := hSw; rw [y2] at s2
                 go_simp
                 try with_reducible rfl)
            simp only [Act.put, List.setIfInBounds_toArray, List.set_cons_zero, List.set_cons_succ]
          refine Heads.done ?_
          refine wpAnyH_ready (rs := [1]) (by kernel_rfl) (by simp) (AllReadyH.cons rfl (fun K hK => ?_) AllReadyH.nil)
          go_simp
          refine (don_calls hdd.out).mono ?_
          rintro e w' ⟨rfl, rfl⟩
          rw [HOF.out]
          refine hK.out _ _ ⟨y0, y1, rfl, y3⟩ (fun hHeld1 => ?_)
          clear hK K
          refine wpAnyH_more [6, 7, 8, 10, 11, 12, 13] 23 rfl (by kernel_rfl) (by kernel_rfl) (fun _ _ d _ _ h => by cases d <;> exact h) hHeld1 ?_
          iterate 7
            first
            | refine' Heads.skip rfl (by rfl) ?_
            | (refine' Heads.step rfl (by rfl) ?_ ?_
               rotate_left
               · intro w' hSw
                 obtain ⟨s0, s1, s2, s3⟩ := hSw; rw [y2] at s2
                 go_simp
                 try with_reducible rfl)
            simp only [Act.put, List.setIfInBounds_toArray, List.set_cons_zero, List.set_cons_succ]
          refine Heads.done ?_
          refine wpAnyH_ready (rs := [9]) (by kernel_rfl) (by simp) (AllReadyH.cons rfl (fun K hK => ?_) AllReadyH.nil)
          go_simp
          refine (dops_calls hdd.out).mono ?_
          rintro e w' ⟨rfl, rfl⟩
          refine hK.out _ _ ⟨y0, y1, rfl, y3⟩ (fun hHeld2 => ?_)
          clear hK K
          refine wpAnyH_more [14, 15, 16, 17, 19, 20, 21, 22, 23] 13 rfl (by kernel_rfl) (by kernel_rfl) (fun _ _ d _ _ h => by cases d <;> exact h) hHeld2 ?_
          iterate 9
            first
            | refine' Heads.skip rfl (by rfl) ?_
            | (refine' Heads.step rfl (by rfl) ?_ ?_
               rotate_left
               · intro w' hSw
                 obtain ⟨s0, s1, s2, s3⟩ := hSw; rw [y2] at s2
                 go_simp
                 try with_reducible rfl)
            simp only [Act.put, List.setIfInBounds_toArray, List.set_cons_zero, List.set_cons_succ]
          refine Heads.done ?_
          refine wpAnyH_ready (rs := [18]) (by kernel_rfl) (by simp) (AllReadyH.cons rfl (fun K hK => ?_) AllReadyH.nil)
          go_simp
          refine (dwaits_calls hdd.out).mono ?_
          rintro e w' ⟨rfl, rfl⟩
          refine hK.out _ _ ⟨y0, y1, rfl, y3⟩ (fun hHeld3 => ?_)
          clear hK K
          refine wpAnyH_more [24, 25, 26, 27, 29, 30, 31, 32, 33] 3 rfl (by kernel_rfl) (by kernel_rfl) (fun _ _ d _ _ h => by cases d <;> exact h) hHeld3 ?_
          iterate 9
            first
            | refine' Heads.skip rfl (by rfl) ?_
            | (refine' Heads.step rfl (by rfl) ?_ ?_
               rotate_left
               · intro w' hSw
                 obtain ⟨s0, s1, s2, s3⟩ := hSw; rw [y2] at s2
                 go_simp
                 try with_reducible rfl)
            simp only [Act.put, List.setIfInBounds_toArray, List.set_cons_zero, List.set_cons_succ]
          refine Heads.done ?_
          refine wpAnyH_ready (rs := [28]) (by kernel_rfl) (by simp) (AllReadyH.cons rfl (fun K hK => ?_) AllReadyH.nil)
          go_simp
          refine (dblocks_calls hdd.out).mono ?_
          rintro e w' ⟨rfl, rfl⟩
          refine hK.out _ _ ⟨y0, y1, rfl, y3⟩ (fun hHeld4 => ?_)
          clear hK K
          refine wpAnyH_more [34, 35] 0 rfl (by kernel_rfl) (by kernel_rfl) (fun _ _ d _ _ h => by cases d <;> exact h) hHeld4 ?_
          iterate 2
            first
            | refine' Heads.skip rfl (by rfl) ?_
            | (refine' Heads.step rfl (by rfl) ?_ ?_
               rotate_left
               · intro w' hSw
                 obtain ⟨s0, s1, s2, s3⟩ := hSw; rw [y2] at s2
                 go_simp
                 try with_reducible rfl)
            simp only [Act.put, List.setIfInBounds_toArray, List.set_cons_zero, List.set_cons_succ]
          refine Heads.done ?_
          refine wpAnyH_done (by kernel_rfl) ?_ _
          go_wp2_with fail
          go_roundw
          case rel => exact ⟨k + 1, b3, by omega, by omega, by go_num, rfl, by rw [HDD.out]; exact P5⟩
          case measure => simp [intOf]; omega
      · by_cases hlt1 : k < l.length
        all_goals
          go_wp2_with fail
          refine (lknown4_calls _).mono ?_
          rintro e w6 ⟨rfl, hb6⟩
          have HB6 := hide (hinv.out.bel.trans (hb6.mono hinv.out.bel.size))
          clear hb6
          go_wp2_with fail
          go_ret
          exact ⟨rfl, HB6.out⟩
  · have HN := hide (dnew_bad n (by omega))
    have HRN := hide (rdnew_bad n (by omega))
    clear hn
    go_enter Try.func6, Try.ntmps6
    go_wp2_with fail
    refine (HN.out _).mono ?_
    rintro e w1 ⟨rfl, rfl⟩
    go_wp2_with fail
    refine (HRN.out _).mono ?_
    rintro e w2 ⟨rb, rfl, hb2⟩
    have HB2 := hide hb2
    clear hb2
    go_wp2_with fail
    go_loop [5, 9] (fun dp i => dp = .pointer none ∧ i = .int .i64 0) (fun _ _ => 0)
    case atStart => exact ⟨rfl, rfl⟩
    case round =>
      obtain ⟨rfl, rfl⟩ := hrel
      by_cases hl0 : 0 < l.length
      all_goals
        go_wp2_with fail
        refine (lknown4_calls _).mono ?_
        rintro e w6 ⟨rfl, hb6⟩
        have HB6 := hide (HB2.out.trans (hb6.mono HB2.out.size))
        clear hb6
        go_wp2_with fail
        go_ret
        exact ⟨rfl, HB6.out⟩
end Go.Proofs.Ytfdikdacknfoeaa
