/- Chapter 6: SlotsPlays comes to true. -/
import Derived.Test.YtpcceinjifdgnaaPlays6A
import Derived.Test.YtpcceinjifdgnaaCount
namespace Go.Proofs.Ytpcceinjifdgnaa.Zb
theorem wpAnyH_weak {P : Program} {md : Region.Mode} {ops : Array Oper} {Q : Exit → Act → World → Prop} {S S' : World → Prop} (hS : ∀ w, S' w → S w) : ∀ {fuel : Nat} {listed : Array Bool} {a : Act} {w : World}, wpAnyH P md ops Q S' fuel listed a w → wpAnyH P md ops Q S fuel listed a w
  | 0, _, _, _, h => h
  | _ + 1, _, _, _, h => ⟨h.1, fun i hi => wpOp_mono (fun _ w' h' => ⟨hS w' h'.1, wpAnyH_weak hS h'.2⟩) (h.2 i hi)⟩
end Go.Proofs.Ytpcceinjifdgnaa.Zb
namespace Go.Proofs.Ytpcceinjifdgnaa
open Go.RowKit Zb

def play6S (D : DiskM) (x : SOp) : DiskM := if 5000 < x.s.size then D else play6 D x
def play6Run : List SOp → DiskM → DiskM
  | [], D => D
  | x :: l, D => play6Run l (play6S D x)
theorem play6Run_snoc : ∀ (l : List SOp) (x : SOp) (D : DiskM), play6Run (l ++ [x]) D = play6S (play6Run l D) x
  | [], _, _ => rfl
  | y :: l, x, D => play6Run_snoc l x (play6S D y)
def playAt6 (n : Nat) (l : List SOp) (k : Nat) : DiskM := play6Run (l.take k) (DiskM.new n)
theorem playAt6_succ (n : Nat) (l : List SOp) (k : Nat) (x : SOp) (h : l[k]? = some x) : playAt6 n l (k + 1) = play6S (playAt6 n l k) x := by
  unfold playAt6
  rw [List.take_add_one, h]
  exact play6Run_snoc _ _ _
theorem Good.run : ∀ (l : List SOp) {D : DiskM}, Good D → Good (play6Run l D)
  | [], _, h => h
  | x :: l, D, h => Good.run l (by unfold play6S; split; exact h; exact h.play x)
theorem Good.at_ (n : Nat) (hn : 16 ≤ n) (l : List SOp) (k : Nat) : Good (playAt6 n l k) := (Good.new n hn).run _
theorem PD.begin6 {w w1 w2 : World} {b rb n : Nat} {F G : Nat → Prop} (hb1 : Below w.heap.size w w1) (hF : ∀ x, F x → w.heap.size ≤ x) (hd : DiskAt w1 b F (DiskM.new n)) (hb2 : Below w1.heap.size w1 w2) (hG : ∀ x, G x → w1.heap.size ≤ x) (hr : RAt w2 rb G (DiskM.new n)) :
    PD w w2 b rb (DiskM.new n) (DiskM.new n) (fun _ => False) := by
  have := hb1.size
  exact ⟨hb1.trans (hb2.mono hb1.size), fun _ h => h.elim, F, G, fun x hx => ⟨hF x hx, fun h => h⟩, fun x hx => ⟨by have := hG x hx; omega, fun h => h, fun hf => by have := hd.lt x hf; have := hG x hx; omega⟩, hd.below hb2, hr⟩

set_option maxRecDepth 100000 in
set_option maxHeartbeats 4000000 in
theorem SlotsPlays_walk (n : Int) (A : Option Addr) (cap : Nat) (l : List SOp) (w : World) (h0 : (Lit.int .i64 n).wf = true) (_ : l.length ≤ 9223372036854775807) (hr : ReadsRows 5 SOp.cells w A l) (hok : ∀ x ∈ l, x.Ok) :
    Calls Try.prog 7 #[.int .i64 n, .slice A l.length cap] w fun e w' => e = .returned (.bool true) ∧ Below w.heap.size w w' := by
  have HR := hide hr
  have HOK := hide hok
  have hb := hide (bounds_i64 h0)
  clear hr hok h0
  have HC1 := hide (wCount_calls n 60 hb.out.1 hb.out.2 (by omega) (by omega))
  obtain ⟨c, hc, hc60⟩ : ∃ c : Nat, countM n 60 = c ∧ c < 60 := ⟨(countM n 60).toNat, by unfold countM; omega, by unfold countM; omega⟩
  rw [hc] at HC1
  clear hc hb
  obtain ⟨N, hn, hN0, hN1⟩ : ∃ N : Nat, (16 : Int) + c = N ∧ 16 ≤ N ∧ N < 76 := ⟨16 + c, by omega, by omega, by omega⟩
  have HN := hide (dnew_calls N hN0 (by omega))
  have HRN := hide (rdnew_calls N hN0 (by omega))
  have HGA := hide (Good.at_ N hN0 l)
  go_enter Try.func7, Try.ntmps7
  go_wp2_with fail
  refine (HC1.out _).mono ?_
  rintro e w' ⟨rfl, rfl⟩
  go_wp2_with fail
  clear hn HC1
  refine (HN.out _).mono ?_
  rintro e w1 ⟨b, F, rfl, hb1, hF, hd⟩
  have HB1 := hide hb1
  have HF := hide hF
  have HD := hide hd
  clear hb1 hF hd
  go_wp2_with fail
  refine (HRN.out _).mono ?_
  rintro e w2 ⟨rb, G, rfl, hb2, hG, hr⟩
  have HI0 : Hid (PD w w2 b rb (playAt6 N l 0) (playAt6 N l 0) (fun _ => False)) := hide (PD.begin6 HB1.out HF.out HD.out hb2 hG hr)
  clear hb2 hG hr HB1 HF HD HN HRN
  go_wp2_with fail
  go_loopw [10] (fun i wr => ∃ k : Nat, k ≤ l.length ∧ k ≤ 30 ∧ i = .int .i64 k ∧ Hid (PD w wr b rb (playAt6 N l k) (playAt6 N l k) (fun _ => False))) (fun i _ => 30 - (intOf i).toNat)
  case atStart => exact ⟨0, by omega, by omega, rfl, HI0⟩
  case round =>
    clear HI0
    obtain ⟨k, hk, hk30, rfl, hinv⟩ := hrel
    by_cases hlt : k < l.length ∧ k < 30
    · obtain ⟨hlt1, hlt2⟩ := hlt
      obtain ⟨x, hx⟩ : ∃ x, l[k]? = some x := ⟨_, List.getElem?_eq_getElem hlt1⟩
      have HX := hide (HOK.out x (List.mem_of_getElem? hx))
      have hs0 := playAt6_succ N l k x hx
      obtain ⟨bb, off, hA, hblt, hcc⟩ := HR.out.kept hinv.out.bel hx
      subst hA
      have x0 : wr.cell? ⟨bb, off + k * 5, none⟩ = some (.int .i64 x.kind) := hcc 0 _ rfl
      have x1 : wr.cell? ⟨bb, off + k * 5 + 1, none⟩ = some (.int .i64 x.slot) := hcc 1 _ rfl
      have x2 : wr.cell? ⟨bb, off + k * 5 + 2, none⟩ = some (.string x.s) := hcc 2 _ rfl
      have x3 : wr.cell? ⟨bb, off + k * 5 + 3, none⟩ = some (.int .i64 x.size) := hcc 3 _ rfl
      have x4 : wr.cell? ⟨bb, off + k * 5 + 4, none⟩ = some (.int .u64 x.mask) := hcc 4 _ rfl
      clear hcc hx
      by_cases hbig : 5000 < x.s.size
      · have HS : Hid (playAt6 N l (k + 1) = playAt6 N l k) := hide (by rw [hs0]; unfold play6S; rw [if_pos hbig])
        clear hs0
        go_wp2_with fail
        go_roundw
        case rel => exact ⟨k + 1, by omega, by omega, by go_num, by rw [HS.out]; exact hinv⟩
        case measure => simp [intOf]; omega
      · have HS : Hid (playAt6 N l (k + 1) = play6 (playAt6 N l k) x) := hide (by rw [hs0]; unfold play6S; rw [if_neg hbig])
        clear hs0
        have HG := hide (HGA.out k)
        have hinvd := hide hinv.out.drew
        have hq0 : wr.heap[bb]? = w.heap[bb]? := hinv.out.bel.block bb hblt
        go_wp2_with fail
        refine wp_region_heads [0, 1, 2, 3, 4, 5] 27 (fun w' => w'.heap[bb]? = w.heap[bb]?) (by kernel_rfl) rfl (by kernel_rfl) (by kernel_rfl) (fun _ _ d _ _ h => by cases d <;> exact h) hq0 ?_
        iterate 6
          first
          | refine' Heads.skip rfl (by rfl) ?_
          | (refine' Heads.step rfl (by rfl) ?_ ?_
             rotate_left
             · intro w' hSw
               have hsw := hSw.trans hq0.symm; have z0 := (World.cell?_of_block (a := ⟨bb, off + k * 5, none⟩) hsw).trans x0; have z1 := (World.cell?_of_block (a := ⟨bb, off + k * 5 + 1, none⟩) hsw).trans x1; have z2 := (World.cell?_of_block (a := ⟨bb, off + k * 5 + 2, none⟩) hsw).trans x2; have z3 := (World.cell?_of_block (a := ⟨bb, off + k * 5 + 3, none⟩) hsw).trans x3; have z4 := (World.cell?_of_block (a := ⟨bb, off + k * 5 + 4, none⟩) hsw).trans x4
               go_simp
               try with_reducible rfl)
          simp only [Act.put, List.setIfInBounds_toArray, List.set_cons_zero, List.set_cons_succ]
        refine Heads.done ?_
        refine wpAnyH_ready (rs := [6]) (by kernel_rfl) (by simp) (AllReadyH.cons rfl (fun K hK => ?_) AllReadyH.nil)
        go_simp
        refine (does6_calls x HX hinvd HG).mono ?_
        rintro e w3 ⟨rfl, P3⟩
        have P4 : Hid (PD w w3 b rb (playAt6 N l (k + 1)) (playAt6 N l (k + 1)) (fun _ => False)) := hide (by rw [HS.out]; exact P3.out)
        have hq3 : w3.heap[bb]? = w.heap[bb]? := P4.out.bel.block bb hblt
        refine hK.out _ _ hq3 (fun hHeld1 => ?_)
        clear hK K
        clear x0 x1 x2 x3 x4 P3
        have HG9 := hide (HGA.out (k + 1))
        have HPD := hide (rfl : playAt6 N l (k + 1) = playAt6 N l (k + 1))
        obtain ⟨D, hD⟩ : ∃ D, playAt6 N l (k + 1) = D := ⟨_, rfl⟩
        clear HPD
        rw [hD] at P4 HG9
        have HDD := hide hD
        clear hD
        obtain ⟨F, G, hF, hG, hd, lv, wv, hr⟩ := P4.out.dk
        have y2 : w3.cell? ⟨rb, 2, none⟩ = some (.bool D.off) := hr.hb.cell 2
        have y3 : w3.cell? ⟨rb, 3, none⟩ = some (.int .i64 D.ops) := hr.hb.cell 3
        have hdd := hide hd
        have hrr := hide (hr.at_)
        clear hF hG hd hr
        refine wpAnyH_weak (S' := fun w' => (w'.heap[bb]? = w.heap[bb]? ∧ w'.cell? ⟨rb, 2, none⟩ = some (.bool D.off)) ∧ w'.cell? ⟨rb, 3, none⟩ = some (.int .i64 D.ops)) (fun _ h => h.1.1) ?_
        have hno : ((!D.off) == D.off) = false := by cases D.off <;> rfl
        refine wpAnyH_more [7, 8, 9, 11, 12, 13, 14] 19 rfl (by kernel_rfl) (by kernel_rfl) (fun _ _ d _ _ h => by cases d <;> exact h) ⟨⟨hq3, y2⟩, y3⟩ ?_
        iterate 7
          first
          | refine' Heads.skip rfl (by rfl) ?_
          | (refine' Heads.step rfl (by rfl) ?_ ?_
             rotate_left
             · intro w' hSw
               obtain ⟨⟨_, s2⟩, s3⟩ := hSw
               go_simp
               try with_reducible rfl)
          simp only [Act.put, List.setIfInBounds_toArray, List.set_cons_zero, List.set_cons_succ]
        refine Heads.done ?_
        refine wpAnyH_ready (rs := [10]) (by kernel_rfl) (by simp) (AllReadyH.cons rfl (fun K hK => ?_) AllReadyH.nil)
        go_simp
        refine (don_calls hdd.out).mono ?_
        rintro e w' ⟨rfl, rfl⟩
        refine hK.out _ _ ⟨⟨hq3, y2⟩, y3⟩ (fun hHeld1 => ?_)
        clear hK K
        refine wpAnyH_more [15, 16, 17, 18, 20, 21, 22, 23] 10 rfl (by kernel_rfl) (by kernel_rfl) (fun _ _ d _ _ h => by cases d <;> exact h) hHeld1 ?_
        iterate 8
          first
          | refine' Heads.skip rfl (by rfl) ?_
          | (refine' Heads.step rfl (by rfl) ?_ ?_
             rotate_left
             · intro w' hSw
               obtain ⟨⟨_, s2⟩, s3⟩ := hSw
               go_simp
               try with_reducible rfl)
          simp only [Act.put, List.setIfInBounds_toArray, List.set_cons_zero, List.set_cons_succ]
        refine Heads.done ?_
        refine wpAnyH_ready (rs := [19]) (by kernel_rfl) (by simp) (AllReadyH.cons rfl (fun K hK => ?_) AllReadyH.nil)
        go_simp
        refine (dops_calls hdd.out).mono ?_
        rintro e w' ⟨rfl, rfl⟩
        refine hK.out _ _ ⟨⟨hq3, y2⟩, y3⟩ (fun hHeld2 => ?_)
        clear hK K
        refine wpAnyH_more [24, 25, 26, 27, 29] 4 rfl (by kernel_rfl) (by kernel_rfl) (fun _ _ d _ _ h => by cases d <;> exact h) hHeld2 ?_
        iterate 5
          first
          | refine' Heads.skip rfl (by rfl) ?_
          | (refine' Heads.step rfl (by rfl) ?_ ?_
             rotate_left
             · intro w' hSw
               obtain ⟨⟨_, s2⟩, s3⟩ := hSw
               go_simp
               try with_reducible rfl)
          simp only [Act.put, List.setIfInBounds_toArray, List.set_cons_zero, List.set_cons_succ]
        refine Heads.done ?_
        refine wpAnyH_ready (rs := [28]) (by kernel_rfl) (by simp) (AllReadyH.cons rfl (fun K hK => ?_) AllReadyH.nil)
        go_simp
        refine (sRoom_calls hdd.out).mono ?_
        rintro e w' ⟨rfl, rfl⟩
        refine hK.out _ _ ⟨⟨hq3, y2⟩, y3⟩ (fun hHeld3 => ?_)
        clear hK K
        refine wpAnyH_ready (rs := [30]) (by kernel_rfl) (by simp) (AllReadyH.cons rfl (fun K hK => ?_) AllReadyH.nil)
        go_simp
        refine (rsRoom_calls hrr.out).mono ?_
        rintro e w' ⟨rfl, rfl⟩
        refine hK.out _ _ ⟨⟨hq3, y2⟩, y3⟩ (fun hHeld4 => ?_)
        clear hK K
        refine wpAnyH_more [31, 32] 0 rfl (by kernel_rfl) (by kernel_rfl) (fun _ _ d _ _ h => by cases d <;> exact h) hHeld4 ?_
        iterate 2
          first
          | refine' Heads.skip rfl (by rfl) ?_
          | (refine' Heads.step rfl (by rfl) ?_ ?_
             rotate_left
             · intro w' hSw
               obtain ⟨⟨_, s2⟩, s3⟩ := hSw
               go_simp
               try with_reducible rfl)
          simp only [Act.put, List.setIfInBounds_toArray, List.set_cons_zero, List.set_cons_succ]
        refine Heads.done ?_
        refine wpAnyH_done (by kernel_rfl) ?_ _
        go_wp2_with fail
        go_roundw
        case rel => exact ⟨k + 1, by omega, by omega, by go_num, by rw [HDD.out]; exact P4⟩
        case measure => simp [intOf]; omega
    · have HG := hide (HGA.out k)
      obtain ⟨D, hD⟩ : ∃ D, playAt6 N l k = D := ⟨_, rfl⟩
      rw [hD] at hinv HG
      clear hD HGA
      by_cases hlt1 : k < l.length
      all_goals
        go_wp2_with fail
        go_loopw [11] (fun i wr => ∃ j : Nat, j ≤ N ∧ i = .int .i64 j ∧ Hid (PD w wr b rb D D (fun _ => False))) (fun i _ => N - (intOf i).toNat)
        case atStart => exact ⟨0, by omega, rfl, hinv⟩
        case round =>
          clear hinv
          obtain ⟨j, hj, rfl, hinv⟩ := hrel
          obtain ⟨F, G, hF, hG, hd, hr⟩ := hinv.out.dk
          have HON := hide (don_calls hd)
          have HRD := hide (dread_calls hd (by rw [HG.out.w]; simp) (j : Int))
          have HRR := hide (rdread_calls hr (by rw [HG.out.w]; simp) (j : Int))
          clear hF hG hd hr F G
          by_cases hjN : j < N
          · go_wp2_with fail
            refine HON.out.mono ?_
            rintro e w' ⟨rfl, rfl⟩
            cases hof : D.off
            · go_wp2_with fail
              refine HRD.out.mono ?_
              rintro e w' ⟨rfl, rfl⟩
              go_wp2_with fail
              refine HRR.out.mono ?_
              rintro e w' ⟨rfl, rfl⟩
              generalize (D.read (j : Int)).1 = v1
              generalize (D.read (j : Int)).2 = v2
              go_wp2_with fail
              go_roundw
              case rel => exact ⟨j + 1, by omega, by go_num, hinv⟩
              case measure => simp [intOf]; omega
            · go_wp2_with fail
              refine (lknown6_calls _).mono ?_
              rintro e w6 ⟨rfl, hb6⟩
              have HB6 := hide (hinv.out.bel.trans (hb6.mono hinv.out.bel.size))
              clear hb6
              go_wp2_with fail
              go_ret
              exact ⟨rfl, HB6.out⟩
          · go_wp2_with fail
            refine (lknown6_calls _).mono ?_
            rintro e w6 ⟨rfl, hb6⟩
            have HB6 := hide (hinv.out.bel.trans (hb6.mono hinv.out.bel.size))
            clear hb6
            go_wp2_with fail
            go_ret
            exact ⟨rfl, HB6.out⟩
end Go.Proofs.Ytpcceinjifdgnaa
