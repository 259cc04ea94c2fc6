/- Chapter 2: Write, walked. -/
import Derived.Test.YtjjpekgkaahpbaaDigK
namespace Go.Proofs.Ytjjpekgkaahpbaa
open Go.RowKit Zb

/-- b[64:] at the operation -/
theorem wpList_drop64 {ops : Array Oper} {rest : List Oper} {o : Oper} {a : Act} {Q : Exit → Act → World → Prop} {w : World} (hgd : o.guard = none) (x : Operand) (ho : o.op = .slice 30 x (some (.const (.int .i64 64))) none none)
    {A : Option Addr} {n cap : Nat} (hx : a.eval x = .slice A n cap) (hn : 64 ≤ n)
    (h : ∀ A', A' = (if cap = 64 then A else A.map (·.add 64)) → wpList Try.prog ops Q rest (a.put o.dst (.slice A' (n - 64) (cap - 64))) w) : wpList Try.prog ops Q (o :: rest) a w := by
  refine wpList_plain hgd fun K hK => ?_
  have hr : (Instr.sliceAt 30 (.slice A n cap) (some (.int .i64 ((64 : Nat) : Int))) none none).run Try.prog w = .ok (.slice (if cap = 64 then A else A.map (·.add 64)) (n - 64) (cap - 64)) w := by
    rw [Instr.sliceAt, Sem.run_bind, run_underlying Try.underlying30, Result.andThen_ok]
    exact slice_drop hn w
  have hc : a.eval (.const (.int .i64 64)) = .int .i64 ((64 : Nat) : Int) := rfl
  unfold Oper.wp execOp
  simp only [ho, hx, Option.map_some, Option.map_none, hc, hr, Sem.run_bind, Sem.run_pure, Result.andThen_ok]
  exact hK _ _ (h _ rfl)
/-- what Write leaves -/
def WPost (w : World) (b : Nat) (v : List Int) (l : List UInt8) (n : Int) (e : Ending) (w' : World) : Prop :=
  e = .returned (.tuple #[]) ∧ Turned (· = b) w w' ∧ ∃ rs, HashIn w' b v l n rs

/-- at its loop: what is left is to be eaten -/
def WLoop (w : World) (b : Nat) (v : List Int) (l : List UInt8) (n : Int) (rs : Value) (v' : List Int) (l' : List UInt8) (u : Value) (wr : World) : Prop :=
  Turned (· = b) w wr ∧ Blk wr b 46 (hcells true v' rs n) ∧ v'.length = 8 ∧ BytesAt wr u l' ∧ eatA v l = eatA v' l'

set_option maxRecDepth 20000 in
set_option maxHeartbeats 4000000 in
theorem gWrite_calls {w : World} {b : Nat} {v : List Int} {l : List UInt8} {n : Nat} {rs : Value} (h : HashIn w b v l n rs) (s : ByteArray) (hl : l.length < 64) (hn : n + s.size ≤ 100000000000) :
    Calls Try.prog 20 #[.pointer (some ⟨b, 0, none⟩), .string s] w (WPost w b (eatA v (l ++ s.data.toList)).1 (eatA v (l ++ s.data.toList)).2 (n + s.size) ) := by
  obtain ⟨A, cap, rfl, hcap, hA⟩ := h.hs.at_form
  have c0 : w.cell? ⟨b, 0, none⟩ = some (.bool true) := (h.hb.cell 0).trans (hcells_0 _ _ _ _)
  have c10 : w.cell? ⟨b, 10, none⟩ = some (.int .i64 n) := (h.hb.cell 10).trans (hcells_10 _ h.hv _ _)
  have f10 : w.frozen? ⟨b, 10, none⟩ = false := h.hb.frozen 10
  have h1 := h.hb.set_ 10 (.int .i64 (n + s.size))
  rw [hcells_set10 _ h.hv] at h1
  have htu : Turned (· = b) w (w.setCell ⟨b, 10, none⟩ (.int .i64 (n + s.size))) := (Turned.refl (· = b) w).setCell (.inl rfl) _
  have hbs : BytesAt (w.setCell ⟨b, 10, none⟩ (.int .i64 (n + s.size))) (.slice A l.length cap) l := h.hs.of_block fun g hg => htu.block g (h.hs.lt g hg) (fun e => h.hs.ne h.hb (by decide) (by rw [hg]; exact congrArg some e))
  have HH := hide h
  have H1 := hide h1
  have HTU := hide htu
  have HBS := hide hbs
  have HV := hide h.hv
  have HV := hide h.hv
  have hnI : (n : Int) + (s.size : Int) ≤ 100000000000 := by omega
  have hsI : (s.size : Int) ≤ 100000000000 := by omega
  clear h h1 htu hbs
  go_enter Try.func20, Try.ntmps20
  go_wp2_with fail
  refine (gthere_calls b true _ c0).mono ?_
  rintro e w' ⟨rfl, rfl⟩
  go_wp2_with fail
  generalize hW1 : w.setCell ⟨b, 10, none⟩ (.int .i64 (n + s.size)) = W1 at *
  clear hW1 c0 c10 f10
  refine wp_region_heads [0, 1, 2, 3, 4, 5, 6, 7, 8, 9, 10, 11, 12, 13, 14, 15] 2 (fun w' => Blk w' b 46 (hcells true v (.slice A l.length cap) ((n : Int) + (s.size : Int)))) (by kernel_rfl) rfl (by kernel_rfl) (by kernel_rfl) (fun _ _ d _ _ h => by cases d <;> exact h) H1.out ?_
  iterate 16
    refine' Heads.step rfl (by rfl) ?_ ?_
    rotate_left
    · intro w' hSw
      have c9 := (hSw.cell 9).trans (hcells_9 _ HV.out _ _)
      go_simp
      try with_reducible rfl
    simp only [Act.put, List.setIfInBounds_toArray, List.set_cons_zero, List.set_cons_succ]
  refine Heads.done ?_
  refine wpAnyH_ready (rs := [16]) (by kernel_rfl) (by simp) (AllReadyH.cons rfl (fun K hK => ?_) AllReadyH.nil)
  rw [if_pos (by rfl)]
  refine bytes_app_op (.tmp 31) (.tmp 32) rfl (HBS.out.below (Below.refl _ _).drew).shut rfl s rfl (by omega) ?_
  intro u w2 hu2 hb2
  refine hK.out _ _ (Blk.below (w := W1.drew) H1.out hb2.out (Blk.lt H1.out)) (fun hHeld1 => ?_)
  clear hK K
  refine wpAnyH_ready (rs := [17]) (by kernel_rfl) (by simp) (AllReadyH.cons rfl (fun K hK => ?_) AllReadyH.nil)
  go_simp
  refine hK.out _ _ hHeld1 (fun hHeld2 => ?_)
  clear hK K
  refine wpAnyH_done (by kernel_rfl) ?_ _
  have HI0 : Hid (WLoop w b v (l ++ s.data.toList) ((n : Int) + (s.size : Int)) (.slice A l.length cap) v (l ++ s.data.toList) u w2) := hide ⟨HTU.out.drew.then_below hb2.out, hHeld1, HV.out, hu2.out, rfl⟩
  clear hb2 hu2 hHeld1 hHeld2 HBS HTU H1 HH
  generalize l ++ s.data.toList = l0 at *
  go_wp2_with fail
  go_loopw [4] (fun u wr => ∃ v' l', Hid (WLoop w b v l0 ((n : Int) + (s.size : Int)) (.slice A l.length cap) v' l' u wr)) (fun u _ => (match u with | .slice _ k _ => k | _ => 0))
  case atStart => exact ⟨_, _, HI0⟩
  case round =>
  clear HI0
  obtain ⟨v', l', hinv⟩ := hrel
  obtain ⟨A', cap', rfl, hcap', hA'⟩ := hinv.out.2.2.2.1.at_form
  by_cases hge : 64 ≤ l'.length
  · have hgeI : (64 : Int) ≤ (l'.length : Int) := by omega
    have hc64 : 64 ≤ cap' := by omega
    have hc64I : (64 : Int) ≤ (cap' : Int) := by omega
    have HT := hide (hinv.out.2.2.2.1.take 64 (by omega) hge)
    have HB2 := hide hinv.out.2.1
    have HV2 := hide hinv.out.2.2.1
    have HL64 : Hid ((l'.take 64).length = 64) := hide (by rw [List.length_take]; omega)
    have HNE : Hid ((Value.slice A' 64 cap').ownBlock ≠ some b) := hide (HT.out.ne hinv.out.2.1 (by decide))
    go_wp2_with fail
    refine wp_region_heads [0, 1, 2, 3, 5, 6, 7] 5 (fun w' => BytesAt w' (.slice A' 64 cap') (l'.take 64)) (by kernel_rfl) rfl (by kernel_rfl) (by kernel_rfl) (fun _ _ d _ _ h => by cases d <;> exact h) (HT.out.of_block fun _ _ => rfl) ?_
    iterate 7
      refine' Heads.step rfl (by rfl) ?_ ?_
      rotate_left
      · intro w' hSw
        have hcv := hSw.conv
        go_simp
        try with_reducible rfl
      simp only [Act.put, List.setIfInBounds_toArray, List.set_cons_zero, List.set_cons_succ]
    refine Heads.done ?_
    refine wpAnyH_ready (rs := [4]) (by kernel_rfl) (by simp) (AllReadyH.cons rfl (fun K hK => ?_) AllReadyH.nil)
    rw [if_pos (by rfl)]
    refine wp_load_state (.tmp 40) rfl rfl HB2.out HV2.out ?_
    refine hK.out _ _ (HT.out.of_block fun _ _ => rfl) (fun hHeld1 => ?_)
    clear hK K
    refine wpAnyH_ready (rs := [8]) (by kernel_rfl) (by simp) (AllReadyH.cons rfl (fun K hK => ?_) AllReadyH.nil)
    go_simp
    refine (gmix8 HV2.out (l'.take 64) HL64.out _).mono ?_
    rintro e w3 ⟨rfl, hb3⟩
    refine hK.out _ _ (hHeld1.below hb3) (fun hHeld2 => ?_)
    clear hK K
    refine wpAnyH_more [9, 10] 1 rfl (by kernel_rfl) (by kernel_rfl) (fun _ _ d _ _ h => by cases d <;> exact h) hHeld2 ?_
    iterate 2
      refine' Heads.step rfl (by rfl) ?_ ?_
      rotate_left
      · intro w' hSw
        have hcv := hSw.conv
        go_simp
        try with_reducible rfl
      simp only [Act.put, List.setIfInBounds_toArray, List.set_cons_zero, List.set_cons_succ]
    refine Heads.done ?_
    refine wpAnyH_ready (rs := [11]) (by kernel_rfl) (by simp) (AllReadyH.cons rfl (fun K hK => ?_) AllReadyH.nil)
    rw [if_pos (by rfl)]
    refine wp_store_state (.tmp 47) (.tmp 45) rfl rfl rfl (Blk.below (w := wr.drew) HB2.out hb3 (Blk.lt HB2.out)) HV2.out (mixW_length _ _) ?_
    refine hK.out _ _ (hHeld2.of_block fun g hg => setRow_other _ _ _ _ (fun e => HNE.out (by rw [← e]; exact hg))) (fun hHeld3 => ?_)
    clear hK K
    refine wpAnyH_done (by kernel_rfl) ?_ _
    have HD := hide (hinv.out.2.2.2.1.drop 64 (by omega) hge)
    have hT2 : Turned (· = b) w (w3.setRow b (hcells true (mixW v' (l'.take 64)) (.slice A l.length cap) ((n : Int) + (s.size : Int)))) :=
      (hinv.out.1.drew.then_below hb3).trans (G := (· = b)) ⟨rfl, rfl, rfl, by simp, fun k _ hk => setRow_other _ _ _ _ hk⟩ (fun _ h => .inl h)
    have HN : Hid (∀ A2, A2 = (if cap' = 64 then A' else A'.map (·.add 64)) → WLoop w b v l0 ((n : Int) + (s.size : Int)) (.slice A l.length cap) (mixW v' (l'.take 64)) (l'.drop 64) (.slice A2 (l'.length - 64) (cap' - 64)) (w3.setRow b (hcells true (mixW v' (l'.take 64)) (.slice A l.length cap) ((n : Int) + (s.size : Int))))) := hide fun A2 hA2 =>
      ⟨hT2, setRow_heap _ _ _ _ _ _ (Blk.below (w := wr.drew) HB2.out hb3 (Blk.lt HB2.out)), mixW_length _ _, (BytesAt.below (w := wr.drew) ((HD.out A2 hA2).of_block fun _ _ => rfl) hb3).of_block (fun g hg => setRow_other _ _ _ _ (fun e => by
        have h1 := (BytesAt.below (w := wr.drew) ((HD.out A2 hA2).of_block fun _ _ => rfl) hb3).ne (Blk.below (w := wr.drew) HB2.out hb3 (Blk.lt HB2.out)) (by decide)
        exact h1 (by rw [← e]; exact hg))), by rw [hinv.out.2.2.2.2, eatA_step hge]⟩
    clear hb3 hHeld1 hHeld2 hHeld3 hT2 HB2 HT HNE HD hinv
    generalize w3.setRow b (hcells true (mixW v' (l'.take 64)) (.slice A l.length cap) ((n : Int) + (s.size : Int))) = w4 at *
    have HGE := hide hge
    clear hgeI hc64 hc64I hge
    go_wp2_with ((with_reducible show wpList _ _ _ (⟨some 49, _, _, _, _, _⟩ :: _) _ _); refine wpList_drop64 rfl _ rfl rfl HGE.out ?_; intro A2 hA2; have HN2 := hide (HN.out A2 hA2); clear HN hA2)
    have hge := HGE.out
    go_roundw
    case rel => exact ⟨_, _, HN2⟩
    case measure => simp only; omega
  · have hltI : (l'.length : Int) < 64 := by omega
    have c9 : wr.cell? ⟨b, 9, none⟩ = some (.slice A l.length cap) := (hinv.out.2.1.cell 9).trans (hcells_9 _ hinv.out.2.2.1 _ _)
    have f9 : wr.frozen? ⟨b, 9, none⟩ = false := hinv.out.2.1.frozen 9
    have h9 := hinv.out.2.1.set_ 9 (.slice A' l'.length cap')
    rw [hcells_set9 _ hinv.out.2.2.1] at h9
    have h8 := hinv.out.1.setCell (p := ⟨b, 9, none⟩) (.inl rfl) (.slice A' l'.length cap')
    have HP : Hid (WPost w b (eatA v l0).1 (eatA v l0).2 ((n : Int) + (s.size : Int)) (.returned (.tuple #[])) (wr.setCell ⟨b, 9, none⟩ (.slice A' l'.length cap'))) := hide (by
      rw [hinv.out.2.2.2.2, eatA_stop (by omega)]
      refine ⟨rfl, h8, _, h9, hinv.out.2.2.1, hinv.out.2.2.2.1.of_block fun g hg => ?_⟩
      exact Below.heap_setCell _ _ _ _ (fun e => (hinv.out.2.2.2.1.ne hinv.out.2.1 (by decide)) (by rw [hg]; exact congrArg some e)))
    clear h9 h8 hinv
    go_wp2_with fail
    refine bodyPost_ret (results_none rfl _ _ _) rfl ?_
    exact HP.out
end Go.Proofs.Ytjjpekgkaahpbaa
