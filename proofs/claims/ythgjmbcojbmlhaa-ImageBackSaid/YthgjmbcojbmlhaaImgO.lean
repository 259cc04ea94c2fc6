/- Chapter 14: the closures that read a unit's lists, walked. -/
import Derived.Test.YthgjmbcojbmlhaaImgN
import Derived.Test.YthgjmbcojbmlhaaHeld
namespace Go.Proofs.Ythgjmbcojbmlhaa
open Go.RowKit Zb

set_option maxRecDepth 20000 in
theorem info_use : (Try.prog.info? 43).map (fun i => (i.zero, i.size, i.bytes)) = some (some (.agg #[.string ⟨#[]⟩, .string ⟨#[]⟩, .int .i64 0]), 3, 40) := by kernel_rfl
set_option maxRecDepth 20000 in
theorem one_use (x : UseM) : ∀ u ∈ x.cells, u.oneCell' = true := by intro u hu; simp only [UseM.cells, List.mem_cons, List.not_mem_nil, or_false] at hu; rcases hu with rfl | rfl | rfl <;> rfl
set_option maxRecDepth 20000 in
set_option maxHeartbeats 4000000 in
theorem uParse1_calls {w0 w : World} {gs ga gw gx gb gu : Nat} {s : ByteArray} {t : St} {nm : ByteArray} {ver fu : Int} {uv rv : Value} {us : List UseM} {vs : List ProtoV} (h : UnI w0 w gs ga gw gx gb gu s t nm ver fu uv rv us vs) (hs : s.size ≤ 100000000) (hl : us.length ≤ 100000000) : Calls Try.prog 36 #[ptrW gb, ptrW gu] w fun e w' => e = .returned (.tuple #[]) ∧ ∃ v', UnI w0 w' gs ga gw gx gb gu s (ruse s t).2 nm ver fu v' rv (us ++ [(ruse s t).1]) vs := by
  have P0 := hide h
  have zb : w.cell? ⟨gb, 1, none⟩ = some (.func (.func 63) #[] #[ptrW gs, ptrW ga, ptrW gw]) := P0.out.bb.cell 1
  go_enter Try.func36, Try.ntmps36
  go_wp2_with fail
  clear zb
  obtain ⟨a, ha⟩ : ∃ z, (rtext s t).1 = z := ⟨_, rfl⟩
  obtain ⟨t1, ht1⟩ : ∃ z, (rtext s t).2 = z := ⟨_, rfl⟩
  have HC := hide (uopen2_calls P0.out.rd hs P0.out.at_)
  have hle := Rd.text.le s t P0.out.at_
  rw [ha, ht1] at HC
  rw [ht1] at hle
  refine HC.out.mono ?_
  rintro e w1 ⟨rfl, hr, hT⟩
  have P1 := hide (P0.out.turn hr hle hT)
  clear h HC hr hT hle P0
  have P2 := hide (P1.out.alloc (.cells #[.string a, .string ⟨#[]⟩, .int .i64 0] 43))
  have V2 := hide (Blk.new w1 43 #[.string a, .string ⟨#[]⟩, .int .i64 0])
  have nuv : uv.ownBlock ≠ some w1.heap.size := fun e => by have := row_lt P1.out.ou _ e; omega
  have hgc : w0.heap.size ≤ w1.heap.size := P1.out.rd.bel.size
  have zb : (w1.alloc (.cells #[.string a, .string ⟨#[]⟩, .int .i64 0] 43)).cell? ⟨gb, 1, none⟩ = some (.func (.func 63) #[] #[ptrW gs, ptrW ga, ptrW gw]) := P2.out.bb.cell 1
  go_wp2_with fail
  clear zb
  obtain ⟨w2, hw2⟩ : ∃ z, Hid (w1.alloc (.cells #[.string a, .string ⟨#[]⟩, .int .i64 0] 43) = z) := ⟨_, hide rfl⟩
  obtain ⟨gc, hgc2⟩ : ∃ z, Hid (w1.heap.size = z) := ⟨_, hide rfl⟩
  rw [hw2.out] at P2 V2 ⊢
  rw [hgc2.out] at V2 nuv hgc ⊢
  clear hw2 hgc2 P1
  obtain ⟨b, hb⟩ : ∃ z, (rtext s t1).1 = z := ⟨_, rfl⟩
  obtain ⟨t2, ht2⟩ : ∃ z, (rtext s t1).2 = z := ⟨_, rfl⟩
  have HC := hide (uopen2_calls P2.out.rd hs P2.out.at_)
  have hle := Rd.text.le s t1 P2.out.at_
  rw [hb, ht2] at HC
  rw [ht2] at hle
  refine HC.out.mono ?_
  rintro e w3 ⟨rfl, hr, hT⟩
  have P3 := hide (P2.out.turn hr hle hT)
  have V3 := hide (tk_blk hT V2.out P2.out.rd.ba P2.out.rd.bw (by decide) (by decide))
  clear HC hr hT hle P2 V2
  have q1 : w3.cell? ⟨gc, 1, none⟩ = some (.string ⟨#[]⟩) := V3.out.cell 1
  have q2 : w3.frozen? ⟨gc, 1, none⟩ = false := V3.out.frozen 1
  have P4 := hide (P3.out.var V3.out hgc nuv 1 (.string b))
  have V4 : Hid (Blk (w3.setCell ⟨gc, 1, none⟩ (.string b)) gc 43 #[.string a, .string b, .int .i64 0]) := hide (V3.out.set_ 1 (.string b))
  have zb : (w3.setCell ⟨gc, 1, none⟩ (.string b)).cell? ⟨gb, 0, none⟩ = some (.func (.func 61) #[] #[ptrW gs, ptrW ga, ptrW gw]) := P4.out.bb.cell 0
  go_wp2_with fail
  clear zb q1 q2
  obtain ⟨w4, hw4⟩ : ∃ z, Hid ((w3.setCell ⟨gc, 1, none⟩ (.string b)) = z) := ⟨_, hide rfl⟩
  rw [hw4.out] at P4 V4 ⊢
  clear hw4 P3 V3
  obtain ⟨c, hc⟩ : ∃ z, (rnum s 1 t2).1 = z := ⟨_, rfl⟩
  obtain ⟨t3, ht3⟩ : ∃ z, (rnum s 1 t2).2 = z := ⟨_, rfl⟩
  have HC := hide (unum1 P4.out.rd hs P4.out.at_)
  have hle := (Rd.num 1).le s t2 P4.out.at_
  rw [hc, ht3] at HC
  rw [ht3] at hle
  refine HC.out.mono ?_
  rintro e w5 ⟨rfl, hr, hT⟩
  have P5 := hide (P4.out.turn hr hle hT)
  have V5 := hide (tk_blk hT V4.out P4.out.rd.ba P4.out.rd.bw (by decide) (by decide))
  clear HC hr hT hle P4 V4
  have q1 : w5.cell? ⟨gc, 2, none⟩ = some (.int .i64 0) := V5.out.cell 2
  have q2 : w5.frozen? ⟨gc, 2, none⟩ = false := V5.out.frozen 2
  have P6 := hide (P5.out.var V5.out hgc nuv 2 (.int .i64 c))
  have V6 : Hid (Blk (w5.setCell ⟨gc, 2, none⟩ (.int .i64 c)) gc 43 #[.string a, .string b, .int .i64 c]) := hide (V5.out.set_ 2 (.int .i64 c))
  have HBP : (w5.setCell ⟨gc, 2, none⟩ (.int .i64 c)).cell? ⟨gu, 2, none⟩ = some uv := P6.out.bu.cell 2
  have c0 : (w5.setCell ⟨gc, 2, none⟩ (.int .i64 c)).cell? ⟨gc, 0, none⟩ = some (.string a) := V6.out.cell 0
  have c1 : (w5.setCell ⟨gc, 2, none⟩ (.int .i64 c)).cell? ⟨gc, 1, none⟩ = some (.string b) := V6.out.cell 1
  have c2 : (w5.setCell ⟨gc, 2, none⟩ (.int .i64 c)).cell? ⟨gc, 2, none⟩ = some (.int .i64 c) := V6.out.cell 2
  have PA := hide (P6.out.alloc (.cells #[.string a, .string b, .int .i64 c] 43))
  have hsz : ((w5.setCell ⟨gc, 2, none⟩ (.int .i64 c))).heap.size = w5.heap.size := by simp [World.setCell]
  have BA : Hid (Blk ((w5.setCell ⟨gc, 2, none⟩ (.int .i64 c)).alloc (.cells #[.string a, .string b, .int .i64 c] 43)) w5.heap.size 43 #[.string a, .string b, .int .i64 c]) := hide (by rw [← hsz]; exact Blk.new (w5.setCell ⟨gc, 2, none⟩ (.int .i64 c)) 43 #[.string a, .string b, .int .i64 c])
  go_wp2_with ((with_reducible show wpList _ _ _ (⟨some 19, _, _, _, _, _⟩ :: _) _ _); refine unhid14 ?_)
  unfold Hid
  refine app_list rfl _ _ 22 43 rfl (.agg #[.string ⟨#[]⟩, .string ⟨#[]⟩, .int .i64 0]) 3 40 Try.underlying22 info_use rfl (by decide) uv us.length _ rfl PA.out.ou _ 1 (⟨a, b, c⟩ : UseM).cells rfl (Src.blk BA.out) rfl (one_use _) (Nat.le_trans (show us.length + 1 ≤ 100000001 by omega) (by decide)) (by omega) ?_
  intro v' w9 hr9 hg9 ha9
  obtain ⟨A9, n9, c9, rfl⟩ := row_form3 hr9.out
  have B9 := hide (PA.out.bu.grown hg9.out (Ne.symm (row_blk_ne PA.out.ou PA.out.bu (by decide))))
  have q3 : w9.cell? ⟨gu, 2, none⟩ = some uv := B9.out.cell 2
  have q4 : w9.frozen? ⟨gu, 2, none⟩ = false := B9.out.frozen 2
  go_wp2_with fail
  have hr10 : Row w9 43 3 (.slice A9 n9 c9) (us ++ [(⟨a, b, c⟩ : UseM)]).length ((us ++ [(⟨a, b, c⟩ : UseM)]).flatMap UseM.cells) := by rw [List.length_append, List.flatMap_append]; simpa using hr9.out
  have huse : ruse s t = (⟨a, b, c⟩, t3) := by unfold ruse; dsimp only; rw [ha, ht1, hb, ht2, hc, ht3]
  have PF := PA.out.push_u hr10 hg9.out ha9.out
  refine bodyPost_end (results_none rfl _ _ _) rfl ?_
  refine ⟨rfl, .slice A9 n9 c9, ?_⟩
  rw [huse]
  exact PF
set_option maxRecDepth 20000 in
theorem UnI.drew {w0 w : World} {gs ga gw gx gb gu : Nat} {s : ByteArray} {t : St} {nm : ByteArray} {ver fu : Int} {uv rv : Value} {us : List UseM} {vs : List ProtoV} (h : UnI w0 w gs ga gw gx gb gu s t nm ver fu uv rv us vs) : UnI w0 w.drew gs ga gw gx gb gu s t nm ver fu uv rv us vs :=
  ⟨⟨h.rd.bel.drew, h.rd.bs, h.rd.ba, h.rd.bw, h.rd.bx, h.rd.lea, h.rd.lew⟩, h.at_, h.bb, h.bu, h.leu, row_of h.ou fun _ _ => rfl, h.nu, row_of h.or_ fun _ _ => rfl, h.nr, fun v hv => (h.each v hv).keep fun hrow _ => row_of hrow fun _ _ => rfl⟩
set_option maxRecDepth 20000 in
theorem info_proto : (Try.prog.info? 38).map (fun i => (i.zero, i.size, i.bytes)) = some (some (.agg #[.string ⟨#[]⟩, .int .i64 0, .int .i64 0, .slice none 0 0, .slice none 0 0, .slice none 0 0]), 6, 104) := by kernel_rfl
set_option maxRecDepth 20000 in
theorem one_proto (x : ProtoV) : ∀ u ∈ x.cells, u.oneCell' = true := by intro u hu; simp only [ProtoV.cells, List.mem_cons, List.not_mem_nil, or_false] at hu; rcases hu with rfl | rfl | rfl | rfl | rfl | rfl <;> rfl
set_option maxRecDepth 20000 in
theorem usproto_lit {w0 w : World} {gs ga gw gx : Nat} {s : ByteArray} {t : St} (h : RdS w0 w gs ga gw gx s t) (hs : s.size ≤ 100000000) (hat : t.at_ ≤ s.size) :
    Calls Try.prog 38 #[.agg #[.func (.func 61) #[] #[ptrW gs, ptrW ga, ptrW gw], .func (.func 63) #[] #[ptrW gs, ptrW ga, ptrW gw], .func (.func 65) #[] #[ptrW gx, ptrW gw], .func (.func 66) #[] #[ptrW gw]]] w fun e w' => ∃ v : ProtoV, e = .returned (.agg #[.string v.p.name, .int .i64 v.p.params, .int .i64 v.p.regs, .slice v.cA v.p.code.length v.cc, .slice v.kA v.p.consts.length v.kc, .slice v.pA v.p.caps.length v.pc]) ∧ v.p = (rproto s t).1 ∧ RdS w0 w' gs ga gw gx s (rproto s t).2 ∧ Turned (TkF ga gw) w w' ∧ v.Own w w' := usproto_calls h hs hat
set_option maxRecDepth 20000 in
set_option maxHeartbeats 4000000 in
theorem uParse2_calls {w0 w : World} {gs ga gw gx gb gu : Nat} {s : ByteArray} {t : St} {nm : ByteArray} {ver fu : Int} {uv rv : Value} {us : List UseM} {vs : List ProtoV} (h : UnI w0 w gs ga gw gx gb gu s t nm ver fu uv rv us vs) (hs : s.size ≤ 100000000) (hl : vs.length ≤ 100000000) : Calls Try.prog 37 #[ptrW gu, ptrW gb] w fun e w' => e = .returned (.tuple #[]) ∧ ∃ (v' : Value) (x : ProtoV), x.p = (rproto s t).1 ∧ UnI w0 w' gs ga gw gx gb gu s (rproto s t).2 nm ver fu uv v' us (vs ++ [x]) := by
  have P0 := hide h.drew
  have hat : (rproto s t).2.at_ ≤ s.size := Rd.proto.le s t h.at_
  clear h
  go_enter Try.func37, Try.ntmps37
  go_wp2_with fail
  refine wp_region_heads [0] 7 (fun _ => True) (by kernel_rfl) rfl (by kernel_rfl) (by kernel_rfl) (fun _ _ d _ _ h => by cases d <;> exact h) trivial ?_
  iterate 1
    refine' Heads.step rfl (by rfl) ?_ ?_
    rotate_left
    · intro w' hSw
      go_simp
      try with_reducible rfl
    simp only [Act.put, List.setIfInBounds_toArray, List.set_cons_zero, List.set_cons_succ]
  refine Heads.done ?_
  refine wpAnyH_ready (rs := [1, 2]) (by kernel_rfl) (by simp) (AllReadyH.cons rfl (fun K hK => ?_) (AllReadyH.cons rfl (fun K hK => ?_) AllReadyH.nil))
  · have zr1 : w.drew.cell? ⟨gu, 4, none⟩ = some rv := P0.out.bu.cell 4
    go_simp
    refine hK.out _ _ trivial (fun _ => ?_)
    clear hK K
    clear zr1
    refine wpAnyH_ready (rs := [2]) (by kernel_rfl) (by simp) (AllReadyH.cons rfl (fun K hK => ?_) AllReadyH.nil)
    have zf20 : w.drew.cell? ⟨gb, 0, none⟩ = some (.func (.func 61) #[] #[ptrW gs, ptrW ga, ptrW gw]) := P0.out.bb.cell 0
    have zf21 : w.drew.cell? ⟨gb, 1, none⟩ = some (.func (.func 63) #[] #[ptrW gs, ptrW ga, ptrW gw]) := P0.out.bb.cell 1
    have zf22 : w.drew.cell? ⟨gb, 2, none⟩ = some (.func (.func 65) #[] #[ptrW gx, ptrW gw]) := P0.out.bb.cell 2
    have zf23 : w.drew.cell? ⟨gb, 3, none⟩ = some (.func (.func 66) #[] #[ptrW gw]) := P0.out.bb.cell 3
    go_simp
    refine hK.out _ _ trivial (fun _ => ?_)
    clear hK K
    clear zf20 zf21 zf22 zf23
    refine wpAnyH_ready (rs := [3]) (by kernel_rfl) (by simp) (AllReadyH.cons rfl (fun K hK => ?_) AllReadyH.nil)
    go_simp
    refine (usproto_lit P0.out.rd hs P0.out.at_).mono ?_
    rintro e w3 ⟨v, rfl, hvp, hr3, hT3, ho3⟩
    have Q3 := hide (P0.out.turn hr3 hat hT3)
    have HO3 := hide (ho3.base P0.out.rd.bel.size)
    have HVP := hide hvp
    clear hvp
    refine hK.out _ _ trivial (fun _ => ?_)
    clear hK K
    refine wpAnyH_ready (rs := [4]) (by kernel_rfl) (by simp) (AllReadyH.cons rfl (fun K hK => ?_) AllReadyH.nil)
    go_simp
    have Q4 := hide (Q3.out.alloc (.cells #[.string v.p.name, .int .i64 v.p.params, .int .i64 v.p.regs, .slice v.cA v.p.code.length v.cc, .slice v.kA v.p.consts.length v.kc, .slice v.pA v.p.caps.length v.pc] 38))
    have HO4 := hide (HO3.out.keep fun hrow _ => row_alloc hrow (.cells #[.string v.p.name, .int .i64 v.p.params, .int .i64 v.p.regs, .slice v.cA v.p.code.length v.cc, .slice v.kA v.p.consts.length v.kc, .slice v.pA v.p.caps.length v.pc] 38))
    have HB4 : Hid (Blk (w3.alloc (.cells #[.string v.p.name, .int .i64 v.p.params, .int .i64 v.p.regs, .slice v.cA v.p.code.length v.cc, .slice v.kA v.p.consts.length v.kc, .slice v.pA v.p.caps.length v.pc] 38)) w3.heap.size 38 v.cells.toArray) := hide (Blk.new w3 38 #[.string v.p.name, .int .i64 v.p.params, .int .i64 v.p.regs, .slice v.cA v.p.code.length v.cc, .slice v.kA v.p.consts.length v.kc, .slice v.pA v.p.caps.length v.pc])
    refine hK.out _ _ trivial (fun _ => ?_)
    clear hK K
    obtain ⟨gz4, hgz4⟩ : ∃ z, Hid (w3.heap.size = z) := ⟨_, hide rfl⟩
    obtain ⟨wz4, hwz4⟩ : ∃ z, Hid (w3.alloc (.cells #[.string v.p.name, .int .i64 v.p.params, .int .i64 v.p.regs, .slice v.cA v.p.code.length v.cc, .slice v.kA v.p.consts.length v.kc, .slice v.pA v.p.caps.length v.pc] 38) = z) := ⟨_, hide rfl⟩
    rw [hgz4.out] at HB4 ⊢
    rw [hwz4.out] at Q4 HO4 HB4 ⊢
    clear hgz4 hwz4
    refine wpAnyH_ready (rs := [5]) (by kernel_rfl) (by simp) (AllReadyH.cons rfl (fun K hK => ?_) AllReadyH.nil)
    rw [if_pos (by rfl)]
    refine app_op (.tmp 3) (.tmp 6) 23 38 rfl (.agg #[.string ⟨#[]⟩, .int .i64 0, .int .i64 0, .slice none 0 0, .slice none 0 0, .slice none 0 0]) 6 104 Try.underlying23 info_proto rfl (by decide) rv vs.length _ rfl Q4.out.or_ (.slice (some ⟨gz4, 0, none⟩) 1 1) 1 v.cells rfl (Src.blk HB4.out) rfl (one_proto v) (Nat.le_trans (show vs.length + 1 ≤ 100000001 by omega) (by decide)) (by omega) ?_
    intro v' w9 hr9 hg9 ha9
    obtain ⟨A9, n9, c9, rfl⟩ := row_form3 hr9.out
    have B9 := hide (Q4.out.bu.grown hg9.out (Ne.symm (row_blk_ne Q4.out.or_ Q4.out.bu (by decide))))
    refine hK.out _ _ trivial (fun _ => ?_)
    clear hK K
    refine wpAnyH_more [6] 1 rfl (by kernel_rfl) (by kernel_rfl) (fun _ _ d _ _ h => by cases d <;> exact h) trivial ?_
    iterate 1
      refine' Heads.step rfl (by rfl) ?_ ?_
      rotate_left
      · intro w' hSw
        go_simp
        try with_reducible rfl
      simp only [Act.put, List.setIfInBounds_toArray]
    refine Heads.done ?_
    have q3 : w9.cell? ⟨gu, 4, none⟩ = some rv := B9.out.cell 4
    have q4 : w9.frozen? ⟨gu, 4, none⟩ = false := B9.out.frozen 4
    refine wpAnyH_ready (rs := [7]) (by kernel_rfl) (by simp) (AllReadyH.cons rfl (fun K hK => ?_) AllReadyH.nil)
    go_simp
    refine hK.out _ _ trivial (fun _ => ?_)
    clear hK K
    refine wpAnyH_done (by kernel_rfl) ?_ _
    have hr10 : Row w9 38 6 (.slice A9 n9 c9) (vs ++ [v]).length ((vs ++ [v]).flatMap ProtoV.cells) := by rw [List.length_append, List.flatMap_append]; simpa using hr9.out
    have PF := Q4.out.push_r HO4.out hr10 hg9.out ha9.out
    go_wp2_with fail
    refine bodyPost_end (results_none rfl _ _ _) rfl ?_
    exact ⟨rfl, .slice A9 n9 c9, v, HVP.out, PF⟩
  · have zf60 : w.drew.cell? ⟨gb, 0, none⟩ = some (.func (.func 61) #[] #[ptrW gs, ptrW ga, ptrW gw]) := P0.out.bb.cell 0
    have zf61 : w.drew.cell? ⟨gb, 1, none⟩ = some (.func (.func 63) #[] #[ptrW gs, ptrW ga, ptrW gw]) := P0.out.bb.cell 1
    have zf62 : w.drew.cell? ⟨gb, 2, none⟩ = some (.func (.func 65) #[] #[ptrW gx, ptrW gw]) := P0.out.bb.cell 2
    have zf63 : w.drew.cell? ⟨gb, 3, none⟩ = some (.func (.func 66) #[] #[ptrW gw]) := P0.out.bb.cell 3
    go_simp
    refine hK.out _ _ trivial (fun _ => ?_)
    clear hK K
    clear zf60 zf61 zf62 zf63
    refine wpAnyH_ready (rs := [1, 3]) (by kernel_rfl) (by simp) (AllReadyH.cons rfl (fun K hK => ?_) (AllReadyH.cons rfl (fun K hK => ?_) AllReadyH.nil))
    · have zr7 : w.drew.cell? ⟨gu, 4, none⟩ = some rv := P0.out.bu.cell 4
      go_simp
      refine hK.out _ _ trivial (fun _ => ?_)
      clear hK K
      clear zr7
      refine wpAnyH_ready (rs := [3]) (by kernel_rfl) (by simp) (AllReadyH.cons rfl (fun K hK => ?_) AllReadyH.nil)
      go_simp
      refine (usproto_lit P0.out.rd hs P0.out.at_).mono ?_
      rintro e w8 ⟨v, rfl, hvp, hr8, hT8, ho8⟩
      have Q8 := hide (P0.out.turn hr8 hat hT8)
      have HO8 := hide (ho8.base P0.out.rd.bel.size)
      have HVP := hide hvp
      clear hvp
      refine hK.out _ _ trivial (fun _ => ?_)
      clear hK K
      refine wpAnyH_ready (rs := [4]) (by kernel_rfl) (by simp) (AllReadyH.cons rfl (fun K hK => ?_) AllReadyH.nil)
      go_simp
      have Q9 := hide (Q8.out.alloc (.cells #[.string v.p.name, .int .i64 v.p.params, .int .i64 v.p.regs, .slice v.cA v.p.code.length v.cc, .slice v.kA v.p.consts.length v.kc, .slice v.pA v.p.caps.length v.pc] 38))
      have HO9 := hide (HO8.out.keep fun hrow _ => row_alloc hrow (.cells #[.string v.p.name, .int .i64 v.p.params, .int .i64 v.p.regs, .slice v.cA v.p.code.length v.cc, .slice v.kA v.p.consts.length v.kc, .slice v.pA v.p.caps.length v.pc] 38))
      have HB9 : Hid (Blk (w8.alloc (.cells #[.string v.p.name, .int .i64 v.p.params, .int .i64 v.p.regs, .slice v.cA v.p.code.length v.cc, .slice v.kA v.p.consts.length v.kc, .slice v.pA v.p.caps.length v.pc] 38)) w8.heap.size 38 v.cells.toArray) := hide (Blk.new w8 38 #[.string v.p.name, .int .i64 v.p.params, .int .i64 v.p.regs, .slice v.cA v.p.code.length v.cc, .slice v.kA v.p.consts.length v.kc, .slice v.pA v.p.caps.length v.pc])
      refine hK.out _ _ trivial (fun _ => ?_)
      clear hK K
      obtain ⟨gz9, hgz9⟩ : ∃ z, Hid (w8.heap.size = z) := ⟨_, hide rfl⟩
      obtain ⟨wz9, hwz9⟩ : ∃ z, Hid (w8.alloc (.cells #[.string v.p.name, .int .i64 v.p.params, .int .i64 v.p.regs, .slice v.cA v.p.code.length v.cc, .slice v.kA v.p.consts.length v.kc, .slice v.pA v.p.caps.length v.pc] 38) = z) := ⟨_, hide rfl⟩
      rw [hgz9.out] at HB9 ⊢
      rw [hwz9.out] at Q9 HO9 HB9 ⊢
      clear hgz9 hwz9
      refine wpAnyH_ready (rs := [5]) (by kernel_rfl) (by simp) (AllReadyH.cons rfl (fun K hK => ?_) AllReadyH.nil)
      rw [if_pos (by rfl)]
      refine app_op (.tmp 3) (.tmp 6) 23 38 rfl (.agg #[.string ⟨#[]⟩, .int .i64 0, .int .i64 0, .slice none 0 0, .slice none 0 0, .slice none 0 0]) 6 104 Try.underlying23 info_proto rfl (by decide) rv vs.length _ rfl Q9.out.or_ (.slice (some ⟨gz9, 0, none⟩) 1 1) 1 v.cells rfl (Src.blk HB9.out) rfl (one_proto v) (Nat.le_trans (show vs.length + 1 ≤ 100000001 by omega) (by decide)) (by omega) ?_
      intro v' w9 hr9 hg9 ha9
      obtain ⟨A9, n9, c9, rfl⟩ := row_form3 hr9.out
      have B9 := hide (Q9.out.bu.grown hg9.out (Ne.symm (row_blk_ne Q9.out.or_ Q9.out.bu (by decide))))
      refine hK.out _ _ trivial (fun _ => ?_)
      clear hK K
      refine wpAnyH_more [6] 1 rfl (by kernel_rfl) (by kernel_rfl) (fun _ _ d _ _ h => by cases d <;> exact h) trivial ?_
      iterate 1
        refine' Heads.step rfl (by rfl) ?_ ?_
        rotate_left
        · intro w' hSw
          go_simp
          try with_reducible rfl
        simp only [Act.put, List.setIfInBounds_toArray]
      refine Heads.done ?_
      have q3 : w9.cell? ⟨gu, 4, none⟩ = some rv := B9.out.cell 4
      have q4 : w9.frozen? ⟨gu, 4, none⟩ = false := B9.out.frozen 4
      refine wpAnyH_ready (rs := [7]) (by kernel_rfl) (by simp) (AllReadyH.cons rfl (fun K hK => ?_) AllReadyH.nil)
      go_simp
      refine hK.out _ _ trivial (fun _ => ?_)
      clear hK K
      refine wpAnyH_done (by kernel_rfl) ?_ _
      have hr10 : Row w9 38 6 (.slice A9 n9 c9) (vs ++ [v]).length ((vs ++ [v]).flatMap ProtoV.cells) := by rw [List.length_append, List.flatMap_append]; simpa using hr9.out
      have PF := Q9.out.push_r HO9.out hr10 hg9.out ha9.out
      go_wp2_with fail
      refine bodyPost_end (results_none rfl _ _ _) rfl ?_
      exact ⟨rfl, .slice A9 n9 c9, v, HVP.out, PF⟩
    · go_simp
      refine (usproto_lit P0.out.rd hs P0.out.at_).mono ?_
      rintro e w11 ⟨v, rfl, hvp, hr11, hT11, ho11⟩
      have Q11 := hide (P0.out.turn hr11 hat hT11)
      have HO11 := hide (ho11.base P0.out.rd.bel.size)
      have HVP := hide hvp
      clear hvp
      refine hK.out _ _ trivial (fun _ => ?_)
      clear hK K
      refine wpAnyH_ready (rs := [1, 4]) (by kernel_rfl) (by simp) (AllReadyH.cons rfl (fun K hK => ?_) (AllReadyH.cons rfl (fun K hK => ?_) AllReadyH.nil))
      · have zr12 : w11.cell? ⟨gu, 4, none⟩ = some rv := Q11.out.bu.cell 4
        go_simp
        refine hK.out _ _ trivial (fun _ => ?_)
        clear hK K
        clear zr12
        refine wpAnyH_ready (rs := [4]) (by kernel_rfl) (by simp) (AllReadyH.cons rfl (fun K hK => ?_) AllReadyH.nil)
        go_simp
        have Q13 := hide (Q11.out.alloc (.cells #[.string v.p.name, .int .i64 v.p.params, .int .i64 v.p.regs, .slice v.cA v.p.code.length v.cc, .slice v.kA v.p.consts.length v.kc, .slice v.pA v.p.caps.length v.pc] 38))
        have HO13 := hide (HO11.out.keep fun hrow _ => row_alloc hrow (.cells #[.string v.p.name, .int .i64 v.p.params, .int .i64 v.p.regs, .slice v.cA v.p.code.length v.cc, .slice v.kA v.p.consts.length v.kc, .slice v.pA v.p.caps.length v.pc] 38))
        have HB13 : Hid (Blk (w11.alloc (.cells #[.string v.p.name, .int .i64 v.p.params, .int .i64 v.p.regs, .slice v.cA v.p.code.length v.cc, .slice v.kA v.p.consts.length v.kc, .slice v.pA v.p.caps.length v.pc] 38)) w11.heap.size 38 v.cells.toArray) := hide (Blk.new w11 38 #[.string v.p.name, .int .i64 v.p.params, .int .i64 v.p.regs, .slice v.cA v.p.code.length v.cc, .slice v.kA v.p.consts.length v.kc, .slice v.pA v.p.caps.length v.pc])
        refine hK.out _ _ trivial (fun _ => ?_)
        clear hK K
        obtain ⟨gz13, hgz13⟩ : ∃ z, Hid (w11.heap.size = z) := ⟨_, hide rfl⟩
        obtain ⟨wz13, hwz13⟩ : ∃ z, Hid (w11.alloc (.cells #[.string v.p.name, .int .i64 v.p.params, .int .i64 v.p.regs, .slice v.cA v.p.code.length v.cc, .slice v.kA v.p.consts.length v.kc, .slice v.pA v.p.caps.length v.pc] 38) = z) := ⟨_, hide rfl⟩
        rw [hgz13.out] at HB13 ⊢
        rw [hwz13.out] at Q13 HO13 HB13 ⊢
        clear hgz13 hwz13
        refine wpAnyH_ready (rs := [5]) (by kernel_rfl) (by simp) (AllReadyH.cons rfl (fun K hK => ?_) AllReadyH.nil)
        rw [if_pos (by rfl)]
        refine app_op (.tmp 3) (.tmp 6) 23 38 rfl (.agg #[.string ⟨#[]⟩, .int .i64 0, .int .i64 0, .slice none 0 0, .slice none 0 0, .slice none 0 0]) 6 104 Try.underlying23 info_proto rfl (by decide) rv vs.length _ rfl Q13.out.or_ (.slice (some ⟨gz13, 0, none⟩) 1 1) 1 v.cells rfl (Src.blk HB13.out) rfl (one_proto v) (Nat.le_trans (show vs.length + 1 ≤ 100000001 by omega) (by decide)) (by omega) ?_
        intro v' w9 hr9 hg9 ha9
        obtain ⟨A9, n9, c9, rfl⟩ := row_form3 hr9.out
        have B9 := hide (Q13.out.bu.grown hg9.out (Ne.symm (row_blk_ne Q13.out.or_ Q13.out.bu (by decide))))
        refine hK.out _ _ trivial (fun _ => ?_)
        clear hK K
        refine wpAnyH_more [6] 1 rfl (by kernel_rfl) (by kernel_rfl) (fun _ _ d _ _ h => by cases d <;> exact h) trivial ?_
        iterate 1
          refine' Heads.step rfl (by rfl) ?_ ?_
          rotate_left
          · intro w' hSw
            go_simp
            try with_reducible rfl
          simp only [Act.put, List.setIfInBounds_toArray]
        refine Heads.done ?_
        have q3 : w9.cell? ⟨gu, 4, none⟩ = some rv := B9.out.cell 4
        have q4 : w9.frozen? ⟨gu, 4, none⟩ = false := B9.out.frozen 4
        refine wpAnyH_ready (rs := [7]) (by kernel_rfl) (by simp) (AllReadyH.cons rfl (fun K hK => ?_) AllReadyH.nil)
        go_simp
        refine hK.out _ _ trivial (fun _ => ?_)
        clear hK K
        refine wpAnyH_done (by kernel_rfl) ?_ _
        have hr10 : Row w9 38 6 (.slice A9 n9 c9) (vs ++ [v]).length ((vs ++ [v]).flatMap ProtoV.cells) := by rw [List.length_append, List.flatMap_append]; simpa using hr9.out
        have PF := Q13.out.push_r HO13.out hr10 hg9.out ha9.out
        go_wp2_with fail
        refine bodyPost_end (results_none rfl _ _ _) rfl ?_
        exact ⟨rfl, .slice A9 n9 c9, v, HVP.out, PF⟩
      · go_simp
        have Q15 := hide (Q11.out.alloc (.cells #[.string v.p.name, .int .i64 v.p.params, .int .i64 v.p.regs, .slice v.cA v.p.code.length v.cc, .slice v.kA v.p.consts.length v.kc, .slice v.pA v.p.caps.length v.pc] 38))
        have HO15 := hide (HO11.out.keep fun hrow _ => row_alloc hrow (.cells #[.string v.p.name, .int .i64 v.p.params, .int .i64 v.p.regs, .slice v.cA v.p.code.length v.cc, .slice v.kA v.p.consts.length v.kc, .slice v.pA v.p.caps.length v.pc] 38))
        have HB15 : Hid (Blk (w11.alloc (.cells #[.string v.p.name, .int .i64 v.p.params, .int .i64 v.p.regs, .slice v.cA v.p.code.length v.cc, .slice v.kA v.p.consts.length v.kc, .slice v.pA v.p.caps.length v.pc] 38)) w11.heap.size 38 v.cells.toArray) := hide (Blk.new w11 38 #[.string v.p.name, .int .i64 v.p.params, .int .i64 v.p.regs, .slice v.cA v.p.code.length v.cc, .slice v.kA v.p.consts.length v.kc, .slice v.pA v.p.caps.length v.pc])
        refine hK.out _ _ trivial (fun _ => ?_)
        clear hK K
        obtain ⟨gz15, hgz15⟩ : ∃ z, Hid (w11.heap.size = z) := ⟨_, hide rfl⟩
        obtain ⟨wz15, hwz15⟩ : ∃ z, Hid (w11.alloc (.cells #[.string v.p.name, .int .i64 v.p.params, .int .i64 v.p.regs, .slice v.cA v.p.code.length v.cc, .slice v.kA v.p.consts.length v.kc, .slice v.pA v.p.caps.length v.pc] 38) = z) := ⟨_, hide rfl⟩
        rw [hgz15.out] at HB15 ⊢
        rw [hwz15.out] at Q15 HO15 HB15 ⊢
        clear hgz15 hwz15
        refine wpAnyH_ready (rs := [1]) (by kernel_rfl) (by simp) (AllReadyH.cons rfl (fun K hK => ?_) AllReadyH.nil)
        have zr16 : wz15.cell? ⟨gu, 4, none⟩ = some rv := Q15.out.bu.cell 4
        go_simp
        refine hK.out _ _ trivial (fun _ => ?_)
        clear hK K
        clear zr16
        refine wpAnyH_ready (rs := [5]) (by kernel_rfl) (by simp) (AllReadyH.cons rfl (fun K hK => ?_) AllReadyH.nil)
        rw [if_pos (by rfl)]
        refine app_op (.tmp 3) (.tmp 6) 23 38 rfl (.agg #[.string ⟨#[]⟩, .int .i64 0, .int .i64 0, .slice none 0 0, .slice none 0 0, .slice none 0 0]) 6 104 Try.underlying23 info_proto rfl (by decide) rv vs.length _ rfl Q15.out.or_ (.slice (some ⟨gz15, 0, none⟩) 1 1) 1 v.cells rfl (Src.blk HB15.out) rfl (one_proto v) (Nat.le_trans (show vs.length + 1 ≤ 100000001 by omega) (by decide)) (by omega) ?_
        intro v' w9 hr9 hg9 ha9
        obtain ⟨A9, n9, c9, rfl⟩ := row_form3 hr9.out
        have B9 := hide (Q15.out.bu.grown hg9.out (Ne.symm (row_blk_ne Q15.out.or_ Q15.out.bu (by decide))))
        refine hK.out _ _ trivial (fun _ => ?_)
        clear hK K
        refine wpAnyH_more [6] 1 rfl (by kernel_rfl) (by kernel_rfl) (fun _ _ d _ _ h => by cases d <;> exact h) trivial ?_
        iterate 1
          refine' Heads.step rfl (by rfl) ?_ ?_
          rotate_left
          · intro w' hSw
            go_simp
            try with_reducible rfl
          simp only [Act.put, List.setIfInBounds_toArray]
        refine Heads.done ?_
        have q3 : w9.cell? ⟨gu, 4, none⟩ = some rv := B9.out.cell 4
        have q4 : w9.frozen? ⟨gu, 4, none⟩ = false := B9.out.frozen 4
        refine wpAnyH_ready (rs := [7]) (by kernel_rfl) (by simp) (AllReadyH.cons rfl (fun K hK => ?_) AllReadyH.nil)
        go_simp
        refine hK.out _ _ trivial (fun _ => ?_)
        clear hK K
        refine wpAnyH_done (by kernel_rfl) ?_ _
        have hr10 : Row w9 38 6 (.slice A9 n9 c9) (vs ++ [v]).length ((vs ++ [v]).flatMap ProtoV.cells) := by rw [List.length_append, List.flatMap_append]; simpa using hr9.out
        have PF := Q15.out.push_r HO15.out hr10 hg9.out ha9.out
        go_wp2_with fail
        refine bodyPost_end (results_none rfl _ _ _) rfl ?_
        exact ⟨rfl, .slice A9 n9 c9, v, HVP.out, PF⟩
end Go.Proofs.Ythgjmbcojbmlhaa
