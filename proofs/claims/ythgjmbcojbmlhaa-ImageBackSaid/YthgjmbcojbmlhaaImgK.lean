/- Chapter 14: the closures that read a proto's lists, walked. -/
import Derived.Test.YthgjmbcojbmlhaaImgJ
namespace Go.Proofs.Ythgjmbcojbmlhaa
open Go.RowKit Zb

set_option maxRecDepth 20000 in
theorem unum1 {w0 w : World} {gs ga gw gx : Nat} {s : ByteArray} {t : St} (h : RdS w0 w gs ga gw gx s t) (hs : s.size ≤ 100000000) (hat : t.at_ ≤ s.size) : Calls Try.prog 61 #[.int .i64 1, ptrW gs, ptrW ga, ptrW gw] w fun e w' => e = .returned (.int .i64 (rnum s 1 t).1) ∧ RdS w0 w' gs ga gw gx s (rnum s 1 t).2 ∧ Turned (TkF ga gw) w w' := uopen1_calls h hs hat 1 (by omega)
set_option maxRecDepth 20000 in
theorem unum2 {w0 w : World} {gs ga gw gx : Nat} {s : ByteArray} {t : St} (h : RdS w0 w gs ga gw gx s t) (hs : s.size ≤ 100000000) (hat : t.at_ ≤ s.size) : Calls Try.prog 61 #[.int .i64 2, ptrW gs, ptrW ga, ptrW gw] w fun e w' => e = .returned (.int .i64 (rnum s 2 t).1) ∧ RdS w0 w' gs ga gw gx s (rnum s 2 t).2 ∧ Turned (TkF ga gw) w w' := uopen1_calls h hs hat 2 (by omega)
set_option maxRecDepth 20000 in
theorem unum4 {w0 w : World} {gs ga gw gx : Nat} {s : ByteArray} {t : St} (h : RdS w0 w gs ga gw gx s t) (hs : s.size ≤ 100000000) (hat : t.at_ ≤ s.size) : Calls Try.prog 61 #[.int .i64 4, ptrW gs, ptrW ga, ptrW gw] w fun e w' => e = .returned (.int .i64 (rnum s 4 t).1) ∧ RdS w0 w' gs ga gw gx s (rnum s 4 t).2 ∧ Turned (TkF ga gw) w w' := uopen1_calls h hs hat 4 (by omega)
set_option maxRecDepth 20000 in
theorem unum8 {w0 w : World} {gs ga gw gx : Nat} {s : ByteArray} {t : St} (h : RdS w0 w gs ga gw gx s t) (hs : s.size ≤ 100000000) (hat : t.at_ ≤ s.size) : Calls Try.prog 61 #[.int .i64 8, ptrW gs, ptrW ga, ptrW gw] w fun e w' => e = .returned (.int .i64 (rnum s 8 t).1) ∧ RdS w0 w' gs ga gw gx s (rnum s 8 t).2 ∧ Turned (TkF ga gw) w w' := uopen1_calls h hs hat 8 (by omega)
set_option maxRecDepth 20000 in
theorem unhid14 {p : Prop} (h : Hid p) : p := h
set_option maxRecDepth 20000 in
theorem row_form3 {w : World} {e : TypeId} {size n : Nat} {v : Value} {xs : List Value} (h : Row w e size v n xs) : ∃ A m c, v = .slice A m c := by
  obtain ⟨A, c, e, _⟩ := row_slice h
  exact ⟨A, _, c, e⟩
set_option maxRecDepth 20000 in
theorem info_p : (Try.prog.info? 75).map (fun i => (i.zero, i.size, i.bytes)) = some (some (.agg #[.bool false, .int .i64 0]), 2, 16) := by kernel_rfl
set_option maxRecDepth 20000 in
theorem info_k : (Try.prog.info? 45).map (fun i => (i.zero, i.size, i.bytes)) = some (some (.agg #[.int .i64 0, .int .i64 0, .string ⟨#[]⟩]), 3, 32) := by kernel_rfl
set_option maxRecDepth 20000 in
theorem info_c : (Try.prog.info? 78).map (fun i => (i.zero, i.size, i.bytes)) = some (some (.agg #[.int .i64 0, .int .i64 0, .int .i64 0, .int .i64 0]), 4, 32) := by kernel_rfl
set_option maxRecDepth 20000 in
theorem one_p (x : CapM) : ∀ u ∈ x.cells, u.oneCell' = true := by intro u hu; simp only [CapM.cells, List.mem_cons, List.not_mem_nil, or_false] at hu; rcases hu with rfl | rfl <;> rfl
set_option maxRecDepth 20000 in
theorem one_k (x : ConM) : ∀ u ∈ x.cells, u.oneCell' = true := by intro u hu; simp only [ConM.cells, List.mem_cons, List.not_mem_nil, or_false] at hu; rcases hu with rfl | rfl | rfl <;> rfl
set_option maxRecDepth 20000 in
theorem one_c (x : InsM) : ∀ u ∈ x.cells, u.oneCell' = true := by intro u hu; simp only [InsM.cells, List.mem_cons, List.not_mem_nil, or_false] at hu; rcases hu with rfl | rfl | rfl | rfl <;> rfl
set_option maxRecDepth 20000 in
set_option maxHeartbeats 4000000 in
theorem usproto1_calls {w0 wp w : World} {gs ga gw gx gb gp : Nat} {s : ByteArray} {t : St} {nm : ByteArray} {pa re : Int} {cv kv pv : Value} {code : List InsM} {cons : List ConM} {caps : List CapM} (h : PrI w0 wp w gs ga gw gx gb gp s t nm pa re cv kv pv code cons caps) (hs : s.size ≤ 100000000) (hl : caps.length ≤ 100000000) : Calls Try.prog 67 #[ptrW gb, ptrW gp] w fun e w' => e = .returned (.tuple #[]) ∧ ∃ v', PrI w0 wp w' gs ga gw gx gb gp s (rcap s t).2 nm pa re cv kv v' code cons (caps ++ [(rcap s t).1]) := by
  have P0 := hide h
  have zb : w.cell? ⟨gb, 0, none⟩ = some (.func (.func 61) #[] #[ptrW gs, ptrW ga, ptrW gw]) := P0.out.bb.cell 0
  go_enter Try.func67, Try.ntmps67
  go_wp2_with fail
  clear zb
  obtain ⟨a, ha⟩ : ∃ z, (rnum s 1 t).1 = z := ⟨_, rfl⟩
  obtain ⟨t1, ht1⟩ : ∃ z, (rnum s 1 t).2 = z := ⟨_, rfl⟩
  have HC0 := hide (unum1 P0.out.rd hs P0.out.at_)
  have hle0 := (Rd.num 1).le s t P0.out.at_
  rw [ha, ht1] at HC0
  rw [ht1] at hle0
  refine HC0.out.mono ?_
  rintro e w1 ⟨rfl, hr1, hT1⟩
  have P1 := hide (P0.out.turn hr1 hle0 hT1)
  clear h HC0 hr1 hT1 hle0 P0
  have hcap : rcap s t = (⟨decide (a = 1), (rnum s 1 t1).1⟩, (rnum s 1 t1).2) := by unfold rcap; dsimp only; rw [ha, ht1]
  by_cases hq : a = 1
  · subst hq
    have hcap2 : rcap s t = (⟨true, (rnum s 1 t1).1⟩, (rnum s 1 t1).2) := by rw [hcap]; rfl
    have P2 := hide (P1.out.alloc (.cells #[.bool true, .int .i64 0] 75))
    have V2 := hide (Blk.new w1 75 #[.bool true, .int .i64 0])
    have ncv : cv.ownBlock ≠ some w1.heap.size := fun e => by have := row_lt P1.out.oc _ e; omega
    have nkv : kv.ownBlock ≠ some w1.heap.size := fun e => by have := row_lt P1.out.ok _ e; omega
    have npv : pv.ownBlock ≠ some w1.heap.size := fun e => by have := row_lt P1.out.op _ e; omega
    have hgc : wp.heap.size ≤ w1.heap.size := P1.out.tu.size
    have zb : (w1.alloc (.cells #[.bool true, .int .i64 0] 75)).cell? ⟨gb, 0, none⟩ = some (.func (.func 61) #[] #[ptrW gs, ptrW ga, ptrW gw]) := P2.out.bb.cell 0
    go_wp2_with fail
    clear zb
    obtain ⟨w2, hw2⟩ : ∃ z, Hid ((w1.alloc (.cells #[.bool true, .int .i64 0] 75)) = z) := ⟨_, hide rfl⟩
    rw [hw2.out] at P2 V2 ⊢
    clear hw2
    obtain ⟨gc, hgc2⟩ : ∃ z, Hid (w1.heap.size = z) := ⟨_, hide rfl⟩
    rw [hgc2.out] at V2 ncv nkv npv hgc ⊢
    clear hgc2
    obtain ⟨b, hb⟩ : ∃ z, (rnum s 1 t1).1 = z := ⟨_, rfl⟩
    obtain ⟨t2, ht2⟩ : ∃ z, (rnum s 1 t1).2 = z := ⟨_, rfl⟩
    have HC2 := hide (unum1 P2.out.rd hs P2.out.at_)
    have hle2 := (Rd.num 1).le s t1 P2.out.at_
    rw [hb, ht2] at HC2
    rw [ht2] at hle2
    refine HC2.out.mono ?_
    rintro e w3 ⟨rfl, hr3, hT3⟩
    have P3 := hide (P2.out.turn hr3 hle2 hT3)
    have V3 := hide (tk_blk hT3 V2.out P2.out.rd.ba P2.out.rd.bw (by decide) (by decide))
    clear HC2 hr3 hT3 hle2
    have q1 : w3.cell? ⟨gc, 1, none⟩ = some (.int .i64 0) := V3.out.cell 1
    have q2 : w3.frozen? ⟨gc, 1, none⟩ = false := V3.out.frozen 1
    have P4 := hide (P3.out.var V3.out hgc (by decide) (by decide) (by decide) (by decide) (by decide) ncv nkv npv 1 (.int .i64 b))
    have V4 : Hid (Blk (w3.setCell ⟨gc, 1, none⟩ (.int .i64 b)) gc 75 #[.bool true, .int .i64 b]) := hide (V3.out.set_ 1 (.int .i64 b))
    have HBP : (w3.setCell ⟨gc, 1, none⟩ (.int .i64 b)).cell? ⟨gp, 5, none⟩ = some pv := P4.out.bp.cell 5
    have c0 : (w3.setCell ⟨gc, 1, none⟩ (.int .i64 b)).cell? ⟨gc, 0, none⟩ = some (.bool true) := V4.out.cell 0
    have c1 : (w3.setCell ⟨gc, 1, none⟩ (.int .i64 b)).cell? ⟨gc, 1, none⟩ = some (.int .i64 b) := V4.out.cell 1
    have PA := hide (P4.out.alloc (.cells #[.bool true, .int .i64 b] 75))
    have hsz : ((w3.setCell ⟨gc, 1, none⟩ (.int .i64 b))).heap.size = w3.heap.size := by simp [World.setCell]
    have BA : Hid (Blk ((w3.setCell ⟨gc, 1, none⟩ (.int .i64 b)).alloc (.cells #[.bool true, .int .i64 b] 75)) (w3.heap.size) 75 #[.bool true, .int .i64 b]) := hide (by rw [← hsz]; exact Blk.new (w3.setCell ⟨gc, 1, none⟩ (.int .i64 b)) 75 #[.bool true, .int .i64 b])
    go_wp2_with ((with_reducible show wpList _ _ _ (⟨some 16, _, _, _, _, _⟩ :: _) _ _); refine unhid14 ?_)
    unfold Hid
    refine app_list rfl _ _ 36 75 rfl (.agg #[.bool false, .int .i64 0]) 2 16 Try.underlying36 info_p rfl (by decide) pv caps.length _ rfl PA.out.op _ 1 (⟨true, b⟩ : CapM).cells rfl (Src.blk BA.out) rfl (one_p _) (Nat.le_trans (show caps.length + 1 ≤ 100000001 by omega) (by decide)) (by omega) ?_
    intro v' w9 hr9 hg9 ha9
    obtain ⟨A9, n9, c9, rfl⟩ := row_form3 hr9.out
    have B9 := hide (PA.out.bp.grown hg9.out (Ne.symm (row_blk_ne PA.out.op PA.out.bp (by decide))))
    have q3 : w9.cell? ⟨gp, 5, none⟩ = some pv := B9.out.cell 5
    have q4 : w9.frozen? ⟨gp, 5, none⟩ = false := B9.out.frozen 5
    go_wp2_with fail
    have hr10 : Row w9 75 2 (.slice A9 n9 c9) (caps ++ [(⟨true, b⟩ : CapM)]).length ((caps ++ [(⟨true, b⟩ : CapM)]).flatMap CapM.cells) := by rw [List.length_append, List.flatMap_append]; simpa using hr9.out
    have PF := PA.out.push_p hr10 hg9.out ha9.out
    refine bodyPost_end (results_none rfl _ _ _) rfl ?_
    refine ⟨rfl, .slice A9 n9 c9, ?_⟩
    rw [hcap2, hb, ht2]
    exact PF
  · have e1 : (a == 1) = false := by simpa using hq
    have e2 : decide (a = 1) = false := decide_eq_false hq
    have hcap2 : rcap s t = (⟨false, (rnum s 1 t1).1⟩, (rnum s 1 t1).2) := by rw [hcap]; rw [e2]
    have P2 := hide (P1.out.alloc (.cells #[.bool false, .int .i64 0] 75))
    have V2 := hide (Blk.new w1 75 #[.bool false, .int .i64 0])
    have ncv : cv.ownBlock ≠ some w1.heap.size := fun e => by have := row_lt P1.out.oc _ e; omega
    have nkv : kv.ownBlock ≠ some w1.heap.size := fun e => by have := row_lt P1.out.ok _ e; omega
    have npv : pv.ownBlock ≠ some w1.heap.size := fun e => by have := row_lt P1.out.op _ e; omega
    have hgc : wp.heap.size ≤ w1.heap.size := P1.out.tu.size
    have zb : (w1.alloc (.cells #[.bool false, .int .i64 0] 75)).cell? ⟨gb, 0, none⟩ = some (.func (.func 61) #[] #[ptrW gs, ptrW ga, ptrW gw]) := P2.out.bb.cell 0
    go_wp2_with fail
    clear zb
    obtain ⟨w2, hw2⟩ : ∃ z, Hid ((w1.alloc (.cells #[.bool false, .int .i64 0] 75)) = z) := ⟨_, hide rfl⟩
    rw [hw2.out] at P2 V2 ⊢
    clear hw2
    obtain ⟨gc, hgc2⟩ : ∃ z, Hid (w1.heap.size = z) := ⟨_, hide rfl⟩
    rw [hgc2.out] at V2 ncv nkv npv hgc ⊢
    clear hgc2
    obtain ⟨b, hb⟩ : ∃ z, (rnum s 1 t1).1 = z := ⟨_, rfl⟩
    obtain ⟨t2, ht2⟩ : ∃ z, (rnum s 1 t1).2 = z := ⟨_, rfl⟩
    have HC2 := hide (unum1 P2.out.rd hs P2.out.at_)
    have hle2 := (Rd.num 1).le s t1 P2.out.at_
    rw [hb, ht2] at HC2
    rw [ht2] at hle2
    refine HC2.out.mono ?_
    rintro e w3 ⟨rfl, hr3, hT3⟩
    have P3 := hide (P2.out.turn hr3 hle2 hT3)
    have V3 := hide (tk_blk hT3 V2.out P2.out.rd.ba P2.out.rd.bw (by decide) (by decide))
    clear HC2 hr3 hT3 hle2
    have q1 : w3.cell? ⟨gc, 1, none⟩ = some (.int .i64 0) := V3.out.cell 1
    have q2 : w3.frozen? ⟨gc, 1, none⟩ = false := V3.out.frozen 1
    have P4 := hide (P3.out.var V3.out hgc (by decide) (by decide) (by decide) (by decide) (by decide) ncv nkv npv 1 (.int .i64 b))
    have V4 : Hid (Blk (w3.setCell ⟨gc, 1, none⟩ (.int .i64 b)) gc 75 #[.bool false, .int .i64 b]) := hide (V3.out.set_ 1 (.int .i64 b))
    have HBP : (w3.setCell ⟨gc, 1, none⟩ (.int .i64 b)).cell? ⟨gp, 5, none⟩ = some pv := P4.out.bp.cell 5
    have c0 : (w3.setCell ⟨gc, 1, none⟩ (.int .i64 b)).cell? ⟨gc, 0, none⟩ = some (.bool false) := V4.out.cell 0
    have c1 : (w3.setCell ⟨gc, 1, none⟩ (.int .i64 b)).cell? ⟨gc, 1, none⟩ = some (.int .i64 b) := V4.out.cell 1
    have PA := hide (P4.out.alloc (.cells #[.bool false, .int .i64 b] 75))
    have hsz : ((w3.setCell ⟨gc, 1, none⟩ (.int .i64 b))).heap.size = w3.heap.size := by simp [World.setCell]
    have BA : Hid (Blk ((w3.setCell ⟨gc, 1, none⟩ (.int .i64 b)).alloc (.cells #[.bool false, .int .i64 b] 75)) (w3.heap.size) 75 #[.bool false, .int .i64 b]) := hide (by rw [← hsz]; exact Blk.new (w3.setCell ⟨gc, 1, none⟩ (.int .i64 b)) 75 #[.bool false, .int .i64 b])
    go_wp2_with ((with_reducible show wpList _ _ _ (⟨some 16, _, _, _, _, _⟩ :: _) _ _); refine unhid14 ?_)
    unfold Hid
    refine app_list rfl _ _ 36 75 rfl (.agg #[.bool false, .int .i64 0]) 2 16 Try.underlying36 info_p rfl (by decide) pv caps.length _ rfl PA.out.op _ 1 (⟨false, b⟩ : CapM).cells rfl (Src.blk BA.out) rfl (one_p _) (Nat.le_trans (show caps.length + 1 ≤ 100000001 by omega) (by decide)) (by omega) ?_
    intro v' w9 hr9 hg9 ha9
    obtain ⟨A9, n9, c9, rfl⟩ := row_form3 hr9.out
    have B9 := hide (PA.out.bp.grown hg9.out (Ne.symm (row_blk_ne PA.out.op PA.out.bp (by decide))))
    have q3 : w9.cell? ⟨gp, 5, none⟩ = some pv := B9.out.cell 5
    have q4 : w9.frozen? ⟨gp, 5, none⟩ = false := B9.out.frozen 5
    go_wp2_with fail
    have hr10 : Row w9 75 2 (.slice A9 n9 c9) (caps ++ [(⟨false, b⟩ : CapM)]).length ((caps ++ [(⟨false, b⟩ : CapM)]).flatMap CapM.cells) := by rw [List.length_append, List.flatMap_append]; simpa using hr9.out
    have PF := PA.out.push_p hr10 hg9.out ha9.out
    refine bodyPost_end (results_none rfl _ _ _) rfl ?_
    refine ⟨rfl, .slice A9 n9 c9, ?_⟩
    rw [hcap2, hb, ht2]
    exact PF
set_option maxRecDepth 20000 in
set_option maxHeartbeats 4000000 in
theorem usproto3_calls {w0 wp w : World} {gs ga gw gx gb gp : Nat} {s : ByteArray} {t : St} {nm : ByteArray} {pa re : Int} {cv kv pv : Value} {code : List InsM} {cons : List ConM} {caps : List CapM} (h : PrI w0 wp w gs ga gw gx gb gp s t nm pa re cv kv pv code cons caps) (hs : s.size ≤ 100000000) (hl : code.length ≤ 100000000) : Calls Try.prog 69 #[ptrW gb, ptrW gp] w fun e w' => e = .returned (.tuple #[]) ∧ ∃ v', PrI w0 wp w' gs ga gw gx gb gp s (rins s t).2 nm pa re v' kv pv (code ++ [(rins s t).1]) cons caps := by
  have P0 := hide h
  have zb : w.cell? ⟨gb, 0, none⟩ = some (.func (.func 61) #[] #[ptrW gs, ptrW ga, ptrW gw]) := P0.out.bb.cell 0
  go_enter Try.func69, Try.ntmps69
  go_wp2_with fail
  clear zb
  obtain ⟨a, ha⟩ : ∃ z, (rnum s 1 t).1 = z := ⟨_, rfl⟩
  obtain ⟨t1, ht1⟩ : ∃ z, (rnum s 1 t).2 = z := ⟨_, rfl⟩
  have HC0 := hide (unum1 P0.out.rd hs P0.out.at_)
  have hle0 := (Rd.num 1).le s t P0.out.at_
  rw [ha, ht1] at HC0
  rw [ht1] at hle0
  refine HC0.out.mono ?_
  rintro e w1 ⟨rfl, hr1, hT1⟩
  have P1 := hide (P0.out.turn hr1 hle0 hT1)
  clear h HC0 hr1 hT1 hle0 P0
  have P2 := hide (P1.out.alloc (.cells #[.int .i64 a, .int .i64 0, .int .i64 0, .int .i64 0] 78))
  have V2 := hide (Blk.new w1 78 #[.int .i64 a, .int .i64 0, .int .i64 0, .int .i64 0])
  have ncv : cv.ownBlock ≠ some w1.heap.size := fun e => by have := row_lt P1.out.oc _ e; omega
  have nkv : kv.ownBlock ≠ some w1.heap.size := fun e => by have := row_lt P1.out.ok _ e; omega
  have npv : pv.ownBlock ≠ some w1.heap.size := fun e => by have := row_lt P1.out.op _ e; omega
  have hgc : wp.heap.size ≤ w1.heap.size := P1.out.tu.size
  have zb : (w1.alloc (.cells #[.int .i64 a, .int .i64 0, .int .i64 0, .int .i64 0] 78)).cell? ⟨gb, 0, none⟩ = some (.func (.func 61) #[] #[ptrW gs, ptrW ga, ptrW gw]) := P2.out.bb.cell 0
  go_wp2_with fail
  clear zb
  obtain ⟨w2, hw2⟩ : ∃ z, Hid ((w1.alloc (.cells #[.int .i64 a, .int .i64 0, .int .i64 0, .int .i64 0] 78)) = z) := ⟨_, hide rfl⟩
  rw [hw2.out] at P2 V2 ⊢
  clear hw2
  obtain ⟨gc, hgc2⟩ : ∃ z, Hid (w1.heap.size = z) := ⟨_, hide rfl⟩
  rw [hgc2.out] at V2 ncv nkv npv hgc ⊢
  clear hgc2
  obtain ⟨b, hb⟩ : ∃ z, (rnum s 1 t1).1 = z := ⟨_, rfl⟩
  obtain ⟨t2, ht2⟩ : ∃ z, (rnum s 1 t1).2 = z := ⟨_, rfl⟩
  have HC2 := hide (unum1 P2.out.rd hs P2.out.at_)
  have hle2 := (Rd.num 1).le s t1 P2.out.at_
  rw [hb, ht2] at HC2
  rw [ht2] at hle2
  refine HC2.out.mono ?_
  rintro e w3 ⟨rfl, hr3, hT3⟩
  have P3 := hide (P2.out.turn hr3 hle2 hT3)
  have V3 := hide (tk_blk hT3 V2.out P2.out.rd.ba P2.out.rd.bw (by decide) (by decide))
  clear HC2 hr3 hT3 hle2
  have q1 : w3.cell? ⟨gc, 1, none⟩ = some (.int .i64 0) := V3.out.cell 1
  have q2 : w3.frozen? ⟨gc, 1, none⟩ = false := V3.out.frozen 1
  have P4 := hide (P3.out.var V3.out hgc (by decide) (by decide) (by decide) (by decide) (by decide) ncv nkv npv 1 (.int .i64 b))
  have V4 : Hid (Blk (w3.setCell ⟨gc, 1, none⟩ (.int .i64 b)) gc 78 #[.int .i64 a, .int .i64 b, .int .i64 0, .int .i64 0]) := hide (V3.out.set_ 1 (.int .i64 b))
  have zb : (w3.setCell ⟨gc, 1, none⟩ (.int .i64 b)).cell? ⟨gb, 0, none⟩ = some (.func (.func 61) #[] #[ptrW gs, ptrW ga, ptrW gw]) := P4.out.bb.cell 0
  go_wp2_with fail
  clear zb q1 q2
  obtain ⟨w4, hw4⟩ : ∃ z, Hid ((w3.setCell ⟨gc, 1, none⟩ (.int .i64 b)) = z) := ⟨_, hide rfl⟩
  rw [hw4.out] at P4 V4 ⊢
  clear hw4
  obtain ⟨c, hc⟩ : ∃ z, (rnum s 1 t2).1 = z := ⟨_, rfl⟩
  obtain ⟨t3, ht3⟩ : ∃ z, (rnum s 1 t2).2 = z := ⟨_, rfl⟩
  have HC4 := hide (unum1 P4.out.rd hs P4.out.at_)
  have hle4 := (Rd.num 1).le s t2 P4.out.at_
  rw [hc, ht3] at HC4
  rw [ht3] at hle4
  refine HC4.out.mono ?_
  rintro e w5 ⟨rfl, hr5, hT5⟩
  have P5 := hide (P4.out.turn hr5 hle4 hT5)
  have V5 := hide (tk_blk hT5 V4.out P4.out.rd.ba P4.out.rd.bw (by decide) (by decide))
  clear HC4 hr5 hT5 hle4
  have q1 : w5.cell? ⟨gc, 2, none⟩ = some (.int .i64 0) := V5.out.cell 2
  have q2 : w5.frozen? ⟨gc, 2, none⟩ = false := V5.out.frozen 2
  have P6 := hide (P5.out.var V5.out hgc (by decide) (by decide) (by decide) (by decide) (by decide) ncv nkv npv 2 (.int .i64 c))
  have V6 : Hid (Blk (w5.setCell ⟨gc, 2, none⟩ (.int .i64 c)) gc 78 #[.int .i64 a, .int .i64 b, .int .i64 c, .int .i64 0]) := hide (V5.out.set_ 2 (.int .i64 c))
  have zb : (w5.setCell ⟨gc, 2, none⟩ (.int .i64 c)).cell? ⟨gb, 0, none⟩ = some (.func (.func 61) #[] #[ptrW gs, ptrW ga, ptrW gw]) := P6.out.bb.cell 0
  go_wp2_with fail
  clear zb q1 q2
  obtain ⟨w6, hw6⟩ : ∃ z, Hid ((w5.setCell ⟨gc, 2, none⟩ (.int .i64 c)) = z) := ⟨_, hide rfl⟩
  rw [hw6.out] at P6 V6 ⊢
  clear hw6
  obtain ⟨d, hd⟩ : ∃ z, (rnum s 1 t3).1 = z := ⟨_, rfl⟩
  obtain ⟨t4, ht4⟩ : ∃ z, (rnum s 1 t3).2 = z := ⟨_, rfl⟩
  have HC6 := hide (unum1 P6.out.rd hs P6.out.at_)
  have hle6 := (Rd.num 1).le s t3 P6.out.at_
  rw [hd, ht4] at HC6
  rw [ht4] at hle6
  refine HC6.out.mono ?_
  rintro e w7 ⟨rfl, hr7, hT7⟩
  have P7 := hide (P6.out.turn hr7 hle6 hT7)
  have V7 := hide (tk_blk hT7 V6.out P6.out.rd.ba P6.out.rd.bw (by decide) (by decide))
  clear HC6 hr7 hT7 hle6
  have q1 : w7.cell? ⟨gc, 3, none⟩ = some (.int .i64 0) := V7.out.cell 3
  have q2 : w7.frozen? ⟨gc, 3, none⟩ = false := V7.out.frozen 3
  have P8 := hide (P7.out.var V7.out hgc (by decide) (by decide) (by decide) (by decide) (by decide) ncv nkv npv 3 (.int .i64 d))
  have V8 : Hid (Blk (w7.setCell ⟨gc, 3, none⟩ (.int .i64 d)) gc 78 #[.int .i64 a, .int .i64 b, .int .i64 c, .int .i64 d]) := hide (V7.out.set_ 3 (.int .i64 d))
  have hins : rins s t = (⟨a, b, c, d⟩, t4) := by unfold rins; dsimp only; rw [ha, ht1, hb, ht2, hc, ht3, hd, ht4]
  have HBP : (w7.setCell ⟨gc, 3, none⟩ (.int .i64 d)).cell? ⟨gp, 3, none⟩ = some cv := P8.out.bp.cell 3
  have c0 : (w7.setCell ⟨gc, 3, none⟩ (.int .i64 d)).cell? ⟨gc, 0, none⟩ = some (.int .i64 a) := V8.out.cell 0
  have c1 : (w7.setCell ⟨gc, 3, none⟩ (.int .i64 d)).cell? ⟨gc, 1, none⟩ = some (.int .i64 b) := V8.out.cell 1
  have c2 : (w7.setCell ⟨gc, 3, none⟩ (.int .i64 d)).cell? ⟨gc, 2, none⟩ = some (.int .i64 c) := V8.out.cell 2
  have c3 : (w7.setCell ⟨gc, 3, none⟩ (.int .i64 d)).cell? ⟨gc, 3, none⟩ = some (.int .i64 d) := V8.out.cell 3
  have PA := hide (P8.out.alloc (.cells #[.int .i64 a, .int .i64 b, .int .i64 c, .int .i64 d] 78))
  have hsz : ((w7.setCell ⟨gc, 3, none⟩ (.int .i64 d))).heap.size = w7.heap.size := by simp [World.setCell]
  have BA : Hid (Blk ((w7.setCell ⟨gc, 3, none⟩ (.int .i64 d)).alloc (.cells #[.int .i64 a, .int .i64 b, .int .i64 c, .int .i64 d] 78)) (w7.heap.size) 78 #[.int .i64 a, .int .i64 b, .int .i64 c, .int .i64 d]) := hide (by rw [← hsz]; exact Blk.new (w7.setCell ⟨gc, 3, none⟩ (.int .i64 d)) 78 #[.int .i64 a, .int .i64 b, .int .i64 c, .int .i64 d])
  go_wp2_with ((with_reducible show wpList _ _ _ (⟨some 23, _, _, _, _, _⟩ :: _) _ _); refine unhid14 ?_)
  unfold Hid
  refine app_list rfl _ _ 34 78 rfl (.agg #[.int .i64 0, .int .i64 0, .int .i64 0, .int .i64 0]) 4 32 Try.underlying34 info_c rfl (by decide) cv code.length _ rfl PA.out.oc _ 1 (⟨a, b, c, d⟩ : InsM).cells rfl (Src.blk BA.out) rfl (one_c _) (Nat.le_trans (show code.length + 1 ≤ 100000001 by omega) (by decide)) (by omega) ?_
  intro v' w9 hr9 hg9 ha9
  obtain ⟨A9, n9, c9, rfl⟩ := row_form3 hr9.out
  have B9 := hide (PA.out.bp.grown hg9.out (Ne.symm (row_blk_ne PA.out.oc PA.out.bp (by decide))))
  have q3 : w9.cell? ⟨gp, 3, none⟩ = some cv := B9.out.cell 3
  have q4 : w9.frozen? ⟨gp, 3, none⟩ = false := B9.out.frozen 3
  go_wp2_with fail
  have hr10 : Row w9 78 4 (.slice A9 n9 c9) (code ++ [(⟨a, b, c, d⟩ : InsM)]).length ((code ++ [(⟨a, b, c, d⟩ : InsM)]).flatMap InsM.cells) := by rw [List.length_append, List.flatMap_append]; simpa using hr9.out
  have PF := PA.out.push_c hr10 hg9.out ha9.out
  refine bodyPost_end (results_none rfl _ _ _) rfl ?_
  refine ⟨rfl, .slice A9 n9 c9, ?_⟩
  rw [hins]
  exact PF
set_option maxRecDepth 20000 in
set_option maxHeartbeats 4000000 in
theorem usproto2_calls {w0 wp w : World} {gs ga gw gx gb gp : Nat} {s : ByteArray} {t : St} {nm : ByteArray} {pa re : Int} {cv kv pv : Value} {code : List InsM} {cons : List ConM} {caps : List CapM} (h : PrI w0 wp w gs ga gw gx gb gp s t nm pa re cv kv pv code cons caps) (hs : s.size ≤ 100000000) (hl : cons.length ≤ 100000000) : Calls Try.prog 68 #[ptrW gb, ptrW gp] w fun e w' => e = .returned (.tuple #[]) ∧ ∃ v', PrI w0 wp w' gs ga gw gx gb gp s (rcon s t).2 nm pa re cv v' pv code (cons ++ [(rcon s t).1]) caps := by
  have P0 := hide h
  have zb : w.cell? ⟨gb, 0, none⟩ = some (.func (.func 61) #[] #[ptrW gs, ptrW ga, ptrW gw]) := P0.out.bb.cell 0
  go_enter Try.func68, Try.ntmps68
  go_wp2_with fail
  clear zb
  obtain ⟨a, ha⟩ : ∃ z, (rnum s 1 t).1 = z := ⟨_, rfl⟩
  obtain ⟨t1, ht1⟩ : ∃ z, (rnum s 1 t).2 = z := ⟨_, rfl⟩
  have HC0 := hide (unum1 P0.out.rd hs P0.out.at_)
  have hle0 := (Rd.num 1).le s t P0.out.at_
  rw [ha, ht1] at HC0
  rw [ht1] at hle0
  refine HC0.out.mono ?_
  rintro e w1 ⟨rfl, hr1, hT1⟩
  have P1 := hide (P0.out.turn hr1 hle0 hT1)
  clear h HC0 hr1 hT1 hle0 P0
  by_cases hq1 : a = 1
  · subst hq1
    have P2 := hide (P1.out.alloc (.cells #[.int .i64 1, .int .i64 0, .string ⟨#[]⟩] 45))
    have V2 := hide (Blk.new w1 45 #[.int .i64 1, .int .i64 0, .string ⟨#[]⟩])
    have ncv : cv.ownBlock ≠ some w1.heap.size := fun e => by have := row_lt P1.out.oc _ e; omega
    have nkv : kv.ownBlock ≠ some w1.heap.size := fun e => by have := row_lt P1.out.ok _ e; omega
    have npv : pv.ownBlock ≠ some w1.heap.size := fun e => by have := row_lt P1.out.op _ e; omega
    have hgc : wp.heap.size ≤ w1.heap.size := P1.out.tu.size
    have d0 : (w1.alloc (.cells #[.int .i64 1, .int .i64 0, .string ⟨#[]⟩] 45)).cell? ⟨w1.heap.size, 0, none⟩ = some (.int .i64 1) := V2.out.cell 0
    have zb : (w1.alloc (.cells #[.int .i64 1, .int .i64 0, .string ⟨#[]⟩] 45)).cell? ⟨gb, 0, none⟩ = some (.func (.func 61) #[] #[ptrW gs, ptrW ga, ptrW gw]) := P2.out.bb.cell 0
    go_wp2_with fail
    clear zb d0
    obtain ⟨w2, hw2⟩ : ∃ z, Hid ((w1.alloc (.cells #[.int .i64 1, .int .i64 0, .string ⟨#[]⟩] 45)) = z) := ⟨_, hide rfl⟩
    rw [hw2.out] at P2 V2 ⊢
    clear hw2
    obtain ⟨gc, hgc2⟩ : ∃ z, Hid (w1.heap.size = z) := ⟨_, hide rfl⟩
    rw [hgc2.out] at V2 ncv nkv npv hgc ⊢
    clear hgc2
    obtain ⟨b, hb⟩ : ∃ z, (rnum s 8 t1).1 = z := ⟨_, rfl⟩
    obtain ⟨t2, ht2⟩ : ∃ z, (rnum s 8 t1).2 = z := ⟨_, rfl⟩
    have HC2 := hide (unum8 P2.out.rd hs P2.out.at_)
    have hle2 := (Rd.num 8).le s t1 P2.out.at_
    rw [hb, ht2] at HC2
    rw [ht2] at hle2
    refine HC2.out.mono ?_
    rintro e w3 ⟨rfl, hr3, hT3⟩
    have P3 := hide (P2.out.turn hr3 hle2 hT3)
    have V3 := hide (tk_blk hT3 V2.out P2.out.rd.ba P2.out.rd.bw (by decide) (by decide))
    clear HC2 hr3 hT3 hle2
    have q1 : w3.cell? ⟨gc, 1, none⟩ = some (.int .i64 0) := V3.out.cell 1
    have q2 : w3.frozen? ⟨gc, 1, none⟩ = false := V3.out.frozen 1
    have P4 := hide (P3.out.var V3.out hgc (by decide) (by decide) (by decide) (by decide) (by decide) ncv nkv npv 1 (.int .i64 b))
    have V4 : Hid (Blk (w3.setCell ⟨gc, 1, none⟩ (.int .i64 b)) gc 45 #[.int .i64 1, .int .i64 b, .string ⟨#[]⟩]) := hide (V3.out.set_ 1 (.int .i64 b))
    have hcon : rcon s t = (⟨1, b, ⟨#[]⟩⟩, t2) := by unfold rcon; dsimp only; rw [ha, if_pos rfl, ht1, hb, ht2]
    have HBP : (w3.setCell ⟨gc, 1, none⟩ (.int .i64 b)).cell? ⟨gp, 4, none⟩ = some kv := P4.out.bp.cell 4
    have c0 : (w3.setCell ⟨gc, 1, none⟩ (.int .i64 b)).cell? ⟨gc, 0, none⟩ = some (.int .i64 1) := V4.out.cell 0
    have c1 : (w3.setCell ⟨gc, 1, none⟩ (.int .i64 b)).cell? ⟨gc, 1, none⟩ = some (.int .i64 b) := V4.out.cell 1
    have c2 : (w3.setCell ⟨gc, 1, none⟩ (.int .i64 b)).cell? ⟨gc, 2, none⟩ = some (.string ⟨#[]⟩) := V4.out.cell 2
    have PA := hide (P4.out.alloc (.cells #[.int .i64 1, .int .i64 b, .string ⟨#[]⟩] 45))
    have hsz : ((w3.setCell ⟨gc, 1, none⟩ (.int .i64 b))).heap.size = w3.heap.size := by simp [World.setCell]
    have BA : Hid (Blk ((w3.setCell ⟨gc, 1, none⟩ (.int .i64 b)).alloc (.cells #[.int .i64 1, .int .i64 b, .string ⟨#[]⟩] 45)) (w3.heap.size) 45 #[.int .i64 1, .int .i64 b, .string ⟨#[]⟩]) := hide (by rw [← hsz]; exact Blk.new (w3.setCell ⟨gc, 1, none⟩ (.int .i64 b)) 45 #[.int .i64 1, .int .i64 b, .string ⟨#[]⟩])
    go_wp2_with ((with_reducible show wpList _ _ _ (⟨some 25, _, _, _, _, _⟩ :: _) _ _); refine unhid14 ?_)
    unfold Hid
    refine app_list rfl _ _ 35 45 rfl (.agg #[.int .i64 0, .int .i64 0, .string ⟨#[]⟩]) 3 32 Try.underlying35 info_k rfl (by decide) kv cons.length _ rfl PA.out.ok _ 1 (⟨1, b, ⟨#[]⟩⟩ : ConM).cells rfl (Src.blk BA.out) rfl (one_k _) (Nat.le_trans (show cons.length + 1 ≤ 100000001 by omega) (by decide)) (by omega) ?_
    intro v' w9 hr9 hg9 ha9
    obtain ⟨A9, n9, c9, rfl⟩ := row_form3 hr9.out
    have B9 := hide (PA.out.bp.grown hg9.out (Ne.symm (row_blk_ne PA.out.ok PA.out.bp (by decide))))
    have q3 : w9.cell? ⟨gp, 4, none⟩ = some kv := B9.out.cell 4
    have q4 : w9.frozen? ⟨gp, 4, none⟩ = false := B9.out.frozen 4
    go_wp2_with fail
    have hr10 : Row w9 45 3 (.slice A9 n9 c9) (cons ++ [(⟨1, b, ⟨#[]⟩⟩ : ConM)]).length ((cons ++ [(⟨1, b, ⟨#[]⟩⟩ : ConM)]).flatMap ConM.cells) := by rw [List.length_append, List.flatMap_append]; simpa using hr9.out
    have PF := PA.out.push_k hr10 hg9.out ha9.out
    refine bodyPost_end (results_none rfl _ _ _) rfl ?_
    refine ⟨rfl, .slice A9 n9 c9, ?_⟩
    rw [hcon]
    exact PF
  by_cases hq2 : a = 2
  · subst hq2
    have P2 := hide (P1.out.alloc (.cells #[.int .i64 2, .int .i64 0, .string ⟨#[]⟩] 45))
    have V2 := hide (Blk.new w1 45 #[.int .i64 2, .int .i64 0, .string ⟨#[]⟩])
    have ncv : cv.ownBlock ≠ some w1.heap.size := fun e => by have := row_lt P1.out.oc _ e; omega
    have nkv : kv.ownBlock ≠ some w1.heap.size := fun e => by have := row_lt P1.out.ok _ e; omega
    have npv : pv.ownBlock ≠ some w1.heap.size := fun e => by have := row_lt P1.out.op _ e; omega
    have hgc : wp.heap.size ≤ w1.heap.size := P1.out.tu.size
    have d0 : (w1.alloc (.cells #[.int .i64 2, .int .i64 0, .string ⟨#[]⟩] 45)).cell? ⟨w1.heap.size, 0, none⟩ = some (.int .i64 2) := V2.out.cell 0
    have zb : (w1.alloc (.cells #[.int .i64 2, .int .i64 0, .string ⟨#[]⟩] 45)).cell? ⟨gb, 1, none⟩ = some (.func (.func 63) #[] #[ptrW gs, ptrW ga, ptrW gw]) := P2.out.bb.cell 1
    go_wp2_with fail
    clear zb d0
    obtain ⟨w2, hw2⟩ : ∃ z, Hid ((w1.alloc (.cells #[.int .i64 2, .int .i64 0, .string ⟨#[]⟩] 45)) = z) := ⟨_, hide rfl⟩
    rw [hw2.out] at P2 V2 ⊢
    clear hw2
    obtain ⟨gc, hgc2⟩ : ∃ z, Hid (w1.heap.size = z) := ⟨_, hide rfl⟩
    rw [hgc2.out] at V2 ncv nkv npv hgc ⊢
    clear hgc2
    obtain ⟨b, hb⟩ : ∃ z, (rtext s t1).1 = z := ⟨_, rfl⟩
    obtain ⟨t2, ht2⟩ : ∃ z, (rtext s t1).2 = z := ⟨_, rfl⟩
    have HC2 := hide (uopen2_calls P2.out.rd hs P2.out.at_)
    have hle2 := Rd.text.le s t1 P2.out.at_
    rw [hb, ht2] at HC2
    rw [ht2] at hle2
    refine HC2.out.mono ?_
    rintro e w3 ⟨rfl, hr3, hT3⟩
    have P3 := hide (P2.out.turn hr3 hle2 hT3)
    have V3 := hide (tk_blk hT3 V2.out P2.out.rd.ba P2.out.rd.bw (by decide) (by decide))
    clear HC2 hr3 hT3 hle2
    have q1 : w3.cell? ⟨gc, 2, none⟩ = some (.string ⟨#[]⟩) := V3.out.cell 2
    have q2 : w3.frozen? ⟨gc, 2, none⟩ = false := V3.out.frozen 2
    have P4 := hide (P3.out.var V3.out hgc (by decide) (by decide) (by decide) (by decide) (by decide) ncv nkv npv 2 (.string b))
    have V4 : Hid (Blk (w3.setCell ⟨gc, 2, none⟩ (.string b)) gc 45 #[.int .i64 2, .int .i64 0, .string b]) := hide (V3.out.set_ 2 (.string b))
    have hcon : rcon s t = (⟨2, 0, b⟩, t2) := by unfold rcon; dsimp only; rw [ha, if_neg (by decide), if_pos rfl, ht1, hb, ht2]
    have HBP : (w3.setCell ⟨gc, 2, none⟩ (.string b)).cell? ⟨gp, 4, none⟩ = some kv := P4.out.bp.cell 4
    have c0 : (w3.setCell ⟨gc, 2, none⟩ (.string b)).cell? ⟨gc, 0, none⟩ = some (.int .i64 2) := V4.out.cell 0
    have c1 : (w3.setCell ⟨gc, 2, none⟩ (.string b)).cell? ⟨gc, 1, none⟩ = some (.int .i64 0) := V4.out.cell 1
    have c2 : (w3.setCell ⟨gc, 2, none⟩ (.string b)).cell? ⟨gc, 2, none⟩ = some (.string b) := V4.out.cell 2
    have PA := hide (P4.out.alloc (.cells #[.int .i64 2, .int .i64 0, .string b] 45))
    have hsz : ((w3.setCell ⟨gc, 2, none⟩ (.string b))).heap.size = w3.heap.size := by simp [World.setCell]
    have BA : Hid (Blk ((w3.setCell ⟨gc, 2, none⟩ (.string b)).alloc (.cells #[.int .i64 2, .int .i64 0, .string b] 45)) (w3.heap.size) 45 #[.int .i64 2, .int .i64 0, .string b]) := hide (by rw [← hsz]; exact Blk.new (w3.setCell ⟨gc, 2, none⟩ (.string b)) 45 #[.int .i64 2, .int .i64 0, .string b])
    go_wp2_with ((with_reducible show wpList _ _ _ (⟨some 25, _, _, _, _, _⟩ :: _) _ _); refine unhid14 ?_)
    unfold Hid
    refine app_list rfl _ _ 35 45 rfl (.agg #[.int .i64 0, .int .i64 0, .string ⟨#[]⟩]) 3 32 Try.underlying35 info_k rfl (by decide) kv cons.length _ rfl PA.out.ok _ 1 (⟨2, 0, b⟩ : ConM).cells rfl (Src.blk BA.out) rfl (one_k _) (Nat.le_trans (show cons.length + 1 ≤ 100000001 by omega) (by decide)) (by omega) ?_
    intro v' w9 hr9 hg9 ha9
    obtain ⟨A9, n9, c9, rfl⟩ := row_form3 hr9.out
    have B9 := hide (PA.out.bp.grown hg9.out (Ne.symm (row_blk_ne PA.out.ok PA.out.bp (by decide))))
    have q3 : w9.cell? ⟨gp, 4, none⟩ = some kv := B9.out.cell 4
    have q4 : w9.frozen? ⟨gp, 4, none⟩ = false := B9.out.frozen 4
    go_wp2_with fail
    have hr10 : Row w9 45 3 (.slice A9 n9 c9) (cons ++ [(⟨2, 0, b⟩ : ConM)]).length ((cons ++ [(⟨2, 0, b⟩ : ConM)]).flatMap ConM.cells) := by rw [List.length_append, List.flatMap_append]; simpa using hr9.out
    have PF := PA.out.push_k hr10 hg9.out ha9.out
    refine bodyPost_end (results_none rfl _ _ _) rfl ?_
    refine ⟨rfl, .slice A9 n9 c9, ?_⟩
    rw [hcon]
    exact PF
  have e1 : (a == 1) = false := by simpa using hq1
  have e2 : decide (a = 1) = false := decide_eq_false hq1
  have e3 : (a == 2) = false := by simpa using hq2
  have e4 : decide (a = 2) = false := decide_eq_false hq2
  have P2 := hide (P1.out.alloc (.cells #[.int .i64 a, .int .i64 0, .string ⟨#[]⟩] 45))
  have V2 := hide (Blk.new w1 45 #[.int .i64 a, .int .i64 0, .string ⟨#[]⟩])
  have ncv : cv.ownBlock ≠ some w1.heap.size := fun e => by have := row_lt P1.out.oc _ e; omega
  have nkv : kv.ownBlock ≠ some w1.heap.size := fun e => by have := row_lt P1.out.ok _ e; omega
  have npv : pv.ownBlock ≠ some w1.heap.size := fun e => by have := row_lt P1.out.op _ e; omega
  have hgc : wp.heap.size ≤ w1.heap.size := P1.out.tu.size
  have hcon : rcon s t = (⟨a, 0, ⟨#[]⟩⟩, t1) := by unfold rcon; dsimp only; rw [ha, if_neg hq1, if_neg hq2, ht1]
  have HBP : (w1.alloc (.cells #[.int .i64 a, .int .i64 0, .string ⟨#[]⟩] 45)).cell? ⟨gp, 4, none⟩ = some kv := P2.out.bp.cell 4
  have c0 : (w1.alloc (.cells #[.int .i64 a, .int .i64 0, .string ⟨#[]⟩] 45)).cell? ⟨w1.heap.size, 0, none⟩ = some (.int .i64 a) := V2.out.cell 0
  have c1 : (w1.alloc (.cells #[.int .i64 a, .int .i64 0, .string ⟨#[]⟩] 45)).cell? ⟨w1.heap.size, 1, none⟩ = some (.int .i64 0) := V2.out.cell 1
  have c2 : (w1.alloc (.cells #[.int .i64 a, .int .i64 0, .string ⟨#[]⟩] 45)).cell? ⟨w1.heap.size, 2, none⟩ = some (.string ⟨#[]⟩) := V2.out.cell 2
  have PA := hide (P2.out.alloc (.cells #[.int .i64 a, .int .i64 0, .string ⟨#[]⟩] 45))
  have hsz : ((w1.alloc (.cells #[.int .i64 a, .int .i64 0, .string ⟨#[]⟩] 45))).heap.size = w1.heap.size + 1 := by simp
  have BA : Hid (Blk ((w1.alloc (.cells #[.int .i64 a, .int .i64 0, .string ⟨#[]⟩] 45)).alloc (.cells #[.int .i64 a, .int .i64 0, .string ⟨#[]⟩] 45)) (w1.heap.size + 1) 45 #[.int .i64 a, .int .i64 0, .string ⟨#[]⟩]) := hide (by rw [← hsz]; exact Blk.new (w1.alloc (.cells #[.int .i64 a, .int .i64 0, .string ⟨#[]⟩] 45)) 45 #[.int .i64 a, .int .i64 0, .string ⟨#[]⟩])
  go_wp2_with ((with_reducible show wpList _ _ _ (⟨some 25, _, _, _, _, _⟩ :: _) _ _); refine unhid14 ?_)
  unfold Hid
  refine app_list rfl _ _ 35 45 rfl (.agg #[.int .i64 0, .int .i64 0, .string ⟨#[]⟩]) 3 32 Try.underlying35 info_k rfl (by decide) kv cons.length _ rfl PA.out.ok _ 1 (⟨a, 0, ⟨#[]⟩⟩ : ConM).cells rfl (Src.blk BA.out) rfl (one_k _) (Nat.le_trans (show cons.length + 1 ≤ 100000001 by omega) (by decide)) (by omega) ?_
  intro v' w9 hr9 hg9 ha9
  obtain ⟨A9, n9, c9, rfl⟩ := row_form3 hr9.out
  have B9 := hide (PA.out.bp.grown hg9.out (Ne.symm (row_blk_ne PA.out.ok PA.out.bp (by decide))))
  have q3 : w9.cell? ⟨gp, 4, none⟩ = some kv := B9.out.cell 4
  have q4 : w9.frozen? ⟨gp, 4, none⟩ = false := B9.out.frozen 4
  go_wp2_with fail
  have hr10 : Row w9 45 3 (.slice A9 n9 c9) (cons ++ [(⟨a, 0, ⟨#[]⟩⟩ : ConM)]).length ((cons ++ [(⟨a, 0, ⟨#[]⟩⟩ : ConM)]).flatMap ConM.cells) := by rw [List.length_append, List.flatMap_append]; simpa using hr9.out
  have PF := PA.out.push_k hr10 hg9.out ha9.out
  refine bodyPost_end (results_none rfl _ _ _) rfl ?_
  refine ⟨rfl, .slice A9 n9 c9, ?_⟩
  rw [hcon]
  exact PF
end Go.Proofs.Ythgjmbcojbmlhaa
