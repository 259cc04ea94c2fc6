/- Chapter 14: the document's proto, read: walked. -/
import Derived.Test.YthgjmbcojbmlhaaImgY
import Derived.Deep.CutBlock
namespace Go.Proofs.Ythgjmbcojbmlhaa
open Go.RowKit Zb

set_option maxRecDepth 20000 in
theorem own_ne {w : World} {e : TypeId} {size n : Nat} {v : Value} {xs : List Value} (h : Row w e size v n xs) : v.ownBlock ≠ some w.heap.size := fun he => absurd (row_lt h _ he) (Nat.lt_irrefl _)
set_option maxRecDepth 20000 in
set_option maxHeartbeats 8000000 in
theorem rugrproto_calls {w : World} {g : Nat} {s : ByteArray} {t : St} (h : Blk w g 71 (rdc s t)) (hs : s.size ≤ 100000000) (hat : t.at_ ≤ s.size) :
    Calls Try.prog 41 #[ptrW g] w fun e w' => ∃ v : ProtoV, e = .returned (.agg v.cells.toArray) ∧ v.p = (rproto s t).1 ∧ Blk w' g 71 (rdc s (rproto s t).2) ∧ Turned (TkR g) w w' ∧ v.Own w w' := by
  have HT0 : Hid (Turned (TkR g) w (w.alloc (.cells #[.string ⟨#[]⟩, .int .i64 0, .int .i64 0, .slice none 0 0, .slice none 0 0, .slice none 0 0] 38))) := hide ((Turned.refl _ _).alloc _)
  have HR0 := hide (h.alloc (.cells #[.string ⟨#[]⟩, .int .i64 0, .int .i64 0, .slice none 0 0, .slice none 0 0, .slice none 0 0] 38))
  have HG0 := hide (Blk.new w 38 #[.string ⟨#[]⟩, .int .i64 0, .int .i64 0, .slice none 0 0, .slice none 0 0, .slice none 0 0])
  have hgl := h.lt
  go_enter Try.func41, Try.ntmps41
  go_wp2_with fail
  obtain ⟨wp, hwp⟩ : ∃ z, Hid ((w.alloc (.cells #[.string ⟨#[]⟩, .int .i64 0, .int .i64 0, .slice none 0 0, .slice none 0 0, .slice none 0 0] 38)) = z) := ⟨_, hide rfl⟩
  have hsz0 : wp.heap.size = w.heap.size + 1 := by rw [← hwp.out]; simp
  rw [hwp.out] at HT0 HR0 HG0 ⊢
  obtain ⟨gr, hgr⟩ : ∃ z, Hid (w.heap.size = z) := ⟨_, hide rfl⟩
  rw [hgr.out] at HG0 ⊢
  have hgw0 : w.heap.size ≤ gr := by rw [hgr.out]; omega
  have hgrp : gr < wp.heap.size := by rw [← hgr.out]; omega
  have HWP : Hid (w.heap.size ≤ wp.heap.size) := hide (by omega)
  clear hwp hgr h hsz0
  obtain ⟨nm, hnm⟩ : ∃ z, (rtext s t).1 = z := ⟨_, rfl⟩
  obtain ⟨t1, ht1⟩ : ∃ z, (rtext s t).2 = z := ⟨_, rfl⟩
  have HC := hide (rugrtext_calls HR0.out hs hat)
  have hat1 := Rd.text.le s t hat
  rw [hnm, ht1] at HC
  rw [ht1] at hat1
  refine HC.out.mono ?_
  rintro e w1 ⟨rfl, hr1, hT1⟩
  have P2 : Hid (PrR wp (w1.alloc (.cells #[.string nm, .int .i64 0, .int .i64 0, .slice none 0 0, .slice none 0 0, .slice none 0 0] 38)) g w1.heap.size s t1 nm 0 0 (.slice none 0 0) (.slice none 0 0) (.slice none 0 0) [] [] []) := hide ⟨hr1.alloc _, hat1, hT1.alloc _, Blk.new _ _ _, hT1.size, row_nil _ _ _, own_nilv _, row_nil _ _ _, own_nilv _, row_nil _ _ _, own_nilv _⟩
  clear HC hr1 hT1 hat1
  go_wp2_with fail
  obtain ⟨w2, hw2⟩ : ∃ z, Hid (w1.alloc (.cells #[.string nm, .int .i64 0, .int .i64 0, .slice none 0 0, .slice none 0 0, .slice none 0 0] 38) = z) := ⟨_, hide rfl⟩
  obtain ⟨gp, hgp⟩ : ∃ z, Hid (w1.heap.size = z) := ⟨_, hide rfl⟩
  rw [hw2.out] at P2 ⊢
  rw [hgp.out] at P2 ⊢
  clear hw2 hgp
  obtain ⟨pa, hpa⟩ : ∃ z, (rnum s 1 t1).1 = z := ⟨_, rfl⟩
  obtain ⟨t2, ht2⟩ : ∃ z, (rnum s 1 t1).2 = z := ⟨_, rfl⟩
  have HC2 := hide (rnum114 P2.out.rd hs P2.out.at_)
  have hle2 := (Rd.num 1).le s t1 P2.out.at_
  rw [hpa, ht2] at HC2
  rw [ht2] at hle2
  refine HC2.out.mono ?_
  rintro e w3 ⟨rfl, hr3, hT3⟩
  have P3 := hide (P2.out.turn hr3 hle2 hT3)
  clear HC2 hr3 hT3 hle2 P2
  have q1 : w3.cell? ⟨gp, 1, none⟩ = some (.int .i64 0) := P3.out.bp.cell 1
  have q2 : w3.frozen? ⟨gp, 1, none⟩ = false := P3.out.bp.frozen 1
  have P4 := hide (P3.out.set1 pa)
  go_wp2_with fail
  clear q1 q2
  obtain ⟨w4, hw4⟩ : ∃ z, Hid ((w3.setCell ⟨gp, 1, none⟩ (.int .i64 pa)) = z) := ⟨_, hide rfl⟩
  rw [hw4.out] at P4 ⊢
  clear hw4
  clear P3
  obtain ⟨re, hre⟩ : ∃ z, (rnum s 1 t2).1 = z := ⟨_, rfl⟩
  obtain ⟨t3, ht3⟩ : ∃ z, (rnum s 1 t2).2 = z := ⟨_, rfl⟩
  have HC4 := hide (rnum114 P4.out.rd hs P4.out.at_)
  have hle4 := (Rd.num 1).le s t2 P4.out.at_
  rw [hre, ht3] at HC4
  rw [ht3] at hle4
  refine HC4.out.mono ?_
  rintro e w5 ⟨rfl, hr5, hT5⟩
  have P5 := hide (P4.out.turn hr5 hle4 hT5)
  clear HC4 hr5 hT5 hle4 P4
  have q1 : w5.cell? ⟨gp, 2, none⟩ = some (.int .i64 0) := P5.out.bp.cell 2
  have q2 : w5.frozen? ⟨gp, 2, none⟩ = false := P5.out.bp.frozen 2
  have P6 := hide (P5.out.set2 re)
  go_wp2_with fail
  clear q1 q2
  obtain ⟨w6, hw6⟩ : ∃ z, Hid ((w5.setCell ⟨gp, 2, none⟩ (.int .i64 re)) = z) := ⟨_, hide rfl⟩
  rw [hw6.out] at P6 ⊢
  clear hw6
  clear P5
  obtain ⟨n1, hn1, hn1l⟩ := rn2 s t3
  obtain ⟨t4, ht4⟩ : ∃ z, (rnum s 2 t3).2 = z := ⟨_, rfl⟩
  have HC6 := hide (rnum214 P6.out.rd hs P6.out.at_)
  have hle6 := (Rd.num 2).le s t3 P6.out.at_
  rw [hn1, ht4] at HC6
  rw [ht4] at hle6
  refine HC6.out.mono ?_
  rintro e w7 ⟨rfl, hr7, hT7⟩
  have P7 := hide (P6.out.turn hr7 hle6 hT7)
  clear HC6 hr7 hT7 hle6 P6
  have n1I : (n1 : Int) ≤ 65535 := by omega
  go_upto_block 0 with (fail)
  go_cut [] from 11 (fun wx => ∃ (l : List CapM) (t' : St) (v : Value), Hid (rlist (rcap s) n1 t4 = (l, t')) ∧ Hid (PrR wp wx g gp s t' nm pa re (.slice none 0 0) (.slice none 0 0) v [] [] l))
  case first =>
    go_wp2_with fail
    go_loopw [5, 6] (fun i _ wr => ∃ (k : Nat) (l : List CapM) (t' : St) (v : Value), k ≤ n1 ∧ i = .int .i64 (k : Int) ∧ Hid (RL (rcap s) n1 t4 k l t') ∧ Hid (PrR wp wr g gp s t' nm pa re (.slice none 0 0) (.slice none 0 0) v [] [] l)) (fun i _ _ => n1 - (intOf i).toNat)
    case atStart => exact ⟨0, [], t4, (.slice none 0 0), by omega, rfl, hide (RL.start _ _ _), P7⟩
    case round =>
      clear P7
      obtain ⟨k, l, t', pv, hk, rfl, HL, P0⟩ := hrel
      by_cases hkl : k < n1
      case neg =>
        obtain rfl : k = n1 := by omega
        go_wp2_with fail
        go_meet
        case rel => exact ⟨l, t', pv, hide HL.out.done, P0⟩
      have hkI : (k : Int) < (n1 : Int) := by omega
      obtain ⟨wh, hwh⟩ : ∃ z, t'.whole = z := ⟨_, rfl⟩
      have zw : wr.cell? ⟨g, 2, none⟩ = some (.bool (!wh)) := by rw [← hwh]; exact P0.out.rd.cell 2
      cases wh
      case false =>
        simp only [Bool.not_false] at zw
        go_wp2_with fail
        go_meet
        case rel => exact ⟨l, t', pv, hide (HL.out.cut hwh), P0⟩
      simp only [Bool.not_true] at zw
      have hll : l.length ≤ 65535 := by have := HL.out.1; omega
      have HWH := hide hwh
      clear hwh
      go_wp2_with fail
      clear zw
      obtain ⟨a, ha⟩ : ∃ z, (rnum s 1 t').1 = z := ⟨_, rfl⟩
      obtain ⟨u1, hu1⟩ : ∃ z, (rnum s 1 t').2 = z := ⟨_, rfl⟩
      have HC0 := hide (rnum114 P0.out.rd hs P0.out.at_)
      have hle0 := (Rd.num 1).le s t' P0.out.at_
      rw [ha, hu1] at HC0
      rw [hu1] at hle0
      refine HC0.out.mono ?_
      rintro e w1 ⟨rfl, hr1, hT1⟩
      have P1 := hide (P0.out.turn hr1 hle0 hT1)
      clear HC0 hr1 hT1 hle0 P0
      have hcap : rcap s t' = (⟨decide (a = 1), (rnum s 1 u1).1⟩, (rnum s 1 u1).2) := by unfold rcap; dsimp only; rw [ha, hu1]
      by_cases hq : a = 1
      case pos =>
        subst hq
        have hcap2 : rcap s t' = (⟨true, (rnum s 1 u1).1⟩, (rnum s 1 u1).2) := by rw [hcap]; rfl
        have P2 := hide (P1.out.alloc (.cells #[.bool true, .int .i64 0] 75))
        have V2 := hide (Blk.new w1 75 #[.bool true, .int .i64 0])
        have ncv := own_ne P1.out.oc
        have nkv := own_ne P1.out.ok
        have npv := own_ne P1.out.op
        have hgc : wp.heap.size ≤ w1.heap.size := P1.out.tu.size
        go_wp2_with fail
        obtain ⟨w2, hw2⟩ : ∃ z, Hid ((w1.alloc (.cells #[.bool true, .int .i64 0] 75)) = z) := ⟨_, hide rfl⟩
        rw [hw2.out] at P2 V2 ⊢
        clear hw2
        obtain ⟨gc, hgc2⟩ : ∃ z, Hid (w1.heap.size = z) := ⟨_, hide rfl⟩
        rw [hgc2.out] at V2 ncv nkv npv hgc ⊢
        clear hgc2
        obtain ⟨b, hb⟩ : ∃ z, (rnum s 1 u1).1 = z := ⟨_, rfl⟩
        obtain ⟨u2, hu2⟩ : ∃ z, (rnum s 1 u1).2 = z := ⟨_, rfl⟩
        have HC2 := hide (rnum114 P2.out.rd hs P2.out.at_)
        have hle2 := (Rd.num 1).le s u1 P2.out.at_
        rw [hb, hu2] at HC2
        rw [hu2] at hle2
        refine HC2.out.mono ?_
        rintro e w3 ⟨rfl, hr3, hT3⟩
        have P3 := hide (P2.out.turn hr3 hle2 hT3)
        have V3 := hide (tkr_blk hT3 V2.out P2.out.rd (by decide))
        clear HC2 hr3 hT3 hle2
        have q1 : w3.cell? ⟨gc, 1, none⟩ = some (.int .i64 0) := V3.out.cell 1
        have q2 : w3.frozen? ⟨gc, 1, none⟩ = false := V3.out.frozen 1
        have P4 := hide (P3.out.var V3.out hgc (by decide) (by decide) ncv nkv npv 1 (.int .i64 b))
        have V4 : Hid (Blk (w3.setCell ⟨gc, 1, none⟩ (.int .i64 b)) gc 75 #[.bool true, .int .i64 b]) := hide (V3.out.set_ 1 (.int .i64 b))
        rw [hb, hu2] at hcap2
        have HBP : (w3.setCell ⟨gc, 1, none⟩ (.int .i64 b)).cell? ⟨gp, 5, none⟩ = some pv := P4.out.bp.cell 5
        have c0 : (w3.setCell ⟨gc, 1, none⟩ (.int .i64 b)).cell? ⟨gc, 0, none⟩ = some (.bool true) := V4.out.cell 0
        have c1 : (w3.setCell ⟨gc, 1, none⟩ (.int .i64 b)).cell? ⟨gc, 1, none⟩ = some (.int .i64 b) := V4.out.cell 1
        have PA := hide (P4.out.alloc (.cells #[.bool true, .int .i64 b] 75))
        have hsz : ((w3.setCell ⟨gc, 1, none⟩ (.int .i64 b))).heap.size = w3.heap.size := by simp [World.setCell]
        have BA : Hid (Blk ((w3.setCell ⟨gc, 1, none⟩ (.int .i64 b)).alloc (.cells #[.bool true, .int .i64 b] 75)) (w3.heap.size) 75 #[.bool true, .int .i64 b]) := hide (by rw [← hsz]; exact Blk.new (w3.setCell ⟨gc, 1, none⟩ (.int .i64 b)) 75 #[.bool true, .int .i64 b])
        go_wp2_with ((with_reducible show wpList _ _ _ (⟨some 45, _, _, _, _, _⟩ :: _) _ _); refine unhid14 ?_)
        unfold Hid
        refine app_list rfl _ _ 36 75 rfl (.agg #[.bool false, .int .i64 0]) 2 16 Try.underlying36 info_p rfl (by decide) pv l.length _ rfl PA.out.op _ 1 (⟨true, b⟩ : CapM).cells rfl (Src.blk BA.out) rfl (one_p _) (Nat.le_trans (show l.length + 1 ≤ 100000001 by omega) (by decide)) (by omega) ?_
        intro v' w9 hr9 hg9 ha9
        obtain ⟨A9, n9, c9, rfl⟩ := row_form3 hr9.out
        have B9 := hide (PA.out.bp.grown hg9.out (Ne.symm (row_blk_ne PA.out.op PA.out.bp (by decide))))
        have q3 : w9.cell? ⟨gp, 5, none⟩ = some pv := B9.out.cell 5
        have q4 : w9.frozen? ⟨gp, 5, none⟩ = false := B9.out.frozen 5
        have hr10 : Row w9 75 2 (.slice A9 n9 c9) (l ++ [(⟨true, b⟩ : CapM)]).length ((l ++ [(⟨true, b⟩ : CapM)]).flatMap CapM.cells) := by rw [List.length_append, List.flatMap_append]; simpa using hr9.out
        have PF := hide (PA.out.push_p hr10 hg9.out ha9.out)
        clear hr9 hr10 hg9 ha9 BA hsz
        have HN := hide (HL.out.next hkl HWH.out hcap2)
        clear HL HWH
        go_wp2_with fail
        refine ⟨⟨k + 1, _, _, _, by omega, by go_num, HN, PF⟩, ?_⟩
        simp [intOf]
        omega
      case neg =>
        have e1 : (a == 1) = false := by simpa using hq
        have e2 : decide (a = 1) = false := decide_eq_false hq
        have hcap2 : rcap s t' = (⟨false, (rnum s 1 u1).1⟩, (rnum s 1 u1).2) := by rw [hcap]; rw [e2]
        have P2 := hide (P1.out.alloc (.cells #[.bool false, .int .i64 0] 75))
        have V2 := hide (Blk.new w1 75 #[.bool false, .int .i64 0])
        have ncv := own_ne P1.out.oc
        have nkv := own_ne P1.out.ok
        have npv := own_ne P1.out.op
        have hgc : wp.heap.size ≤ w1.heap.size := P1.out.tu.size
        go_wp2_with fail
        obtain ⟨w2, hw2⟩ : ∃ z, Hid ((w1.alloc (.cells #[.bool false, .int .i64 0] 75)) = z) := ⟨_, hide rfl⟩
        rw [hw2.out] at P2 V2 ⊢
        clear hw2
        obtain ⟨gc, hgc2⟩ : ∃ z, Hid (w1.heap.size = z) := ⟨_, hide rfl⟩
        rw [hgc2.out] at V2 ncv nkv npv hgc ⊢
        clear hgc2
        obtain ⟨b, hb⟩ : ∃ z, (rnum s 1 u1).1 = z := ⟨_, rfl⟩
        obtain ⟨u2, hu2⟩ : ∃ z, (rnum s 1 u1).2 = z := ⟨_, rfl⟩
        have HC2 := hide (rnum114 P2.out.rd hs P2.out.at_)
        have hle2 := (Rd.num 1).le s u1 P2.out.at_
        rw [hb, hu2] at HC2
        rw [hu2] at hle2
        refine HC2.out.mono ?_
        rintro e w3 ⟨rfl, hr3, hT3⟩
        have P3 := hide (P2.out.turn hr3 hle2 hT3)
        have V3 := hide (tkr_blk hT3 V2.out P2.out.rd (by decide))
        clear HC2 hr3 hT3 hle2
        have q1 : w3.cell? ⟨gc, 1, none⟩ = some (.int .i64 0) := V3.out.cell 1
        have q2 : w3.frozen? ⟨gc, 1, none⟩ = false := V3.out.frozen 1
        have P4 := hide (P3.out.var V3.out hgc (by decide) (by decide) ncv nkv npv 1 (.int .i64 b))
        have V4 : Hid (Blk (w3.setCell ⟨gc, 1, none⟩ (.int .i64 b)) gc 75 #[.bool false, .int .i64 b]) := hide (V3.out.set_ 1 (.int .i64 b))
        rw [hb, hu2] at hcap2
        have HBP : (w3.setCell ⟨gc, 1, none⟩ (.int .i64 b)).cell? ⟨gp, 5, none⟩ = some pv := P4.out.bp.cell 5
        have c0 : (w3.setCell ⟨gc, 1, none⟩ (.int .i64 b)).cell? ⟨gc, 0, none⟩ = some (.bool false) := V4.out.cell 0
        have c1 : (w3.setCell ⟨gc, 1, none⟩ (.int .i64 b)).cell? ⟨gc, 1, none⟩ = some (.int .i64 b) := V4.out.cell 1
        have PA := hide (P4.out.alloc (.cells #[.bool false, .int .i64 b] 75))
        have hsz : ((w3.setCell ⟨gc, 1, none⟩ (.int .i64 b))).heap.size = w3.heap.size := by simp [World.setCell]
        have BA : Hid (Blk ((w3.setCell ⟨gc, 1, none⟩ (.int .i64 b)).alloc (.cells #[.bool false, .int .i64 b] 75)) (w3.heap.size) 75 #[.bool false, .int .i64 b]) := hide (by rw [← hsz]; exact Blk.new (w3.setCell ⟨gc, 1, none⟩ (.int .i64 b)) 75 #[.bool false, .int .i64 b])
        go_wp2_with ((with_reducible show wpList _ _ _ (⟨some 45, _, _, _, _, _⟩ :: _) _ _); refine unhid14 ?_)
        unfold Hid
        refine app_list rfl _ _ 36 75 rfl (.agg #[.bool false, .int .i64 0]) 2 16 Try.underlying36 info_p rfl (by decide) pv l.length _ rfl PA.out.op _ 1 (⟨false, b⟩ : CapM).cells rfl (Src.blk BA.out) rfl (one_p _) (Nat.le_trans (show l.length + 1 ≤ 100000001 by omega) (by decide)) (by omega) ?_
        intro v' w9 hr9 hg9 ha9
        obtain ⟨A9, n9, c9, rfl⟩ := row_form3 hr9.out
        have B9 := hide (PA.out.bp.grown hg9.out (Ne.symm (row_blk_ne PA.out.op PA.out.bp (by decide))))
        have q3 : w9.cell? ⟨gp, 5, none⟩ = some pv := B9.out.cell 5
        have q4 : w9.frozen? ⟨gp, 5, none⟩ = false := B9.out.frozen 5
        have hr10 : Row w9 75 2 (.slice A9 n9 c9) (l ++ [(⟨false, b⟩ : CapM)]).length ((l ++ [(⟨false, b⟩ : CapM)]).flatMap CapM.cells) := by rw [List.length_append, List.flatMap_append]; simpa using hr9.out
        have PF := hide (PA.out.push_p hr10 hg9.out ha9.out)
        clear hr9 hr10 hg9 ha9 BA hsz
        have HN := hide (HL.out.next hkl HWH.out hcap2)
        clear HL HWH
        go_wp2_with fail
        refine ⟨⟨k + 1, _, _, _, by omega, by go_num, HN, PF⟩, ?_⟩
        simp [intOf]
        omega
  case rest =>
    clear P7
    obtain ⟨cps, t5, pv, HD1, P0⟩ := hcut
    go_wp2_with fail
    obtain ⟨n2, hn2, hn2l⟩ := rn2 s t5
    obtain ⟨t6, ht6⟩ : ∃ z, (rnum s 2 t5).2 = z := ⟨_, rfl⟩
    have HC0 := hide (rnum214 P0.out.rd hs P0.out.at_)
    have hle0 := (Rd.num 2).le s t5 P0.out.at_
    rw [hn2, ht6] at HC0
    rw [ht6] at hle0
    refine HC0.out.mono ?_
    rintro e w1 ⟨rfl, hr1, hT1⟩
    have P1 := hide (P0.out.turn hr1 hle0 hT1)
    clear HC0 hr1 hT1 hle0 P0
    have n2I : (n2 : Int) ≤ 65535 := by omega
    go_upto_block 2 with (fail)
    go_cut [] from 11 (fun wx => ∃ (l : List ConM) (t' : St) (v : Value), Hid (rlist (rcon s) n2 t6 = (l, t')) ∧ Hid (PrR wp wx g gp s t' nm pa re (.slice none 0 0) v pv [] l cps))
    case first =>
      go_wp2_with fail
      go_loopw [7, 8] (fun i _ wr => ∃ (k : Nat) (l : List ConM) (t' : St) (v : Value), k ≤ n2 ∧ i = .int .i64 (k : Int) ∧ Hid (RL (rcon s) n2 t6 k l t') ∧ Hid (PrR wp wr g gp s t' nm pa re (.slice none 0 0) v pv [] l cps)) (fun i _ _ => n2 - (intOf i).toNat)
      case atStart => exact ⟨0, [], t6, (.slice none 0 0), by omega, rfl, hide (RL.start _ _ _), P1⟩
      case round =>
        clear P1
        obtain ⟨k, l, t', kv, hk, rfl, HL, P0⟩ := hrel
        by_cases hkl : k < n2
        case neg =>
          obtain rfl : k = n2 := by omega
          go_wp2_with fail
          go_meet
          case rel => exact ⟨l, t', kv, hide HL.out.done, P0⟩
        have hkI : (k : Int) < (n2 : Int) := by omega
        obtain ⟨wh, hwh⟩ : ∃ z, t'.whole = z := ⟨_, rfl⟩
        have zw : wr.cell? ⟨g, 2, none⟩ = some (.bool (!wh)) := by rw [← hwh]; exact P0.out.rd.cell 2
        cases wh
        case false =>
          simp only [Bool.not_false] at zw
          go_wp2_with fail
          go_meet
          case rel => exact ⟨l, t', kv, hide (HL.out.cut hwh), P0⟩
        simp only [Bool.not_true] at zw
        have hll : l.length ≤ 65535 := by have := HL.out.1; omega
        have HWH := hide hwh
        clear hwh
        go_wp2_with fail
        clear zw
        obtain ⟨a, ha⟩ : ∃ z, (rnum s 1 t').1 = z := ⟨_, rfl⟩
        obtain ⟨u1, hu1⟩ : ∃ z, (rnum s 1 t').2 = z := ⟨_, rfl⟩
        have HC0 := hide (rnum114 P0.out.rd hs P0.out.at_)
        have hle0 := (Rd.num 1).le s t' P0.out.at_
        rw [ha, hu1] at HC0
        rw [hu1] at hle0
        refine HC0.out.mono ?_
        rintro e w1 ⟨rfl, hr1, hT1⟩
        have P1 := hide (P0.out.turn hr1 hle0 hT1)
        clear HC0 hr1 hT1 hle0 P0
        by_cases hq1 : a = 1
        case pos =>
          subst hq1
          have P2 := hide (P1.out.alloc (.cells #[.int .i64 1, .int .i64 0, .string ⟨#[]⟩] 45))
          have V2 := hide (Blk.new w1 45 #[.int .i64 1, .int .i64 0, .string ⟨#[]⟩])
          have ncv := own_ne P1.out.oc
          have nkv := own_ne P1.out.ok
          have npv := own_ne P1.out.op
          have hgc : wp.heap.size ≤ w1.heap.size := P1.out.tu.size
          have d0 : (w1.alloc (.cells #[.int .i64 1, .int .i64 0, .string ⟨#[]⟩] 45)).cell? ⟨w1.heap.size, 0, none⟩ = some (.int .i64 1) := V2.out.cell 0
          go_wp2_with fail
          clear d0
          obtain ⟨w2, hw2⟩ : ∃ z, Hid ((w1.alloc (.cells #[.int .i64 1, .int .i64 0, .string ⟨#[]⟩] 45)) = z) := ⟨_, hide rfl⟩
          rw [hw2.out] at P2 V2 ⊢
          clear hw2
          obtain ⟨gc, hgc2⟩ : ∃ z, Hid (w1.heap.size = z) := ⟨_, hide rfl⟩
          rw [hgc2.out] at V2 ncv nkv npv hgc ⊢
          clear hgc2
          obtain ⟨b, hb⟩ : ∃ z, (rnum s 8 u1).1 = z := ⟨_, rfl⟩
          obtain ⟨u2, hu2⟩ : ∃ z, (rnum s 8 u1).2 = z := ⟨_, rfl⟩
          have HC2 := hide (rnum814 P2.out.rd hs P2.out.at_)
          have hle2 := (Rd.num 8).le s u1 P2.out.at_
          rw [hb, hu2] at HC2
          rw [hu2] at hle2
          refine HC2.out.mono ?_
          rintro e w3 ⟨rfl, hr3, hT3⟩
          have P3 := hide (P2.out.turn hr3 hle2 hT3)
          have V3 := hide (tkr_blk hT3 V2.out P2.out.rd (by decide))
          clear HC2 hr3 hT3 hle2
          have q1 : w3.cell? ⟨gc, 1, none⟩ = some (.int .i64 0) := V3.out.cell 1
          have q2 : w3.frozen? ⟨gc, 1, none⟩ = false := V3.out.frozen 1
          have P4 := hide (P3.out.var V3.out hgc (by decide) (by decide) ncv nkv npv 1 (.int .i64 b))
          have V4 : Hid (Blk (w3.setCell ⟨gc, 1, none⟩ (.int .i64 b)) gc 45 #[.int .i64 1, .int .i64 b, .string ⟨#[]⟩]) := hide (V3.out.set_ 1 (.int .i64 b))
          have hcon : rcon s t' = (⟨1, b, ⟨#[]⟩⟩, u2) := by unfold rcon; dsimp only; rw [ha, if_pos rfl, hu1, hb, hu2]
          have HBP : (w3.setCell ⟨gc, 1, none⟩ (.int .i64 b)).cell? ⟨gp, 4, none⟩ = some kv := P4.out.bp.cell 4
          have c0 : (w3.setCell ⟨gc, 1, none⟩ (.int .i64 b)).cell? ⟨gc, 0, none⟩ = some (.int .i64 1) := V4.out.cell 0
          have c1 : (w3.setCell ⟨gc, 1, none⟩ (.int .i64 b)).cell? ⟨gc, 1, none⟩ = some (.int .i64 b) := V4.out.cell 1
          have c2 : (w3.setCell ⟨gc, 1, none⟩ (.int .i64 b)).cell? ⟨gc, 2, none⟩ = some (.string ⟨#[]⟩) := V4.out.cell 2
          have PA := hide (P4.out.alloc (.cells #[.int .i64 1, .int .i64 b, .string ⟨#[]⟩] 45))
          have hsz : ((w3.setCell ⟨gc, 1, none⟩ (.int .i64 b))).heap.size = w3.heap.size := by simp [World.setCell]
          have BA : Hid (Blk ((w3.setCell ⟨gc, 1, none⟩ (.int .i64 b)).alloc (.cells #[.int .i64 1, .int .i64 b, .string ⟨#[]⟩] 45)) (w3.heap.size) 45 #[.int .i64 1, .int .i64 b, .string ⟨#[]⟩]) := hide (by rw [← hsz]; exact Blk.new (w3.setCell ⟨gc, 1, none⟩ (.int .i64 b)) 45 #[.int .i64 1, .int .i64 b, .string ⟨#[]⟩])
          go_wp2_with ((with_reducible show wpList _ _ _ (⟨some 80, _, _, _, _, _⟩ :: _) _ _); refine unhid14 ?_)
          unfold Hid
          refine app_list rfl _ _ 35 45 rfl (.agg #[.int .i64 0, .int .i64 0, .string ⟨#[]⟩]) 3 32 Try.underlying35 info_k rfl (by decide) kv l.length _ rfl PA.out.ok _ 1 (⟨1, b, ⟨#[]⟩⟩ : ConM).cells rfl (Src.blk BA.out) rfl (one_k _) (Nat.le_trans (show l.length + 1 ≤ 100000001 by omega) (by decide)) (by omega) ?_
          intro v' w9 hr9 hg9 ha9
          obtain ⟨A9, n9, c9, rfl⟩ := row_form3 hr9.out
          have B9 := hide (PA.out.bp.grown hg9.out (Ne.symm (row_blk_ne PA.out.ok PA.out.bp (by decide))))
          have q3 : w9.cell? ⟨gp, 4, none⟩ = some kv := B9.out.cell 4
          have q4 : w9.frozen? ⟨gp, 4, none⟩ = false := B9.out.frozen 4
          have hr10 : Row w9 45 3 (.slice A9 n9 c9) (l ++ [(⟨1, b, ⟨#[]⟩⟩ : ConM)]).length ((l ++ [(⟨1, b, ⟨#[]⟩⟩ : ConM)]).flatMap ConM.cells) := by rw [List.length_append, List.flatMap_append]; simpa using hr9.out
          have PF := hide (PA.out.push_k hr10 hg9.out ha9.out)
          clear hr9 hr10 hg9 ha9 BA hsz
          have HN := hide (HL.out.next hkl HWH.out hcon)
          clear HL HWH
          go_wp2_with fail
          refine ⟨⟨k + 1, _, _, _, by omega, by go_num, HN, PF⟩, ?_⟩
          simp [intOf]
          omega
        by_cases hq2 : a = 2
        case pos =>
          subst hq2
          have P2 := hide (P1.out.alloc (.cells #[.int .i64 2, .int .i64 0, .string ⟨#[]⟩] 45))
          have V2 := hide (Blk.new w1 45 #[.int .i64 2, .int .i64 0, .string ⟨#[]⟩])
          have ncv := own_ne P1.out.oc
          have nkv := own_ne P1.out.ok
          have npv := own_ne P1.out.op
          have hgc : wp.heap.size ≤ w1.heap.size := P1.out.tu.size
          have d0 : (w1.alloc (.cells #[.int .i64 2, .int .i64 0, .string ⟨#[]⟩] 45)).cell? ⟨w1.heap.size, 0, none⟩ = some (.int .i64 2) := V2.out.cell 0
          go_wp2_with fail
          clear d0
          obtain ⟨w2, hw2⟩ : ∃ z, Hid ((w1.alloc (.cells #[.int .i64 2, .int .i64 0, .string ⟨#[]⟩] 45)) = z) := ⟨_, hide rfl⟩
          rw [hw2.out] at P2 V2 ⊢
          clear hw2
          obtain ⟨gc, hgc2⟩ : ∃ z, Hid (w1.heap.size = z) := ⟨_, hide rfl⟩
          rw [hgc2.out] at V2 ncv nkv npv hgc ⊢
          clear hgc2
          obtain ⟨b, hb⟩ : ∃ z, (rtext s u1).1 = z := ⟨_, rfl⟩
          obtain ⟨u2, hu2⟩ : ∃ z, (rtext s u1).2 = z := ⟨_, rfl⟩
          have HC2 := hide (rugrtext_calls P2.out.rd hs P2.out.at_)
          have hle2 := Rd.text.le s u1 P2.out.at_
          rw [hb, hu2] at HC2
          rw [hu2] at hle2
          refine HC2.out.mono ?_
          rintro e w3 ⟨rfl, hr3, hT3⟩
          have P3 := hide (P2.out.turn hr3 hle2 hT3)
          have V3 := hide (tkr_blk hT3 V2.out P2.out.rd (by decide))
          clear HC2 hr3 hT3 hle2
          have q1 : w3.cell? ⟨gc, 2, none⟩ = some (.string ⟨#[]⟩) := V3.out.cell 2
          have q2 : w3.frozen? ⟨gc, 2, none⟩ = false := V3.out.frozen 2
          have P4 := hide (P3.out.var V3.out hgc (by decide) (by decide) ncv nkv npv 2 (.string b))
          have V4 : Hid (Blk (w3.setCell ⟨gc, 2, none⟩ (.string b)) gc 45 #[.int .i64 2, .int .i64 0, .string b]) := hide (V3.out.set_ 2 (.string b))
          have hcon : rcon s t' = (⟨2, 0, b⟩, u2) := by unfold rcon; dsimp only; rw [ha, if_neg (by decide), if_pos rfl, hu1, hb, hu2]
          have HBP : (w3.setCell ⟨gc, 2, none⟩ (.string b)).cell? ⟨gp, 4, none⟩ = some kv := P4.out.bp.cell 4
          have c0 : (w3.setCell ⟨gc, 2, none⟩ (.string b)).cell? ⟨gc, 0, none⟩ = some (.int .i64 2) := V4.out.cell 0
          have c1 : (w3.setCell ⟨gc, 2, none⟩ (.string b)).cell? ⟨gc, 1, none⟩ = some (.int .i64 0) := V4.out.cell 1
          have c2 : (w3.setCell ⟨gc, 2, none⟩ (.string b)).cell? ⟨gc, 2, none⟩ = some (.string b) := V4.out.cell 2
          have PA := hide (P4.out.alloc (.cells #[.int .i64 2, .int .i64 0, .string b] 45))
          have hsz : ((w3.setCell ⟨gc, 2, none⟩ (.string b))).heap.size = w3.heap.size := by simp [World.setCell]
          have BA : Hid (Blk ((w3.setCell ⟨gc, 2, none⟩ (.string b)).alloc (.cells #[.int .i64 2, .int .i64 0, .string b] 45)) (w3.heap.size) 45 #[.int .i64 2, .int .i64 0, .string b]) := hide (by rw [← hsz]; exact Blk.new (w3.setCell ⟨gc, 2, none⟩ (.string b)) 45 #[.int .i64 2, .int .i64 0, .string b])
          go_wp2_with ((with_reducible show wpList _ _ _ (⟨some 80, _, _, _, _, _⟩ :: _) _ _); refine unhid14 ?_)
          unfold Hid
          refine app_list rfl _ _ 35 45 rfl (.agg #[.int .i64 0, .int .i64 0, .string ⟨#[]⟩]) 3 32 Try.underlying35 info_k rfl (by decide) kv l.length _ rfl PA.out.ok _ 1 (⟨2, 0, b⟩ : ConM).cells rfl (Src.blk BA.out) rfl (one_k _) (Nat.le_trans (show l.length + 1 ≤ 100000001 by omega) (by decide)) (by omega) ?_
          intro v' w9 hr9 hg9 ha9
          obtain ⟨A9, n9, c9, rfl⟩ := row_form3 hr9.out
          have B9 := hide (PA.out.bp.grown hg9.out (Ne.symm (row_blk_ne PA.out.ok PA.out.bp (by decide))))
          have q3 : w9.cell? ⟨gp, 4, none⟩ = some kv := B9.out.cell 4
          have q4 : w9.frozen? ⟨gp, 4, none⟩ = false := B9.out.frozen 4
          have hr10 : Row w9 45 3 (.slice A9 n9 c9) (l ++ [(⟨2, 0, b⟩ : ConM)]).length ((l ++ [(⟨2, 0, b⟩ : ConM)]).flatMap ConM.cells) := by rw [List.length_append, List.flatMap_append]; simpa using hr9.out
          have PF := hide (PA.out.push_k hr10 hg9.out ha9.out)
          clear hr9 hr10 hg9 ha9 BA hsz
          have HN := hide (HL.out.next hkl HWH.out hcon)
          clear HL HWH
          go_wp2_with fail
          refine ⟨⟨k + 1, _, _, _, by omega, by go_num, HN, PF⟩, ?_⟩
          simp [intOf]
          omega
        have e1 : (a == 1) = false := by simpa using hq1
        have e2 : decide (a = 1) = false := decide_eq_false hq1
        have e3 : (a == 2) = false := by simpa using hq2
        have e4 : decide (a = 2) = false := decide_eq_false hq2
        have P2 := hide (P1.out.alloc (.cells #[.int .i64 a, .int .i64 0, .string ⟨#[]⟩] 45))
        have V2 := hide (Blk.new w1 45 #[.int .i64 a, .int .i64 0, .string ⟨#[]⟩])
        have ncv := own_ne P1.out.oc
        have nkv := own_ne P1.out.ok
        have npv := own_ne P1.out.op
        have hgc : wp.heap.size ≤ w1.heap.size := P1.out.tu.size
        have hcon : rcon s t' = (⟨a, 0, ⟨#[]⟩⟩, u1) := by unfold rcon; dsimp only; rw [ha, if_neg hq1, if_neg hq2, hu1]
        have HBP : (w1.alloc (.cells #[.int .i64 a, .int .i64 0, .string ⟨#[]⟩] 45)).cell? ⟨gp, 4, none⟩ = some kv := P2.out.bp.cell 4
        have c0 : (w1.alloc (.cells #[.int .i64 a, .int .i64 0, .string ⟨#[]⟩] 45)).cell? ⟨w1.heap.size, 0, none⟩ = some (.int .i64 a) := V2.out.cell 0
        have c1 : (w1.alloc (.cells #[.int .i64 a, .int .i64 0, .string ⟨#[]⟩] 45)).cell? ⟨w1.heap.size, 1, none⟩ = some (.int .i64 0) := V2.out.cell 1
        have c2 : (w1.alloc (.cells #[.int .i64 a, .int .i64 0, .string ⟨#[]⟩] 45)).cell? ⟨w1.heap.size, 2, none⟩ = some (.string ⟨#[]⟩) := V2.out.cell 2
        have PA := hide (P2.out.alloc (.cells #[.int .i64 a, .int .i64 0, .string ⟨#[]⟩] 45))
        have hsz : ((w1.alloc (.cells #[.int .i64 a, .int .i64 0, .string ⟨#[]⟩] 45))).heap.size = w1.heap.size + 1 := by simp
        have BA : Hid (Blk ((w1.alloc (.cells #[.int .i64 a, .int .i64 0, .string ⟨#[]⟩] 45)).alloc (.cells #[.int .i64 a, .int .i64 0, .string ⟨#[]⟩] 45)) (w1.heap.size + 1) 45 #[.int .i64 a, .int .i64 0, .string ⟨#[]⟩]) := hide (by rw [← hsz]; exact Blk.new (w1.alloc (.cells #[.int .i64 a, .int .i64 0, .string ⟨#[]⟩] 45)) 45 #[.int .i64 a, .int .i64 0, .string ⟨#[]⟩])
        go_wp2_with ((with_reducible show wpList _ _ _ (⟨some 80, _, _, _, _, _⟩ :: _) _ _); refine unhid14 ?_)
        unfold Hid
        refine app_list rfl _ _ 35 45 rfl (.agg #[.int .i64 0, .int .i64 0, .string ⟨#[]⟩]) 3 32 Try.underlying35 info_k rfl (by decide) kv l.length _ rfl PA.out.ok _ 1 (⟨a, 0, ⟨#[]⟩⟩ : ConM).cells rfl (Src.blk BA.out) rfl (one_k _) (Nat.le_trans (show l.length + 1 ≤ 100000001 by omega) (by decide)) (by omega) ?_
        intro v' w9 hr9 hg9 ha9
        obtain ⟨A9, n9, c9, rfl⟩ := row_form3 hr9.out
        have B9 := hide (PA.out.bp.grown hg9.out (Ne.symm (row_blk_ne PA.out.ok PA.out.bp (by decide))))
        have q3 : w9.cell? ⟨gp, 4, none⟩ = some kv := B9.out.cell 4
        have q4 : w9.frozen? ⟨gp, 4, none⟩ = false := B9.out.frozen 4
        have hr10 : Row w9 45 3 (.slice A9 n9 c9) (l ++ [(⟨a, 0, ⟨#[]⟩⟩ : ConM)]).length ((l ++ [(⟨a, 0, ⟨#[]⟩⟩ : ConM)]).flatMap ConM.cells) := by rw [List.length_append, List.flatMap_append]; simpa using hr9.out
        have PF := hide (PA.out.push_k hr10 hg9.out ha9.out)
        clear hr9 hr10 hg9 ha9 BA hsz
        have HN := hide (HL.out.next hkl HWH.out hcon)
        clear HL HWH
        go_wp2_with fail
        refine ⟨⟨k + 1, _, _, _, by omega, by go_num, HN, PF⟩, ?_⟩
        simp [intOf]
        omega
    case rest =>
      clear P1
      obtain ⟨cns, t7, kv, HD2, P0⟩ := hcut
      go_wp2_with fail
      obtain ⟨n3, hn3, hn3l⟩ := rn2 s t7
      obtain ⟨t8, ht8⟩ : ∃ z, (rnum s 2 t7).2 = z := ⟨_, rfl⟩
      have HC0 := hide (rnum214 P0.out.rd hs P0.out.at_)
      have hle0 := (Rd.num 2).le s t7 P0.out.at_
      rw [hn3, ht8] at HC0
      rw [ht8] at hle0
      refine HC0.out.mono ?_
      rintro e w1 ⟨rfl, hr1, hT1⟩
      have P1 := hide (P0.out.turn hr1 hle0 hT1)
      clear HC0 hr1 hT1 hle0 P0
      have n3I : (n3 : Int) ≤ 65535 := by omega
      go_upto_block 4 with (fail)
      go_cut [] from 11 (fun wx => ∃ (l : List InsM) (t' : St) (v : Value), Hid (rlist (rins s) n3 t8 = (l, t')) ∧ Hid (PrR wp wx g gp s t' nm pa re v kv pv l cns cps))
      case first =>
        go_wp2_with fail
        go_loopw [9, 10] (fun i _ wr => ∃ (k : Nat) (l : List InsM) (t' : St) (v : Value), k ≤ n3 ∧ i = .int .i64 (k : Int) ∧ Hid (RL (rins s) n3 t8 k l t') ∧ Hid (PrR wp wr g gp s t' nm pa re v kv pv l cns cps)) (fun i _ _ => n3 - (intOf i).toNat)
        case atStart => exact ⟨0, [], t8, (.slice none 0 0), by omega, rfl, hide (RL.start _ _ _), P1⟩
        case round =>
          clear P1
          obtain ⟨k, l, t', cv, hk, rfl, HL, P0⟩ := hrel
          by_cases hkl : k < n3
          case neg =>
            obtain rfl : k = n3 := by omega
            go_wp2_with fail
            go_meet
            case rel => exact ⟨l, t', cv, hide HL.out.done, P0⟩
          have hkI : (k : Int) < (n3 : Int) := by omega
          obtain ⟨wh, hwh⟩ : ∃ z, t'.whole = z := ⟨_, rfl⟩
          have zw : wr.cell? ⟨g, 2, none⟩ = some (.bool (!wh)) := by rw [← hwh]; exact P0.out.rd.cell 2
          cases wh
          case false =>
            simp only [Bool.not_false] at zw
            go_wp2_with fail
            go_meet
            case rel => exact ⟨l, t', cv, hide (HL.out.cut hwh), P0⟩
          simp only [Bool.not_true] at zw
          have hll : l.length ≤ 65535 := by have := HL.out.1; omega
          have HWH := hide hwh
          clear hwh
          go_wp2_with fail
          clear zw
          obtain ⟨a, ha⟩ : ∃ z, (rnum s 1 t').1 = z := ⟨_, rfl⟩
          obtain ⟨u1, hu1⟩ : ∃ z, (rnum s 1 t').2 = z := ⟨_, rfl⟩
          have HC0 := hide (rnum114 P0.out.rd hs P0.out.at_)
          have hle0 := (Rd.num 1).le s t' P0.out.at_
          rw [ha, hu1] at HC0
          rw [hu1] at hle0
          refine HC0.out.mono ?_
          rintro e w1 ⟨rfl, hr1, hT1⟩
          have P1 := hide (P0.out.turn hr1 hle0 hT1)
          clear HC0 hr1 hT1 hle0 P0
          have P2 := hide (P1.out.alloc (.cells #[.int .i64 a, .int .i64 0, .int .i64 0, .int .i64 0] 78))
          have V2 := hide (Blk.new w1 78 #[.int .i64 a, .int .i64 0, .int .i64 0, .int .i64 0])
          have ncv := own_ne P1.out.oc
          have nkv := own_ne P1.out.ok
          have npv := own_ne P1.out.op
          have hgc : wp.heap.size ≤ w1.heap.size := P1.out.tu.size
          go_wp2_with fail
          obtain ⟨w2, hw2⟩ : ∃ z, Hid ((w1.alloc (.cells #[.int .i64 a, .int .i64 0, .int .i64 0, .int .i64 0] 78)) = z) := ⟨_, hide rfl⟩
          rw [hw2.out] at P2 V2 ⊢
          clear hw2
          obtain ⟨gc, hgc2⟩ : ∃ z, Hid (w1.heap.size = z) := ⟨_, hide rfl⟩
          rw [hgc2.out] at V2 ncv nkv npv hgc ⊢
          clear hgc2
          obtain ⟨b, hb⟩ : ∃ z, (rnum s 1 u1).1 = z := ⟨_, rfl⟩
          obtain ⟨u2, hu2⟩ : ∃ z, (rnum s 1 u1).2 = z := ⟨_, rfl⟩
          have HC2 := hide (rnum114 P2.out.rd hs P2.out.at_)
          have hle2 := (Rd.num 1).le s u1 P2.out.at_
          rw [hb, hu2] at HC2
          rw [hu2] at hle2
          refine HC2.out.mono ?_
          rintro e w3 ⟨rfl, hr3, hT3⟩
          have P3 := hide (P2.out.turn hr3 hle2 hT3)
          have V3 := hide (tkr_blk hT3 V2.out P2.out.rd (by decide))
          clear HC2 hr3 hT3 hle2
          have q1 : w3.cell? ⟨gc, 1, none⟩ = some (.int .i64 0) := V3.out.cell 1
          have q2 : w3.frozen? ⟨gc, 1, none⟩ = false := V3.out.frozen 1
          have P4 := hide (P3.out.var V3.out hgc (by decide) (by decide) ncv nkv npv 1 (.int .i64 b))
          have V4 : Hid (Blk (w3.setCell ⟨gc, 1, none⟩ (.int .i64 b)) gc 78 #[.int .i64 a, .int .i64 b, .int .i64 0, .int .i64 0]) := hide (V3.out.set_ 1 (.int .i64 b))
          go_wp2_with fail
          clear q1 q2
          obtain ⟨w4, hw4⟩ : ∃ z, Hid ((w3.setCell ⟨gc, 1, none⟩ (.int .i64 b)) = z) := ⟨_, hide rfl⟩
          rw [hw4.out] at P4 V4 ⊢
          clear hw4
          obtain ⟨c, hc⟩ : ∃ z, (rnum s 1 u2).1 = z := ⟨_, rfl⟩
          obtain ⟨u3, hu3⟩ : ∃ z, (rnum s 1 u2).2 = z := ⟨_, rfl⟩
          have HC4 := hide (rnum114 P4.out.rd hs P4.out.at_)
          have hle4 := (Rd.num 1).le s u2 P4.out.at_
          rw [hc, hu3] at HC4
          rw [hu3] at hle4
          refine HC4.out.mono ?_
          rintro e w5 ⟨rfl, hr5, hT5⟩
          have P5 := hide (P4.out.turn hr5 hle4 hT5)
          have V5 := hide (tkr_blk hT5 V4.out P4.out.rd (by decide))
          clear HC4 hr5 hT5 hle4
          have q1 : w5.cell? ⟨gc, 2, none⟩ = some (.int .i64 0) := V5.out.cell 2
          have q2 : w5.frozen? ⟨gc, 2, none⟩ = false := V5.out.frozen 2
          have P6 := hide (P5.out.var V5.out hgc (by decide) (by decide) ncv nkv npv 2 (.int .i64 c))
          have V6 : Hid (Blk (w5.setCell ⟨gc, 2, none⟩ (.int .i64 c)) gc 78 #[.int .i64 a, .int .i64 b, .int .i64 c, .int .i64 0]) := hide (V5.out.set_ 2 (.int .i64 c))
          go_wp2_with fail
          clear q1 q2
          obtain ⟨w6, hw6⟩ : ∃ z, Hid ((w5.setCell ⟨gc, 2, none⟩ (.int .i64 c)) = z) := ⟨_, hide rfl⟩
          rw [hw6.out] at P6 V6 ⊢
          clear hw6
          obtain ⟨d, hd⟩ : ∃ z, (rnum s 1 u3).1 = z := ⟨_, rfl⟩
          obtain ⟨u4, hu4⟩ : ∃ z, (rnum s 1 u3).2 = z := ⟨_, rfl⟩
          have HC6 := hide (rnum114 P6.out.rd hs P6.out.at_)
          have hle6 := (Rd.num 1).le s u3 P6.out.at_
          rw [hd, hu4] at HC6
          rw [hu4] at hle6
          refine HC6.out.mono ?_
          rintro e w7 ⟨rfl, hr7, hT7⟩
          have P7 := hide (P6.out.turn hr7 hle6 hT7)
          have V7 := hide (tkr_blk hT7 V6.out P6.out.rd (by decide))
          clear HC6 hr7 hT7 hle6
          have q1 : w7.cell? ⟨gc, 3, none⟩ = some (.int .i64 0) := V7.out.cell 3
          have q2 : w7.frozen? ⟨gc, 3, none⟩ = false := V7.out.frozen 3
          have P8 := hide (P7.out.var V7.out hgc (by decide) (by decide) ncv nkv npv 3 (.int .i64 d))
          have V8 : Hid (Blk (w7.setCell ⟨gc, 3, none⟩ (.int .i64 d)) gc 78 #[.int .i64 a, .int .i64 b, .int .i64 c, .int .i64 d]) := hide (V7.out.set_ 3 (.int .i64 d))
          have hins : rins s t' = (⟨a, b, c, d⟩, u4) := by unfold rins; dsimp only; rw [ha, hu1, hb, hu2, hc, hu3, hd, hu4]
          have HBP : (w7.setCell ⟨gc, 3, none⟩ (.int .i64 d)).cell? ⟨gp, 3, none⟩ = some cv := P8.out.bp.cell 3
          have c0 : (w7.setCell ⟨gc, 3, none⟩ (.int .i64 d)).cell? ⟨gc, 0, none⟩ = some (.int .i64 a) := V8.out.cell 0
          have c1 : (w7.setCell ⟨gc, 3, none⟩ (.int .i64 d)).cell? ⟨gc, 1, none⟩ = some (.int .i64 b) := V8.out.cell 1
          have c2 : (w7.setCell ⟨gc, 3, none⟩ (.int .i64 d)).cell? ⟨gc, 2, none⟩ = some (.int .i64 c) := V8.out.cell 2
          have c3 : (w7.setCell ⟨gc, 3, none⟩ (.int .i64 d)).cell? ⟨gc, 3, none⟩ = some (.int .i64 d) := V8.out.cell 3
          have PA := hide (P8.out.alloc (.cells #[.int .i64 a, .int .i64 b, .int .i64 c, .int .i64 d] 78))
          have hsz : ((w7.setCell ⟨gc, 3, none⟩ (.int .i64 d))).heap.size = w7.heap.size := by simp [World.setCell]
          have BA : Hid (Blk ((w7.setCell ⟨gc, 3, none⟩ (.int .i64 d)).alloc (.cells #[.int .i64 a, .int .i64 b, .int .i64 c, .int .i64 d] 78)) (w7.heap.size) 78 #[.int .i64 a, .int .i64 b, .int .i64 c, .int .i64 d]) := hide (by rw [← hsz]; exact Blk.new (w7.setCell ⟨gc, 3, none⟩ (.int .i64 d)) 78 #[.int .i64 a, .int .i64 b, .int .i64 c, .int .i64 d])
          go_wp2_with ((with_reducible show wpList _ _ _ (⟨some 112, _, _, _, _, _⟩ :: _) _ _); refine unhid14 ?_)
          unfold Hid
          refine app_list rfl _ _ 34 78 rfl (.agg #[.int .i64 0, .int .i64 0, .int .i64 0, .int .i64 0]) 4 32 Try.underlying34 info_c rfl (by decide) cv l.length _ rfl PA.out.oc _ 1 (⟨a, b, c, d⟩ : InsM).cells rfl (Src.blk BA.out) rfl (one_c _) (Nat.le_trans (show l.length + 1 ≤ 100000001 by omega) (by decide)) (by omega) ?_
          intro v' w9 hr9 hg9 ha9
          obtain ⟨A9, n9, c9, rfl⟩ := row_form3 hr9.out
          have B9 := hide (PA.out.bp.grown hg9.out (Ne.symm (row_blk_ne PA.out.oc PA.out.bp (by decide))))
          have q3 : w9.cell? ⟨gp, 3, none⟩ = some cv := B9.out.cell 3
          have q4 : w9.frozen? ⟨gp, 3, none⟩ = false := B9.out.frozen 3
          have hr10 : Row w9 78 4 (.slice A9 n9 c9) (l ++ [(⟨a, b, c, d⟩ : InsM)]).length ((l ++ [(⟨a, b, c, d⟩ : InsM)]).flatMap InsM.cells) := by rw [List.length_append, List.flatMap_append]; simpa using hr9.out
          have PF := hide (PA.out.push_c hr10 hg9.out ha9.out)
          clear hr9 hr10 hg9 ha9 BA hsz
          have HN := hide (HL.out.next hkl HWH.out hins)
          clear HL HWH
          go_wp2_with fail
          refine ⟨⟨k + 1, _, _, _, by omega, by go_num, HN, PF⟩, ?_⟩
          simp [intOf]
          omega
      case rest =>
        clear P1
        obtain ⟨cde, t9, cv, HD3, P0⟩ := hcut
        obtain ⟨cA, cc, rfl, _⟩ := row_slice P0.out.oc
        obtain ⟨kA, kc, rfl, _⟩ := row_slice P0.out.ok
        obtain ⟨pA, pc, rfl, _⟩ := row_slice P0.out.op
        have HPR : Hid (rproto s t = (⟨nm, pa, re, cde, cns, cps⟩, t9)) := hide (by unfold rproto; dsimp only; rw [hnm, ht1, hpa, ht2, hre, ht3, rls_eq hn1 ht4, HD1.out, rls_eq hn2 ht6, HD2.out, rls_eq hn3 ht8, HD3.out])
        have HG9 := hide (tkr_blk P0.out.tu HG0.out HR0.out (by decide))
        have hgrq : gp ≠ gr := by have := P0.out.leb; omega
        have k0 : wc.cell? ⟨gp, 0, none⟩ = some (.string nm) := P0.out.bp.cell 0
        have k1 : wc.cell? ⟨gp, 1, none⟩ = some (.int .i64 pa) := P0.out.bp.cell 1
        have k2 : wc.cell? ⟨gp, 2, none⟩ = some (.int .i64 re) := P0.out.bp.cell 2
        have k3 : wc.cell? ⟨gp, 3, none⟩ = some (.slice cA cde.length cc) := P0.out.bp.cell 3
        have k4 : wc.cell? ⟨gp, 4, none⟩ = some (.slice kA cns.length kc) := P0.out.bp.cell 4
        have k5 : wc.cell? ⟨gp, 5, none⟩ = some (.slice pA cps.length pc) := P0.out.bp.cell 5
        go_wp2_with ((with_reducible show wpList _ _ _ (⟨none, Op.store 38 _ _, _, _, _, _⟩ :: _) _ _); refine wpList_store_row rfl _ _ _ rfl gr #[.string nm, .int .i64 pa, .int .i64 re, .slice cA cde.length cc, .slice kA cns.length kc, .slice pA cps.length pc] rfl rfl 38 _ HG9.out (by kernel_rfl) rfl (by kernel_rfl) ?_)
        refine ret_cell1 rfl rfl rfl (blk_row_same HG9.out #[.string nm, .int .i64 pa, .int .i64 re, .slice cA cde.length cc, .slice kA cns.length kc, .slice pA cps.length pc]) Try.underlying38 rfl (by kernel_rfl) ⟨⟨⟨nm, pa, re, cde, cns, cps⟩, cA, cc, kA, kc, pA, pc⟩, rfl, by rw [HPR.out], ?_, turned_row (HT0.out.trans P0.out.tu (fun x hx => .inl hx)) (.inr hgw0) _, ?_⟩
        · rw [HPR.out]
          exact blk_row_far P0.out.rd (P0.out.rd.ne_ HG9.out (by decide)) _
        · exact ⟨row_of P0.out.oc (fun k hk2 => setRow_other _ _ _ _ (fun e => row_blk_ne P0.out.oc HG9.out (by decide) (e ▸ hk2))), fun k hk2 => Nat.le_trans HWP.out (P0.out.nc k hk2), row_of P0.out.ok (fun k hk2 => setRow_other _ _ _ _ (fun e => row_blk_ne P0.out.ok HG9.out (by decide) (e ▸ hk2))), fun k hk2 => Nat.le_trans HWP.out (P0.out.nk k hk2), row_of P0.out.op (fun k hk2 => setRow_other _ _ _ _ (fun e => row_blk_ne P0.out.op HG9.out (by decide) (e ▸ hk2))), fun k hk2 => Nat.le_trans HWP.out (P0.out.np k hk2)⟩
end Go.Proofs.Ythgjmbcojbmlhaa
