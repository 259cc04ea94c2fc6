/- Chapter 14: the document's Parse, walked. -/
import Derived.Test.YthgjmbcojbmlhaaImhA
namespace Go.Proofs.Ythgjmbcojbmlhaa
open Go.RowKit Zb

set_option maxRecDepth 20000 in
set_option maxHeartbeats 8000000 in
theorem rugParse_calls {w : World} (s : ByteArray) (hs : s.size ≤ 100000000) : Calls Try.prog 15 #[.string s] w (PaPost s w) := by
  have HG0 : Hid (Blk ((w.alloc (.cells #[.string ⟨#[]⟩, .int .i64 0, .slice none 0 0, .int .i64 0, .slice none 0 0] 25)).alloc (.cells #[.string s, .int .i64 0, .bool false] 71)) w.heap.size 25 #[.string ⟨#[]⟩, .int .i64 0, .slice none 0 0, .int .i64 0, .slice none 0 0]) := hide ((Blk.new w 25 #[.string ⟨#[]⟩, .int .i64 0, .slice none 0 0, .int .i64 0, .slice none 0 0]).alloc _)
  have HR0 : Hid (Blk ((w.alloc (.cells #[.string ⟨#[]⟩, .int .i64 0, .slice none 0 0, .int .i64 0, .slice none 0 0] 25)).alloc (.cells #[.string s, .int .i64 0, .bool false] 71)) (w.heap.size + 1) 71 (rdc s ⟨0, true⟩)) := hide (by have := Blk.new (w.alloc (.cells #[.string ⟨#[]⟩, .int .i64 0, .slice none 0 0, .int .i64 0, .slice none 0 0] 25)) 71 #[.string s, .int .i64 0, .bool false]; show Blk _ _ 71 #[.string s, .int .i64 0, .bool false]; simpa using this)
  have HBW : Hid (Below w.heap.size w ((w.alloc (.cells #[.string ⟨#[]⟩, .int .i64 0, .slice none 0 0, .int .i64 0, .slice none 0 0] 25)).alloc (.cells #[.string s, .int .i64 0, .bool false] 71))) := hide (((Below.refl _ _).alloc (Nat.le_refl _) _).alloc (by simp) _)
  go_enter Try.func15, Try.ntmps15
  go_wp2_with fail
  obtain ⟨wp, hwp⟩ : ∃ z, Hid (((w.alloc (.cells #[.string ⟨#[]⟩, .int .i64 0, .slice none 0 0, .int .i64 0, .slice none 0 0] 25)).alloc (.cells #[.string s, .int .i64 0, .bool false] 71)) = z) := ⟨_, hide rfl⟩
  have hsz : wp.heap.size = w.heap.size + 1 + 1 := by rw [← hwp.out]; simp
  obtain ⟨g, hg⟩ : ∃ z, Hid (w.heap.size + 1 = z) := ⟨_, hide rfl⟩
  obtain ⟨gr, hgr⟩ : ∃ z, Hid (w.heap.size = z) := ⟨_, hide rfl⟩
  rw [hwp.out] at HG0 HR0 HBW ⊢
  rw [hg.out] at HR0 ⊢
  have HGW : Hid (w.heap.size ≤ gr) := hide (Nat.le_of_eq hgr.out)
  have HGW2 : Hid (w.heap.size ≤ g) := hide (by have := hg.out; omega)
  have HLE0 : Hid (gr < wp.heap.size) := hide (by rw [← hgr.out]; omega)
  rw [hgr.out] at HG0 ⊢
  clear hwp hg hgr hsz
  obtain ⟨zz, hzz⟩ : ∃ z, (rnum s 4 ⟨0, true⟩).1 = z := ⟨_, rfl⟩
  obtain ⟨t0, ht0⟩ : ∃ z, (rnum s 4 ⟨0, true⟩).2 = z := ⟨_, rfl⟩
  have HC := hide (rnum414 HR0.out hs (Nat.zero_le _))
  have hlet0 := (Rd.num 4).le s ⟨0, true⟩ ((Nat.zero_le _))
  rw [hzz, ht0] at HC
  rw [ht0] at hlet0
  refine HC.out.mono ?_
  rintro e w1 ⟨rfl, hr, hT⟩
  have R1 := hide hr
  have T1 := hide hT
  clear HC hr hT
  go_wp2_with fail
  obtain ⟨nm, hnm⟩ : ∃ z, (rtext s t0).1 = z := ⟨_, rfl⟩
  obtain ⟨t1, ht1⟩ : ∃ z, (rtext s t0).2 = z := ⟨_, rfl⟩
  have HC := hide (rugrtext_calls R1.out hs hlet0)
  have hlet1 := Rd.text.le s t0 (hlet0)
  rw [hnm, ht1] at HC
  rw [ht1] at hlet1
  refine HC.out.mono ?_
  rintro e w2 ⟨rfl, hr, hT⟩
  have P3 : Hid (UnR wp (w2.alloc (.cells #[.string nm, .int .i64 0, .slice none 0 0, .int .i64 0, .slice none 0 0] 25)) g w2.heap.size s t1 nm 0 0 (.slice none 0 0) (.slice none 0 0) [] []) := hide ⟨hr.alloc _, hlet1, (T1.out.trans hT (fun x hx => .inl hx)).alloc _, Blk.new w2 25 #[.string nm, .int .i64 0, .slice none 0 0, .int .i64 0, .slice none 0 0], (T1.out.trans hT (fun x hx => .inl hx)).size, row_nil _ _ _, own_nilv _, row_nil _ _ _, own_nilv _, fun v hv => absurd hv List.not_mem_nil⟩
  clear HC hr hT R1 T1
  go_wp2_with fail
  obtain ⟨w3, hw3⟩ : ∃ z, Hid (w2.alloc (.cells #[.string nm, .int .i64 0, .slice none 0 0, .int .i64 0, .slice none 0 0] 25) = z) := ⟨_, hide rfl⟩
  obtain ⟨gu, hgu⟩ : ∃ z, Hid (w2.heap.size = z) := ⟨_, hide rfl⟩
  rw [hw3.out, hgu.out] at P3
  rw [hw3.out, hgu.out]
  clear hw3 hgu
  obtain ⟨ver, hver⟩ : ∃ z, (rnum s 4 t1).1 = z := ⟨_, rfl⟩
  obtain ⟨t2, ht2⟩ : ∃ z, (rnum s 4 t1).2 = z := ⟨_, rfl⟩
  have HC := hide (rnum414 P3.out.rd hs hlet1)
  have hlet2 := (Rd.num 4).le s t1 (hlet1)
  rw [hver, ht2] at HC
  rw [ht2] at hlet2
  refine HC.out.mono ?_
  rintro e w4 ⟨rfl, hr, hT⟩
  have P4 := hide (P3.out.turn hr hlet2 hT)
  clear HC hr hT P3
  have q1 : w4.cell? ⟨gu, 1, none⟩ = some (.int .i64 0) := P4.out.bu.cell 1
  have q2 : w4.frozen? ⟨gu, 1, none⟩ = false := P4.out.bu.frozen 1
  have P5 := hide (P4.out.sver ver)
  go_wp2_with fail
  clear q1 q2
  obtain ⟨w5, hw5⟩ : ∃ z, Hid (w4.setCell ⟨gu, 1, none⟩ (.int .i64 ver) = z) := ⟨_, hide rfl⟩
  rw [hw5.out] at P5 ⊢
  clear hw5 P4
  obtain ⟨n1, hn1, hn1l⟩ := rn2 s t2
  obtain ⟨t3, ht3⟩ : ∃ z, (rnum s 2 t2).2 = z := ⟨_, rfl⟩
  have HC := hide (rnum214 P5.out.rd hs P5.out.at_)
  have hlet3 := (Rd.num 2).le s t2 (P5.out.at_)
  rw [hn1, ht3] at HC
  rw [ht3] at hlet3
  refine HC.out.mono ?_
  rintro e w6 ⟨rfl, hr, hT⟩
  have P6 := hide (P5.out.turn hr hlet3 hT)
  clear HC hr hT P5
  have n1I : (n1 : Int) ≤ 65535 := by omega
  go_upto_block 0 with (fail)
  go_cut [] from 12 (fun wx => ∃ (us : List UseM) (t' : St) (uv : Value), Hid (rlist (ruse s) n1 t3 = (us, t')) ∧ Hid (UnR wp wx g gu s t' nm ver 0 uv (.slice none 0 0) us []))
  case first =>
    go_wp2_with fail
    go_loopw [7, 8] (fun i _ wr => ∃ (k : Nat) (us : List UseM) (t' : St) (uv : Value), k ≤ n1 ∧ i = .int .i64 (k : Int) ∧ Hid (RL (ruse s) n1 t3 k us t') ∧ Hid (UnR wp wr g gu s t' nm ver 0 uv (.slice none 0 0) us [])) (fun i _ _ => n1 - (intOf i).toNat)
    case atStart => exact ⟨0, [], t3, (.slice none 0 0), by omega, rfl, hide (RL.start _ _ _), P6⟩
    case round =>
      clear P6
      obtain ⟨k, us, t', uv, hk, rfl, HL, P0⟩ := hrel
      by_cases hkl : k < n1
      case neg =>
        obtain rfl : k = n1 := by omega
        go_wp2_with fail
        go_meet
        case rel => exact ⟨us, t', uv, hide HL.out.done, P0⟩
      have hkI : (k : Int) < (n1 : Int) := by omega
      obtain ⟨wh, hwh⟩ : ∃ z, t'.whole = z := ⟨_, rfl⟩
      have zw : wr.cell? ⟨g, 2, none⟩ = some (.bool (!wh)) := by rw [← hwh]; exact P0.out.rd.cell 2
      cases wh
      case false =>
        simp only [Bool.not_false] at zw
        go_wp2_with fail
        go_meet
        case rel => exact ⟨us, t', uv, hide (HL.out.cut hwh), P0⟩
      simp only [Bool.not_true] at zw
      have hll : us.length ≤ 65535 := by have := HL.out.1; omega
      have HWH := hide hwh
      clear hwh
      go_wp2_with fail
      clear zw
      obtain ⟨xm, hxm⟩ : ∃ z, (rtext s t').1 = z := ⟨_, rfl⟩
      obtain ⟨u1, hu1⟩ : ∃ z, (rtext s t').2 = z := ⟨_, rfl⟩
      have HC := hide (rugrtext_calls P0.out.rd hs P0.out.at_)
      have hleu1 := Rd.text.le s t' (P0.out.at_)
      rw [hxm, hu1] at HC
      rw [hu1] at hleu1
      refine HC.out.mono ?_
      rintro e w1 ⟨rfl, hr, hT⟩
      have P1 := hide (P0.out.turn hr hleu1 hT)
      clear HC hr hT P0
      have P2 := hide (P1.out.alloc (.cells #[.string xm, .string ⟨#[]⟩, .int .i64 0] 43))
      have V2 := hide (Blk.new w1 43 #[.string xm, .string ⟨#[]⟩, .int .i64 0])
      have nuv := own_ne P1.out.ou
      have hgc : wp.heap.size ≤ w1.heap.size := P1.out.tu.size
      go_wp2_with fail
      obtain ⟨w2b, hw2⟩ : ∃ z, Hid (w1.alloc (.cells #[.string xm, .string ⟨#[]⟩, .int .i64 0] 43) = z) := ⟨_, hide rfl⟩
      rw [hw2.out] at P2 V2 ⊢
      clear hw2
      obtain ⟨gc, hgc2⟩ : ∃ z, Hid (w1.heap.size = z) := ⟨_, hide rfl⟩
      rw [hgc2.out] at V2 nuv hgc ⊢
      clear hgc2 P1
      obtain ⟨xn, hxn⟩ : ∃ z, (rtext s u1).1 = z := ⟨_, rfl⟩
      obtain ⟨u2, hu2⟩ : ∃ z, (rtext s u1).2 = z := ⟨_, rfl⟩
      have HC := hide (rugrtext_calls P2.out.rd hs P2.out.at_)
      have hleu2 := Rd.text.le s u1 (P2.out.at_)
      rw [hxn, hu2] at HC
      rw [hu2] at hleu2
      refine HC.out.mono ?_
      rintro e w3 ⟨rfl, hr, hT⟩
      have P3 := hide (P2.out.turn hr hleu2 hT)
      have V3 := hide (tkr_blk hT V2.out P2.out.rd (by decide))
      clear HC hr hT P2 V2
      have q1 : w3.cell? ⟨gc, 1, none⟩ = some (.string ⟨#[]⟩) := V3.out.cell 1
      have q2 : w3.frozen? ⟨gc, 1, none⟩ = false := V3.out.frozen 1
      have P4 := hide (P3.out.var V3.out hgc nuv 1 (.string xn))
      have V4 : Hid (Blk (w3.setCell ⟨gc, 1, none⟩ (.string xn)) gc 43 #[.string xm, .string xn, .int .i64 0]) := hide (V3.out.set_ 1 (.string xn))
      go_wp2_with fail
      clear q1 q2
      obtain ⟨w4b, hw4⟩ : ∃ z, Hid ((w3.setCell ⟨gc, 1, none⟩ (.string xn)) = z) := ⟨_, hide rfl⟩
      rw [hw4.out] at P4 V4 ⊢
      clear hw4
      obtain ⟨xp, hxp⟩ : ∃ z, (rnum s 1 u2).1 = z := ⟨_, rfl⟩
      obtain ⟨u3, hu3⟩ : ∃ z, (rnum s 1 u2).2 = z := ⟨_, rfl⟩
      have HC := hide (rnum114 P4.out.rd hs P4.out.at_)
      have hleu3 := (Rd.num 1).le s u2 (P4.out.at_)
      rw [hxp, hu3] at HC
      rw [hu3] at hleu3
      refine HC.out.mono ?_
      rintro e w5 ⟨rfl, hr, hT⟩
      have P5 := hide (P4.out.turn hr hleu3 hT)
      have V5 := hide (tkr_blk hT V4.out P4.out.rd (by decide))
      clear HC hr hT P4 V4
      have q1 : w5.cell? ⟨gc, 2, none⟩ = some (.int .i64 0) := V5.out.cell 2
      have q2 : w5.frozen? ⟨gc, 2, none⟩ = false := V5.out.frozen 2
      have P6 := hide (P5.out.var V5.out hgc nuv 2 (.int .i64 xp))
      have V6 : Hid (Blk (w5.setCell ⟨gc, 2, none⟩ (.int .i64 xp)) gc 43 #[.string xm, .string xn, .int .i64 xp]) := hide (V5.out.set_ 2 (.int .i64 xp))
      have HBP : (w5.setCell ⟨gc, 2, none⟩ (.int .i64 xp)).cell? ⟨gu, 2, none⟩ = some uv := P6.out.bu.cell 2
      have c0 : (w5.setCell ⟨gc, 2, none⟩ (.int .i64 xp)).cell? ⟨gc, 0, none⟩ = some (.string xm) := V6.out.cell 0
      have c1 : (w5.setCell ⟨gc, 2, none⟩ (.int .i64 xp)).cell? ⟨gc, 1, none⟩ = some (.string xn) := V6.out.cell 1
      have c2 : (w5.setCell ⟨gc, 2, none⟩ (.int .i64 xp)).cell? ⟨gc, 2, none⟩ = some (.int .i64 xp) := V6.out.cell 2
      have PA := hide (P6.out.alloc (.cells #[.string xm, .string xn, .int .i64 xp] 43))
      have hsz : ((w5.setCell ⟨gc, 2, none⟩ (.int .i64 xp))).heap.size = w5.heap.size := by simp [World.setCell]
      have BA : Hid (Blk ((w5.setCell ⟨gc, 2, none⟩ (.int .i64 xp)).alloc (.cells #[.string xm, .string xn, .int .i64 xp] 43)) (w5.heap.size) 43 #[.string xm, .string xn, .int .i64 xp]) := hide (by rw [← hsz]; exact Blk.new (w5.setCell ⟨gc, 2, none⟩ (.int .i64 xp)) 43 #[.string xm, .string xn, .int .i64 xp])
      go_wp2_with ((with_reducible show wpList _ _ _ (⟨some 50, _, _, _, _, _⟩ :: _) _ _); refine unhid14 ?_)
      unfold Hid
      refine app_list rfl _ _ 22 43 rfl (.agg #[.string ⟨#[]⟩, .string ⟨#[]⟩, .int .i64 0]) 3 40 Try.underlying22 info_use rfl (by decide) uv us.length _ rfl PA.out.ou _ 1 (⟨xm, xn, xp⟩ : UseM).cells rfl (Src.blk BA.out) rfl (one_use _) (Nat.le_trans (show us.length + 1 ≤ 100000001 by omega) (by decide)) (by omega) ?_
      intro v' w9 hr9 hg9 ha9
      obtain ⟨A9, n9, c9, rfl⟩ := row_form3 hr9.out
      have B9 := hide (PA.out.bu.grown hg9.out (Ne.symm (row_blk_ne PA.out.ou PA.out.bu (by decide))))
      have q3 : w9.cell? ⟨gu, 2, none⟩ = some uv := B9.out.cell 2
      have q4 : w9.frozen? ⟨gu, 2, none⟩ = false := B9.out.frozen 2
      have hr10 : Row w9 43 3 (.slice A9 n9 c9) (us ++ [(⟨xm, xn, xp⟩ : UseM)]).length ((us ++ [(⟨xm, xn, xp⟩ : UseM)]).flatMap UseM.cells) := by rw [List.length_append, List.flatMap_append]; simpa using hr9.out
      have PF := hide (PA.out.push_u hr10 hg9.out ha9.out)
      clear hr9 hr10 hg9 ha9 BA hsz
      have huse : ruse s t' = (⟨xm, xn, xp⟩, u3) := by unfold ruse; dsimp only; rw [hxm, hu1, hxn, hu2, hxp, hu3]
      have HN := hide (HL.out.next hkl HWH.out huse)
      clear HL HWH
      go_wp2_with fail
      refine ⟨⟨k + 1, _, _, _, by omega, by go_num, HN, PF⟩, ?_⟩
      simp [intOf]
      omega
  case rest =>
    clear P6
    obtain ⟨us, t4, uv, HD1, P0⟩ := hcut
    go_wp2_with fail
    obtain ⟨fu, hfu⟩ : ∃ z, (rnum s 1 t4).1 = z := ⟨_, rfl⟩
    obtain ⟨t5, ht5⟩ : ∃ z, (rnum s 1 t4).2 = z := ⟨_, rfl⟩
    have HC := hide (rnum114 P0.out.rd hs P0.out.at_)
    have hlet5 := (Rd.num 1).le s t4 (P0.out.at_)
    rw [hfu, ht5] at HC
    rw [ht5] at hlet5
    refine HC.out.mono ?_
    rintro e w7 ⟨rfl, hr, hT⟩
    have P7 := hide (P0.out.turn hr hlet5 hT)
    clear HC hr hT P0
    have q1 : w7.cell? ⟨gu, 3, none⟩ = some (.int .i64 0) := P7.out.bu.cell 3
    have q2 : w7.frozen? ⟨gu, 3, none⟩ = false := P7.out.bu.frozen 3
    have P8 := hide (P7.out.sfun fu)
    go_wp2_with fail
    clear q1 q2
    obtain ⟨w8, hw8⟩ : ∃ z, Hid (w7.setCell ⟨gu, 3, none⟩ (.int .i64 fu) = z) := ⟨_, hide rfl⟩
    rw [hw8.out] at P8 ⊢
    clear hw8 P7
    obtain ⟨n2, hn2, hn2l⟩ := rn2 s t5
    obtain ⟨t6, ht6⟩ : ∃ z, (rnum s 2 t5).2 = z := ⟨_, rfl⟩
    have HC := hide (rnum214 P8.out.rd hs P8.out.at_)
    have hlet6 := (Rd.num 2).le s t5 (P8.out.at_)
    rw [hn2, ht6] at HC
    rw [ht6] at hlet6
    refine HC.out.mono ?_
    rintro e w9 ⟨rfl, hr, hT⟩
    have P9 := hide (P8.out.turn hr hlet6 hT)
    clear HC hr hT P8
    have n2I : (n2 : Int) ≤ 65535 := by omega
    go_upto_block 2 with (fail)
    go_cut [] from 12 (fun wx => ∃ (vs : List ProtoV) (t' : St) (rv : Value), Hid (rlist (rproto s) n2 t6 = (vs.map (·.p), t')) ∧ Hid (UnR wp wx g gu s t' nm ver fu uv rv us vs))
    case first =>
      go_wp2_with fail
      go_loopw [9] (fun i wr => ∃ (k : Nat) (vs : List ProtoV) (t' : St) (rv : Value), k ≤ n2 ∧ i = .int .i64 (k : Int) ∧ Hid (RL (rproto s) n2 t6 k (vs.map (·.p)) t') ∧ Hid (UnR wp wr g gu s t' nm ver fu uv rv us vs)) (fun i _ => n2 - (intOf i).toNat)
      case atStart => exact ⟨0, [], t6, (.slice none 0 0), by omega, rfl, hide (RL.start _ _ _), P9⟩
      case round =>
        clear P9
        obtain ⟨k, vs, t', rv, hk, rfl, HL, P0⟩ := hrel
        by_cases hkl : k < n2
        case neg =>
          obtain rfl : k = n2 := by omega
          go_wp2_with fail
          go_meet
          case rel => exact ⟨vs, t', rv, hide HL.out.done, P0⟩
        have hkI : (k : Int) < (n2 : Int) := by omega
        obtain ⟨wh, hwh⟩ : ∃ z, t'.whole = z := ⟨_, rfl⟩
        have zw : wr.cell? ⟨g, 2, none⟩ = some (.bool (!wh)) := by rw [← hwh]; exact P0.out.rd.cell 2
        cases wh
        case false =>
          simp only [Bool.not_false] at zw
          go_wp2_with fail
          go_meet
          case rel => exact ⟨vs, t', rv, hide (HL.out.cut hwh), P0⟩
        simp only [Bool.not_true] at zw
        have hll : vs.length ≤ 65535 := by have := HL.out.1; rw [List.length_map] at this; omega
        have HWH := hide hwh
        clear hwh
        have hat2 : (rproto s t').2.at_ ≤ s.size := Rd.proto.le s t' P0.out.at_
        go_wp2_with fail
        clear zw
        have PD := hide P0.out.drew
        clear P0
        refine wp_region_heads [0, 2] 6 (fun _ => True) (by kernel_rfl) rfl (by kernel_rfl) (by kernel_rfl) (fun _ _ d _ _ h => by cases d <;> exact h) trivial ?_
        iterate 2
          refine' Heads.step rfl (by rfl) ?_ ?_
          rotate_left
          · intro w' hSw
            go_simp
            try with_reducible rfl
          simp only [Act.put, List.setIfInBounds_toArray, List.set_cons_zero, List.set_cons_succ]
        refine Heads.done ?_
        refine wpAnyH_ready (rs := [1, 3]) (by kernel_rfl) (by simp) (AllReadyH.cons rfl (fun K hK => ?_) (AllReadyH.cons rfl (fun K hK => ?_) AllReadyH.nil))
        focus
          have zr1 : wr.drew.cell? ⟨gu, 4, none⟩ = some rv := PD.out.bu.cell 4
          go_simp
          refine hK.out _ _ trivial (fun _ => ?_)
          clear hK K
          clear zr1
          refine wpAnyH_ready (rs := [3]) (by kernel_rfl) (by simp) (AllReadyH.cons rfl (fun K hK => ?_) AllReadyH.nil)
          go_simp
          refine (rugrproto_lit PD.out.rd hs PD.out.at_).mono ?_
          rintro e w52 ⟨v, rfl, hvp, hr2, hT2, ho2⟩
          have Q2 := hide (PD.out.turn hr2 hat2 hT2)
          have HO2 := hide (ho2.base PD.out.tu.size)
          have HVP := hide hvp
          clear hvp
          refine hK.out _ _ trivial (fun _ => ?_)
          clear hK K
          refine wpAnyH_ready (rs := [4]) (by kernel_rfl) (by simp) (AllReadyH.cons rfl (fun K hK => ?_) AllReadyH.nil)
          go_simp
          have Q3 := hide (Q2.out.alloc (.cells #[.string v.p.name, .int .i64 v.p.params, .int .i64 v.p.regs, .slice v.cA v.p.code.length v.cc, .slice v.kA v.p.consts.length v.kc, .slice v.pA v.p.caps.length v.pc] 38))
          have HO3 := hide (HO2.out.keep fun hrow _ => row_alloc hrow (.cells #[.string v.p.name, .int .i64 v.p.params, .int .i64 v.p.regs, .slice v.cA v.p.code.length v.cc, .slice v.kA v.p.consts.length v.kc, .slice v.pA v.p.caps.length v.pc] 38))
          have HB3 : Hid (Blk (w52.alloc (.cells #[.string v.p.name, .int .i64 v.p.params, .int .i64 v.p.regs, .slice v.cA v.p.code.length v.cc, .slice v.kA v.p.consts.length v.kc, .slice v.pA v.p.caps.length v.pc] 38)) w52.heap.size 38 v.cells.toArray) := hide (Blk.new w52 38 #[.string v.p.name, .int .i64 v.p.params, .int .i64 v.p.regs, .slice v.cA v.p.code.length v.cc, .slice v.kA v.p.consts.length v.kc, .slice v.pA v.p.caps.length v.pc])
          refine hK.out _ _ trivial (fun _ => ?_)
          clear hK K
          obtain ⟨gz3, hgz3⟩ : ∃ z, Hid (w52.heap.size = z) := ⟨_, hide rfl⟩
          obtain ⟨wz3, hwz3⟩ : ∃ z, Hid (w52.alloc (.cells #[.string v.p.name, .int .i64 v.p.params, .int .i64 v.p.regs, .slice v.cA v.p.code.length v.cc, .slice v.kA v.p.consts.length v.kc, .slice v.pA v.p.caps.length v.pc] 38) = z) := ⟨_, hide rfl⟩
          rw [hgz3.out] at HB3 ⊢
          rw [hwz3.out] at Q3 HO3 HB3 ⊢
          clear hgz3 hwz3
          refine wpAnyH_ready (rs := [5]) (by kernel_rfl) (by simp) (AllReadyH.cons rfl (fun K hK => ?_) AllReadyH.nil)
          rw [if_pos (by rfl)]
          refine app_op (.tmp 70) (.tmp 73) 23 38 rfl (.agg #[.string ⟨#[]⟩, .int .i64 0, .int .i64 0, .slice none 0 0, .slice none 0 0, .slice none 0 0]) 6 104 Try.underlying23 info_proto rfl (by decide) rv vs.length _ rfl Q3.out.or_ (.slice (some ⟨gz3, 0, none⟩) 1 1) 1 v.cells rfl (Src.blk HB3.out) rfl (one_proto v) (Nat.le_trans (show vs.length + 1 ≤ 100000001 by omega) (by decide)) (by omega) ?_
          intro v' w9 hr9 hg9 ha9
          obtain ⟨A9, n9, c9, rfl⟩ := row_form3 hr9.out
          have B9 := hide (Q3.out.bu.grown hg9.out (Ne.symm (row_blk_ne Q3.out.or_ Q3.out.bu (by decide))))
          refine hK.out _ _ trivial (fun _ => ?_)
          clear hK K
          refine wpAnyH_more [6] 1 rfl (by kernel_rfl) (by kernel_rfl) (fun _ _ d _ _ h => by cases d <;> exact h) trivial ?_
          iterate 1
            refine' Heads.step rfl (by rfl) ?_ ?_
            rotate_left
            · intro w' hSw
              go_simp
              try with_reducible rfl
            simp only [Act.put, List.setIfInBounds_toArray]
          refine Heads.done ?_
          have q3 : w9.cell? ⟨gu, 4, none⟩ = some rv := B9.out.cell 4
          have q4 : w9.frozen? ⟨gu, 4, none⟩ = false := B9.out.frozen 4
          refine wpAnyH_ready (rs := [7]) (by kernel_rfl) (by simp) (AllReadyH.cons rfl (fun K hK => ?_) AllReadyH.nil)
          go_simp
          refine hK.out _ _ trivial (fun _ => ?_)
          clear hK K
          refine wpAnyH_done (by kernel_rfl) ?_ _
          have hr10 : Row w9 38 6 (.slice A9 n9 c9) (vs ++ [v]).length ((vs ++ [v]).flatMap ProtoV.cells) := by rw [List.length_append, List.flatMap_append]; simpa using hr9.out
          have PF := hide (Q3.out.push_r HO3.out hr10 hg9.out ha9.out)
          have HN : Hid (RL (rproto s) n2 t6 (k + 1) ((vs ++ [v]).map (·.p)) (rproto s t').2) := hide (by rw [List.map_append]; exact HL.out.next hkl HWH.out (Prod.ext HVP.out.symm rfl))
          clear HL HWH hr9 hr10 hg9 ha9 q3 q4
          go_wp2_with fail
          refine ⟨⟨k + 1, _, _, _, by omega, by go_num, HN, PF⟩, ?_⟩
          simp [intOf]
          omega
        focus
          go_simp
          refine (rugrproto_lit PD.out.rd hs PD.out.at_).mono ?_
          rintro e w55 ⟨v, rfl, hvp, hr5, hT5, ho5⟩
          have Q5 := hide (PD.out.turn hr5 hat2 hT5)
          have HO5 := hide (ho5.base PD.out.tu.size)
          have HVP := hide hvp
          clear hvp
          refine hK.out _ _ trivial (fun _ => ?_)
          clear hK K
          refine wpAnyH_ready (rs := [1, 4]) (by kernel_rfl) (by simp) (AllReadyH.cons rfl (fun K hK => ?_) (AllReadyH.cons rfl (fun K hK => ?_) AllReadyH.nil))
          focus
            have zr6 : w55.cell? ⟨gu, 4, none⟩ = some rv := Q5.out.bu.cell 4
            go_simp
            refine hK.out _ _ trivial (fun _ => ?_)
            clear hK K
            clear zr6
            refine wpAnyH_ready (rs := [4]) (by kernel_rfl) (by simp) (AllReadyH.cons rfl (fun K hK => ?_) AllReadyH.nil)
            go_simp
            have Q7 := hide (Q5.out.alloc (.cells #[.string v.p.name, .int .i64 v.p.params, .int .i64 v.p.regs, .slice v.cA v.p.code.length v.cc, .slice v.kA v.p.consts.length v.kc, .slice v.pA v.p.caps.length v.pc] 38))
            have HO7 := hide (HO5.out.keep fun hrow _ => row_alloc hrow (.cells #[.string v.p.name, .int .i64 v.p.params, .int .i64 v.p.regs, .slice v.cA v.p.code.length v.cc, .slice v.kA v.p.consts.length v.kc, .slice v.pA v.p.caps.length v.pc] 38))
            have HB7 : Hid (Blk (w55.alloc (.cells #[.string v.p.name, .int .i64 v.p.params, .int .i64 v.p.regs, .slice v.cA v.p.code.length v.cc, .slice v.kA v.p.consts.length v.kc, .slice v.pA v.p.caps.length v.pc] 38)) w55.heap.size 38 v.cells.toArray) := hide (Blk.new w55 38 #[.string v.p.name, .int .i64 v.p.params, .int .i64 v.p.regs, .slice v.cA v.p.code.length v.cc, .slice v.kA v.p.consts.length v.kc, .slice v.pA v.p.caps.length v.pc])
            refine hK.out _ _ trivial (fun _ => ?_)
            clear hK K
            obtain ⟨gz7, hgz7⟩ : ∃ z, Hid (w55.heap.size = z) := ⟨_, hide rfl⟩
            obtain ⟨wz7, hwz7⟩ : ∃ z, Hid (w55.alloc (.cells #[.string v.p.name, .int .i64 v.p.params, .int .i64 v.p.regs, .slice v.cA v.p.code.length v.cc, .slice v.kA v.p.consts.length v.kc, .slice v.pA v.p.caps.length v.pc] 38) = z) := ⟨_, hide rfl⟩
            rw [hgz7.out] at HB7 ⊢
            rw [hwz7.out] at Q7 HO7 HB7 ⊢
            clear hgz7 hwz7
            refine wpAnyH_ready (rs := [5]) (by kernel_rfl) (by simp) (AllReadyH.cons rfl (fun K hK => ?_) AllReadyH.nil)
            rw [if_pos (by rfl)]
            refine app_op (.tmp 70) (.tmp 73) 23 38 rfl (.agg #[.string ⟨#[]⟩, .int .i64 0, .int .i64 0, .slice none 0 0, .slice none 0 0, .slice none 0 0]) 6 104 Try.underlying23 info_proto rfl (by decide) rv vs.length _ rfl Q7.out.or_ (.slice (some ⟨gz7, 0, none⟩) 1 1) 1 v.cells rfl (Src.blk HB7.out) rfl (one_proto v) (Nat.le_trans (show vs.length + 1 ≤ 100000001 by omega) (by decide)) (by omega) ?_
            intro v' w9 hr9 hg9 ha9
            obtain ⟨A9, n9, c9, rfl⟩ := row_form3 hr9.out
            have B9 := hide (Q7.out.bu.grown hg9.out (Ne.symm (row_blk_ne Q7.out.or_ Q7.out.bu (by decide))))
            refine hK.out _ _ trivial (fun _ => ?_)
            clear hK K
            refine wpAnyH_more [6] 1 rfl (by kernel_rfl) (by kernel_rfl) (fun _ _ d _ _ h => by cases d <;> exact h) trivial ?_
            iterate 1
              refine' Heads.step rfl (by rfl) ?_ ?_
              rotate_left
              · intro w' hSw
                go_simp
                try with_reducible rfl
              simp only [Act.put, List.setIfInBounds_toArray]
            refine Heads.done ?_
            have q3 : w9.cell? ⟨gu, 4, none⟩ = some rv := B9.out.cell 4
            have q4 : w9.frozen? ⟨gu, 4, none⟩ = false := B9.out.frozen 4
            refine wpAnyH_ready (rs := [7]) (by kernel_rfl) (by simp) (AllReadyH.cons rfl (fun K hK => ?_) AllReadyH.nil)
            go_simp
            refine hK.out _ _ trivial (fun _ => ?_)
            clear hK K
            refine wpAnyH_done (by kernel_rfl) ?_ _
            have hr10 : Row w9 38 6 (.slice A9 n9 c9) (vs ++ [v]).length ((vs ++ [v]).flatMap ProtoV.cells) := by rw [List.length_append, List.flatMap_append]; simpa using hr9.out
            have PF := hide (Q7.out.push_r HO7.out hr10 hg9.out ha9.out)
            have HN : Hid (RL (rproto s) n2 t6 (k + 1) ((vs ++ [v]).map (·.p)) (rproto s t').2) := hide (by rw [List.map_append]; exact HL.out.next hkl HWH.out (Prod.ext HVP.out.symm rfl))
            clear HL HWH hr9 hr10 hg9 ha9 q3 q4
            go_wp2_with fail
            refine ⟨⟨k + 1, _, _, _, by omega, by go_num, HN, PF⟩, ?_⟩
            simp [intOf]
            omega
          focus
            go_simp
            have Q9 := hide (Q5.out.alloc (.cells #[.string v.p.name, .int .i64 v.p.params, .int .i64 v.p.regs, .slice v.cA v.p.code.length v.cc, .slice v.kA v.p.consts.length v.kc, .slice v.pA v.p.caps.length v.pc] 38))
            have HO9 := hide (HO5.out.keep fun hrow _ => row_alloc hrow (.cells #[.string v.p.name, .int .i64 v.p.params, .int .i64 v.p.regs, .slice v.cA v.p.code.length v.cc, .slice v.kA v.p.consts.length v.kc, .slice v.pA v.p.caps.length v.pc] 38))
            have HB9 : Hid (Blk (w55.alloc (.cells #[.string v.p.name, .int .i64 v.p.params, .int .i64 v.p.regs, .slice v.cA v.p.code.length v.cc, .slice v.kA v.p.consts.length v.kc, .slice v.pA v.p.caps.length v.pc] 38)) w55.heap.size 38 v.cells.toArray) := hide (Blk.new w55 38 #[.string v.p.name, .int .i64 v.p.params, .int .i64 v.p.regs, .slice v.cA v.p.code.length v.cc, .slice v.kA v.p.consts.length v.kc, .slice v.pA v.p.caps.length v.pc])
            refine hK.out _ _ trivial (fun _ => ?_)
            clear hK K
            obtain ⟨gz9, hgz9⟩ : ∃ z, Hid (w55.heap.size = z) := ⟨_, hide rfl⟩
            obtain ⟨wz9, hwz9⟩ : ∃ z, Hid (w55.alloc (.cells #[.string v.p.name, .int .i64 v.p.params, .int .i64 v.p.regs, .slice v.cA v.p.code.length v.cc, .slice v.kA v.p.consts.length v.kc, .slice v.pA v.p.caps.length v.pc] 38) = z) := ⟨_, hide rfl⟩
            rw [hgz9.out] at HB9 ⊢
            rw [hwz9.out] at Q9 HO9 HB9 ⊢
            clear hgz9 hwz9
            refine wpAnyH_ready (rs := [1]) (by kernel_rfl) (by simp) (AllReadyH.cons rfl (fun K hK => ?_) AllReadyH.nil)
            have zr10 : wz9.cell? ⟨gu, 4, none⟩ = some rv := Q9.out.bu.cell 4
            go_simp
            refine hK.out _ _ trivial (fun _ => ?_)
            clear hK K
            clear zr10
            refine wpAnyH_ready (rs := [5]) (by kernel_rfl) (by simp) (AllReadyH.cons rfl (fun K hK => ?_) AllReadyH.nil)
            rw [if_pos (by rfl)]
            refine app_op (.tmp 70) (.tmp 73) 23 38 rfl (.agg #[.string ⟨#[]⟩, .int .i64 0, .int .i64 0, .slice none 0 0, .slice none 0 0, .slice none 0 0]) 6 104 Try.underlying23 info_proto rfl (by decide) rv vs.length _ rfl Q9.out.or_ (.slice (some ⟨gz9, 0, none⟩) 1 1) 1 v.cells rfl (Src.blk HB9.out) rfl (one_proto v) (Nat.le_trans (show vs.length + 1 ≤ 100000001 by omega) (by decide)) (by omega) ?_
            intro v' w9 hr9 hg9 ha9
            obtain ⟨A9, n9, c9, rfl⟩ := row_form3 hr9.out
            have B9 := hide (Q9.out.bu.grown hg9.out (Ne.symm (row_blk_ne Q9.out.or_ Q9.out.bu (by decide))))
            refine hK.out _ _ trivial (fun _ => ?_)
            clear hK K
            refine wpAnyH_more [6] 1 rfl (by kernel_rfl) (by kernel_rfl) (fun _ _ d _ _ h => by cases d <;> exact h) trivial ?_
            iterate 1
              refine' Heads.step rfl (by rfl) ?_ ?_
              rotate_left
              · intro w' hSw
                go_simp
                try with_reducible rfl
              simp only [Act.put, List.setIfInBounds_toArray]
            refine Heads.done ?_
            have q3 : w9.cell? ⟨gu, 4, none⟩ = some rv := B9.out.cell 4
            have q4 : w9.frozen? ⟨gu, 4, none⟩ = false := B9.out.frozen 4
            refine wpAnyH_ready (rs := [7]) (by kernel_rfl) (by simp) (AllReadyH.cons rfl (fun K hK => ?_) AllReadyH.nil)
            go_simp
            refine hK.out _ _ trivial (fun _ => ?_)
            clear hK K
            refine wpAnyH_done (by kernel_rfl) ?_ _
            have hr10 : Row w9 38 6 (.slice A9 n9 c9) (vs ++ [v]).length ((vs ++ [v]).flatMap ProtoV.cells) := by rw [List.length_append, List.flatMap_append]; simpa using hr9.out
            have PF := hide (Q9.out.push_r HO9.out hr10 hg9.out ha9.out)
            have HN : Hid (RL (rproto s) n2 t6 (k + 1) ((vs ++ [v]).map (·.p)) (rproto s t').2) := hide (by rw [List.map_append]; exact HL.out.next hkl HWH.out (Prod.ext HVP.out.symm rfl))
            clear HL HWH hr9 hr10 hg9 ha9 q3 q4
            go_wp2_with fail
            refine ⟨⟨k + 1, _, _, _, by omega, by go_num, HN, PF⟩, ?_⟩
            simp [intOf]
            omega
    case rest =>
      clear P9
      obtain ⟨vs, t7, rv, HD2, PB0⟩ := hcut
      have HRU : Hid (runit s = (⟨nm, ver, us, fu, vs.map (·.p)⟩, t7)) := hide (by unfold runit; dsimp only; rw [ht0, hnm, ht1, hver, ht2, rls_eq hn1 ht3, HD1.out, hfu, ht5, rls_eq hn2 ht6, HD2.out])
      have HLM := hide (runit_lim hs)
      rw [HRU.out] at HLM
      obtain ⟨uA, uc, rA, rc, rfl, rfl, hrd, hown⟩ := PB0.out.unit
      have PB := PB0
      have HRD := hide hrd
      have HOW := hide hown
      clear PB0 hrd hown hnm ht0 ht1 hver ht2 hn1 ht3 hfu ht5 hn2 ht6 hzz HD1 HD2
      have HUP : Hid (uparse s = if t7.whole then if ubuild ⟨nm, ver, us, fu, vs.map (·.p)⟩ = (s, 0) then (⟨nm, ver, us, fu, vs.map (·.p)⟩, 0) else (unit0, 4) else (unit0, 2)) := hide (by unfold uparse; rw [HRU.out])
      have HGB := hide (tkr_blk PB.out.tu HG0.out HR0.out (by decide))
      have HBB : Hid (Below w.heap.size w wc) := hide (HBW.out.trans (PB.out.tu.below HBW.out.size (fun x hx => hx ▸ HGW2.out)))
      obtain ⟨wh, hwh⟩ : ∃ z, t7.whole = z := ⟨_, rfl⟩
      have zw : wc.cell? ⟨g, 2, none⟩ = some (.bool (!wh)) := by rw [← hwh]; exact PB.out.rd.cell 2
      rw [hwh] at HUP
      clear hwh
      cases wh
      case false =>
        simp only [Bool.not_false] at zw
        have HE : Hid (uparse s = (unit0, 2)) := hide (by rw [HUP.out]; rfl)
        go_wp2_with ((with_reducible show wpList _ _ _ (⟨none, Op.store 25 _ _, _, _, _, _⟩ :: _) _ _); refine wpList_store_row rfl _ _ _ rfl gr #[.string ⟨#[]⟩, .int .i64 0, .slice none 0 0, .int .i64 0, .slice none 0 0] rfl rfl 25 _ HGB.out (by kernel_rfl) rfl (by kernel_rfl) ?_)
        refine ret_cell rfl rfl rfl (blk_row_same HGB.out #[.string ⟨#[]⟩, .int .i64 0, .slice none 0 0, .int .i64 0, .slice none 0 0]) Try.underlying25 rfl (by kernel_rfl) ?_
        exact pa_bad HE.out (below_row HBB.out HGW.out _)
      simp only [Bool.not_true] at zw
      have k0 : wc.cell? ⟨gu, 0, none⟩ = some (.string nm) := PB.out.bu.cell 0
      have k1 : wc.cell? ⟨gu, 1, none⟩ = some (.int .i64 ver) := PB.out.bu.cell 1
      have k2 : wc.cell? ⟨gu, 2, none⟩ = some (.slice uA us.length uc) := PB.out.bu.cell 2
      have k3 : wc.cell? ⟨gu, 3, none⟩ = some (.int .i64 fu) := PB.out.bu.cell 3
      have k4 : wc.cell? ⟨gu, 4, none⟩ = some (.slice rA vs.length rc) := PB.out.bu.cell 4
      have HUP2 : Hid (uparse s = if ubuild (UnitV.m ⟨nm, ver, us, uA, uc, fu, vs, rA, rc⟩) = (s, 0) then (UnitV.m ⟨nm, ver, us, uA, uc, fu, vs, rA, rc⟩, 0) else (unit0, 4)) := hide (by rw [HUP.out]; rfl)
      have HBD := hide (rugBuild_parts nm ver us uA uc fu vs rA rc HRD.out HLM.out.1 HLM.out.2)
      obtain ⟨bs, hbs⟩ : ∃ z, (ubuild (UnitV.m ⟨nm, ver, us, uA, uc, fu, vs, rA, rc⟩)).1 = z := ⟨_, rfl⟩
      obtain ⟨be, hbe⟩ : ∃ z, (ubuild (UnitV.m ⟨nm, ver, us, uA, uc, fu, vs, rA, rc⟩)).2 = z := ⟨_, rfl⟩
      rw [hbs, hbe] at HBD
      rw [show ubuild (UnitV.m ⟨nm, ver, us, uA, uc, fu, vs, rA, rc⟩) = (bs, be) from Prod.ext hbs hbe] at HUP2
      clear HUP hbs hbe HRU
      go_wp2_with fail
      clear k0 k1 k2 k3 k4 zw
      refine HBD.out.mono ?_
      rintro e wC ⟨rfl, hbC⟩
      have HGC := hide (HGB.out.below hbC HGB.out.lt)
      have HBC := hide (HBB.out.trans (hbC.mono HBB.out.size))
      have HOC := hide (HOW.out.below hbC)
      have HUC := hide (PB.out.bu.below hbC PB.out.bu.lt)
      clear hbC HBD HRD
      have k0 : wC.cell? ⟨gu, 0, none⟩ = some (.string nm) := HUC.out.cell 0
      have k1 : wC.cell? ⟨gu, 1, none⟩ = some (.int .i64 ver) := HUC.out.cell 1
      have k2 : wC.cell? ⟨gu, 2, none⟩ = some (.slice uA us.length uc) := HUC.out.cell 2
      have k3 : wC.cell? ⟨gu, 3, none⟩ = some (.int .i64 fu) := HUC.out.cell 3
      have k4 : wC.cell? ⟨gu, 4, none⟩ = some (.slice rA vs.length rc) := HUC.out.cell 4
      by_cases he : be = 0
      case neg =>
        have HE : Hid (uparse s = (unit0, 4)) := hide (by rw [HUP2.out, if_neg (fun h => he (congrArg Prod.snd h))])
        have e1 : (be == 0) = false := by simpa using he
        have e2 : decide (be = 0) = false := decide_eq_false he
        clear HUP2
        go_wp2_with ((with_reducible show wpList _ _ _ (⟨none, Op.store 25 _ _, _, _, _, _⟩ :: _) _ _); refine wpList_store_row rfl _ _ _ rfl gr #[.string ⟨#[]⟩, .int .i64 0, .slice none 0 0, .int .i64 0, .slice none 0 0] rfl rfl 25 _ HGC.out (by kernel_rfl) rfl (by kernel_rfl) ?_)
        refine ret_cell rfl rfl rfl (blk_row_same HGC.out #[.string ⟨#[]⟩, .int .i64 0, .slice none 0 0, .int .i64 0, .slice none 0 0]) Try.underlying25 rfl (by kernel_rfl) ?_
        exact pa_bad HE.out (below_row HBC.out HGW.out _)
      subst he
      by_cases ho : bs = s
      case neg =>
        have HE : Hid (uparse s = (unit0, 4)) := hide (by rw [HUP2.out, if_neg (fun h => ho (congrArg Prod.fst h))])
        have e2 : (bs.toList == s.toList) = false := by rw [lbeq14]; exact decide_eq_false ho
        clear HUP2
        go_wp2_with ((with_reducible show wpList _ _ _ (⟨none, Op.store 25 _ _, _, _, _, _⟩ :: _) _ _); refine wpList_store_row rfl _ _ _ rfl gr #[.string ⟨#[]⟩, .int .i64 0, .slice none 0 0, .int .i64 0, .slice none 0 0] rfl rfl 25 _ HGC.out (by kernel_rfl) rfl (by kernel_rfl) ?_)
        refine ret_cell rfl rfl rfl (blk_row_same HGC.out #[.string ⟨#[]⟩, .int .i64 0, .slice none 0 0, .int .i64 0, .slice none 0 0]) Try.underlying25 rfl (by kernel_rfl) ?_
        exact pa_bad HE.out (below_row HBC.out HGW.out _)
      subst ho
      have HE : Hid (uparse bs = (UnitV.m ⟨nm, ver, us, uA, uc, fu, vs, rA, rc⟩, 0)) := hide (by rw [HUP2.out, if_pos rfl])
      clear HUP2
      go_wp2_with ((with_reducible show wpList _ _ _ (⟨none, Op.store 25 _ _, _, _, _, _⟩ :: _) _ _); refine wpList_store_row rfl _ _ _ rfl gr #[.string nm, .int .i64 ver, .slice uA us.length uc, .int .i64 fu, .slice rA vs.length rc] rfl rfl 25 _ HGC.out (by kernel_rfl) rfl (by kernel_rfl) ?_)
      refine ret_cell rfl rfl rfl (blk_row_same HGC.out #[.string nm, .int .i64 ver, .slice uA us.length uc, .int .i64 fu, .slice rA vs.length rc]) Try.underlying25 rfl (by kernel_rfl) ?_
      refine ⟨⟨nm, ver, us, uA, uc, fu, vs, rA, rc⟩, ?_, ?_, below_row HBC.out HGW.out _, ?_, HLM.out⟩
      · rw [HE.out]; rfl
      · rw [HE.out]
      · exact (HOC.out.row (g := gr) HGC.out (cs := #[.string nm, .int .i64 ver, .slice uA us.length uc, .int .i64 fu, .slice rA vs.length rc])).base HBW.out.size
end Go.Proofs.Ythgjmbcojbmlhaa
