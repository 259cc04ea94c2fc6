/- Chapter 25: lay of the program, walked, for both tellers of digests. -/
import Derived.Test.YtkipmbnmmbeeaaaBunF
namespace Go.Proofs.Ytkipmbnmmbeeaaa
open Go.RowKit Zb

set_option maxRecDepth 20000 in
theorem bufq_ne {w0 w : World} {v : Value} {l : List UInt8} {g : Nat} {cs : Array Value} (h : BufQ w0 w v l) (hb : Blk w g 34 cs) : v.ownBlock ≠ some g := by
  rcases h.row with ⟨rfl, _⟩ | ⟨g', cap, cur, fz, rfl, hg, _⟩
  · simp [Value.ownBlock]
  · intro e
    have e2 : g' = g := by simpa [Value.ownBlock] using e
    subst e2
    have hb' : w.heap[g']? = some (.cells cs 34 (0, 0)) := hb
    rw [hg] at hb'
    simp at hb'
set_option maxRecDepth 20000 in
set_option maxHeartbeats 4000000 in
theorem laybBuildf_calls {w : World} {A : Option Addr} {R : Sums} (cap cb : Nat) (ha : ReadsRows 4 PartM.cells w A (R.map (·.1))) (hm : MidL (R.map (·.1))) (hS : (partsB R).size ≤ 1000000)
    (HF : ∀ (k : Nat) x, R[k]? = some x → ∀ w', Below w.heap.size w w' → Calls Try.prog 21 #[.int .i64 (k : Int), .pointer (some ⟨cb, 0, none⟩)] w' fun e w'' => e = .returned (.string x.2) ∧ Below w'.heap.size w' w'') :
    Calls Try.prog 20 #[.slice A R.length cap, .func (.func 21) #[] #[.pointer (some ⟨cb, 0, none⟩)]] w fun e w' => e = .returned (.string (bodyB R)) ∧ Below w.heap.size w w' := by
  have HA := hide ha
  have HM := hide hm
  have HFF := hide HF
  have hlen : R.length ≤ 70000 := by have := hm.1; simpa using this
  have HN0 := hide (oPut_calls (R.length : Nat) (by omega) (by omega) 2)
  have HS := hide (fun k => Nat.le_trans (partsB_le R k) hS)
  have HE : Hid (bodyB R = (⟨#[66, 78, 68, 76]⟩ ++ putB R.length 2) ++ partsB R) := hide rfl
  have hnb : (putB R.length 2).size ≤ 2 := by
    unfold putB
    split
    · show (leL _ _).toArray.size ≤ 2
      rw [List.size_toArray, leL_length]
      omega
    · exact Nat.zero_le _
  have HH : Hid ((⟨#[66, 78, 68, 76]⟩ ++ putB R.length 2 : ByteArray).size ≤ 100) := hide (by
    rw [ByteArray.size_append]
    show 4 + _ ≤ 100
    omega)
  have h4 : (⟨#[66, 78, 68, 76]⟩ : ByteArray).size = 4 := rfl
  unfold PutPost at HN0
  clear ha hm hS HF
  generalize bodyB R = out at *
  generalize putB R.length 2 = nb at *
  generalize putE R.length 2 = ne at *
  go_enter Try.func20, Try.ntmps20
  go_wp2_with fail
  refine (HN0.out _).mono ?_
  rintro e w0 ⟨rfl, hb0⟩
  have HB0 := hide hb0
  clear hb0
  go_wp2_with ((with_reducible show wpList _ _ _ (⟨some 20, _, _, _, _, _⟩ :: _) _ _); refine bufq_conv rfl (.tmp 19) rfl HB0.out (⟨#[66, 78, 68, 76]⟩ ++ nb) rfl (by have h1 := HH.out; omega) ?_; intro v1 w1 HV1 HB1)
  clear h4 hnb
  generalize (⟨#[66, 78, 68, 76]⟩ ++ nb : ByteArray) = hd at *
  go_loopw [7, 23] (fun v i wr => ∃ k : Nat, k ≤ R.length ∧ i = .int .i64 (k : Int) ∧ Hid (BufQ w wr v (hd ++ partsB (R.take k)).data.toList)) (fun _ i _ => R.length - (intOf i).toNat)
  case atStart => exact ⟨0, by omega, rfl, hide (by have h : hd ++ partsB (R.take 0) = hd := bemp hd; rw [h]; exact HV1.out)⟩
  case round =>
    obtain ⟨k, hk, rfl, HV⟩ := hrel
    by_cases hlt : k < R.length
    · obtain ⟨x, hx⟩ : ∃ x, R[k]? = some x := ⟨_, List.getElem?_eq_getElem hlt⟩
      have hx1 : (R.map (·.1))[k]? = some x.1 := by rw [List.getElem?_map, hx]; rfl
      have hkI : (k : Int) < (R.length : Int) := by omega
      have hk0 : (0 : Int) ≤ (k : Int) := by omega
      have hmid := HM.out.2 x.1 (List.mem_of_getElem? hx1)
      have HT1 := hide (fun w1 => oText_calls x.1.name (by have := hmid.name; omega) w1)
      have HN := hide (oPut_calls x.1.version hmid.version.1 hmid.version.2 4)
      have HT2 := hide (fun w1 => oText_calls x.1.text (by have := hmid.text; omega) w1)
      have HFX := hide (HFF.out k x hx)
      obtain ⟨ba, oa, hA, hal, hc⟩ := HA.out.kept HV.out.bel hx1
      subst hA
      have x0 : wr.cell? ⟨ba, oa + k * 4, none⟩ = some (.string x.1.name) := hc 0 _ rfl
      have x1 : wr.cell? ⟨ba, oa + k * 4 + 1, none⟩ = some (.int .i64 x.1.version) := hc 1 _ rfl
      have x2 : wr.cell? ⟨ba, oa + k * 4 + 2, none⟩ = some (.string x.1.text) := hc 2 _ rfl
      have x3 : wr.cell? ⟨ba, oa + k * 4 + 3, none⟩ = some (.string x.1.state) := hc 3 _ rfl
      have HNX := hide (partsB_take R k x hx)
      have HPB : Hid (partB x = textB x.1.name ++ putB x.1.version 4 ++ textB x.1.text ++ x.2) := hide rfl
      have HSK := hide (HS.out (k + 1))
      obtain ⟨⟨xn, xv, xt, xs⟩, xd⟩ := x
      dsimp only at HT1 HN HT2 HFX HPB x0 x1 x2 x3
      unfold PutPost at HN
      clear hc hx hx1 hmid
      have HBK := hide (Blk.new wr 34 #[.string xn, .int .i64 xv, .string xt, .string xs])
      have HVA := hide (HV.out.alloc (.cells #[.string xn, .int .i64 xv, .string xt, .string xs] 34))
      generalize textB xn = tn at *
      generalize putB xv 4 = tv at *
      generalize putE xv 4 = te at *
      generalize textB xt = tt at *
      have hsz : hd.size + (partsB (R.take k)).size + tn.size + tv.size + tt.size + xd.size ≤ 1000100 := by
        have h1 := congrArg ByteArray.size HNX.out
        have h3 := HH.out
        rw [HPB.out] at h1
        simp only [ByteArray.size_append] at h1
        have h4 := HSK.out
        omega
      have e2 : ¬ 9223372036854775807 < tn.size + tv.size := by omega
      have e3 : ¬ 9223372036854775807 < tn.size + tv.size + tt.size := by omega
      have e4 : ¬ 9223372036854775807 < tn.size + tv.size + tt.size + xd.size := by omega
      have HLL : Hid ((hd ++ partsB (R.take k)).data.toList.length + (tn ++ tv ++ tt ++ xd).size ≤ 1000000000000) := hide (by
        have h1 : (hd ++ partsB (R.take k)).data.toList.length = hd.size + (partsB (R.take k)).size := by
          rw [show (hd ++ partsB (R.take k)).data.toList.length = (hd ++ partsB (R.take k)).size from rfl, ByteArray.size_append]
        rw [h1]
        simp only [ByteArray.size_append]
        omega)
      have HNEW : Hid ((hd ++ partsB (R.take k)).data.toList ++ (tn ++ tv ++ tt ++ xd).data.toList = (hd ++ partsB (R.take (k + 1))).data.toList) := hide (by
        rw [HNX.out, HPB.out, ← ByteArray.append_assoc, ByteArray.data_append, Array.toList_append]
        simp only [ByteArray.data_append, Array.toList_append, List.append_assoc])
      clear hsz
      generalize (hd ++ partsB (R.take k)).data.toList = L at *
      go_wp2_with fail
      clear x0 x1 x2 x3
      refine (HN.out _).mono ?_
      rintro e w3 ⟨rfl, hb3⟩
      have HBK3 := hide (HBK.out.below hb3 HBK.out.lt)
      have HV3 := hide (HVA.out.below hb3)
      clear hb3 HBK HVA HV HN
      generalize wr.heap.size = gp at *
      go_wp2_with fail
      refine wp_region_heads [0, 1, 2, 4, 6, 7, 10, 11] 8 (fun w' => Blk w' gp 34 #[.string xn, .int .i64 xv, .string xt, .string xs]) (by kernel_rfl) rfl (by kernel_rfl) (by kernel_rfl) (fun _ _ d _ _ h => by cases d <;> exact h) (hide HBK3.out : Blk w3.drew gp 34 #[.string xn, .int .i64 xv, .string xt, .string xs]) ?_
      iterate 8
        refine' Heads.step rfl (by rfl) ?_ ?_
        rotate_left
        · intro w' hSw
          have q0 : w'.cell? ⟨gp, 0, none⟩ = some (.string xn) := Blk.cell hSw 0; have q2 : w'.cell? ⟨gp, 2, none⟩ = some (.string xt) := Blk.cell hSw 2
          go_simp
          try with_reducible rfl
        simp only [Act.put, List.setIfInBounds_toArray, List.set_cons_zero, List.set_cons_succ]
      refine Heads.done ?_
      refine wpAnyH_ready (rs := [3]) (by kernel_rfl) (by simp) (AllReadyH.cons rfl (fun K hK => ?_) AllReadyH.nil)
      go_simp
      refine (HT1.out _).mono ?_
      rintro e w4 ⟨rfl, hb4⟩
      have HBK4 := hide (Blk.below (show Blk w3.drew gp 34 #[.string xn, .int .i64 xv, .string xt, .string xs] from HBK3.out) hb4 (Blk.lt (show Blk w3.drew gp 34 #[.string xn, .int .i64 xv, .string xt, .string xs] from HBK3.out)))
      have HV4 := hide (BufQ.below (w := w3.drew) HV3.out.drew hb4)
      clear hb4
      refine hK.out _ _ (HBK4.out) (fun hHeld1 => ?_)
      clear hK K
      refine wpAnyH_more [5] 6 rfl (by kernel_rfl) (by kernel_rfl) (fun _ _ d _ _ h => by cases d <;> exact h) hHeld1 ?_
      iterate 1
        refine' Heads.step rfl (by rfl) ?_ ?_
        rotate_left
        · intro w' hSw
          have q0 : w'.cell? ⟨gp, 0, none⟩ = some (.string xn) := Blk.cell hSw 0; have q2 : w'.cell? ⟨gp, 2, none⟩ = some (.string xt) := Blk.cell hSw 2
          go_simp
          try with_reducible rfl
        simp only [Act.put, List.setIfInBounds_toArray, List.set_cons_zero, List.set_cons_succ]
      refine Heads.done ?_
      refine wpAnyH_ready (rs := [8]) (by kernel_rfl) (by simp) (AllReadyH.cons rfl (fun K hK => ?_) AllReadyH.nil)
      go_simp
      refine (HT2.out _).mono ?_
      rintro e w5 ⟨rfl, hb5⟩
      have HBK5 := hide (Blk.below HBK4.out hb5 (Blk.lt HBK4.out))
      have HV5 := hide (BufQ.below HV4.out hb5)
      clear hb5
      refine hK.out _ _ (HBK5.out) (fun hHeld2 => ?_)
      clear hK K
      refine wpAnyH_more [9] 4 rfl (by kernel_rfl) (by kernel_rfl) (fun _ _ d _ _ h => by cases d <;> exact h) hHeld2 ?_
      iterate 1
        refine' Heads.step rfl (by rfl) ?_ ?_
        rotate_left
        · intro w' hSw
          have q0 : w'.cell? ⟨gp, 0, none⟩ = some (.string xn) := Blk.cell hSw 0; have q2 : w'.cell? ⟨gp, 2, none⟩ = some (.string xt) := Blk.cell hSw 2
          go_simp
          try with_reducible rfl
        simp only [Act.put, List.setIfInBounds_toArray, List.set_cons_zero, List.set_cons_succ]
      refine Heads.done ?_
      refine wpAnyH_ready (rs := [12]) (by kernel_rfl) (by simp) (AllReadyH.cons rfl (fun K hK => ?_) AllReadyH.nil)
      go_simp
      refine (HFX.out _ HV5.out.bel).mono ?_
      rintro e w6 ⟨rfl, hb6⟩
      have HBK6 := hide (Blk.below HBK5.out hb6 (Blk.lt HBK5.out))
      have HV6 := hide (BufQ.below HV5.out hb6)
      clear hb6
      refine hK.out _ _ (HBK6.out) (fun hHeld3 => ?_)
      clear hK K
      refine wpAnyH_more [13] 2 rfl (by kernel_rfl) (by kernel_rfl) (fun _ _ d _ _ h => by cases d <;> exact h) hHeld3 ?_
      iterate 1
        refine' Heads.step rfl (by rfl) ?_ ?_
        rotate_left
        · intro w' hSw
          have q0 : w'.cell? ⟨gp, 0, none⟩ = some (.string xn) := Blk.cell hSw 0; have q2 : w'.cell? ⟨gp, 2, none⟩ = some (.string xt) := Blk.cell hSw 2
          go_simp
          try with_reducible rfl
        simp only [Act.put, List.setIfInBounds_toArray, List.set_cons_zero, List.set_cons_succ]
      refine Heads.done ?_
      refine wpAnyH_ready (rs := [14]) (by kernel_rfl) (by simp) (AllReadyH.cons rfl (fun K hK => ?_) AllReadyH.nil)
      rw [if_pos (by rfl)]
      refine bufq_apps_op (.tmp 34) (.tmp 47) rfl HV6 _ rfl rfl HLL.out ?_
      intro v7 w7 HV7 HG7
      refine hK.out _ _ (Blk.grown HBK6.out HG7.out (Ne.symm (bufq_ne HV6.out HBK6.out))) (fun hHeld4 => ?_)
      clear hK K
      refine wpAnyH_more [15] 0 rfl (by kernel_rfl) (by kernel_rfl) (fun _ _ d _ _ h => by cases d <;> exact h) hHeld4 ?_
      iterate 1
        refine' Heads.step rfl (by rfl) ?_ ?_
        rotate_left
        · intro w' hSw
          have q0 : w'.cell? ⟨gp, 0, none⟩ = some (.string xn) := Blk.cell hSw 0; have q2 : w'.cell? ⟨gp, 2, none⟩ = some (.string xt) := Blk.cell hSw 2
          go_simp
          try with_reducible rfl
        simp only [Act.put]
      refine Heads.done ?_
      refine wpAnyH_done (by kernel_rfl) ?_ _
      rw [HNEW.out] at HV7
      go_wp2_with fail
      refine ⟨⟨k + 1, by omega, by go_num, HV7⟩, ?_⟩
      simp [intOf]
      omega
    · obtain rfl : k = R.length := by omega
      have hcv := HV.out.conv
      rw [List.take_length, ← HE.out] at hcv
      have hoo : (⟨out.data.toList.toArray⟩ : ByteArray) = out := rfl
      rw [hoo] at hcv
      go_wp2_with fail
      go_ret
      exact ⟨rfl, HV.out.bel⟩
set_option maxRecDepth 20000 in
set_option maxHeartbeats 4000000 in
theorem laybParsef_calls {w : World} {A : Option Addr} {R : Sums} (cap cb : Nat) (ha : ReadsRows 4 PartM.cells w A (R.map (·.1))) (hm : MidL (R.map (·.1))) (hS : (partsB R).size ≤ 1000000)
    (HF : ∀ (k : Nat) x, R[k]? = some x → ∀ w', Below w.heap.size w w' → Calls Try.prog 30 #[.int .i64 (k : Int), .pointer (some ⟨cb, 0, none⟩)] w' fun e w'' => e = .returned (.string x.2) ∧ Below w'.heap.size w' w'') :
    Calls Try.prog 20 #[.slice A R.length cap, .func (.func 30) #[] #[.pointer (some ⟨cb, 0, none⟩)]] w fun e w' => e = .returned (.string (bodyB R)) ∧ Below w.heap.size w w' := by
  have HA := hide ha
  have HM := hide hm
  have HFF := hide HF
  have hlen : R.length ≤ 70000 := by have := hm.1; simpa using this
  have HN0 := hide (oPut_calls (R.length : Nat) (by omega) (by omega) 2)
  have HS := hide (fun k => Nat.le_trans (partsB_le R k) hS)
  have HE : Hid (bodyB R = (⟨#[66, 78, 68, 76]⟩ ++ putB R.length 2) ++ partsB R) := hide rfl
  have hnb : (putB R.length 2).size ≤ 2 := by
    unfold putB
    split
    · show (leL _ _).toArray.size ≤ 2
      rw [List.size_toArray, leL_length]
      omega
    · exact Nat.zero_le _
  have HH : Hid ((⟨#[66, 78, 68, 76]⟩ ++ putB R.length 2 : ByteArray).size ≤ 100) := hide (by
    rw [ByteArray.size_append]
    show 4 + _ ≤ 100
    omega)
  have h4 : (⟨#[66, 78, 68, 76]⟩ : ByteArray).size = 4 := rfl
  unfold PutPost at HN0
  clear ha hm hS HF
  generalize bodyB R = out at *
  generalize putB R.length 2 = nb at *
  generalize putE R.length 2 = ne at *
  go_enter Try.func20, Try.ntmps20
  go_wp2_with fail
  refine (HN0.out _).mono ?_
  rintro e w0 ⟨rfl, hb0⟩
  have HB0 := hide hb0
  clear hb0
  go_wp2_with ((with_reducible show wpList _ _ _ (⟨some 20, _, _, _, _, _⟩ :: _) _ _); refine bufq_conv rfl (.tmp 19) rfl HB0.out (⟨#[66, 78, 68, 76]⟩ ++ nb) rfl (by have h1 := HH.out; omega) ?_; intro v1 w1 HV1 HB1)
  clear h4 hnb
  generalize (⟨#[66, 78, 68, 76]⟩ ++ nb : ByteArray) = hd at *
  go_loopw [7, 23] (fun v i wr => ∃ k : Nat, k ≤ R.length ∧ i = .int .i64 (k : Int) ∧ Hid (BufQ w wr v (hd ++ partsB (R.take k)).data.toList)) (fun _ i _ => R.length - (intOf i).toNat)
  case atStart => exact ⟨0, by omega, rfl, hide (by have h : hd ++ partsB (R.take 0) = hd := bemp hd; rw [h]; exact HV1.out)⟩
  case round =>
    obtain ⟨k, hk, rfl, HV⟩ := hrel
    by_cases hlt : k < R.length
    · obtain ⟨x, hx⟩ : ∃ x, R[k]? = some x := ⟨_, List.getElem?_eq_getElem hlt⟩
      have hx1 : (R.map (·.1))[k]? = some x.1 := by rw [List.getElem?_map, hx]; rfl
      have hkI : (k : Int) < (R.length : Int) := by omega
      have hk0 : (0 : Int) ≤ (k : Int) := by omega
      have hmid := HM.out.2 x.1 (List.mem_of_getElem? hx1)
      have HT1 := hide (fun w1 => oText_calls x.1.name (by have := hmid.name; omega) w1)
      have HN := hide (oPut_calls x.1.version hmid.version.1 hmid.version.2 4)
      have HT2 := hide (fun w1 => oText_calls x.1.text (by have := hmid.text; omega) w1)
      have HFX := hide (HFF.out k x hx)
      obtain ⟨ba, oa, hA, hal, hc⟩ := HA.out.kept HV.out.bel hx1
      subst hA
      have x0 : wr.cell? ⟨ba, oa + k * 4, none⟩ = some (.string x.1.name) := hc 0 _ rfl
      have x1 : wr.cell? ⟨ba, oa + k * 4 + 1, none⟩ = some (.int .i64 x.1.version) := hc 1 _ rfl
      have x2 : wr.cell? ⟨ba, oa + k * 4 + 2, none⟩ = some (.string x.1.text) := hc 2 _ rfl
      have x3 : wr.cell? ⟨ba, oa + k * 4 + 3, none⟩ = some (.string x.1.state) := hc 3 _ rfl
      have HNX := hide (partsB_take R k x hx)
      have HPB : Hid (partB x = textB x.1.name ++ putB x.1.version 4 ++ textB x.1.text ++ x.2) := hide rfl
      have HSK := hide (HS.out (k + 1))
      obtain ⟨⟨xn, xv, xt, xs⟩, xd⟩ := x
      dsimp only at HT1 HN HT2 HFX HPB x0 x1 x2 x3
      unfold PutPost at HN
      clear hc hx hx1 hmid
      have HBK := hide (Blk.new wr 34 #[.string xn, .int .i64 xv, .string xt, .string xs])
      have HVA := hide (HV.out.alloc (.cells #[.string xn, .int .i64 xv, .string xt, .string xs] 34))
      generalize textB xn = tn at *
      generalize putB xv 4 = tv at *
      generalize putE xv 4 = te at *
      generalize textB xt = tt at *
      have hsz : hd.size + (partsB (R.take k)).size + tn.size + tv.size + tt.size + xd.size ≤ 1000100 := by
        have h1 := congrArg ByteArray.size HNX.out
        have h3 := HH.out
        rw [HPB.out] at h1
        simp only [ByteArray.size_append] at h1
        have h4 := HSK.out
        omega
      have e2 : ¬ 9223372036854775807 < tn.size + tv.size := by omega
      have e3 : ¬ 9223372036854775807 < tn.size + tv.size + tt.size := by omega
      have e4 : ¬ 9223372036854775807 < tn.size + tv.size + tt.size + xd.size := by omega
      have HLL : Hid ((hd ++ partsB (R.take k)).data.toList.length + (tn ++ tv ++ tt ++ xd).size ≤ 1000000000000) := hide (by
        have h1 : (hd ++ partsB (R.take k)).data.toList.length = hd.size + (partsB (R.take k)).size := by
          rw [show (hd ++ partsB (R.take k)).data.toList.length = (hd ++ partsB (R.take k)).size from rfl, ByteArray.size_append]
        rw [h1]
        simp only [ByteArray.size_append]
        omega)
      have HNEW : Hid ((hd ++ partsB (R.take k)).data.toList ++ (tn ++ tv ++ tt ++ xd).data.toList = (hd ++ partsB (R.take (k + 1))).data.toList) := hide (by
        rw [HNX.out, HPB.out, ← ByteArray.append_assoc, ByteArray.data_append, Array.toList_append]
        simp only [ByteArray.data_append, Array.toList_append, List.append_assoc])
      clear hsz
      generalize (hd ++ partsB (R.take k)).data.toList = L at *
      go_wp2_with fail
      clear x0 x1 x2 x3
      refine (HN.out _).mono ?_
      rintro e w3 ⟨rfl, hb3⟩
      have HBK3 := hide (HBK.out.below hb3 HBK.out.lt)
      have HV3 := hide (HVA.out.below hb3)
      clear hb3 HBK HVA HV HN
      generalize wr.heap.size = gp at *
      go_wp2_with fail
      refine wp_region_heads [0, 1, 2, 4, 6, 7, 10, 11] 8 (fun w' => Blk w' gp 34 #[.string xn, .int .i64 xv, .string xt, .string xs]) (by kernel_rfl) rfl (by kernel_rfl) (by kernel_rfl) (fun _ _ d _ _ h => by cases d <;> exact h) (hide HBK3.out : Blk w3.drew gp 34 #[.string xn, .int .i64 xv, .string xt, .string xs]) ?_
      iterate 8
        refine' Heads.step rfl (by rfl) ?_ ?_
        rotate_left
        · intro w' hSw
          have q0 : w'.cell? ⟨gp, 0, none⟩ = some (.string xn) := Blk.cell hSw 0; have q2 : w'.cell? ⟨gp, 2, none⟩ = some (.string xt) := Blk.cell hSw 2
          go_simp
          try with_reducible rfl
        simp only [Act.put, List.setIfInBounds_toArray, List.set_cons_zero, List.set_cons_succ]
      refine Heads.done ?_
      refine wpAnyH_ready (rs := [3]) (by kernel_rfl) (by simp) (AllReadyH.cons rfl (fun K hK => ?_) AllReadyH.nil)
      go_simp
      refine (HT1.out _).mono ?_
      rintro e w4 ⟨rfl, hb4⟩
      have HBK4 := hide (Blk.below (show Blk w3.drew gp 34 #[.string xn, .int .i64 xv, .string xt, .string xs] from HBK3.out) hb4 (Blk.lt (show Blk w3.drew gp 34 #[.string xn, .int .i64 xv, .string xt, .string xs] from HBK3.out)))
      have HV4 := hide (BufQ.below (w := w3.drew) HV3.out.drew hb4)
      clear hb4
      refine hK.out _ _ (HBK4.out) (fun hHeld1 => ?_)
      clear hK K
      refine wpAnyH_more [5] 6 rfl (by kernel_rfl) (by kernel_rfl) (fun _ _ d _ _ h => by cases d <;> exact h) hHeld1 ?_
      iterate 1
        refine' Heads.step rfl (by rfl) ?_ ?_
        rotate_left
        · intro w' hSw
          have q0 : w'.cell? ⟨gp, 0, none⟩ = some (.string xn) := Blk.cell hSw 0; have q2 : w'.cell? ⟨gp, 2, none⟩ = some (.string xt) := Blk.cell hSw 2
          go_simp
          try with_reducible rfl
        simp only [Act.put, List.setIfInBounds_toArray, List.set_cons_zero, List.set_cons_succ]
      refine Heads.done ?_
      refine wpAnyH_ready (rs := [8]) (by kernel_rfl) (by simp) (AllReadyH.cons rfl (fun K hK => ?_) AllReadyH.nil)
      go_simp
      refine (HT2.out _).mono ?_
      rintro e w5 ⟨rfl, hb5⟩
      have HBK5 := hide (Blk.below HBK4.out hb5 (Blk.lt HBK4.out))
      have HV5 := hide (BufQ.below HV4.out hb5)
      clear hb5
      refine hK.out _ _ (HBK5.out) (fun hHeld2 => ?_)
      clear hK K
      refine wpAnyH_more [9] 4 rfl (by kernel_rfl) (by kernel_rfl) (fun _ _ d _ _ h => by cases d <;> exact h) hHeld2 ?_
      iterate 1
        refine' Heads.step rfl (by rfl) ?_ ?_
        rotate_left
        · intro w' hSw
          have q0 : w'.cell? ⟨gp, 0, none⟩ = some (.string xn) := Blk.cell hSw 0; have q2 : w'.cell? ⟨gp, 2, none⟩ = some (.string xt) := Blk.cell hSw 2
          go_simp
          try with_reducible rfl
        simp only [Act.put, List.setIfInBounds_toArray, List.set_cons_zero, List.set_cons_succ]
      refine Heads.done ?_
      refine wpAnyH_ready (rs := [12]) (by kernel_rfl) (by simp) (AllReadyH.cons rfl (fun K hK => ?_) AllReadyH.nil)
      go_simp
      refine (HFX.out _ HV5.out.bel).mono ?_
      rintro e w6 ⟨rfl, hb6⟩
      have HBK6 := hide (Blk.below HBK5.out hb6 (Blk.lt HBK5.out))
      have HV6 := hide (BufQ.below HV5.out hb6)
      clear hb6
      refine hK.out _ _ (HBK6.out) (fun hHeld3 => ?_)
      clear hK K
      refine wpAnyH_more [13] 2 rfl (by kernel_rfl) (by kernel_rfl) (fun _ _ d _ _ h => by cases d <;> exact h) hHeld3 ?_
      iterate 1
        refine' Heads.step rfl (by rfl) ?_ ?_
        rotate_left
        · intro w' hSw
          have q0 : w'.cell? ⟨gp, 0, none⟩ = some (.string xn) := Blk.cell hSw 0; have q2 : w'.cell? ⟨gp, 2, none⟩ = some (.string xt) := Blk.cell hSw 2
          go_simp
          try with_reducible rfl
        simp only [Act.put, List.setIfInBounds_toArray, List.set_cons_zero, List.set_cons_succ]
      refine Heads.done ?_
      refine wpAnyH_ready (rs := [14]) (by kernel_rfl) (by simp) (AllReadyH.cons rfl (fun K hK => ?_) AllReadyH.nil)
      rw [if_pos (by rfl)]
      refine bufq_apps_op (.tmp 34) (.tmp 47) rfl HV6 _ rfl rfl HLL.out ?_
      intro v7 w7 HV7 HG7
      refine hK.out _ _ (Blk.grown HBK6.out HG7.out (Ne.symm (bufq_ne HV6.out HBK6.out))) (fun hHeld4 => ?_)
      clear hK K
      refine wpAnyH_more [15] 0 rfl (by kernel_rfl) (by kernel_rfl) (fun _ _ d _ _ h => by cases d <;> exact h) hHeld4 ?_
      iterate 1
        refine' Heads.step rfl (by rfl) ?_ ?_
        rotate_left
        · intro w' hSw
          have q0 : w'.cell? ⟨gp, 0, none⟩ = some (.string xn) := Blk.cell hSw 0; have q2 : w'.cell? ⟨gp, 2, none⟩ = some (.string xt) := Blk.cell hSw 2
          go_simp
          try with_reducible rfl
        simp only [Act.put]
      refine Heads.done ?_
      refine wpAnyH_done (by kernel_rfl) ?_ _
      rw [HNEW.out] at HV7
      go_wp2_with fail
      refine ⟨⟨k + 1, by omega, by go_num, HV7⟩, ?_⟩
      simp [intOf]
      omega
    · obtain rfl : k = R.length := by omega
      have hcv := HV.out.conv
      rw [List.take_length, ← HE.out] at hcv
      have hoo : (⟨out.data.toList.toArray⟩ : ByteArray) = out := rfl
      rw [hoo] at hcv
      go_wp2_with fail
      go_ret
      exact ⟨rfl, HV.out.bel⟩
end Go.Proofs.Ytkipmbnmmbeeaaa
