/- Chapter 14: a proto laid down by the writer, walked. -/
import Derived.Test.YthgjmbcojbmlhaaImgD
namespace Go.Proofs.Ythgjmbcojbmlhaa
open Go.RowKit Zb

set_option maxRecDepth 20000 in
theorem putB_le8 (n width : Int) : (putB n width).size ≤ 8 := by
  unfold putB
  split
  · rename_i hp
    obtain ⟨k, rfl, _, hk, _⟩ := putB_ok hp
    show (leL n k).toArray.size ≤ 8
    rw [List.size_toArray, leL_length]
    exact hk
  · exact Nat.zero_le _
set_option maxRecDepth 20000 in
theorem textB_le8 (s : ByteArray) (h : s.size ≤ 1100) : (textB s).size ≤ 1104 := by rw [textB_size s (by omega)]; omega
set_option maxRecDepth 20000 in
theorem insB_le (x : InsM) : (insB x).size ≤ 4 := by
  unfold insB buildB
  split
  · show (List.map _ _).toArray.size ≤ 4
    rw [List.size_toArray, List.length_map]
    exact Nat.le_refl _
  · exact Nat.zero_le _
set_option maxRecDepth 20000 in
theorem con_kind {v : ConM} (h : conOk v = true) : 0 ≤ v.kind ∧ v.kind ≤ 2 := by
  unfold conOk at h
  split at h
  · omega
  · split at h
    · omega
    · split at h
      · omega
      · exact absurd h (by simp)
set_option maxRecDepth 20000 in
theorem con_text {v : ConM} (h : conOk v = true) : v.s.size ≤ 1024 := by
  unfold conOk at h
  split at h
  · simp at h
    rw [h.2]
    exact Nat.zero_le _
  · split at h
    · simp at h
      rw [h]
      exact Nat.zero_le _
    · split at h
      · simp at h
        exact h.2
      · exact absurd h (by simp)
set_option maxRecDepth 20000 in
set_option maxHeartbeats 8000000 in
theorem uwproto_parts {w0 w : World} {gw : Nat} {b : ByteArray} (h : WrS w0 w gw b) (p : ProtoM) (cA : Option Addr) (cc : Nat) (kA : Option Addr) (kc : Nat) (pA : Option Addr) (pc : Nat) (hr : ProtoV.Reads w0 ⟨p, cA, cc, kA, kc, pA, pc⟩) (hl : ProtoL p) (hc : ProtoR p) (hs : b.size ≤ 90000000000) : Calls Try.prog 20 #[ptrW gw, .agg #[.string p.name, .int .i64 p.params, .int .i64 p.regs, .slice cA p.code.length cc, .slice kA p.consts.length kc, .slice pA p.caps.length pc]] w fun e w' => e = .returned (.tuple #[]) ∧ WrS w0 w' gw (b ++ protoB p) ∧ KT w w' := by
  have HRD := hide (show ReadsRows 4 InsM.cells w0 cA p.code from hr.code)
  have HRK := hide (show ReadsRows 3 ConM.cells w0 kA p.consts from hr.consts)
  have HRC := hide (show ReadsRows 2 CapM.cells w0 pA p.caps from hr.caps)
  have HL := hide hl
  have HC := hide hc
  have hcl : p.caps.length ≤ 255 := hl.caps.1
  have hkl : p.consts.length ≤ 200 := hl.consts.1
  have hdl : p.code.length ≤ 8000 := hl.code.1
  have hn16 : p.name.size ≤ 16 := hl.name
  have hpa : 0 ≤ p.params ∧ p.params ≤ 8 := hl.params
  have hre : 1 ≤ p.regs ∧ p.regs ≤ 100 := hl.regs
  have HW0 := hide (h.alloc (.cells #[.string p.name, .int .i64 p.params, .int .i64 p.regs, .slice cA p.code.length cc, .slice kA p.consts.length kc, .slice pA p.caps.length pc] 38))
  have HK0 : Hid (KT w (w.alloc (.cells #[.string p.name, .int .i64 p.params, .int .i64 p.regs, .slice cA p.code.length cc, .slice kA p.consts.length kc, .slice pA p.caps.length pc] 38))) := hide (KT.of_below ((Below.refl _ _).alloc (Nat.le_refl _) _))
  have HP0 := hide (Blk.new w 38 #[.string p.name, .int .i64 p.params, .int .i64 p.regs, .slice cA p.code.length cc, .slice kA p.consts.length kc, .slice pA p.caps.length pc])
  obtain ⟨b0, hb0⟩ : ∃ x, b = x := ⟨_, rfl⟩
  rw [hb0] at HW0 hs ⊢
  have HZ0 : Hid (b0.size ≤ 90000000000) := hide hs
  clear h hr hl hc hs hb0
  go_enter Try.func20, Try.ntmps20
  go_wp2_with fail
  obtain ⟨w00, hw00⟩ : ∃ x, Hid (w.alloc (.cells #[.string p.name, .int .i64 p.params, .int .i64 p.regs, .slice cA p.code.length cc, .slice kA p.consts.length kc, .slice pA p.caps.length pc] 38) = x) := ⟨_, hide rfl⟩
  obtain ⟨gp, hgp⟩ : ∃ x, Hid (w.heap.size = x) := ⟨_, hide rfl⟩
  rw [hw00.out] at HW0 HK0 HP0 ⊢
  rw [hgp.out] at HP0 ⊢
  refine (uwtext_calls HW0.out p.name (by omega) (by have h1 := HZ0.out; omega)).mono ?_
  rintro e w1 ⟨rfl, hw1, hk1⟩
  obtain ⟨b1, hb1⟩ : ∃ zz, b0 ++ textB p.name = zz := ⟨_, rfl⟩
  rw [hb1] at hw1
  have HW1 := hide hw1
  have HK1 := hide (HK0.out.trans hk1)
  have HP1 := hide (hk1 _ _ _ HP0.out (by decide) (by decide))
  have HE1 : Hid (b1 = b0 ++ textB p.name) := hide hb1.symm
  have HZ1 : Hid (b1.size ≤ 90000001104) := hide (by have h1 := HZ0.out; have h2 := textB_le8 p.name (by omega); rw [← hb1, ByteArray.size_append]; omega)
  clear hw1 hk1 hb1 HW0 HK0 HZ0 HP0
  have z1 : w1.cell? ⟨gp, 1, none⟩ = some (.int .i64 p.params) := HP1.out.cell 1
  go_wp2_with fail
  clear z1
  refine (uwnum_calls HW1.out (p.params) (by omega) (by omega) 1 (by have h1 := HZ1.out; omega)).mono ?_
  rintro e w2 ⟨rfl, hw2, hk2⟩
  obtain ⟨b2, hb2⟩ : ∃ zz, b1 ++ putB (p.params) 1 = zz := ⟨_, rfl⟩
  rw [hb2] at hw2
  have HW2 := hide hw2
  have HK2 := hide (HK1.out.trans hk2)
  have HP2 := hide (hk2 _ _ _ HP1.out (by decide) (by decide))
  have HE2 : Hid (b2 = b1 ++ putB (p.params) 1) := hide hb2.symm
  have HZ2 : Hid (b2.size ≤ 90000001112) := hide (by have h1 := HZ1.out; have h2 := putB_le8 (p.params) 1; rw [← hb2, ByteArray.size_append]; omega)
  clear hw2 hk2 hb2 HW1 HK1 HZ1 HP1
  have z2 : w2.cell? ⟨gp, 2, none⟩ = some (.int .i64 p.regs) := HP2.out.cell 2
  go_wp2_with fail
  clear z2
  refine (uwnum_calls HW2.out (p.regs) (by omega) (by omega) 1 (by have h1 := HZ2.out; omega)).mono ?_
  rintro e w3 ⟨rfl, hw3, hk3⟩
  obtain ⟨b3, hb3⟩ : ∃ zz, b2 ++ putB (p.regs) 1 = zz := ⟨_, rfl⟩
  rw [hb3] at hw3
  have HW3 := hide hw3
  have HK3 := hide (HK2.out.trans hk3)
  have HP3 := hide (hk3 _ _ _ HP2.out (by decide) (by decide))
  have HE3 : Hid (b3 = b2 ++ putB (p.regs) 1) := hide hb3.symm
  have HZ3 : Hid (b3.size ≤ 90000001120) := hide (by have h1 := HZ2.out; have h2 := putB_le8 (p.regs) 1; rw [← hb3, ByteArray.size_append]; omega)
  clear hw3 hk3 hb3 HW2 HK2 HZ2 HP2
  have z5 : w3.cell? ⟨gp, 5, none⟩ = some (.slice pA p.caps.length pc) := HP3.out.cell 5
  go_wp2_with fail
  clear z5
  refine (uwnum_calls HW3.out ((p.caps.length : Int)) (by omega) (by omega) 2 (by have h1 := HZ3.out; omega)).mono ?_
  rintro e w4 ⟨rfl, hw4, hk4⟩
  obtain ⟨b4, hb4⟩ : ∃ zz, b3 ++ putB ((p.caps.length : Int)) 2 = zz := ⟨_, rfl⟩
  rw [hb4] at hw4
  have HW4 := hide hw4
  have HK4 := hide (HK3.out.trans hk4)
  have HP4 := hide (hk4 _ _ _ HP3.out (by decide) (by decide))
  have HE4 : Hid (b4 = b3 ++ putB ((p.caps.length : Int)) 2) := hide hb4.symm
  have HZ4 : Hid (b4.size ≤ 90000001128) := hide (by have h1 := HZ3.out; have h2 := putB_le8 ((p.caps.length : Int)) 2; rw [← hb4, ByteArray.size_append]; omega)
  clear hw4 hk4 hb4 HW3 HK3 HZ3 HP3
  have z5 : w4.cell? ⟨gp, 5, none⟩ = some (.slice pA p.caps.length pc) := HP4.out.cell 5
  go_wp2_with fail
  clear z5
  go_loopw [32] (fun i wr => ∃ (k : Nat) (bx : ByteArray), k ≤ p.caps.length ∧ i = .int .i64 (k : Int) ∧ Hid (WrS w0 wr gw bx) ∧ Hid (KT w wr) ∧ Hid (Blk wr gp 38 #[.string p.name, .int .i64 p.params, .int .i64 p.regs, .slice cA p.code.length cc, .slice kA p.consts.length kc, .slice pA p.caps.length pc]) ∧ Hid (bx = b4 ++ catB capB (p.caps.take k)) ∧ Hid (bx.size ≤ 90000001128 + 16 * k)) (fun i _ => p.caps.length - (intOf i).toNat)
  case atStart => exact ⟨0, b4, by omega, rfl, HW4, HK4, HP4, hide (by show b4 = b4 ++ ⟨#[]⟩; rw [bemp]), HZ4⟩
  case round =>
    clear HW4 HK4 HP4 HZ4
    obtain ⟨k, bx, hk, rfl, HWx, HKx, HPx, HEx, HZx⟩ := hrel
    by_cases hlt : k < p.caps.length
    · obtain ⟨x, hx⟩ : ∃ x, p.caps[k]? = some x := ⟨_, List.getElem?_eq_getElem hlt⟩
      have hkI : (k : Int) < (p.caps.length : Int) := by omega
      have hk0 : (0 : Int) ≤ (k : Int) := by omega
      have hxl := in_lim (HL.out.caps.2 x (List.mem_of_getElem? hx))
      have HT := hide (catB_take capB p.caps k x hx)
      obtain ⟨ba, oa, hA, _, hcc⟩ := HRC.out.kept HWx.out.bel hx
      subst hA
      have x0 : wr.cell? ⟨ba, oa + k * 2, none⟩ = some (.bool x.up) := hcc 0 _ rfl
      have x1 : wr.cell? ⟨ba, oa + k * 2 + 1, none⟩ = some (.int .i64 x.index) := hcc 1 _ rfl
      clear hcc hx
      have HWr0 := hide (HWx.out.alloc (.cells #[.bool x.up, .int .i64 x.index] 75))
      have HKr0 : Hid (KT w (wr.alloc (.cells #[.bool x.up, .int .i64 x.index] 75))) := hide (HKx.out.trans (KT.of_below ((Below.refl _ _).alloc (Nat.le_refl _) _)))
      have HPr0 := hide (HPx.out.alloc (.cells #[.bool x.up, .int .i64 x.index] 75))
      have HVr0 := hide (Blk.new wr 75 #[.bool x.up, .int .i64 x.index])
      have HEr0 := HEx
      have HZr0 := HZx
      clear HWx HKx HPx HEx HZx
      obtain ⟨br0, hbr0⟩ : ∃ z, bx = z := ⟨_, rfl⟩
      rw [hbr0] at HWr0 HEr0 HZr0
      clear hbr0
      go_wp2_with fail
      clear x0 x1
      obtain ⟨wr0, hwr0⟩ : ∃ z, Hid (wr.alloc (.cells #[.bool x.up, .int .i64 x.index] 75) = z) := ⟨_, hide rfl⟩
      obtain ⟨gx, hgx⟩ : ∃ z, Hid (wr.heap.size = z) := ⟨_, hide rfl⟩
      rw [hwr0.out] at HWr0 HKr0 HPr0 HVr0 ⊢
      rw [hgx.out] at HVr0 ⊢
      clear hwr0 hgx
      refine (uwbit_calls HWr0.out x.up (by have h1 := HZr0.out; omega)).mono ?_
      rintro e w6 ⟨rfl, hw6, hk6⟩
      obtain ⟨b6, hb6⟩ : ∃ zz, br0 ++ putB (if x.up then 1 else 0) 1 = zz := ⟨_, rfl⟩
      rw [hb6] at hw6
      have HW6 := hide hw6
      have HK6 := hide (HKr0.out.trans hk6)
      have HP6 := hide (hk6 _ _ _ HPr0.out (by decide) (by decide))
      have HV6 := hide (hk6 _ _ _ HVr0.out (by decide) (by decide))
      have HE6 : Hid (b6 = br0 ++ putB (if x.up then 1 else 0) 1) := hide hb6.symm
      have HZ6 : Hid (b6.size ≤ 90000001136 + 16 * k) := hide (by have h1 := HZr0.out; have h2 := putB_le8 (if x.up then 1 else 0) 1; rw [← hb6, ByteArray.size_append]; omega)
      clear hw6 hk6 hb6 HWr0 HKr0 HZr0 HPr0 HVr0
      have z1 : w6.cell? ⟨gx, 1, none⟩ = some (.int .i64 x.index) := HV6.out.cell 1
      go_wp2_with fail
      clear z1
      refine (uwnum_calls HW6.out (x.index) (by omega) (by omega) 1 (by have h1 := HZ6.out; omega)).mono ?_
      rintro e w7 ⟨rfl, hw7, hk7⟩
      obtain ⟨b7, hb7⟩ : ∃ zz, b6 ++ putB (x.index) 1 = zz := ⟨_, rfl⟩
      rw [hb7] at hw7
      have HW7 := hide hw7
      have HK7 := hide (HK6.out.trans hk7)
      have HP7 := hide (hk7 _ _ _ HP6.out (by decide) (by decide))
      have HV7 := hide (hk7 _ _ _ HV6.out (by decide) (by decide))
      have HE7 : Hid (b7 = b6 ++ putB (x.index) 1) := hide hb7.symm
      have HZ7 : Hid (b7.size ≤ 90000001144 + 16 * k) := hide (by have h1 := HZ6.out; have h2 := putB_le8 (x.index) 1; rw [← hb7, ByteArray.size_append]; omega)
      clear hw7 hk7 hb7 HW6 HK6 HZ6 HP6 HV6
      have HF : Hid (b7 = b4 ++ catB capB (p.caps.take (k + 1))) := hide (by rw [HT.out]; rw [HE7.out, HE6.out, HEr0.out]; unfold capB; simp only [ByteArray.append_assoc])
      have HZF : Hid (b7.size ≤ 90000001128 + 16 * (k + 1)) := hide (by have h1 := HZ7.out; omega)
      go_wp2_with fail
      refine ⟨⟨k + 1, b7, by omega, by go_num, HW7, HK7, HP7, HF, HZF⟩, ?_⟩
      simp [intOf]
      omega
    · obtain rfl : k = p.caps.length := by omega
      obtain ⟨b8, hbm⟩ : ∃ z, bx = z := ⟨_, rfl⟩
      rw [hbm] at HWx HEx HZx
      have HE8 : Hid (b8 = b4 ++ catB capB p.caps) := hide (by rw [HEx.out, List.take_length])
      have HW8 := HWx
      have HK8 := HKx
      have HP8 := HPx
      have HZ8 := HZx
      clear HWx HKx HPx HZx HEx hbm
      have z4 : wr.cell? ⟨gp, 4, none⟩ = some (.slice kA p.consts.length kc) := HP8.out.cell 4
      go_wp2_with fail
      clear z4
      refine (uwnum_calls HW8.out ((p.consts.length : Int)) (by omega) (by omega) 2 (by have h1 := HZ8.out; omega)).mono ?_
      rintro e w9 ⟨rfl, hw9, hk9⟩
      obtain ⟨b9, hb9⟩ : ∃ zz, b8 ++ putB ((p.consts.length : Int)) 2 = zz := ⟨_, rfl⟩
      rw [hb9] at hw9
      have HW9 := hide hw9
      have HK9 := hide (HK8.out.trans hk9)
      have HP9 := hide (hk9 _ _ _ HP8.out (by decide) (by decide))
      have HE9 : Hid (b9 = b8 ++ putB ((p.consts.length : Int)) 2) := hide hb9.symm
      have HZ9 : Hid (b9.size ≤ 90000006000) := hide (by have h1 := HZ8.out; have h2 := putB_le8 ((p.consts.length : Int)) 2; rw [← hb9, ByteArray.size_append]; omega)
      clear hw9 hk9 hb9 HW8 HK8 HZ8 HP8
      have z4 : w9.cell? ⟨gp, 4, none⟩ = some (.slice kA p.consts.length kc) := HP9.out.cell 4
      go_wp2_with fail
      clear z4
      go_loopw [53] (fun i wr => ∃ (k : Nat) (bx : ByteArray), k ≤ p.consts.length ∧ i = .int .i64 (k : Int) ∧ Hid (WrS w0 wr gw bx) ∧ Hid (KT w wr) ∧ Hid (Blk wr gp 38 #[.string p.name, .int .i64 p.params, .int .i64 p.regs, .slice cA p.code.length cc, .slice kA p.consts.length kc, .slice pA p.caps.length pc]) ∧ Hid (bx = b9 ++ catB conB (p.consts.take k)) ∧ Hid (bx.size ≤ 90000006000 + 1200 * k)) (fun i _ => p.consts.length - (intOf i).toNat)
      case atStart => exact ⟨0, b9, by omega, rfl, HW9, HK9, HP9, hide (by show b9 = b9 ++ ⟨#[]⟩; rw [bemp]), HZ9⟩
      case round =>
        clear HW9 HK9 HP9 HZ9
        obtain ⟨k, bx, hk, rfl, HWx, HKx, HPx, HEx, HZx⟩ := hrel
        by_cases hlt : k < p.consts.length
        · obtain ⟨x, hx⟩ : ∃ x, p.consts[k]? = some x := ⟨_, List.getElem?_eq_getElem hlt⟩
          have hkI : (k : Int) < (p.consts.length : Int) := by omega
          have hk0 : (0 : Int) ≤ (k : Int) := by omega
          have hco := HL.out.consts.2 x (List.mem_of_getElem? hx)
          have hnr := HC.out x (List.mem_of_getElem? hx)
          have hkd := con_kind hco
          have hss := con_text hco
          have HT := hide (catB_take conB p.consts k x hx)
          obtain ⟨ba, oa, hA, _, hcc⟩ := HRK.out.kept HWx.out.bel hx
          subst hA
          have x0 : wr.cell? ⟨ba, oa + k * 3, none⟩ = some (.int .i64 x.kind) := hcc 0 _ rfl
          have x1 : wr.cell? ⟨ba, oa + k * 3 + 1, none⟩ = some (.int .i64 x.n) := hcc 1 _ rfl
          have x2 : wr.cell? ⟨ba, oa + k * 3 + 2, none⟩ = some (.string x.s) := hcc 2 _ rfl
          clear hcc hx
          have HWr0 := hide (HWx.out.alloc (.cells #[.int .i64 x.kind, .int .i64 x.n, .string x.s] 45))
          have HKr0 : Hid (KT w (wr.alloc (.cells #[.int .i64 x.kind, .int .i64 x.n, .string x.s] 45))) := hide (HKx.out.trans (KT.of_below ((Below.refl _ _).alloc (Nat.le_refl _) _)))
          have HPr0 := hide (HPx.out.alloc (.cells #[.int .i64 x.kind, .int .i64 x.n, .string x.s] 45))
          have HVr0 := hide (Blk.new wr 45 #[.int .i64 x.kind, .int .i64 x.n, .string x.s])
          have HEr0 := HEx
          have HZr0 := HZx
          clear HWx HKx HPx HEx HZx
          obtain ⟨br0, hbr0⟩ : ∃ z, bx = z := ⟨_, rfl⟩
          rw [hbr0] at HWr0 HEr0 HZr0
          clear hbr0
          go_wp2_with fail
          clear x0 x1 x2
          obtain ⟨wr0, hwr0⟩ : ∃ z, Hid (wr.alloc (.cells #[.int .i64 x.kind, .int .i64 x.n, .string x.s] 45) = z) := ⟨_, hide rfl⟩
          obtain ⟨gx, hgx⟩ : ∃ z, Hid (wr.heap.size = z) := ⟨_, hide rfl⟩
          rw [hwr0.out] at HWr0 HKr0 HPr0 HVr0 ⊢
          rw [hgx.out] at HVr0 ⊢
          clear hwr0 hgx
          refine (uwnum_calls HWr0.out (x.kind) (by have := hkd; omega) (by have := hkd; omega) 1 (by have h1 := HZr0.out; omega)).mono ?_
          rintro e w10 ⟨rfl, hw10, hk10⟩
          obtain ⟨b10, hb10⟩ : ∃ zz, br0 ++ putB (x.kind) 1 = zz := ⟨_, rfl⟩
          rw [hb10] at hw10
          have HW10 := hide hw10
          have HK10 := hide (HKr0.out.trans hk10)
          have HP10 := hide (hk10 _ _ _ HPr0.out (by decide) (by decide))
          have HV10 := hide (hk10 _ _ _ HVr0.out (by decide) (by decide))
          have HE10 : Hid (b10 = br0 ++ putB (x.kind) 1) := hide hb10.symm
          have HZ10 : Hid (b10.size ≤ 90000006008 + 1200 * k) := hide (by have h1 := HZr0.out; have h2 := putB_le8 (x.kind) 1; rw [← hb10, ByteArray.size_append]; omega)
          clear hw10 hk10 hb10 HWr0 HKr0 HZr0 HPr0 HVr0
          have z0 : w10.cell? ⟨gx, 0, none⟩ = some (.int .i64 x.kind) := HV10.out.cell 0
          have z1 : w10.cell? ⟨gx, 1, none⟩ = some (.int .i64 x.n) := HV10.out.cell 1
          have z2 : w10.cell? ⟨gx, 2, none⟩ = some (.string x.s) := HV10.out.cell 2
          by_cases hk1 : x.kind = 1
          · have HCT : Hid (conTail x = putB x.n 8) := hide (by unfold conTail; rw [if_pos hk1])
            obtain ⟨xk, hxk⟩ : ∃ z, x.kind = z := ⟨_, rfl⟩
            rw [hxk] at z0 HE10 hk1 ⊢
            subst hk1
            go_wp2_with fail
            clear z0 z1 z2
            refine (uwnum_calls HW10.out (x.n) (by have := hnr.1; omega) (by have := hnr.2; omega) 8 (by have h1 := HZ10.out; omega)).mono ?_
            rintro e w11 ⟨rfl, hw11, hk11⟩
            obtain ⟨b11, hb11⟩ : ∃ zz, b10 ++ putB (x.n) 8 = zz := ⟨_, rfl⟩
            rw [hb11] at hw11
            have HW11 := hide hw11
            have HK11 := hide (HK10.out.trans hk11)
            have HP11 := hide (hk11 _ _ _ HP10.out (by decide) (by decide))
            have HV11 := hide (hk11 _ _ _ HV10.out (by decide) (by decide))
            have HE11 : Hid (b11 = b10 ++ putB (x.n) 8) := hide hb11.symm
            have HZ11 : Hid (b11.size ≤ 90000006016 + 1200 * k) := hide (by have h1 := HZ10.out; have h2 := putB_le8 (x.n) 8; rw [← hb11, ByteArray.size_append]; omega)
            clear hw11 hk11 hb11 HW10 HK10 HZ10 HP10 HV10
            have HF : Hid (b11 = b9 ++ catB conB (p.consts.take (k + 1))) := hide (by rw [HT.out]; rw [HE11.out, HE10.out, HEr0.out]; unfold conB; rw [HCT.out, hxk]; simp only [ByteArray.append_assoc])
            have HZF : Hid (b11.size ≤ 90000006000 + 1200 * (k + 1)) := hide (by have h1 := HZ11.out; omega)
            go_wp2_with fail
            refine ⟨⟨k + 1, b11, by omega, by go_num, HW11, HK11, HP11, HF, HZF⟩, ?_⟩
            simp [intOf]
            omega
          by_cases hk2 : x.kind = 2
          · have HCT : Hid (conTail x = textB x.s) := hide (by unfold conTail; rw [if_neg hk1, if_pos hk2])
            obtain ⟨xk, hxk⟩ : ∃ z, x.kind = z := ⟨_, rfl⟩
            rw [hxk] at z0 HE10 hk2 ⊢
            subst hk2
            go_wp2_with fail
            clear z0 z1 z2
            refine (uwtext_calls HW10.out x.s (by omega) (by have h1 := HZ10.out; omega)).mono ?_
            rintro e w11 ⟨rfl, hw11, hk11⟩
            obtain ⟨b11, hb11⟩ : ∃ zz, b10 ++ textB x.s = zz := ⟨_, rfl⟩
            rw [hb11] at hw11
            have HW11 := hide hw11
            have HK11 := hide (HK10.out.trans hk11)
            have HP11 := hide (hk11 _ _ _ HP10.out (by decide) (by decide))
            have HV11 := hide (hk11 _ _ _ HV10.out (by decide) (by decide))
            have HE11 : Hid (b11 = b10 ++ textB x.s) := hide hb11.symm
            have HZ11 : Hid (b11.size ≤ 90000007112 + 1200 * k) := hide (by have h1 := HZ10.out; have h2 := textB_le8 x.s (by omega); rw [← hb11, ByteArray.size_append]; omega)
            clear hw11 hk11 hb11 HW10 HK10 HZ10 HP10 HV10
            have HF : Hid (b11 = b9 ++ catB conB (p.consts.take (k + 1))) := hide (by rw [HT.out]; rw [HE11.out, HE10.out, HEr0.out]; unfold conB; rw [HCT.out, hxk]; simp only [ByteArray.append_assoc])
            have HZF : Hid (b11.size ≤ 90000006000 + 1200 * (k + 1)) := hide (by have h1 := HZ11.out; omega)
            go_wp2_with fail
            refine ⟨⟨k + 1, b11, by omega, by go_num, HW11, HK11, HP11, HF, HZF⟩, ?_⟩
            simp [intOf]
            omega
          have HCT : Hid (conTail x = ⟨#[]⟩) := hide (by unfold conTail; rw [if_neg hk1, if_neg hk2])
          have hk1b : decide (x.kind = 1) = false := decide_eq_false hk1
          have hk2b : decide (x.kind = 2) = false := decide_eq_false hk2
          have HF : Hid (b10 = b9 ++ catB conB (p.consts.take (k + 1))) := hide (by rw [HT.out]; rw [HE10.out, HEr0.out]; unfold conB; rw [HCT.out, bemp]; simp only [ByteArray.append_assoc])
          have HZF : Hid (b10.size ≤ 90000006000 + 1200 * (k + 1)) := hide (by have h1 := HZ10.out; omega)
          go_wp2_with fail
          refine ⟨⟨k + 1, b10, by omega, by go_num, HW10, HK10, HP10, HF, HZF⟩, ?_⟩
          simp [intOf]
          omega
        · obtain rfl : k = p.consts.length := by omega
          obtain ⟨b12, hbm⟩ : ∃ z, bx = z := ⟨_, rfl⟩
          rw [hbm] at HWx HEx HZx
          have HE12 : Hid (b12 = b9 ++ catB conB p.consts) := hide (by rw [HEx.out, List.take_length])
          have HW12 := HWx
          have HK12 := HKx
          have HP12 := HPx
          have HZ12 := HZx
          clear HWx HKx HPx HZx HEx hbm
          have z3 : wr.cell? ⟨gp, 3, none⟩ = some (.slice cA p.code.length cc) := HP12.out.cell 3
          go_wp2_with fail
          clear z3
          refine (uwnum_calls HW12.out ((p.code.length : Int)) (by omega) (by omega) 2 (by have h1 := HZ12.out; omega)).mono ?_
          rintro e w13 ⟨rfl, hw13, hk13⟩
          obtain ⟨b13, hb13⟩ : ∃ zz, b12 ++ putB ((p.code.length : Int)) 2 = zz := ⟨_, rfl⟩
          rw [hb13] at hw13
          have HW13 := hide hw13
          have HK13 := hide (HK12.out.trans hk13)
          have HP13 := hide (hk13 _ _ _ HP12.out (by decide) (by decide))
          have HE13 : Hid (b13 = b12 ++ putB ((p.code.length : Int)) 2) := hide hb13.symm
          have HZ13 : Hid (b13.size ≤ 90000300000) := hide (by have h1 := HZ12.out; have h2 := putB_le8 ((p.code.length : Int)) 2; rw [← hb13, ByteArray.size_append]; omega)
          clear hw13 hk13 hb13 HW12 HK12 HZ12 HP12
          have z3 : w13.cell? ⟨gp, 3, none⟩ = some (.slice cA p.code.length cc) := HP13.out.cell 3
          go_wp2_with fail
          clear z3
          go_loopw [84] (fun i wr => ∃ (k : Nat) (bx : ByteArray), k ≤ p.code.length ∧ i = .int .i64 (k : Int) ∧ Hid (WrS w0 wr gw bx) ∧ Hid (KT w wr) ∧ Hid (Blk wr gp 38 #[.string p.name, .int .i64 p.params, .int .i64 p.regs, .slice cA p.code.length cc, .slice kA p.consts.length kc, .slice pA p.caps.length pc]) ∧ Hid (bx = b13 ++ catB insB (p.code.take k)) ∧ Hid (bx.size ≤ 90000300000 + 4 * k)) (fun i _ => p.code.length - (intOf i).toNat)
          case atStart => exact ⟨0, b13, by omega, rfl, HW13, HK13, HP13, hide (by show b13 = b13 ++ ⟨#[]⟩; rw [bemp]), HZ13⟩
          case round =>
            clear HW13 HK13 HP13 HZ13
            obtain ⟨k, bx, hk, rfl, HWx, HKx, HPx, HEx, HZx⟩ := hrel
            by_cases hlt : k < p.code.length
            · obtain ⟨x, hx⟩ : ∃ x, p.code[k]? = some x := ⟨_, List.getElem?_eq_getElem hlt⟩
              have hkI : (k : Int) < (p.code.length : Int) := by omega
              have hk0 : (0 : Int) ≤ (k : Int) := by omega
              have HT := hide (catB_take insB p.code k x hx)
              obtain ⟨ba, oa, hA, _, hcc⟩ := HRD.out.kept HWx.out.bel hx
              subst hA
              have x0 : wr.cell? ⟨ba, oa + k * 4, none⟩ = some (.int .i64 x.op) := hcc 0 _ rfl
              have x1 : wr.cell? ⟨ba, oa + k * 4 + 1, none⟩ = some (.int .i64 x.a) := hcc 1 _ rfl
              have x2 : wr.cell? ⟨ba, oa + k * 4 + 2, none⟩ = some (.int .i64 x.b) := hcc 2 _ rfl
              have x3 : wr.cell? ⟨ba, oa + k * 4 + 3, none⟩ = some (.int .i64 x.c) := hcc 3 _ rfl
              clear hcc hx
              have HWr0 := hide (HWx.out.alloc (.cells #[.int .i64 x.op, .int .i64 x.a, .int .i64 x.b, .int .i64 x.c] 78))
              have HKr0 : Hid (KT w (wr.alloc (.cells #[.int .i64 x.op, .int .i64 x.a, .int .i64 x.b, .int .i64 x.c] 78))) := hide (HKx.out.trans (KT.of_below ((Below.refl _ _).alloc (Nat.le_refl _) _)))
              have HPr0 := hide (HPx.out.alloc (.cells #[.int .i64 x.op, .int .i64 x.a, .int .i64 x.b, .int .i64 x.c] 78))
              have HVr0 := hide (Blk.new wr 78 #[.int .i64 x.op, .int .i64 x.a, .int .i64 x.b, .int .i64 x.c])
              have HEr0 := HEx
              have HZr0 := HZx
              clear HWx HKx HPx HEx HZx
              obtain ⟨br0, hbr0⟩ : ∃ z, bx = z := ⟨_, rfl⟩
              rw [hbr0] at HWr0 HEr0 HZr0
              clear hbr0
              go_wp2_with fail
              clear x0 x1 x2 x3
              obtain ⟨wr0, hwr0⟩ : ∃ z, Hid (wr.alloc (.cells #[.int .i64 x.op, .int .i64 x.a, .int .i64 x.b, .int .i64 x.c] 78) = z) := ⟨_, hide rfl⟩
              obtain ⟨gx, hgx⟩ : ∃ z, Hid (wr.heap.size = z) := ⟨_, hide rfl⟩
              rw [hwr0.out] at HWr0 HKr0 HPr0 HVr0 ⊢
              rw [hgx.out] at HVr0 ⊢
              clear hwr0 hgx
              have HBI := hide (iBuild_calls x.op x.a x.b x.c wr0)
              obtain ⟨pe, hpe⟩ : ∃ e, buildE x.op x.a x.b x.c = e := ⟨_, rfl⟩
              obtain ⟨pb, hpb⟩ : ∃ e, buildB x.op x.a x.b x.c = e := ⟨_, rfl⟩
              rw [hpe, hpb] at HBI
              have hpz : pb.size ≤ 4 := by rw [← hpb]; exact insB_le x
              have HPB : Hid (insB x = pb) := hide hpb
              refine HBI.out.mono ?_
              rintro e w14 ⟨rfl, hb14⟩
              have HW14 := hide (HWr0.out.below hb14)
              have HK14 : Hid (KT w w14) := hide (HKr0.out.trans (KT.of_below hb14))
              have HP14 := hide (HPr0.out.below hb14 HPr0.out.lt)
              clear hb14 HWr0 HKr0 HPr0 HVr0 hpe hpb HBI
              have HLE := hide HW14.out.le
              obtain ⟨v0, hbw, hvw⟩ := HW14.out.v
              have HBw := hide hbw
              have HVw := hide hvw
              clear hbw hvw HW14
              have HLL : Hid (br0.data.toList.length + pb.size ≤ 1000000000000) := hide (by rw [bytes_len]; have h1 := HZr0.out; omega)
              obtain ⟨b15, hb15⟩ : ∃ zz, br0 ++ pb = zz := ⟨_, rfl⟩
              have HNEW : Hid (br0.data.toList ++ pb.data.toList = b15.data.toList) := hide (by rw [← hb15, ByteArray.data_append, Array.toList_append])
              have HE15 : Hid (b15 = br0 ++ pb) := hide hb15.symm
              have HZ15 : Hid (b15.size ≤ 90000300004 + 4 * k) := hide (by have h1 := HZr0.out; rw [← hb15, ByteArray.size_append]; omega)
              clear hb15 hpz HZr0
              obtain ⟨Lb, hLb⟩ : ∃ z, br0.data.toList = z := ⟨_, rfl⟩
              rw [hLb] at HVw HLL HNEW
              clear hLb
              have z0 : w14.cell? ⟨gw, 0, none⟩ = some v0 := HBw.out.cell 0
              go_wp2_with ((with_reducible show wpList _ _ _ (⟨some 99, _, _, _, _, _⟩ :: _) _ _); refine bufq_apps rfl (.tmp 97) (.tmp 98) rfl HVw pb rfl rfl HLL.out ?_; intro v2 w15 HV2 HG2; obtain ⟨A2, n2, c2, rfl⟩ := bufq_form HV2.out; (have HB2 := hide (HBw.out.grown HG2.out (Ne.symm (bufq_nt HVw.out HBw.out (by decide))))); (have z1 : w15.frozen? ⟨gw, 0, none⟩ = false := HB2.out.frozen 0); (have z2 : w15.cell? ⟨gw, 0, none⟩ = some v0 := HB2.out.cell 0); (have hkt : Hid (KT w14 w15) := hide (KT.grown HVw.out HG2.out)))
              have hks : KT w14 (w15.setCell ⟨gw, 0, none⟩ (.slice A2 n2 c2)) := hkt.out.trans (KT.store HB2.out _)
              have HF : Hid (b15 = b13 ++ catB insB (p.code.take (k + 1))) := hide (by rw [HT.out, HPB.out, HE15.out, HEr0.out, ByteArray.append_assoc])
              have HZF : Hid (b15.size ≤ 90000300000 + 4 * (k + 1)) := hide (by have h1 := HZ15.out; omega)
              refine ⟨⟨k + 1, b15, by omega, by go_num, hide (wrs_store HV2.out HB2.out HLE.out HNEW.out), hide (HK14.out.trans hks), hide (hks _ _ _ HP14.out (by decide) (by decide)), HF, HZF⟩, ?_⟩
              simp [intOf]
              omega
            · obtain rfl : k = p.code.length := by omega
              obtain ⟨b16, hbm⟩ : ∃ z, bx = z := ⟨_, rfl⟩
              rw [hbm] at HWx HEx HZx
              have HE16 : Hid (b16 = b13 ++ catB insB p.code) := hide (by rw [HEx.out, List.take_length])
              have HW16 := HWx
              have HK16 := HKx
              have HP16 := HPx
              have HZ16 := HZx
              clear HWx HKx HPx HZx HEx hbm
              have HFIN : Hid (b16 = b0 ++ protoB p) := hide (by
                rw [HE16.out, HE13.out, HE12.out, HE9.out, HE8.out, HE4.out, HE3.out, HE2.out, HE1.out]
                unfold protoB protoH
                simp only [ByteArray.append_assoc])
              rw [HFIN.out] at HW16
              go_wp2_with fail
              refine bodyPost_end (results_none rfl _ _ _) rfl ?_
              exact ⟨rfl, HW16.out, HK16.out⟩
set_option maxRecDepth 20000 in
theorem uwproto_calls {w0 w : World} {gw : Nat} {b : ByteArray} (h : WrS w0 w gw b) (v : ProtoV) (hr : v.Reads w0) (hl : ProtoL v.p) (hc : ProtoR v.p) (hs : b.size ≤ 90000000000) : Calls Try.prog 20 #[ptrW gw, .agg #[.string v.p.name, .int .i64 v.p.params, .int .i64 v.p.regs, .slice v.cA v.p.code.length v.cc, .slice v.kA v.p.consts.length v.kc, .slice v.pA v.p.caps.length v.pc]] w fun e w' => e = .returned (.tuple #[]) ∧ WrS w0 w' gw (b ++ protoB v.p) ∧ KT w w' :=
  uwproto_parts h v.p v.cA v.cc v.kA v.kc v.pA v.pc hr hl hc hs
end Go.Proofs.Ythgjmbcojbmlhaa
