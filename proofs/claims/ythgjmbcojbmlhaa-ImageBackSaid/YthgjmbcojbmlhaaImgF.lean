/- Chapter 14: Build of the program, walked. -/
import Derived.Test.YthgjmbcojbmlhaaImgE
import Derived.Lib.SmallJoins
namespace Go.Proofs.Ythgjmbcojbmlhaa
open Go.RowKit Zb

set_option maxRecDepth 20000 in
theorem protoB_le {p : ProtoM} (h : ProtoL p) : (protoB p).size ≤ 300000 := by
  have h1 := catB_bound capB 16 p.caps fun x _ => by
    unfold capB
    rw [ByteArray.size_append]
    have := putB_le8 (if x.up then 1 else 0) 1
    have := putB_le8 x.index 1
    omega
  have h2 := catB_bound conB 1112 p.consts fun x hx => by
    unfold conB
    rw [ByteArray.size_append]
    have h3 := putB_le8 x.kind 1
    have h4 := con_text (h.consts.2 x hx)
    have h5 : (conTail x).size ≤ 1104 := by
      unfold conTail
      split
      · have := putB_le8 x.n 8; omega
      · split
        · exact textB_le8 _ (by omega)
        · exact Nat.zero_le _
    omega
  have h3 := catB_bound insB 4 p.code fun x _ => insB_le x
  have h4 := h.caps.1
  have h5 := h.consts.1
  have h6 := h.code.1
  have h7 := textB_le8 p.name (by have := h.name; omega)
  unfold protoB protoH
  simp only [ByteArray.size_append]
  have q1 := putB_le8 p.params 1
  have q2 := putB_le8 p.regs 1
  have q3 := putB_le8 p.caps.length 2
  have q4 := putB_le8 p.consts.length 2
  have q5 := putB_le8 p.code.length 2
  omega
set_option maxRecDepth 20000 in
theorem useB_le {x : UseM} (h : useOk x = true) : (useB x).size ≤ 2300 := by
  simp only [useOk, Bool.and_eq_true] at h
  have h1 := textB_le8 x.mod (by have := name_lim h.1.1; omega)
  have h2 := textB_le8 x.name (by have := name_lim h.1.2; omega)
  have h3 := putB_le8 x.params 1
  unfold useB
  simp only [ByteArray.size_append]
  omega
set_option maxRecDepth 20000 in
theorem catB_map {α β : Type} (f : β → ByteArray) (h : α → β) : ∀ l : List α, catB f (l.map h) = catB (fun x => f (h x)) l
  | [] => rfl
  | x :: r => by simp only [List.map_cons, catB, catB_map f h r]
set_option maxRecDepth 20000 in
set_option maxHeartbeats 8000000 in
theorem ugBuild_parts {w : World} (nm : ByteArray) (ver : Int) (us : List UseM) (uA : Option Addr) (uc : Nat) (fu : Int) (vs : List ProtoV) (rA : Option Addr) (rc : Nat) (hr : UnitV.Reads w ⟨nm, ver, us, uA, uc, fu, vs, rA, rc⟩) (hs : UnitS (UnitV.m ⟨nm, ver, us, uA, uc, fu, vs, rA, rc⟩)) (hc : UnitR (UnitV.m ⟨nm, ver, us, uA, uc, fu, vs, rA, rc⟩)) :
    Calls Try.prog 10 #[.agg #[.string nm, .int .i64 ver, .slice uA us.length uc, .int .i64 fu, .slice rA vs.length rc]] w fun e w' => e = .returned (.tuple #[.string (ubuild (UnitV.m ⟨nm, ver, us, uA, uc, fu, vs, rA, rc⟩)).1, .int .i64 (ubuild (UnitV.m ⟨nm, ver, us, uA, uc, fu, vs, rA, rc⟩)).2]) ∧ Below w.heap.size w w' := by
  have HU0 := hide (Blk.new w 25 #[.string nm, .int .i64 ver, .slice uA us.length uc, .int .i64 fu, .slice rA vs.length rc])
  have HB0 := hide ((Below.refl w.heap.size w).alloc (Nat.le_refl _) (.cells #[.string nm, .int .i64 ver, .slice uA us.length uc, .int .i64 fu, .slice rA vs.length rc] 25))
  have HRI := hide (ugRight_calls (w := w.alloc (.cells #[.string nm, .int .i64 ver, .slice uA us.length uc, .int .i64 fu, .slice rA vs.length rc] 25)) ⟨nm, ver, us, uA, uc, fu, vs, rA, rc⟩ (hr.below HB0.out) hs)
  have HRU := hide (show ReadsRows 3 UseM.cells w uA us from hr.uses)
  have HRP := hide (show ReadsRows 6 ProtoV.cells w rA vs from hr.protos)
  have HRE := hide (show ∀ v ∈ vs, v.Reads w from hr.each)
  have HCR := hide (fun v (hv : v ∈ vs) => hc v.p (List.mem_map_of_mem hv))
  obtain ⟨g, hg⟩ : ∃ g, unitOk (UnitV.m ⟨nm, ver, us, uA, uc, fu, vs, rA, rc⟩) = g := ⟨_, rfl⟩
  rw [hg] at HRI
  have HG := hide hg
  clear hr hs hc hg
  dsimp only at HRI
  cases g
  · have HE := hide (ubuild_no HG.out)
    rw [HE.out]
    go_enter Try.func10, Try.ntmps10
    go_wp2_with fail
    refine HRI.out.mono ?_
    rintro e w1 ⟨rfl, hb1⟩
    go_wp2_with fail
    go_ret2
    exact ⟨rfl, HB0.out.trans (hb1.mono HB0.out.size)⟩
  have HE := hide (ubuild_yes HG.out)
  have HL := hide (unit_lim HG.out)
  rw [HE.out]
  have hul : us.length ≤ 16 := HL.out.uses.1
  have hpl : vs.length ≤ 64 := by have := HL.out.protos.1; simpa [UnitV.m] using this
  have hn16 : nm.size ≤ 16 := HL.out.name
  have hve : 1 ≤ ver ∧ ver ≤ 2147483647 := HL.out.version
  have hfu : 0 ≤ fu ∧ fu ≤ 32 := HL.out.funs
  have HLU : Hid (∀ x ∈ us, useOk x = true) := hide HL.out.uses.2
  have HLP : Hid (∀ v ∈ vs, ProtoL v.p) := hide fun v hv => by
    obtain ⟨top, ht⟩ := HL.out.protos.2 v.p (List.mem_map_of_mem hv)
    exact proto_lim ht
  clear HL HG
  go_enter Try.func10, Try.ntmps10
  go_wp2_with fail
  refine HRI.out.mono ?_
  rintro e w1 ⟨rfl, hb1⟩
  have HB1 := hide (HB0.out.trans (hb1.mono HB0.out.size))
  have HU1 := hide (HU0.out.below hb1 HU0.out.lt)
  clear hb1 HB0 HU0 HRI
  have hcv := Go.Joins.run_convert_bytes_const_at (P := Try.prog) w1 47 5 #[.int .u8 67, .int .u8 72, .int .u8 82, .int .u8 89] 4 4 w1.heap.size rfl Try.underlying47 Try.underlying5
  have HX0 : Hid (Blk ((w1.alloc (.cells #[.int .u8 67, .int .u8 72, .int .u8 82, .int .u8 89] 5 (4, 5))).alloc (.cells #[.slice (some ⟨w1.heap.size, 0, none⟩) 4 4] 49)) w.heap.size 25 #[.string nm, .int .i64 ver, .slice uA us.length uc, .int .i64 fu, .slice rA vs.length rc]) := hide ((HU1.out.alloc (.cells #[.int .u8 67, .int .u8 72, .int .u8 82, .int .u8 89] 5 (4, 5))).alloc (.cells #[.slice (some ⟨w1.heap.size, 0, none⟩) 4 4] 49))
  have HW0 : Hid (WrS w ((w1.alloc (.cells #[.int .u8 67, .int .u8 72, .int .u8 82, .int .u8 89] 5 (4, 5))).alloc (.cells #[.slice (some ⟨w1.heap.size, 0, none⟩) 4 4] 49)) (w1.heap.size + 1) ⟨#[67, 72, 82, 89]⟩) := hide (by
    have hb0 := ((HB1.out.alloc HB1.out.size (.cells #[.int .u8 67, .int .u8 72, .int .u8 82, .int .u8 89] 5 (4, 5))).alloc (by simp; have := HB1.out.size; omega) (.cells #[.slice (some ⟨w1.heap.size, 0, none⟩) 4 4] 49))
    refine ⟨by have := HB1.out.size; omega, .slice (some ⟨w1.heap.size, 0, none⟩) 4 4, ?_, ⟨hb0, .inr ⟨w1.heap.size, 4, _, _, rfl, (Below.heap_alloc _ _ _ (by simp)).trans (heap_alloc_new w1 _), by decide, by decide, rfl, .inr (Nat.le_refl _), fun j hj => ?_⟩, fun g hg => ?_⟩⟩
    · have := Blk.new (w1.alloc (.cells #[.int .u8 67, .int .u8 72, .int .u8 82, .int .u8 89] 5 (4, 5))) 49 #[.slice (some ⟨w1.heap.size, 0, none⟩) 4 4]
      simpa using this
    · have hj4 : j < 4 := hj
      rcases (by omega : j = 0 ∨ j = 1 ∨ j = 2 ∨ j = 3) with rfl | rfl | rfl | rfl <;> rfl
    · have : w1.heap.size = g := by simpa [Value.ownBlock] using hg
      subst this
      exact ⟨HB1.out.size, by simp; omega⟩)
  have z0 : ((w1.alloc (.cells #[.int .u8 67, .int .u8 72, .int .u8 82, .int .u8 89] 5 (4, 5))).alloc (.cells #[.slice (some ⟨w1.heap.size, 0, none⟩) 4 4] 49)).cell? ⟨w.heap.size, 0, none⟩ = some (.string nm) := HX0.out.cell 0
  go_wp2_with fail
  have HK0 : Hid (KT w ((w1.alloc (.cells #[.int .u8 67, .int .u8 72, .int .u8 82, .int .u8 89] 5 (4, 5))).alloc (.cells #[.slice (some ⟨w1.heap.size, 0, none⟩) 4 4] 49))) := hide (KT.of_below HW0.out.bel)
  have HP0 := HX0
  clear z0 hcv HX0 HU1 HB1
  obtain ⟨b0, hb0⟩ : ∃ x : ByteArray, ⟨#[67, 72, 82, 89]⟩ = x := ⟨_, rfl⟩
  have HE0 : Hid (b0 = ⟨#[67, 72, 82, 89]⟩) := hide hb0.symm
  have HZ0 : Hid (b0.size ≤ 100) := hide (by rw [← hb0]; decide)
  rw [hb0] at HW0
  clear hb0
  obtain ⟨w00, hw00⟩ : ∃ x, Hid (((w1.alloc (.cells #[.int .u8 67, .int .u8 72, .int .u8 82, .int .u8 89] 5 (4, 5))).alloc (.cells #[.slice (some ⟨w1.heap.size, 0, none⟩) 4 4] 49)) = x) := ⟨_, hide rfl⟩
  obtain ⟨gw, hgw⟩ : ∃ x, Hid (w1.heap.size + 1 = x) := ⟨_, hide rfl⟩
  obtain ⟨gp, hgp⟩ : ∃ x, Hid (w.heap.size = x) := ⟨_, hide rfl⟩
  rw [hw00.out] at HW0 HK0 HP0 ⊢
  rw [hgw.out] at HW0 ⊢
  rw [hgp.out] at HP0 ⊢
  clear hw00 hgw
  generalize w1.heap.size = gs1 at *
  refine (uwtext_calls HW0.out nm (by omega) (by have h1 := HZ0.out; omega)).mono ?_
  rintro e w1 ⟨rfl, hw1, hk1⟩
  obtain ⟨b1, hb1⟩ : ∃ zz, b0 ++ textB nm = zz := ⟨_, rfl⟩
  rw [hb1] at hw1
  have HW1 := hide hw1
  have HK1 := hide (HK0.out.trans hk1)
  have HP1 := hide (hk1 _ _ _ HP0.out (by decide) (by decide))
  have HE1 : Hid (b1 = b0 ++ textB nm) := hide hb1.symm
  have HZ1 : Hid (b1.size ≤ 1300) := hide (by have h1 := HZ0.out; have h2 := textB_le8 nm (by omega); rw [← hb1, ByteArray.size_append]; omega)
  clear hw1 hk1 hb1 HW0 HK0 HZ0 HP0
  have z1 : w1.cell? ⟨gp, 1, none⟩ = some (.int .i64 ver) := HP1.out.cell 1
  go_wp2_with fail
  clear z1
  refine (uwnum_calls HW1.out (ver) (by omega) (by omega) 4 (by have h1 := HZ1.out; omega)).mono ?_
  rintro e w2 ⟨rfl, hw2, hk2⟩
  obtain ⟨b2, hb2⟩ : ∃ zz, b1 ++ putB (ver) 4 = zz := ⟨_, rfl⟩
  rw [hb2] at hw2
  have HW2 := hide hw2
  have HK2 := hide (HK1.out.trans hk2)
  have HP2 := hide (hk2 _ _ _ HP1.out (by decide) (by decide))
  have HE2 : Hid (b2 = b1 ++ putB (ver) 4) := hide hb2.symm
  have HZ2 : Hid (b2.size ≤ 1308) := hide (by have h1 := HZ1.out; have h2 := putB_le8 (ver) 4; rw [← hb2, ByteArray.size_append]; omega)
  clear hw2 hk2 hb2 HW1 HK1 HZ1 HP1
  have z2 : w2.cell? ⟨gp, 2, none⟩ = some (.slice uA us.length uc) := HP2.out.cell 2
  go_wp2_with fail
  clear z2
  refine (uwnum_calls HW2.out ((us.length : Int)) (by omega) (by omega) 2 (by have h1 := HZ2.out; omega)).mono ?_
  rintro e w3 ⟨rfl, hw3, hk3⟩
  obtain ⟨b3, hb3⟩ : ∃ zz, b2 ++ putB ((us.length : Int)) 2 = zz := ⟨_, rfl⟩
  rw [hb3] at hw3
  have HW3 := hide hw3
  have HK3 := hide (HK2.out.trans hk3)
  have HP3 := hide (hk3 _ _ _ HP2.out (by decide) (by decide))
  have HE3 : Hid (b3 = b2 ++ putB ((us.length : Int)) 2) := hide hb3.symm
  have HZ3 : Hid (b3.size ≤ 1316) := hide (by have h1 := HZ2.out; have h2 := putB_le8 ((us.length : Int)) 2; rw [← hb3, ByteArray.size_append]; omega)
  clear hw3 hk3 hb3 HW2 HK2 HZ2 HP2
  have z2 : w3.cell? ⟨gp, 2, none⟩ = some (.slice uA us.length uc) := HP3.out.cell 2
  go_wp2_with fail
  clear z2
  go_loopw [32] (fun i wr => ∃ (k : Nat) (bx : ByteArray), k ≤ us.length ∧ i = .int .i64 (k : Int) ∧ Hid (WrS w wr gw bx) ∧ Hid (KT w wr) ∧ Hid (Blk wr gp 25 #[.string nm, .int .i64 ver, .slice uA us.length uc, .int .i64 fu, .slice rA vs.length rc]) ∧ Hid (bx = b3 ++ catB useB (us.take k)) ∧ Hid (bx.size ≤ 1316 + 2300 * k)) (fun i _ => us.length - (intOf i).toNat)
  case atStart => exact ⟨0, b3, by omega, rfl, HW3, HK3, HP3, hide (by show b3 = b3 ++ ⟨#[]⟩; rw [bemp]), HZ3⟩
  case round =>
    clear HW3 HK3 HP3 HZ3
    obtain ⟨k, bx, hk, rfl, HWx, HKx, HPx, HEx, HZx⟩ := hrel
    by_cases hlt : k < us.length
    · obtain ⟨x, hx⟩ : ∃ x, us[k]? = some x := ⟨_, List.getElem?_eq_getElem hlt⟩
      have hkI : (k : Int) < (us.length : Int) := by omega
      have hk0 : (0 : Int) ≤ (k : Int) := by omega
      have hxo := HLU.out x (List.mem_of_getElem? hx)
      have hxm := name_lim (by simp only [useOk, Bool.and_eq_true] at hxo; exact hxo.1.1)
      have hxn := name_lim (by simp only [useOk, Bool.and_eq_true] at hxo; exact hxo.1.2)
      have hxl := in_lim (by simp only [useOk, Bool.and_eq_true] at hxo; exact hxo.2)
      have HT := hide (catB_take useB us k x hx)
      obtain ⟨ba, oa, hA, _, hcc⟩ := HRU.out.kept HWx.out.bel hx
      subst hA
      have x0 : wr.cell? ⟨ba, oa + k * 3, none⟩ = some (.string x.mod) := hcc 0 _ rfl
      have x1 : wr.cell? ⟨ba, oa + k * 3 + 1, none⟩ = some (.string x.name) := hcc 1 _ rfl
      have x2 : wr.cell? ⟨ba, oa + k * 3 + 2, none⟩ = some (.int .i64 x.params) := hcc 2 _ rfl
      clear hcc hx
      have HWr0 := hide (HWx.out.alloc (.cells #[.string x.mod, .string x.name, .int .i64 x.params] 43))
      have HKr0 : Hid (KT w (wr.alloc (.cells #[.string x.mod, .string x.name, .int .i64 x.params] 43))) := hide (HKx.out.trans (KT.of_below ((Below.refl _ _).alloc (Nat.le_refl _) _)))
      have HPr0 := hide (HPx.out.alloc (.cells #[.string x.mod, .string x.name, .int .i64 x.params] 43))
      have HVr0 := hide (Blk.new wr 43 #[.string x.mod, .string x.name, .int .i64 x.params])
      have HEr0 := HEx
      have HZr0 := HZx
      clear HWx HKx HPx HEx HZx
      obtain ⟨br0, hbr0⟩ : ∃ z, bx = z := ⟨_, rfl⟩
      rw [hbr0] at HWr0 HEr0 HZr0
      clear hbr0
      go_wp2_with fail
      clear x0 x1 x2
      obtain ⟨wr0, hwr0⟩ : ∃ z, Hid (wr.alloc (.cells #[.string x.mod, .string x.name, .int .i64 x.params] 43) = z) := ⟨_, hide rfl⟩
      obtain ⟨gx, hgx⟩ : ∃ z, Hid (wr.heap.size = z) := ⟨_, hide rfl⟩
      rw [hwr0.out] at HWr0 HKr0 HPr0 HVr0 ⊢
      rw [hgx.out] at HVr0 ⊢
      clear hwr0 hgx
      refine (uwtext_calls HWr0.out x.mod (by omega) (by have h1 := HZr0.out; omega)).mono ?_
      rintro e w4 ⟨rfl, hw4, hk4⟩
      obtain ⟨b4, hb4⟩ : ∃ zz, br0 ++ textB x.mod = zz := ⟨_, rfl⟩
      rw [hb4] at hw4
      have HW4 := hide hw4
      have HK4 := hide (HKr0.out.trans hk4)
      have HP4 := hide (hk4 _ _ _ HPr0.out (by decide) (by decide))
      have HV4 := hide (hk4 _ _ _ HVr0.out (by decide) (by decide))
      have HE4 : Hid (b4 = br0 ++ textB x.mod) := hide hb4.symm
      have HZ4 : Hid (b4.size ≤ 2420 + 2300 * k) := hide (by have h1 := HZr0.out; have h2 := textB_le8 x.mod (by omega); rw [← hb4, ByteArray.size_append]; omega)
      clear hw4 hk4 hb4 HWr0 HKr0 HZr0 HPr0 HVr0
      have z1 : w4.cell? ⟨gx, 1, none⟩ = some (.string x.name) := HV4.out.cell 1
      go_wp2_with fail
      clear z1
      refine (uwtext_calls HW4.out x.name (by omega) (by have h1 := HZ4.out; omega)).mono ?_
      rintro e w5 ⟨rfl, hw5, hk5⟩
      obtain ⟨b5, hb5⟩ : ∃ zz, b4 ++ textB x.name = zz := ⟨_, rfl⟩
      rw [hb5] at hw5
      have HW5 := hide hw5
      have HK5 := hide (HK4.out.trans hk5)
      have HP5 := hide (hk5 _ _ _ HP4.out (by decide) (by decide))
      have HV5 := hide (hk5 _ _ _ HV4.out (by decide) (by decide))
      have HE5 : Hid (b5 = b4 ++ textB x.name) := hide hb5.symm
      have HZ5 : Hid (b5.size ≤ 3524 + 2300 * k) := hide (by have h1 := HZ4.out; have h2 := textB_le8 x.name (by omega); rw [← hb5, ByteArray.size_append]; omega)
      clear hw5 hk5 hb5 HW4 HK4 HZ4 HP4 HV4
      have z2 : w5.cell? ⟨gx, 2, none⟩ = some (.int .i64 x.params) := HV5.out.cell 2
      go_wp2_with fail
      clear z2
      refine (uwnum_calls HW5.out (x.params) (by omega) (by omega) 1 (by have h1 := HZ5.out; omega)).mono ?_
      rintro e w6 ⟨rfl, hw6, hk6⟩
      obtain ⟨b6, hb6⟩ : ∃ zz, b5 ++ putB (x.params) 1 = zz := ⟨_, rfl⟩
      rw [hb6] at hw6
      have HW6 := hide hw6
      have HK6 := hide (HK5.out.trans hk6)
      have HP6 := hide (hk6 _ _ _ HP5.out (by decide) (by decide))
      have HV6 := hide (hk6 _ _ _ HV5.out (by decide) (by decide))
      have HE6 : Hid (b6 = b5 ++ putB (x.params) 1) := hide hb6.symm
      have HZ6 : Hid (b6.size ≤ 3532 + 2300 * k) := hide (by have h1 := HZ5.out; have h2 := putB_le8 (x.params) 1; rw [← hb6, ByteArray.size_append]; omega)
      clear hw6 hk6 hb6 HW5 HK5 HZ5 HP5 HV5
      have HF : Hid (b6 = b3 ++ catB useB (us.take (k + 1))) := hide (by rw [HT.out]; rw [HE6.out, HE5.out, HE4.out, HEr0.out]; unfold useB; simp only [ByteArray.append_assoc])
      have HZF : Hid (b6.size ≤ 1316 + 2300 * (k + 1)) := hide (by have h1 := HZ6.out; omega)
      go_wp2_with fail
      refine ⟨⟨k + 1, b6, by omega, by go_num, HW6, HK6, HP6, HF, HZF⟩, ?_⟩
      simp [intOf]
      omega
    · obtain rfl : k = us.length := by omega
      obtain ⟨b7, hbm⟩ : ∃ z, bx = z := ⟨_, rfl⟩
      rw [hbm] at HWx HEx HZx
      have HE7 : Hid (b7 = b3 ++ catB useB us) := hide (by rw [HEx.out, List.take_length])
      have HW7 := HWx
      have HK7 := HKx
      have HP7 := HPx
      have HZ7 := HZx
      clear HWx HKx HPx HZx HEx hbm
      have z3 : wr.cell? ⟨gp, 3, none⟩ = some (.int .i64 fu) := HP7.out.cell 3
      go_wp2_with fail
      clear z3
      refine (uwnum_calls HW7.out (fu) (by omega) (by omega) 1 (by have h1 := HZ7.out; omega)).mono ?_
      rintro e w8 ⟨rfl, hw8, hk8⟩
      obtain ⟨b8, hb8⟩ : ∃ zz, b7 ++ putB (fu) 1 = zz := ⟨_, rfl⟩
      rw [hb8] at hw8
      have HW8 := hide hw8
      have HK8 := hide (HK7.out.trans hk8)
      have HP8 := hide (hk8 _ _ _ HP7.out (by decide) (by decide))
      have HE8 : Hid (b8 = b7 ++ putB (fu) 1) := hide hb8.symm
      have HZ8 : Hid (b8.size ≤ 40000) := hide (by have h1 := HZ7.out; have h2 := putB_le8 (fu) 1; rw [← hb8, ByteArray.size_append]; omega)
      clear hw8 hk8 hb8 HW7 HK7 HZ7 HP7
      have z4 : w8.cell? ⟨gp, 4, none⟩ = some (.slice rA vs.length rc) := HP8.out.cell 4
      go_wp2_with fail
      clear z4
      refine (uwnum_calls HW8.out ((vs.length : Int)) (by omega) (by omega) 2 (by have h1 := HZ8.out; omega)).mono ?_
      rintro e w9 ⟨rfl, hw9, hk9⟩
      obtain ⟨b9, hb9⟩ : ∃ zz, b8 ++ putB ((vs.length : Int)) 2 = zz := ⟨_, rfl⟩
      rw [hb9] at hw9
      have HW9 := hide hw9
      have HK9 := hide (HK8.out.trans hk9)
      have HP9 := hide (hk9 _ _ _ HP8.out (by decide) (by decide))
      have HE9 : Hid (b9 = b8 ++ putB ((vs.length : Int)) 2) := hide hb9.symm
      have HZ9 : Hid (b9.size ≤ 40008) := hide (by have h1 := HZ8.out; have h2 := putB_le8 ((vs.length : Int)) 2; rw [← hb9, ByteArray.size_append]; omega)
      clear hw9 hk9 hb9 HW8 HK8 HZ8 HP8
      have z4 : w9.cell? ⟨gp, 4, none⟩ = some (.slice rA vs.length rc) := HP9.out.cell 4
      go_wp2_with fail
      clear z4
      go_loopw [61] (fun i wr => ∃ (k : Nat) (bx : ByteArray), k ≤ vs.length ∧ i = .int .i64 (k : Int) ∧ Hid (WrS w wr gw bx) ∧ Hid (KT w wr) ∧ Hid (Blk wr gp 25 #[.string nm, .int .i64 ver, .slice uA us.length uc, .int .i64 fu, .slice rA vs.length rc]) ∧ Hid (bx = b9 ++ catB (fun v => protoB v.p) (vs.take k)) ∧ Hid (bx.size ≤ 40008 + 300000 * k)) (fun i _ => vs.length - (intOf i).toNat)
      case atStart => exact ⟨0, b9, by omega, rfl, HW9, HK9, HP9, hide (by show b9 = b9 ++ ⟨#[]⟩; rw [bemp]), HZ9⟩
      case round =>
        clear HW9 HK9 HP9 HZ9
        obtain ⟨k, bx, hk, rfl, HWx, HKx, HPx, HEx, HZx⟩ := hrel
        by_cases hlt : k < vs.length
        · obtain ⟨x, hx⟩ : ∃ x, vs[k]? = some x := ⟨_, List.getElem?_eq_getElem hlt⟩
          have hkI : (k : Int) < (vs.length : Int) := by omega
          have hk0 : (0 : Int) ≤ (k : Int) := by omega
          have hxr := HRE.out x (List.mem_of_getElem? hx)
          have hxl := HLP.out x (List.mem_of_getElem? hx)
          have hxc := HCR.out x (List.mem_of_getElem? hx)
          have HT := hide (catB_take (fun v => protoB v.p) vs k x hx)
          obtain ⟨ba, oa, hA, _, hcc⟩ := HRP.out.kept HWx.out.bel hx
          subst hA
          have x0 : wr.cell? ⟨ba, oa + k * 6, none⟩ = some (.string x.p.name) := hcc 0 _ rfl
          have x1 : wr.cell? ⟨ba, oa + k * 6 + 1, none⟩ = some (.int .i64 x.p.params) := hcc 1 _ rfl
          have x2 : wr.cell? ⟨ba, oa + k * 6 + 2, none⟩ = some (.int .i64 x.p.regs) := hcc 2 _ rfl
          have x3 : wr.cell? ⟨ba, oa + k * 6 + 3, none⟩ = some (.slice x.cA x.p.code.length x.cc) := hcc 3 _ rfl
          have x4 : wr.cell? ⟨ba, oa + k * 6 + 4, none⟩ = some (.slice x.kA x.p.consts.length x.kc) := hcc 4 _ rfl
          have x5 : wr.cell? ⟨ba, oa + k * 6 + 5, none⟩ = some (.slice x.pA x.p.caps.length x.pc) := hcc 5 _ rfl
          clear hcc hx
          have HWr0 := hide (HWx.out.alloc (.cells #[.string x.p.name, .int .i64 x.p.params, .int .i64 x.p.regs, .slice x.cA x.p.code.length x.cc, .slice x.kA x.p.consts.length x.kc, .slice x.pA x.p.caps.length x.pc] 38))
          have HKr0 : Hid (KT w (wr.alloc (.cells #[.string x.p.name, .int .i64 x.p.params, .int .i64 x.p.regs, .slice x.cA x.p.code.length x.cc, .slice x.kA x.p.consts.length x.kc, .slice x.pA x.p.caps.length x.pc] 38))) := hide (HKx.out.trans (KT.of_below ((Below.refl _ _).alloc (Nat.le_refl _) _)))
          have HPr0 := hide (HPx.out.alloc (.cells #[.string x.p.name, .int .i64 x.p.params, .int .i64 x.p.regs, .slice x.cA x.p.code.length x.cc, .slice x.kA x.p.consts.length x.kc, .slice x.pA x.p.caps.length x.pc] 38))
          have HVr0 := hide (Blk.new wr 38 #[.string x.p.name, .int .i64 x.p.params, .int .i64 x.p.regs, .slice x.cA x.p.code.length x.cc, .slice x.kA x.p.consts.length x.kc, .slice x.pA x.p.caps.length x.pc])
          have HEr0 := HEx
          have HZr0 := HZx
          clear HWx HKx HPx HEx HZx
          obtain ⟨br0, hbr0⟩ : ∃ z, bx = z := ⟨_, rfl⟩
          rw [hbr0] at HWr0 HEr0 HZr0
          clear hbr0
          go_wp2_with fail
          clear x0 x1 x2 x3 x4 x5
          obtain ⟨wr0, hwr0⟩ : ∃ z, Hid (wr.alloc (.cells #[.string x.p.name, .int .i64 x.p.params, .int .i64 x.p.regs, .slice x.cA x.p.code.length x.cc, .slice x.kA x.p.consts.length x.kc, .slice x.pA x.p.caps.length x.pc] 38) = z) := ⟨_, hide rfl⟩
          obtain ⟨gx, hgx⟩ : ∃ z, Hid (wr.heap.size = z) := ⟨_, hide rfl⟩
          rw [hwr0.out] at HWr0 HKr0 HPr0 HVr0 ⊢
          rw [hgx.out] at HVr0 ⊢
          clear hwr0 hgx
          refine (uwproto_calls HWr0.out x hxr hxl hxc (by have h1 := HZr0.out; omega)).mono ?_
          rintro e w10 ⟨rfl, hw10, hk10⟩
          obtain ⟨b10, hb10⟩ : ∃ zz, br0 ++ protoB x.p = zz := ⟨_, rfl⟩
          rw [hb10] at hw10
          have HW10 := hide hw10
          have HK10 := hide (HKr0.out.trans hk10)
          have HP10 := hide (hk10 _ _ _ HPr0.out (by decide) (by decide))
          have HV10 := hide (hk10 _ _ _ HVr0.out (by decide) (by decide))
          have HE10 : Hid (b10 = br0 ++ protoB x.p) := hide hb10.symm
          have HZ10 : Hid (b10.size ≤ 340008 + 300000 * k) := hide (by have h1 := HZr0.out; have h2 := protoB_le hxl; rw [← hb10, ByteArray.size_append]; omega)
          clear hw10 hk10 hb10 HWr0 HKr0 HZr0 HPr0 HVr0
          have HF : Hid (b10 = b9 ++ catB (fun v => protoB v.p) (vs.take (k + 1))) := hide (by rw [HT.out]; rw [HE10.out, HEr0.out]; simp only [ByteArray.append_assoc])
          have HZF : Hid (b10.size ≤ 40008 + 300000 * (k + 1)) := hide (by have h1 := HZ10.out; omega)
          go_wp2_with fail
          refine ⟨⟨k + 1, b10, by omega, by go_num, HW10, HK10, HP10, HF, HZF⟩, ?_⟩
          simp [intOf]
          omega
        · obtain rfl : k = vs.length := by omega
          obtain ⟨b11, hbm⟩ : ∃ z, bx = z := ⟨_, rfl⟩
          rw [hbm] at HWx HEx HZx
          have HE11 : Hid (b11 = b9 ++ catB (fun v => protoB v.p) vs) := hide (by rw [HEx.out, List.take_length])
          have HW11 := HWx
          have HK11 := HKx
          have HP11 := HPx
          have HZ11 := HZx
          clear HWx HKx HPx HZx HEx hbm
          have HFIN : Hid (b11 = unitB (UnitV.m ⟨nm, ver, us, uA, uc, fu, vs, rA, rc⟩)) := hide (by
            rw [HE11.out, HE9.out, HE8.out, HE7.out, HE3.out, HE2.out, HE1.out, HE0.out]
            unfold unitB unitH UnitV.m
            dsimp only
            rw [List.length_map, catB_map])
          obtain ⟨v0, hbw, hvw⟩ := HW11.out.v
          have z0 : wr.cell? ⟨gw, 0, none⟩ = some v0 := hbw.cell 0
          have hcv := hvw.conv
          have hoo : (⟨b11.data.toList.toArray⟩ : ByteArray) = b11 := rfl
          rw [hoo] at hcv
          clear hbw
          go_wp2_with fail
          go_ret2
          refine ⟨?_, hvw.bel⟩
          rw [← HFIN.out]
          rfl
set_option maxRecDepth 20000 in
theorem ugBuild_calls {w : World} (u : UnitV) (hr : u.Reads w) (hs : UnitS u.m) (hc : UnitR u.m) : Calls Try.prog 10 #[.agg #[.string u.name, .int .i64 u.version, .slice u.uA u.uses.length u.uc, .int .i64 u.funs, .slice u.rA u.vs.length u.rc]] w fun e w' => e = .returned (.tuple #[.string (ubuild u.m).1, .int .i64 (ubuild u.m).2]) ∧ Below w.heap.size w w' :=
  ugBuild_parts u.name u.version u.uses u.uA u.uc u.funs u.vs u.rA u.rc hr hs hc
end Go.Proofs.Ythgjmbcojbmlhaa
