/- Chapter 25: BundleParses comes to true. -/
import Derived.Test.YtkipmbnmmbeeaaaBunN
namespace Go.Proofs.Ytkipmbnmmbeeaaa
open Go.RowKit Zb

set_option maxRecDepth 20000 in
theorem parse_len (key s : ByteArray) : (parseM key s).1.length ≤ 16 := by
  by_cases h : (parseM key s).2 = 0
  · exact (right_lim (build_parse h).1).2.1
  · by_cases hs : s.size < 38
    · rw [parse_short hs]; exact Nat.zero_le _
    obtain ⟨n, hn⟩ : ∃ n, s.size = n + 32 := ⟨s.size - 32, by omega⟩
    rw [parse_eq hn (by omega) rfl rfl] at h ⊢
    unfold parseP at h ⊢
    split
    · exact Nat.zero_le _
    · rename_i h1
      rw [if_neg h1] at h
      split
      · exact Nat.zero_le _
      · rename_i R hR
        rw [hR] at h
        dsimp only at h
        split
        · exact Nat.zero_le _
        · rename_i h2
          rw [if_neg h2] at h
          split
          · rename_i h3
            rw [if_pos h3] at h
            exact absurd rfl h
          · exact Nat.zero_le _
/-- Parse's answer as a row of the call's own -/
abbrev OPost (w : World) (c : Int) (l : List PartM) (e : Ending) (w' : World) : Prop := ∃ A cap, e = .returned (.tuple #[.slice A l.length cap, .int .i64 c]) ∧ OwnP w w' (.slice A l.length cap) l ∧ Below w.heap.size w w'
set_option maxRecDepth 20000 in
theorem parse_own {P : Program} {key s : ByteArray} {c : Int} {l : List PartM} (h : parseM key s = (l, c)) {f : FuncId} {args : Array Value} {w : World} (hc : Calls P f args w (ParsePost key s w)) : Calls P f args w (OPost w c l) := by
  refine hc.mono ?_
  rintro e w' ⟨v, rfl, ho⟩
  rw [h] at ho ⊢
  obtain ⟨A, cap, rfl, _⟩ := row_slice ho.row
  exact ⟨A, cap, rfl, ho, ho.bel⟩
set_option maxRecDepth 20000 in
theorem row_rd {w : World} {A : Option Addr} {cap : Nat} {l : List PartM} (h : Row w 34 4 (.slice A l.length cap) l.length (l.flatMap PartM.cells)) : ReadsRows 4 PartM.cells w A l := by
  obtain ⟨A', c', e, _, hr⟩ := row_reads pcells_len h
  cases e
  exact hr
/-- the block of a row that may be written -/
def ZB (w : World) (v : Value) (n : Nat) : Prop := n = 0 ∨ ∃ g c cur, v = .slice (some ⟨g, 0, none⟩) n c ∧ Blk w g 34 cur ∧ n * 4 ≤ cur.size
set_option maxRecDepth 20000 in
theorem row_zb {w : World} {v : Value} {n : Nat} {xs : List Value} (h : Row w 34 4 v n xs) : ZB w v n := by
  rcases h.2 with ⟨_, hn⟩ | ⟨g, cap, cur, rfl, _, hg, hc, hm, hcs, ht⟩
  · exact .inl hn
  · exact .inr ⟨g, cap, cur, rfl, hg, by omega⟩
set_option maxRecDepth 20000 in
theorem cells_some {cs : Array Value} {i : Nat} (h : i < cs.size) : ∃ u, cs[i]? = some u := ⟨cs[i], Array.getElem?_eq_getElem h⟩

set_option maxRecDepth 100000 in
set_option maxHeartbeats 4000000 in
theorem BundleParses_walk (k s : ByteArray) (w : World) (_ : k.size ≤ 140737488351232) (_ : s.size ≤ 140737488351232) : Calls Try.prog 4 #[.string k, .string s] w fun e w' => e = .returned (.bool true) ∧ Below w.heap.size w w' := by
  have HB0 : Hid (Below w.heap.size w w) := hide (Below.refl _ _)
  by_cases g1 : (300 : Int) < (k.size : Int)
  · go_enter Try.func4, Try.ntmps4
    go_wp2_with fail
    refine (lknown25_calls _).mono ?_
    rintro e w1 ⟨rfl, hb1⟩
    have HB1 := hide (HB0.out.trans (hb1.mono HB0.out.size))
    clear hb1 
    go_wp2_with fail
    go_ret
    exact ⟨rfl, HB1.out⟩
  have g1b := decide_eq_false g1
  by_cases g2 : (20000 : Int) < (s.size : Int)
  · go_enter Try.func4, Try.ntmps4
    go_wp2_with fail
    refine (lknown25_calls _).mono ?_
    rintro e w1 ⟨rfl, hb1⟩
    have HB1 := hide (HB0.out.trans (hb1.mono HB0.out.size))
    clear hb1 
    go_wp2_with fail
    go_ret
    exact ⟨rfl, HB1.out⟩
  have g2b := decide_eq_false g2
  have hk : k.size ≤ 300 := by omega
  have hs : s.size ≤ 20000 := by omega
  have hms := macB_size k s
  have HMC := hide (rmOf_calls k s (by omega) (by omega))
  obtain ⟨lx, cx, hpx⟩ : ∃ lx cx, parseM k s = (lx, cx) := ⟨_, _, rfl⟩
  have hlx : lx.length ≤ 16 := by have := parse_len k s; rw [hpx] at this; exact this
  generalize macB k s = m at *
  obtain ⟨T, hT⟩ : ∃ T, s ++ m = T := ⟨_, rfl⟩
  have hTs : T.size = s.size + m.size := by rw [← hT, ByteArray.size_append]
  have HT := hide hT
  obtain ⟨lz, cz, hpz⟩ : ∃ lx cx, parseM k T = (lx, cx) := ⟨_, _, rfl⟩
  have hlz : lz.length ≤ 16 := by have := parse_len k T; rw [hpz] at this; exact this
  have HP1 := hide (fun w => parse_own hpx (bParse_calls k s (by omega) (by omega) w))
  have HP2 := hide (fun w => parse_own hpx (rbParse_calls k s (by omega) (by omega) w))
  have HP3 := hide (fun w => parse_own hpz (bParse_calls k T (by omega) (by omega) w))
  have HP4 := hide (fun w => parse_own hpz (rbParse_calls k T (by omega) (by omega) w))
  have HSX := hide (fun w A B cap cap' (ha : ReadsRows 4 PartM.cells w A lx) (hb : ReadsRows 4 PartM.cells w B lx) => rbSame_calls cap cap' ha hb (by omega))
  have HSZ := hide (fun w A B cap cap' (ha : ReadsRows 4 PartM.cells w A lz) (hb : ReadsRows 4 PartM.cells w B lz) => rbSame_calls cap cap' ha hb (by omega))
  have hd1 : decide (lx = lx) = true := by simp
  have hd2 : decide (lz = lz) = true := by simp
  rw [hd1] at HSX
  rw [hd2] at HSZ
  clear hd1 hd2 hpx hpz hT hTs
  go_enter Try.func4, Try.ntmps4
  go_wp2_with fail
  refine (HP1.out _).mono ?_
  rintro e w1 ⟨A1, c1, rfl, ho1, hb1⟩
  have RX_1 := hide ho1.row
  have RX_own := hide ho1.own
  clear ho1
  have HB1 := hide (HB0.out.trans (hb1.mono HB0.out.size))
  clear hb1 
  go_wp2_with fail
  refine (HP2.out _).mono ?_
  rintro e w2 ⟨A2, c2, rfl, ho2, hb2⟩
  have RX_2 := hide (row_of RX_1.out fun g hg => hb2.block g (row_lt RX_1.out g hg))
  have RY_2 := hide ho2.row
  have RY_own := hide ho2.own
  clear ho2
  have HB2 := hide (HB1.out.trans (hb2.mono HB1.out.size))
  clear hb2 RX_1
  go_wp2_with fail
  refine (HMC.out _).mono ?_
  rintro e w3 ⟨rfl, hb3⟩
  have RX_3 := hide (row_of RX_2.out fun g hg => hb3.block g (row_lt RX_2.out g hg))
  have RY_3 := hide (row_of RY_2.out fun g hg => hb3.block g (row_lt RY_2.out g hg))
  have HB3 := hide (HB2.out.trans (hb3.mono HB2.out.size))
  clear hb3 RX_2 RY_2
  go_wp2_with fail
  rw [HT.out]
  refine (HP3.out _).mono ?_
  rintro e w4 ⟨A4, c4, rfl, ho4, hb4⟩
  have RX_4 := hide (row_of RX_3.out fun g hg => hb4.block g (row_lt RX_3.out g hg))
  have RY_4 := hide (row_of RY_3.out fun g hg => hb4.block g (row_lt RY_3.out g hg))
  have RZ_4 := hide ho4.row
  have RZ_own := hide ho4.own
  clear ho4
  have HB4 := hide (HB3.out.trans (hb4.mono HB3.out.size))
  clear hb4 RX_3 RY_3
  go_wp2_with fail
  refine (HP4.out _).mono ?_
  rintro e w5 ⟨A5, c5, rfl, ho5, hb5⟩
  have RX_5 := hide (row_of RX_4.out fun g hg => hb5.block g (row_lt RX_4.out g hg))
  have RY_5 := hide (row_of RY_4.out fun g hg => hb5.block g (row_lt RY_4.out g hg))
  have RZ_5 := hide (row_of RZ_4.out fun g hg => hb5.block g (row_lt RZ_4.out g hg))
  have RW_5 := hide ho5.row
  have RW_own := hide ho5.own
  clear ho5
  have HNE : Hid (∀ g, (Value.slice A4 lz.length c4).ownBlock = some g → (Value.slice A5 lz.length c5).ownBlock ≠ some g) := hide (fun g hg e => by
    have h1 := row_lt RZ_4.out g hg
    have h2 := RW_own.out g e
    omega)
  have HB5 := hide (HB4.out.trans (hb5.mono HB4.out.size))
  clear hb5 RX_4 RY_4 RZ_4
  go_wp2_with fail
  refine (HSX.out _ _ _ c1 c2 (row_rd RX_5.out) (row_rd RY_5.out)).mono ?_
  rintro e w6 ⟨rfl, hb6⟩
  have RZ_6 := hide (row_of RZ_5.out fun g hg => hb6.block g (row_lt RZ_5.out g hg))
  have RW_6 := hide (row_of RW_5.out fun g hg => hb6.block g (row_lt RW_5.out g hg))
  have HB6 := hide (HB5.out.trans (hb6.mono HB5.out.size))
  clear hb6 RZ_5 RW_5
  go_wp2_with fail
  refine (HSZ.out _ _ _ c4 c5 (row_rd RZ_6.out) (row_rd RW_6.out)).mono ?_
  rintro e w7 ⟨rfl, hb7⟩
  have RZ_7 := hide (row_of RZ_6.out fun g hg => hb7.block g (row_lt RZ_6.out g hg))
  have RW_7 := hide (row_of RW_6.out fun g hg => hb7.block g (row_lt RW_6.out g hg))
  have HB7 := hide (HB6.out.trans (hb7.mono HB6.out.size))
  clear hb7 RZ_6 RW_6
  go_wp2_with fail
  have HZB0 := hide (row_zb RZ_7.out)
  have HZO := hide (fun g (hg : (Value.slice A4 lz.length c4).ownBlock = some g) => RZ_own.out g hg)
  go_loopw [15] (fun i wr => ∃ j : Nat, j ≤ lz.length ∧ i = .int .i64 (j : Int) ∧ Hid (Turned (fun x => (Value.slice A4 lz.length c4).ownBlock = some x) w7 wr) ∧ Hid (ZB wr (.slice A4 lz.length c4) lz.length)) (fun i _ => lz.length - (intOf i).toNat)
  case atStart => exact ⟨0, by omega, rfl, hide (Turned.refl _ _), HZB0⟩
  case round =>
    clear HZB0
    obtain ⟨j, hj, rfl, HTU, HZB⟩ := hrel
    by_cases hlt : j < lz.length
    · have hjI : (j : Int) < (lz.length : Int) := by omega
      have hj0 : (0 : Int) ≤ (j : Int) := by omega
      rcases HZB.out with h0 | ⟨g, c, cur, hv, hblk, hcs⟩
      · omega
      obtain ⟨e1, e2⟩ : A4 = some ⟨g, 0, none⟩ ∧ c4 = c := by cases hv; exact ⟨rfl, rfl⟩
      subst e1
      subst e2
      clear hv
      have HBK := hide hblk
      have HCS := hide hcs
      obtain ⟨u, hu⟩ := cells_some (cs := cur) (i := j * 4 + 2) (by omega)
      have z0 : wr.cell? ⟨g, j * 4 + 2, none⟩ = some u := (hblk.cell _).trans hu
      have z1 : wr.frozen? ⟨g, j * 4 + 2, none⟩ = false := hblk.frozen _
      have HZ2 : Hid (ZB (wr.setCell ⟨g, j * 4 + 2, none⟩ (.string ⟨#[115, 112, 111, 105, 108, 116]⟩)) (.slice (some ⟨g, 0, none⟩) lz.length c4) lz.length) := hide (.inr ⟨g, c4, _, rfl, hblk.set_ _ _, by simpa using hcs⟩)
      have HT2 : Hid (Turned (fun x => (Value.slice (some ⟨g, 0, none⟩) lz.length c4).ownBlock = some x) w7 (wr.setCell ⟨g, j * 4 + 2, none⟩ (.string ⟨#[115, 112, 111, 105, 108, 116]⟩))) := hide (HTU.out.setCell (p := ⟨g, j * 4 + 2, none⟩) (.inl rfl) _)
      clear hblk hcs hu
      go_wp2_with fail
      refine ⟨⟨j + 1, by omega, by go_num, HT2, HZ2⟩, ?_⟩
      simp [intOf]
      omega
    · obtain rfl : j = lz.length := by omega
      have HB8 : Hid (Below w.heap.size w wr) := hide (HB7.out.trans (HTU.out.below HB7.out.size (fun x hx => by have h1 := HZO.out x hx; have h2 := HB3.out.size; omega)))
      have RW_8 := hide (row_turned RW_7.out HTU.out (fun g hg hF => HNE.out g hF hg))
      have HB9 := HB8
      have RW_9 := RW_8
      clear HB8 RW_8 HTU HZB HB7 RW_7 RZ_7
      go_wp2_with fail
      refine (HP3.out _).mono ?_
      rintro e w10 ⟨A10, c10, rfl, ho10, hb10⟩
      have RW_10 := hide (row_of RW_9.out fun g hg => hb10.block g (row_lt RW_9.out g hg))
      have RU_10 := hide ho10.row
      have RU_own := hide ho10.own
      clear ho10
      have HB10 := hide (HB9.out.trans (hb10.mono HB9.out.size))
      clear hb10 RW_9
      go_wp2_with fail
      refine (HSZ.out _ _ _ c10 c5 (row_rd RU_10.out) (row_rd RW_10.out)).mono ?_
      rintro e w11 ⟨rfl, hb11⟩
      have HB11 := hide (HB10.out.trans (hb11.mono HB10.out.size))
      clear hb11 
      go_wp2_with fail
      refine (lknown25_calls _).mono ?_
      rintro e w12 ⟨rfl, hb12⟩
      have HB12 := hide (HB11.out.trans (hb12.mono HB11.out.size))
      clear hb12 
      go_wp2_with fail
      go_ret
      exact ⟨rfl, HB12.out⟩
end Go.Proofs.Ytkipmbnmmbeeaaa
