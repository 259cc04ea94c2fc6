/- Chapter 25: Build of the program, walked; what tells the digests. -/
import Derived.Test.YtkipmbnmmbeeaaaBunG
namespace Go.Proofs.Ytkipmbnmmbeeaaa
open Go.RowKit Zb

set_option maxRecDepth 20000 in
set_option maxHeartbeats 2000000 in
theorem bBuildf_calls {w : World} {A : Option Addr} {l : List PartM} (cap cb : Nat) (hb : Blk w cb 22 #[.slice A l.length cap]) (ha : ReadsRows 4 PartM.cells w A l) (hm : MidL l) (k : Nat) (x : PartM) (hx : l[k]? = some x) :
    Calls Try.prog 21 #[.int .i64 (k : Int), .pointer (some ⟨cb, 0, none⟩)] w fun e w' => e = .returned (.string (digB x.text)) ∧ Below w.heap.size w w' := by
  have hlt := (List.getElem?_eq_some_iff.1 hx).1
  have hlen := hm.1
  have hkI : (k : Int) < (l.length : Int) := by omega
  have hk0 : (0 : Int) ≤ (k : Int) := by omega
  have HD := hide (fun w1 => gOf_digB x.text (by have := (hm.2 x (List.mem_of_getElem? hx)).text; omega) w1)
  obtain ⟨ba, oa, hA, hal, hc⟩ := ha k _ hx
  subst hA
  have x2 : w.cell? ⟨ba, oa + k * 4 + 2, none⟩ = some (.string x.text) := hc 2 _ rfl
  have z0 : w.cell? ⟨cb, 0, none⟩ = some (.slice (some ⟨ba, oa, none⟩) l.length cap) := hb.cell 0
  clear hm ha hb hc hx hlt
  generalize digB x.text = d at *
  go_enter Try.func21, Try.ntmps21
  go_wp2_with fail
  refine (HD.out _).mono ?_
  rintro e w1 ⟨rfl, hb1⟩
  go_wp2_with fail
  go_ret
  exact ⟨rfl, hb1⟩
set_option maxRecDepth 20000 in
set_option maxHeartbeats 2000000 in
theorem bParsef_calls {w : World} {A : Option Addr} {l : List ByteArray} (cap cb : Nat) (hb : Blk w cb 41 #[.slice A l.length cap]) (ha : ReadsRows 1 sv w A l) (k : Nat) (x : ByteArray) (hx : l[k]? = some x) :
    Calls Try.prog 30 #[.int .i64 (k : Int), .pointer (some ⟨cb, 0, none⟩)] w fun e w' => e = .returned (.string x) ∧ Below w.heap.size w w' := by
  have hlt := (List.getElem?_eq_some_iff.1 hx).1
  have hkI : (k : Int) < (l.length : Int) := by omega
  have hk0 : (0 : Int) ≤ (k : Int) := by omega
  obtain ⟨ba, oa, hA, hal, hc⟩ := ha k _ hx
  subst hA
  have x0 : w.cell? ⟨ba, oa + k, none⟩ = some (.string x) := by
    have := hc 0 _ rfl
    simpa using this
  have z0 : w.cell? ⟨cb, 0, none⟩ = some (.slice (some ⟨ba, oa, none⟩) l.length cap) := hb.cell 0
  clear ha hb hc hx hlt
  go_enter Try.func30, Try.ntmps30
  go_wp2_with fail
  go_ret
  exact ⟨rfl, Below.refl _ _⟩
set_option maxRecDepth 20000 in
set_option maxHeartbeats 2000000 in
theorem bBuild_calls {w : World} {A : Option Addr} {l : List PartM} (key : ByteArray) (hk : key.size ≤ 1000000) (cap : Nat) (hr : ReadsRows 4 PartM.cells w A l) (hl : MidL l) : Calls Try.prog 10 #[.string key, .slice A l.length cap] w (BuildPost key l w) := by
  have HBK0 := hide (Blk.new w 22 #[.slice A l.length cap])
  have HB0 := hide ((Below.refl w.heap.size w).alloc (Nat.le_refl _) (.cells #[.slice A l.length cap] 22))
  have HR := hide (hr.below HB0.out)
  have HRI := hide (bRight_calls cap HR.out hl)
  have HL := hide hl
  have HLAY := hide (fun w1 (hb : Below w.heap.size w w1) (hbk : Blk w1 w.heap.size 22 #[.slice A l.length cap]) (hS : (partsB (withSums l)).size ≤ 1000000) => laybBuildf_calls (w := w1) (A := A) (R := withSums l) cap w.heap.size (by rw [withSums_fst]; exact hr.below hb) (by rw [withSums_fst]; exact hl) hS (fun k x hx w' hw' => by
    obtain ⟨y, hy, rfl⟩ : ∃ y, l[k]? = some y ∧ (y, digB y.text) = x := by
      unfold withSums at hx
      rw [List.getElem?_map] at hx
      obtain ⟨y, hy, e⟩ := Option.map_eq_some_iff.1 hx
      exact ⟨y, hy, e⟩
    exact bBuildf_calls cap w.heap.size (hbk.below hw' hbk.lt) ((hr.below hb).below hw') hl k y hy))
  obtain ⟨g, hg⟩ : ∃ g, rightM l = g := ⟨_, rfl⟩
  have HG := hide hg
  rw [hg] at HRI
  rw [withSums_len] at HLAY
  clear hr hl hg
  have z0 : (w.alloc (.cells #[.slice A l.length cap] 22)).cell? ⟨w.heap.size, 0, none⟩ = some (.slice A l.length cap) := HBK0.out.cell 0
  go_enter Try.func10, Try.ntmps10
  go_wp2_with fail
  clear z0
  refine HRI.out.mono ?_
  rintro e w1 ⟨rfl, hb1⟩
  have HB1 := hide (HB0.out.trans (hb1.mono HB0.out.size))
  have HBK1 := hide (HBK0.out.below hb1 HBK0.out.lt)
  clear hb1
  cases g
  · have HE : Hid (buildM key l = (⟨#[]⟩, 4)) := hide (by unfold buildM; rw [HG.out]; rfl)
    go_wp2_with fail
    go_ret2
    refine ⟨?_, HB1.out⟩
    rw [HE.out]
    rfl
  · have HE : Hid (buildM key l = (bodyB (withSums l) ++ macB key (bodyB (withSums l)), 0)) := hide (by unfold buildM; rw [HG.out]; rfl)
    have HSB := hide (bodyB_size HG.out)
    have HLY := hide (HLAY.out w1 HB1.out HBK1.out (Nat.le_trans (withSums_size HG.out) (by omega)))
    have HMAC := hide (fun w1 => mOf_macB key (bodyB (withSums l)) (by omega) (by have := HSB.out; omega) w1)
    have HMS := macB_size key (bodyB (withSums l))
    clear HLAY
    generalize bodyB (withSums l) = bd at *
    have HSBI : bd.size ≤ 200100 := HSB.out
    generalize macB key bd = mc at *
    have z0 : w1.cell? ⟨w.heap.size, 0, none⟩ = some (.slice A l.length cap) := HBK1.out.cell 0
    go_wp2_with fail
    refine HLY.out.mono ?_
    rintro e w3 ⟨rfl, hb3⟩
    have HB3 := hide (HB1.out.trans (hb3.mono HB1.out.size))
    clear hb3 HLY z0
    go_wp2_with fail
    refine (HMAC.out _).mono ?_
    rintro e w4 ⟨rfl, hb4⟩
    go_wp2_with fail
    go_ret2
    refine ⟨?_, HB3.out.trans (hb4.mono HB3.out.size)⟩
    rw [HE.out]
    rfl
end Go.Proofs.Ytkipmbnmmbeeaaa
