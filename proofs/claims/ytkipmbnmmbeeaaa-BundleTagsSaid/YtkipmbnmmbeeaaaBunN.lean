/- Chapter 25: known of the laws, walked; a part as an argument's element. -/
import Derived.Test.YtkipmbnmmbeeaaaBunL
import Derived.OpenShut
namespace Go.Proofs.Ytkipmbnmmbeeaaa
open Go.RowKit Zb Go.ChangeShapes Go.WideShapes Go.Deep

set_option maxRecDepth 20000 in
theorem part_el {H : Type} {enc : TypeId × Value → H} {w : World} {base : Nat} {spare : Nat → Bool} {held : Bool} (cs : List Value) (n : Nat) (y : DataW H × List MemPlace) (hl : cs.length = 4)
    (h : DataW.trod enc Try.prog w base spare held n 34 cs = some y) : ∃ x : PartM, cs = x.cells ∧ x.Ok := by
  obtain ⟨a0, e0, w0⟩ := field_string Try.underlying34 h 0 _ rfl Try.underlying9 (by kernel_rfl)
  obtain ⟨a1, e1, w1⟩ := field_int Try.underlying34 h 1 _ rfl Try.underlying3 (by kernel_rfl)
  obtain ⟨a2, e2, w2⟩ := field_string Try.underlying34 h 2 _ rfl Try.underlying9 (by kernel_rfl)
  obtain ⟨a3, e3, w3⟩ := field_string Try.underlying34 h 3 _ rfl Try.underlying9 (by kernel_rfl)
  have b1 := bounds_i64 w1
  refine ⟨⟨a0, a1, a2, a3⟩, ?_, ⟨w0, by dsimp; omega, w2, w3⟩⟩
  match cs, hl with
  | [x0, x1, x2, x3], _ =>
    simp at e0 e1 e2 e3
    rw [e0, e1, e2, e3]
    rfl
set_option maxRecDepth 20000 in
theorem reads_one {w : World} {g : Nat} {x : PartM} (h : Blk w g 34 x.cells.toArray) : ReadsRows 4 PartM.cells w (some ⟨g, 0, none⟩) [x] := by
  intro i y hy
  cases i with
  | zero =>
    simp at hy
    subst hy
    exact ⟨g, 0, rfl, h.lt, fun j u hu => by rw [show 0 + (0 * 4 + j) = j by omega, h.cell j]; simpa using hu⟩
  | succ i => simp at hy
set_option maxRecDepth 20000 in
theorem mid_of {l : List PartM} (h : lightM l = true) (hok : ∀ p ∈ l, p.Ok) : MidL l ∧ l.length ≤ 20 := by
  simp only [lightM, Bool.and_eq_true, decide_eq_true_eq, List.all_eq_true] at h
  refine ⟨⟨by omega, fun p hp => ?_⟩, h.1⟩
  have := h.2 p hp
  simp only [liteP, Bool.and_eq_true, decide_eq_true_eq] at this
  obtain ⟨_, h2, _, _⟩ := hok p hp
  exact ⟨by omega, by omega, by omega, by omega⟩
set_option maxRecDepth 20000 in
theorem mid_kn : MidL [knL] := ⟨by decide, fun p hp => by
  simp only [List.mem_singleton] at hp
  subst hp
  exact ⟨by decide, by decide, by decide, by decide⟩⟩
/-- Parse's answer, in a form that a walk can go on with -/
abbrev PPost (w : World) (c : Int) (l : List PartM) (e : Ending) (w' : World) : Prop := ∃ A cap, e = .returned (.tuple #[.slice A l.length cap, .int .i64 c]) ∧ ReadsRows 4 PartM.cells w' A l ∧ Below w.heap.size w w'
set_option maxRecDepth 20000 in
theorem parse_post {P : Program} {key s : ByteArray} {c : Int} {l : List PartM} (h : parseM key s = (l, c)) {f : FuncId} {args : Array Value} {w : World} (hc : Calls P f args w (ParsePost key s w)) : Calls P f args w (PPost w c l) := by
  refine hc.mono ?_
  rintro e w' ⟨v, rfl, ho⟩
  rw [h] at ho ⊢
  obtain ⟨A, cap, rfl, _, hr⟩ := row_reads pcells_len ho.row
  exact ⟨A, cap, rfl, hr, ho.bel⟩
set_option maxRecDepth 20000 in
theorem build_post {P : Program} {key s : ByteArray} {c : Int} {l : List PartM} (h : buildM key l = (s, c)) {f : FuncId} {args : Array Value} {w : World} (hc : Calls P f args w (BuildPost key l w)) : Calls P f args w fun e w' => e = .returned (.tuple #[.string s, .int .i64 c]) ∧ Below w.heap.size w w' := by
  refine hc.mono ?_
  rintro e w' ⟨rfl, hb⟩
  rw [h]
  exact ⟨rfl, hb⟩
set_option maxRecDepth 100000 in
set_option maxHeartbeats 4000000 in
theorem lknown25_calls (w : World) : Calls Try.prog 9 #[] w fun e w' => e = .returned (.bool true) ∧ Below w.heap.size w w' := by
  obtain ⟨S, hS⟩ : ∃ S, (buildM ⟨#[107]⟩ [knL]).1 = S := ⟨_, rfl⟩
  have hbs : buildM ⟨#[107]⟩ [knL] = (S, 0) := by rw [← hS, build_yes kn_right]
  have h94 : S.size = 94 := by rw [← hS]; exact kn_size
  have hp1 : parseM ⟨#[107]⟩ S = ([knL], 0) := by rw [← hS]; exact parse_build kn_right _
  have hp2 : parseM ⟨#[111, 116, 104, 101, 114]⟩ S = ([], 17) := by rw [← hS]; exact kn_tag
  have HCB := hide (fun w A cap (h : ReadsRows 4 PartM.cells w A [knL]) => build_post hbs (bBuild_calls ⟨#[107]⟩ (by decide) cap h mid_kn))
  have HCN := hide (fun w => build_post kn_nil (bBuild_calls (w := w) (A := none) (l := []) ⟨#[107]⟩ (by decide) 0 (fun i x hx => by simp at hx) ⟨by decide, fun p hp => by simp at hp⟩))
  have HC1 := hide (fun w => parse_post hp1 (bParse_calls ⟨#[107]⟩ S (by decide) (by omega) w))
  have HC2 := hide (fun w => parse_post hp2 (bParse_calls ⟨#[111, 116, 104, 101, 114]⟩ S (by decide) (by omega) w))
  have HC3 := hide (fun w => parse_post kn_short (bParse_calls ⟨#[107]⟩ ⟨#[115, 104, 111, 114, 116]⟩ (by decide) (by decide) w))
  have HCS := hide (fun w A B cap cap' (ha : ReadsRows 4 PartM.cells w A [knL]) (hb : ReadsRows 4 PartM.cells w B [knL]) => rbSame_calls cap cap' ha hb (by decide))
  have HCR := hide (fun w A cap (ha : ReadsRows 4 PartM.cells w A [knL]) => bRight_calls cap ha mid_kn)
  have hd : decide ([knL] = [knL]) = true := by simp
  rw [hd] at HCS
  rw [kn_right] at HCR
  have hsI : (S.size : Int) = 94 := by omega
  have HR0 := hide (reads_one (Blk.new w 34 knL.cells.toArray))
  have HB0 : Hid (Below w.heap.size w (w.alloc (.cells knL.cells.toArray 34))) := hide ((Below.refl w.heap.size w).alloc (Nat.le_refl _) _)
  clear hS hbs hp1 hp2 h94 hd
  go_enter Try.func9, Try.ntmps9
  go_wp2_with fail
  change Calls Try.prog 10 #[.string ⟨#[107]⟩, .slice (some ⟨w.heap.size, 0, none⟩) 1 1] (w.alloc (.cells knL.cells.toArray 34)) _
  generalize (w.alloc (.cells knL.cells.toArray 34)) = w0 at *
  have HR_0 := HR0
  clear HR0
  refine (HCB.out _ _ 1 HR_0.out).mono ?_
  rintro e w1 ⟨rfl, hb1⟩
  have HR_1 := hide (HR_0.out.below hb1)
  have HB1 := hide (HB0.out.trans (hb1.mono HB0.out.size))
  clear hb1 HR_0
  go_wp2_with fail
  refine (HC1.out _).mono ?_
  rintro e w2 ⟨A2, c2, rfl, hx2, hb2⟩
  have HR_2 := hide (HR_1.out.below hb2)
  have HB2 := hide (HB1.out.trans (hb2.mono HB1.out.size))
  clear hb2 HR_1
  have HX_2 := hide hx2
  clear hx2
  go_wp2_with fail
  refine (HC2.out _).mono ?_
  rintro e w3 ⟨A3, c3, rfl, _, hb3⟩
  have HR_3 := hide (HR_2.out.below hb3)
  have HX_3 := hide (HX_2.out.below hb3)
  have HB3 := hide (HB2.out.trans (hb3.mono HB2.out.size))
  clear hb3 HR_2 HX_2
  go_wp2_with fail
  refine (HC3.out _).mono ?_
  rintro e w4 ⟨A4, c4, rfl, _, hb4⟩
  have HR_4 := hide (HR_3.out.below hb4)
  have HX_4 := hide (HX_3.out.below hb4)
  have HB4 := hide (HB3.out.trans (hb4.mono HB3.out.size))
  clear hb4 HR_3 HX_3
  go_wp2_with fail
  refine (HCN.out _).mono ?_
  rintro e w5 ⟨rfl, hb5⟩
  have HR_5 := hide (HR_4.out.below hb5)
  have HX_5 := hide (HX_4.out.below hb5)
  have HB5 := hide (HB4.out.trans (hb5.mono HB4.out.size))
  clear hb5 HR_4 HX_4
  go_wp2_with fail
  refine (HCS.out _ _ _ c2 1 HX_5.out HR_5.out).mono ?_
  rintro e w6 ⟨rfl, hb6⟩
  have HR_6 := hide (HR_5.out.below hb6)
  have HB6 := hide (HB5.out.trans (hb6.mono HB5.out.size))
  clear hb6 HR_5
  go_wp2_with fail
  refine (HCR.out _ _ 1 HR_6.out).mono ?_
  rintro e w7 ⟨rfl, hb7⟩
  have HB7 := hide (HB6.out.trans (hb7.mono HB6.out.size))
  clear hb7 
  go_wp2_with fail
  go_ret
  exact ⟨rfl, HB7.out⟩
end Go.Proofs.Ytkipmbnmmbeeaaa
