/- DiskCopies comes to true. -/
import Derived.Test.YtfdikdacknfoeaaDiskY
import Derived.Test.YtfdikdacknfoeaaDiskN
import Derived.Test.YtfdikdacknfoeaaArgs4
namespace Go.Proofs.Ytfdikdacknfoeaa
open Go.RowKit Zb

/-- something that is done to a disk -/
structure DOp where
  kind : Int
  i : Int
  c : Int
  s : ByteArray
  odd : Bool
  mask : Int
def DOp.cells (o : DOp) : List Value := [.int .i64 o.kind, .int .i64 o.i, .int .u8 o.c, .string o.s, .bool o.odd, .int .u64 o.mask]
structure DOp.Ok (o : DOp) : Prop where
  kind : -9223372036854775808 ≤ o.kind ∧ o.kind ≤ 9223372036854775807
  i : -9223372036854775808 ≤ o.i ∧ o.i ≤ 9223372036854775807
  c : 0 ≤ o.c ∧ o.c ≤ 255
  s : o.s.size ≤ maxLen
  mask : 0 ≤ o.mask ∧ o.mask ≤ 18446744073709551615
theorem dop_el {H : Type} {enc : TypeId × Value → H} {w : World} {base : Nat} {spare : Nat → Bool} {held : Bool} (cs : List Value) (n : Nat) (y : DataW H × List MemPlace) (hl : cs.length = 6)
    (h : DataW.trod enc Try.prog w base spare held n 52 cs = some y) : ∃ x : DOp, cs = x.cells ∧ x.Ok := by
  obtain ⟨a0, e0, w0⟩ := field_int Try.underlying52 h 0 _ rfl Try.underlying3 (by kernel_rfl)
  obtain ⟨a1, e1, w1⟩ := field_int Try.underlying52 h 1 _ rfl Try.underlying3 (by kernel_rfl)
  obtain ⟨a2, e2, w2⟩ := field_int Try.underlying52 h 2 _ rfl Try.underlying5 (by kernel_rfl)
  obtain ⟨a3, e3, w3⟩ := field_string Try.underlying52 h 3 _ rfl Try.underlying9 (by kernel_rfl)
  obtain ⟨a4, e4⟩ := field_bool Try.underlying52 h 4 _ rfl Try.underlying4 (by kernel_rfl)
  obtain ⟨a5, e5, w5⟩ := field_int Try.underlying52 h 5 _ rfl Try.underlying23 (by kernel_rfl)
  have b0 := bounds_i64 w0
  have b1 := bounds_i64 w1
  have b2 := bounds_u8 w2
  have b5 := bounds_u64 w5
  refine ⟨⟨a0, a1, a2, a3, a4, a5⟩, ?_, ⟨by dsimp; omega, by dsimp; omega, by dsimp; omega, w3, by dsimp; omega⟩⟩
  match cs, hl with
  | [x0, x1, x2, x3, x4, x5], _ =>
    simp at e0 e1 e2 e3 e4 e5
    rw [e0, e1, e2, e3, e4, e5]
    rfl
theorem dop_cells {w : World} {g : Nat} {x : DOp} (h : Blk w g 52 x.cells.toArray) : w.cell? ⟨g, 0, none⟩ = some (.int .i64 x.kind) ∧ w.cell? ⟨g, 1, none⟩ = some (.int .i64 x.i) ∧ w.cell? ⟨g, 2, none⟩ = some (.int .u8 x.c) := ⟨h.cell 0, h.cell 1, h.cell 2⟩

/-- what the statement's script makes of a disk -/
def copStep (D : DiskM) (x : DOp) : DiskM := if x.kind = 0 then (D.write (countM x.i 16) (fullI x.c)).1 else if x.kind = 1 then D.sync.1 else D
def copRun : List DOp → DiskM → DiskM
  | [], D => D
  | x :: l, D => copRun l (copStep D x)
theorem copRun_snoc : ∀ (l : List DOp) (x : DOp) (D : DiskM), copRun (l ++ [x]) D = copStep (copRun l D) x
  | [], _, _ => rfl
  | y :: l, x, D => copRun_snoc l x (copStep D y)
structure CopOk (n : Nat) (D : DiskM) : Prop where
  off : D.off = false
  pon : D.pon = false
  len : D.lasts.length = 16
  waits : D.waits.length ≤ n
theorem CopOk.step {n : Nat} {D : DiskM} (h : CopOk n D) (x : DOp) : CopOk (n + 1) (copStep D x) := by
  obtain ⟨h1, h2, h3, h4⟩ := h
  have hs : CopOk (n + 1) D := ⟨h1, h2, h3, by omega⟩
  unfold copStep
  split
  · unfold DiskM.write
    split
    · exact hs
    · split
      · exact hs
      · simp only [DiskM.cut, h2, if_true]
        exact ⟨h1, rfl, h3, by simp; omega⟩
  · split
    · unfold DiskM.sync
      split
      · exact hs
      · have hc : D.cut = ({ D with ops := wrap64 (D.ops + 1) }, false) := by simp [DiskM.cut, h2]
        rw [hc]
        simp only [Bool.false_eq_true, if_false]
        exact ⟨h1, h2, by simp only [settleTo_length]; exact h3, by simp⟩
    · exact hs
theorem copRun_ok : ∀ (l : List DOp) (n : Nat) (D : DiskM), CopOk n D → CopOk (n + l.length) (copRun l D)
  | [], n, D, h => h
  | x :: l, n, D, h => by
    have := copRun_ok l (n + 1) _ (h.step x)
    rw [List.length_cons, show n + (l.length + 1) = n + 1 + l.length by omega]
    exact this
theorem copNew : CopOk 0 (DiskM.new 16) := ⟨rfl, rfl, by simp [DiskM.new], by simp [DiskM.new]⟩
def copAt (l : List DOp) (k : Nat) : DiskM := copRun (l.take k) (DiskM.new 16)
theorem copAt_succ (l : List DOp) (k : Nat) (x : DOp) (h : l[k]? = some x) : copAt l (k + 1) = copStep (copAt l k) x := by
  unfold copAt
  rw [List.take_add_one, h]
  exact copRun_snoc _ _ _
theorem copAt_ok (l : List DOp) (k : Nat) : CopOk k (copAt l k) := by
  have := copRun_ok (l.take k) 0 _ copNew
  have h2 : (l.take k).length ≤ k := List.length_take_le _ _
  exact ⟨this.off, this.pon, this.len, by have := this.waits; unfold copAt; omega⟩
theorem DO.ds {B b : Nat} {w0 w : World} {D : DiskM} {G : Nat → Prop} (h : DO B w0 w b D G) : DS B w0 w b D := by
  obtain ⟨F, hF, _, hd⟩ := h.dk
  exact ⟨h.bel, h.le, F, hF, hd⟩
theorem DS.own {B b : Nat} {w0 w : World} {D : DiskM} (h : DS B w0 w b D) (o : Obj) : DO B w0 (w.alloc o) b D (fun x => x = w.heap.size) :=
  (DO.of_ds h).more ((Turned.refl _ _).alloc _) (fun x hx => .inr (by subst hx; simp))
theorem fail_off (D : DiskM) (m : Int) : (D.fail m).off = true := by
  unfold DiskM.fail
  split
  · assumption
  · rfl

theorem cop_read {n : Nat} {D : DiskM} (h : CopOk n D) {i : Int} (h0 : 0 ≤ i) (h1 : i < 16) : (D.read i).2 = 0 := by
  have hw : D.wrong i = 0 := by unfold DiskM.wrong; rw [h.off, h.len]; simp; omega
  rw [DiskM.read, if_pos hw]
theorem cop_waits {n : Nat} {D : DiskM} (h : CopOk n D) (i : Int) (s : ByteArray) : (D.write i s).1.waits.length ≤ D.waits.length + 1 := by
  unfold DiskM.write
  split
  · simp
  · split
    · simp
    · simp [DiskM.cut, h.pon]

set_option maxRecDepth 100000 in
set_option maxHeartbeats 4000000 in
theorem DiskCopies_walk (A : Option Addr) (cap : Nat) (l : List DOp) (kk cc : Int) (w : World) (_ : l.length ≤ 9223372036854775807) (hr : ReadsRows 6 DOp.cells w A l) (hok : ∀ x ∈ l, x.Ok) (wk : (Lit.int .u8 kk).wf = true) (wc : (Lit.int .u8 cc).wf = true) :
    Calls Try.prog 8 #[.slice A l.length cap, .int .u8 kk, .int .u8 cc] w fun e w' => e = .returned (.bool true) ∧ Below w.heap.size w w' := by
  have HR := hide hr
  have HOK := hide hok
  have bk := bounds_u8 wk
  have bc := bounds_u8 wc
  clear hr hok wk wc
  go_enter Try.func8, Try.ntmps8
  go_wp2_with fail
  refine (ds_new (B := w.heap.size) (w0 := w) 16 (by omega) (by omega) (Below.refl _ _) (Nat.le_refl _)).mono ?_
  rintro e w1 ⟨b, rfl, hd1⟩
  go_wp2_with fail
  have HI0 : Hid (DS w.heap.size w w1 b (copAt l 0)) := hd1
  clear hd1
  go_loopw [9] (fun i wr => ∃ k : Nat, k ≤ l.length ∧ k ≤ 30 ∧ i = .int .i64 k ∧ Hid (DS w.heap.size w wr b (copAt l k))) (fun i _ => 30 - (intOf i).toNat)
  case atStart => exact ⟨0, by omega, by omega, rfl, HI0⟩
  case round =>
    clear HI0
    obtain ⟨k, hk, hk30, rfl, hinv⟩ := hrel
    by_cases hlt : k < l.length ∧ k < 30
    · obtain ⟨hlt1, hlt2⟩ := hlt
      obtain ⟨x, hx⟩ : ∃ x, l[k]? = some x := ⟨_, List.getElem?_eq_getElem hlt1⟩
      have HX := hide (HOK.out x (List.mem_of_getElem? hx))
      have HS := hide (copAt_succ l k x hx)
      have HO := hide (copAt_ok l k)
      obtain ⟨bb, off, hA, hblt, hc⟩ := HR.out.kept hinv.out.1 hx
      subst hA
      have x0 : wr.cell? ⟨bb, off + k * 6, none⟩ = some (.int .i64 x.kind) := hc 0 _ rfl
      have x1 : wr.cell? ⟨bb, off + k * 6 + 1, none⟩ = some (.int .i64 x.i) := hc 1 _ rfl
      have x2 : wr.cell? ⟨bb, off + k * 6 + 2, none⟩ = some (.int .u8 x.c) := hc 2 _ rfl
      have x3 : wr.cell? ⟨bb, off + k * 6 + 3, none⟩ = some (.string x.s) := hc 3 _ rfl
      have x4 : wr.cell? ⟨bb, off + k * 6 + 4, none⟩ = some (.bool x.odd) := hc 4 _ rfl
      have x5 : wr.cell? ⟨bb, off + k * 6 + 5, none⟩ = some (.int .u64 x.mask) := hc 5 _ rfl
      have hblk : Hid (Blk (wr.alloc (.cells #[.int .i64 x.kind, .int .i64 x.i, .int .u8 x.c, .string x.s, .bool x.odd, .int .u64 x.mask] 52)) wr.heap.size 52 x.cells.toArray) := hide (Blk.new wr 52 x.cells.toArray)
      have hdo : Hid (DO w.heap.size w (wr.alloc (.cells #[.int .i64 x.kind, .int .i64 x.i, .int .u8 x.c, .string x.s, .bool x.odd, .int .u64 x.mask] 52)) b (copAt l k) (fun y => y = wr.heap.size)) := hide (hinv.out.own (.cells x.cells.toArray 52))
      have hwl : (copAt l k).waits.length ≤ 30 := by have := HO.out.waits; omega
      clear hc hx
      by_cases h0 : x.kind = 0
      · have h0b : (x.kind == 0) = true := by simp [h0]
        have h1b : (x.kind == 1) = false := by simp [h0]
        have HST : Hid (copStep (copAt l k) x = ((copAt l k).write (countM x.i 16) (fullI x.c)).1) := hide (by unfold copStep; rw [if_pos h0])
        clear h0
        go_wp2_with fail
        generalize hWA : wr.alloc (.cells #[.int .i64 x.kind, .int .i64 x.i, .int .u8 x.c, .string x.s, .bool x.odd, .int .u64 x.mask] 52) = WA at *
        generalize hg0 : wr.heap.size = g at *
        clear hWA hg0 x0 x1 x2 x3 x4 x5 hblt
        refine wp_region_heads [0, 1, 2, 4, 5] 3 (fun w' => Blk w' g 52 x.cells.toArray) (by kernel_rfl) rfl (by kernel_rfl) (by kernel_rfl) (fun _ _ d _ _ h => by cases d <;> exact h) hblk.out ?_
        iterate 5
          refine' Heads.step rfl (by rfl) ?_ ?_
          rotate_left
          · intro w' hSw
            obtain ⟨c0, c1, c2⟩ := dop_cells hSw
            go_simp
            try with_reducible rfl
          simp only [Act.put, List.setIfInBounds_toArray, List.set_cons_zero, List.set_cons_succ]
        refine Heads.done ?_
        refine wpAnyH_ready (rs := [3]) (by kernel_rfl) (by simp) (AllReadyH.cons rfl (fun K hK => ?_) AllReadyH.nil)
        go_simp
        refine (wCount_calls x.i 16 (by have := HX.out.i; omega) (by have := HX.out.i; omega) (by omega) (by omega) _).mono ?_
        rintro e w' ⟨rfl, rfl⟩
        refine hK.out _ _ hblk.out (fun hHeld1 => ?_)
        clear hK K
        refine wpAnyH_ready (rs := [6]) (by kernel_rfl) (by simp) (AllReadyH.cons rfl (fun K hK => ?_) AllReadyH.nil)
        go_simp
        refine (lFull_int x.c HX.out.c.1 HX.out.c.2 _).mono ?_
        rintro e w2 ⟨rfl, hb2⟩
        have hd2 := hide (hdo.out.drew.below hb2)
        refine hK.out _ _ (hHeld1.below hb2 hHeld1.lt) (fun hHeld2 => ?_)
        clear hK K
        refine wpAnyH_ready (rs := [7]) (by kernel_rfl) (by simp) (AllReadyH.cons rfl (fun K hK => ?_) AllReadyH.nil)
        go_simp
        refine (do_write hd2 (by omega) _ _).mono ?_
        rintro e w3 ⟨rfl, hd3, hk3⟩
        refine hK.out _ _ (hk3.out.blk hHeld2 rfl) (fun hHeld3 => ?_)
        clear hK K
        refine wpAnyH_done (by kernel_rfl) ?_ _
        have z0 := (dop_cells hHeld3).1
        go_wp2_with fail
        have hs : Hid (DS w.heap.size w w3 b (copAt l (k + 1))) := hide (by rw [HS.out, HST.out]; exact hd3.out.ds)
        clear hd3 hd2 hdo hblk z0 hHeld1 hHeld2 hHeld3
        go_roundw
        case rel => exact ⟨k + 1, by omega, by omega, by go_num, hs⟩
        case measure => simp [intOf]; omega
      · have h0b : (x.kind == 0) = false := by simp [h0]
        by_cases h1 : x.kind = 1
        · have h1b : (x.kind == 1) = true := by simp [h1]
          have HST : Hid (copStep (copAt l k) x = (copAt l k).sync.1) := hide (by unfold copStep; rw [if_neg h0, if_pos h1])
          clear h0 h1
          go_wp2_with fail
          refine (ds_sync (hide hdo.out.ds) (by omega)).mono ?_
          rintro e w3 ⟨rfl, hd3⟩
          go_wp2_with fail
          have hs : Hid (DS w.heap.size w w3 b (copAt l (k + 1))) := hide (by rw [HS.out, HST.out]; exact hd3.out)
          clear hd3 hdo hblk
          go_roundw
          case rel => exact ⟨k + 1, by omega, by omega, by go_num, hs⟩
          case measure => simp [intOf]; omega
        · have h1b : (x.kind == 1) = false := by simp [h1]
          have HST : Hid (copStep (copAt l k) x = copAt l k) := hide (by unfold copStep; rw [if_neg h0, if_neg h1])
          clear h0 h1
          have hs : Hid (DS w.heap.size w (wr.alloc (.cells #[.int .i64 x.kind, .int .i64 x.i, .int .u8 x.c, .string x.s, .bool x.odd, .int .u64 x.mask] 52)) b (copAt l (k + 1))) := hide (by rw [HS.out, HST.out]; exact hdo.out.ds)
          go_wp2_with fail
          go_roundw
          case rel => exact ⟨k + 1, by omega, by omega, by go_num, hs⟩
          case measure => simp [intOf]; omega
    · have HO := hide (copAt_ok l k)
      have hwl : (copAt l k).waits.length ≤ 30 := by have := HO.out.waits; omega
      generalize hD : copAt l k = D at *
      clear hD
      obtain ⟨hbel, hle, F, hF, hd⟩ := hinv.out
      have hd0 := hide hd
      have hF0 := hide hF
      have hbel0 := hide hbel
      have HF2 := hide (fail_off (D.write (kk % 16) (fullI cc)).1 0)
      clear hbel hd hF hinv
      by_cases hlt1 : k < l.length
      all_goals
        go_wp2_with fail
        refine (dcopy_calls hd0.out (by omega)).mono ?_
        rintro e w2 ⟨b2, F2, rfl, hb2, hF2, hf2⟩
        have hB2 := hide hb2
        have HD2 := hide (hd0.out.below hb2)
        have HF2' := hide hF2
        have HC2 := hide hf2
        clear hb2 hF2 hf2
        go_wp2_with fail
        refine (dwaits_calls HC2.out).mono ?_
        rintro e w' ⟨rfl, rfl⟩
        go_wp2_with fail
        refine (dwaits_calls HD2.out).mono ?_
        rintro e w' ⟨rfl, rfl⟩
        go_wp2_with fail
        refine (dops_calls HC2.out).mono ?_
        rintro e w' ⟨rfl, rfl⟩
        go_wp2_with fail
        refine (dops_calls HD2.out).mono ?_
        rintro e w' ⟨rfl, rfl⟩
        go_wp2_with fail
        refine (dread_calls HD2.out (by omega) _).mono ?_
        rintro e w' ⟨rfl, rfl⟩
        have hread : (D.read (kk % 16)).2 = 0 := cop_read HO.out (by omega) (by omega)
        rw [hread]
        have HRD := hide hread
        clear hread
        generalize hy : (D.read (kk % 16)).1 = y
        have HY := hide hy
        clear hy
        go_wp2_with fail
        refine (lFull_int cc bc.1 (by omega) _).mono ?_
        rintro e w3 ⟨rfl, hb3⟩
        have HC3 := hide (HC2.out.below hb3)
        have hB3 := hide (hB2.out.trans (hb3.mono hB2.out.size))
        have hs3 := hide hb3.size
        clear hb3
        go_wp2_with fail
        refine (dwrite_calls HC3.out (by omega) _ _).mono ?_
        rintro e w4 ⟨rfl, tu4, F4, hF4, hd4⟩
        have hB4 := hide (hB3.out.trans (tu4.below hB3.out.size HF2'.out))
        have HF4 : Hid (∀ x, F4 x → wr.heap.size ≤ x) := hide (fun x hx => by rcases hF4 x hx with h | h; exact HF2'.out x h; have := hB3.out.size; omega)
        have HD4 := hide hd4
        have HW4 := hide (cop_waits HO.out (kk % 16) (fullI cc))
        clear tu4 hF4 hd4
        go_wp2_with fail
        refine (dfail_calls HD4.out 0 (by have := HW4.out; omega)).mono ?_
        rintro e w5 ⟨rfl, tu5, F5, hF5, hd5⟩
        have hB5 := hide (hB4.out.trans (tu5.below hB4.out.size HF4.out))
        have HD5 := hide hd5
        have HDD := hide (hd0.out.below hB5.out)
        clear tu5 hF5 hd5
        go_wp2_with fail
        refine (dread_calls HDD.out (by omega) _).mono ?_
        rintro e w' ⟨rfl, rfl⟩
        rw [HRD.out, HY.out]
        go_wp2_with fail
        refine (don_calls HDD.out).mono ?_
        rintro e w' ⟨rfl, rfl⟩
        rw [HO.out.off]
        go_wp2_with fail
        refine (don_calls HD5.out).mono ?_
        rintro e w' ⟨rfl, rfl⟩
        rw [HF2.out]
        go_wp2_with fail
        refine (lknown4_calls _).mono ?_
        rintro e w6 ⟨rfl, hb6⟩
        have HB6 := hide ((hB5.out.mono hbel0.out.size).trans (hb6.mono (Nat.le_trans hbel0.out.size hB5.out.size)))
        clear hb6
        go_wp2_with fail
        go_ret
        exact ⟨rfl, hbel0.out.trans HB6.out⟩
end Go.Proofs.Ytfdikdacknfoeaa
