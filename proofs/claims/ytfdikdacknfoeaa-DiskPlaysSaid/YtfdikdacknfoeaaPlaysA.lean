/- DiskPlays: one thing done to both disks. -/
import Derived.Test.YtfdikdacknfoeaaRDiskE
import Derived.Test.YtfdikdacknfoeaaCopies
namespace Go.Proofs.Ytfdikdacknfoeaa
open Go.RowKit Zb

/-- The program's disk D and the document's R, in blocks of their own; the blocks K are a third's. -/
structure PD (w0 w : World) (b rb : Nat) (D R : DiskM) (K : Nat → Prop) : Prop where
  bel : Below w0.heap.size w0 w
  own : ∀ x, K x → w0.heap.size ≤ x ∧ x < w.heap.size
  dk : ∃ F G, (∀ x, F x → w0.heap.size ≤ x ∧ ¬ K x) ∧ (∀ x, G x → w0.heap.size ≤ x ∧ ¬ K x ∧ ¬ F x) ∧ DiskAt w b F D ∧ RAt w rb G R
def PDPost (w0 w : World) (b rb : Nat) (D' R' : DiskM) (K : Nat → Prop) (v : Value) (e : Ending) (w' : World) : Prop := e = .returned v ∧ Hid (PD w0 w' b rb D' R' K) ∧ Hid (Keeps K w w')
section
variable {w0 w w' : World} {b rb : Nat} {D R D' R' : DiskM} {K : Nat → Prop}
theorem PD.below (h : PD w0 w b rb D R K) (k : Below w.heap.size w w') : PD w0 w' b rb D R K := by
  obtain ⟨F, G, hF, hG, hd, hr⟩ := h.dk
  exact ⟨h.bel.trans (k.mono h.bel.size), fun x hx => ⟨(h.own x hx).1, Nat.lt_of_lt_of_le (h.own x hx).2 k.size⟩, F, G, hF, hG, hd.below k, hr.below k⟩
theorem PD.drew (h : PD w0 w b rb D R K) : PD w0 w.drew b rb D R K := h.below ⟨rfl, rfl, rfl, Nat.le_refl _, fun _ _ => rfl⟩
theorem PD.more (h : PD w0 w b rb D R (fun _ => False)) (o : Obj) : PD w0 (w.alloc o) b rb D R (fun y => y = w.heap.size) := by
  obtain ⟨F, G, hF, hG, hd, hr⟩ := h.dk
  have hb := h.bel.size
  exact ⟨h.bel.alloc hb o, fun x hx => by subst hx; exact ⟨hb, by simp⟩, F, G, fun x hx => ⟨(hF x hx).1, fun e => by have := hd.lt x hx; omega⟩, fun x hx => ⟨(hG x hx).1, fun e => by have := hr.lt x hx; omega, (hG x hx).2.2⟩, hd.alloc o, hr.below ((Below.refl _ _).alloc (Nat.le_refl _) _)⟩
theorem PD.less (h : PD w0 w b rb D R K) : PD w0 w b rb D R (fun _ => False) := by
  obtain ⟨F, G, hF, hG, hd, hr⟩ := h.dk
  exact ⟨h.bel, fun _ h => h.elim, F, G, fun x hx => ⟨(hF x hx).1, fun h => h⟩, fun x hx => ⟨(hG x hx).1, fun h => h, (hG x hx).2.2⟩, hd, hr⟩
theorem PD.d {f : FuncId} {args : Array Value} {v : Value} (h : PD w0 w b rb D R K) (hc : ∀ F, DiskAt w b F D → Calls Try.prog f args w (DPost F w b v D')) : Calls Try.prog f args w (PDPost w0 w b rb D' R K v) := by
  obtain ⟨F, G, hF, hG, hd, hr⟩ := h.dk
  refine (hc F hd).mono ?_
  rintro e w1 ⟨rfl, tu, F', hF', hd'⟩
  have hs := h.bel.size
  refine ⟨rfl, hide ⟨h.bel.trans (tu.below hs (fun x hx => (hF x hx).1)), fun x hx => ⟨(h.own x hx).1, Nat.lt_of_lt_of_le (h.own x hx).2 tu.size⟩, F', G, fun x hx => ?_, fun x hx => ⟨(hG x hx).1, (hG x hx).2.1, fun hx' => ?_⟩, hd', hr.turned tu (fun x hx => (hG x hx).2.2)⟩, hide fun x hx => tu.block x (h.own x hx).2 (fun hf => (hF x hf).2 hx)⟩
  · rcases hF' x hx with h1 | h1
    · exact hF x h1
    · exact ⟨by omega, fun hk => by have := (h.own x hk).2; omega⟩
  · rcases hF' x hx' with h1 | h1
    · exact (hG x hx).2.2 h1
    · have := hr.lt x hx; omega
theorem PD.r {f : FuncId} {args : Array Value} {v : Value} (h : PD w0 w b rb D R K) (hc : ∀ G, RAt w rb G R → Calls Try.prog f args w (RPost G w rb v R')) : Calls Try.prog f args w (PDPost w0 w b rb D R' K v) := by
  obtain ⟨F, G, hF, hG, hd, hr⟩ := h.dk
  refine (hc G hr).mono ?_
  rintro e w1 ⟨rfl, tu, G', hG', hr'⟩
  have hs := h.bel.size
  refine ⟨rfl, hide ⟨h.bel.trans (tu.below hs (fun x hx => (hG x hx).1)), fun x hx => ⟨(h.own x hx).1, Nat.lt_of_lt_of_le (h.own x hx).2 tu.size⟩, F, G', hF, fun x hx => ?_, hd.turned tu (fun x hx hg => (hG x hg).2.2 hx), hr'⟩, hide fun x hx => tu.block x (h.own x hx).2 (fun hg => (hG x hg).2.1 hx)⟩
  rcases hG' x hx with h1 | h1
  · exact hG x h1
  · exact ⟨by omega, fun hk => by have := (h.own x hk).2; omega, fun hf => by have := hd.lt x hf; omega⟩
end

theorem below_alloc_l {w w1 : World} {o : Obj} (h : Below (w.alloc o).heap.size (w.alloc o) w1) : Below w.heap.size w w1 := ((Below.refl _ _).alloc (Nat.le_refl _) _).trans (h.mono (by simp))
def whatB (x : DOp) : ByteArray := if x.odd then x.s else fullI x.c
theorem lwhat_calls (x : DOp) (hx : x.Ok) (w : World) : Calls Try.prog 33 #[.agg #[.int .i64 x.kind, .int .i64 x.i, .int .u8 x.c, .string x.s, .bool x.odd, .int .u64 x.mask]] w fun e w' => e = .returned (.string (whatB x)) ∧ Below w.heap.size w w' := by
  have HC := hide hx.c
  have HB := hide ((Below.refl w.heap.size w).alloc (Nat.le_refl _) (.cells #[.int .i64 x.kind, .int .i64 x.i, .int .u8 x.c, .string x.s, .bool x.odd, .int .u64 x.mask] 52))
  clear hx
  cases ho : x.odd
  · have E : Hid (whatB x = fullI x.c) := hide (by unfold whatB; rw [ho]; rfl)
    clear ho
    go_enter Try.func33, Try.ntmps33
    go_wp2_with fail
    refine (lFull_int x.c HC.out.1 HC.out.2 _).mono ?_
    rintro e w2 ⟨rfl, hb2⟩
    have HB2 := hide hb2
    clear hb2
    go_wp2_with fail
    go_ret
    rw [E.out]
    exact ⟨rfl, (below_alloc_l HB2.out)⟩
  · have E : Hid (whatB x = x.s) := hide (by unfold whatB; rw [ho]; rfl)
    clear ho
    go_enter Try.func33, Try.ntmps33
    go_wp2_with fail
    go_ret
    rw [E.out]
    exact ⟨rfl, (Below.refl _ _).alloc (Nat.le_refl _) _⟩
theorem dop_all {w : World} {g : Nat} {x : DOp} (h : Blk w g 52 x.cells.toArray) : w.cell? ⟨g, 0, none⟩ = some (.int .i64 x.kind) ∧ w.cell? ⟨g, 1, none⟩ = some (.int .i64 x.i) ∧ w.cell? ⟨g, 2, none⟩ = some (.int .u8 x.c) ∧ w.cell? ⟨g, 3, none⟩ = some (.string x.s) ∧ w.cell? ⟨g, 4, none⟩ = some (.bool x.odd) ∧ w.cell? ⟨g, 5, none⟩ = some (.int .u64 x.mask) :=
  ⟨h.cell 0, h.cell 1, h.cell 2, h.cell 3, h.cell 4, h.cell 5⟩

theorem play_waits (D : DiskM) (i : Int) (s : ByteArray) : (D.write i s).1.waits.length ≤ D.waits.length + 1 := by
  unfold DiskM.write
  split
  · simp
  · split
    · simp
    · unfold DiskM.cut
      split
      · simp
      · split
        · simp
        · unfold DiskM.fail
          split <;> simp
theorem sync_waits (D : DiskM) : D.sync.1.waits.length ≤ D.waits.length := by
  have hc : D.cut.1.waits.length ≤ D.waits.length := by
    unfold DiskM.cut
    split
    · exact Nat.le_refl _
    · split
      · exact Nat.le_refl _
      · unfold DiskM.fail
        split
        · exact Nat.le_refl _
        · simp
  unfold DiskM.sync
  split
  · exact Nat.le_refl _
  · split
    · exact hc
    · simp
/-- the copy takes the disk's place, which is left behind -/
theorem pd_copied {w0 w w2 w3 w4 w5 w6 : World} {b b2 rb : Nat} {F G F2 F4 F5 : Nat → Prop} {D : DiskM} {K : Nat → Prop} (hb : Below w0.heap.size w0 w) (hF : ∀ x, F x → w0.heap.size ≤ x ∧ ¬ K x) (hG : ∀ x, G x → w0.heap.size ≤ x ∧ ¬ K x ∧ ¬ F x)
    (hd : DiskAt w b F D) (hr : RAt w rb G D) (hb2 : Below w.heap.size w w2) (hF2 : ∀ x, F2 x → w.heap.size ≤ x) (hc : DiskAt w2 b2 F2 D) (hb3 : Below w2.heap.size w2 w3)
    (t4 : Turned F w3 w4) (hF4 : ∀ x, F4 x → F x ∨ w3.heap.size ≤ x) (t5 : Turned F4 w4 w5) (hF5 : ∀ x, F5 x → F4 x ∨ w4.heap.size ≤ x) (t6 : Turned F5 w5 w6) : PD w0 w6 b2 rb D D (fun _ => False) := by
  have s2 := hb2.size
  have s3 := hb3.size
  have s4 := t4.size
  have s5 := t5.size
  have s0 := hb.size
  have tt : Turned F w3 w6 := (t4.trans t5 hF4).trans t6 (fun x hx => by
    rcases hF5 x hx with h | h
    · exact hF4 x h
    · exact .inr (by omega))
  have hc3 := hc.below hb3
  refine ⟨(hb.trans ((hb2.trans (hb3.mono s2)).mono s0)).trans (tt.below (by omega) (fun x hx => (hF x hx).1)), fun _ h => h.elim, F2, G, fun x hx => ⟨by have := hF2 x hx; omega, fun h => h⟩, fun x hx => ⟨(hG x hx).1, fun h => h, fun h2 => ?_⟩, hc3.turned tt (fun x hx hf => ?_), ((hr.below hb2).below hb3).turned tt (fun x hx => (hG x hx).2.2)⟩
  · have := hF2 x h2
    have := hr.lt x hx
    omega
  · have := hF2 x hx
    have := hd.lt x hf
    omega
/-- what one thing makes of a disk -/
def playStep (D : DiskM) (x : DOp) : DiskM :=
  if x.kind = 0 then (D.write x.i (whatB x)).1 else if x.kind = 1 then D.sync.1 else if x.kind = 2 then D else if x.kind = 3 then (D.plan x.i x.mask).1 else if x.kind = 4 then D.fail x.mask else if x.kind = 5 then D.start else D
def PlayPost (w0 : World) (rb : Nat) (D' : DiskM) (e : Ending) (w' : World) : Prop := ∃ b, e = .returned (.tuple #[.pointer (some ⟨b, 0, none⟩), .bool true]) ∧ Hid (PD w0 w' b rb D' D' (fun _ => False))

set_option maxRecDepth 100000 in
set_option maxHeartbeats 2000000 in
theorem ldoes_0 {w0 w : World} {b rb : Nat} {D : DiskM} (x : DOp) (hx : Hid x.Ok) (h : Hid (PD w0 w b rb D D (fun _ => False)))  (hW : D.waits.length ≤ 4294967290) (hk : x.kind = 0) :
    Calls Try.prog 22 #[.pointer (some ⟨b, 0, none⟩), .pointer (some ⟨rb, 0, none⟩), .agg x.cells.toArray] w (PlayPost w0 rb (playStep D x)) := by
  have HX := hx
  have hblk : Hid (Blk (w.alloc (.cells #[.int .i64 x.kind, .int .i64 x.i, .int .u8 x.c, .string x.s, .bool x.odd, .int .u64 x.mask] 52)) w.heap.size 52 x.cells.toArray) := hide (Blk.new w 52 x.cells.toArray)
  have P1 : Hid (PD w0 (w.alloc (.cells #[.int .i64 x.kind, .int .i64 x.i, .int .u8 x.c, .string x.s, .bool x.odd, .int .u64 x.mask] 52)) b rb D D (fun y => y = w.heap.size)) := hide (h.out.more (.cells #[.int .i64 x.kind, .int .i64 x.i, .int .u8 x.c, .string x.s, .bool x.odd, .int .u64 x.mask] 52))
  have q0 : (x.kind == 0) = true := by simp [hk]
  have q1 : (x.kind == 1) = false := by simp [hk]
  have q2 : (x.kind == 2) = false := by simp [hk]
  have q3 : (x.kind == 3) = false := by simp [hk]
  have q4 : (x.kind == 4) = false := by simp [hk]
  have q5 : (x.kind == 5) = false := by simp [hk]
  have HS : Hid (playStep D x = (D.write x.i (whatB x)).1) := hide (by unfold playStep; rw [if_pos hk])
  clear hk
  show Calls Try.prog 22 #[.pointer (some ⟨b, 0, none⟩), .pointer (some ⟨rb, 0, none⟩), .agg #[.int .i64 x.kind, .int .i64 x.i, .int .u8 x.c, .string x.s, .bool x.odd, .int .u64 x.mask]] w (PlayPost w0 rb (playStep D x))
  go_enter Try.func22, Try.ntmps22
  go_wp2_with fail
  generalize hWA : w.alloc (.cells #[.int .i64 x.kind, .int .i64 x.i, .int .u8 x.c, .string x.s, .bool x.odd, .int .u64 x.mask] 52) = WA at *
  generalize hg0 : w.heap.size = g at *
  clear hWA hg0
  refine wp_region_heads [0, 1, 2, 3, 4, 7, 8, 9, 10] 7 (fun w' => Blk w' g 52 x.cells.toArray) (by kernel_rfl) rfl (by kernel_rfl) (by kernel_rfl) (fun _ _ d _ _ h => by cases d <;> exact h) hblk.out ?_
  iterate 9
    refine' Heads.step rfl (by rfl) ?_ ?_
    rotate_left
    · intro w' hSw
      obtain ⟨c0, c1, c2, c3, c4, c5⟩ := dop_all hSw
      go_simp
      try with_reducible rfl
    simp only [Act.put, List.setIfInBounds_toArray, List.set_cons_zero, List.set_cons_succ]
  refine Heads.done ?_
  refine wpAnyH_ready (rs := [5]) (by kernel_rfl) (by simp) (AllReadyH.cons rfl (fun K hK => ?_) AllReadyH.nil)
  go_simp
  refine (lwhat_calls x HX.out _).mono ?_
  rintro e w2 ⟨rfl, hb2⟩
  have P2 := hide (P1.out.drew.below hb2)
  refine hK.out _ _ (Blk.below (w := WA.drew) hblk.out hb2 (Blk.lt hblk.out)) (fun hHeld1 => ?_)
  clear hK K
  refine wpAnyH_ready (rs := [6]) (by kernel_rfl) (by simp) (AllReadyH.cons rfl (fun K hK => ?_) AllReadyH.nil)
  go_simp
  refine (P2.out.d (fun F hF => dwrite_calls hF hW x.i (whatB x))).mono ?_
  rintro e w3 ⟨rfl, P3, hk3⟩
  refine hK.out _ _ (hk3.out.blk hHeld1 rfl) (fun hHeld2 => ?_)
  clear hK K
  refine wpAnyH_ready (rs := [11]) (by kernel_rfl) (by simp) (AllReadyH.cons rfl (fun K hK => ?_) AllReadyH.nil)
  go_simp
  refine (lwhat_calls x HX.out _).mono ?_
  rintro e w4 ⟨rfl, hb4⟩
  have P4 := hide (P3.out.below hb4)
  refine hK.out _ _ (hHeld2.below hb4 hHeld2.lt) (fun hHeld3 => ?_)
  clear hK K
  refine wpAnyH_ready (rs := [12]) (by kernel_rfl) (by simp) (AllReadyH.cons rfl (fun K hK => ?_) AllReadyH.nil)
  go_simp
  refine (P4.out.r (fun G hG => rdwrite_calls hG hW x.i (whatB x))).mono ?_
  rintro e w5 ⟨rfl, P5, hk5⟩
  refine hK.out _ _ (hk5.out.blk hHeld3 rfl) (fun hHeld4 => ?_)
  clear hK K
  refine wpAnyH_more [13, 14, 15] 0 rfl (by kernel_rfl) (by kernel_rfl) (fun _ _ d _ _ h => by cases d <;> exact h) hHeld4 ?_
  iterate 3
    refine' Heads.step rfl (by rfl) ?_ ?_
    rotate_left
    · intro w' hSw
      obtain ⟨c0, c1, c2, c3, c4, c5⟩ := dop_all hSw
      go_simp
      try with_reducible rfl
    simp only [Act.put, List.setIfInBounds_toArray, List.set_cons_zero, List.set_cons_succ]
  refine Heads.done ?_
  refine wpAnyH_done (by kernel_rfl) ?_ _
  go_wp2_with fail
  go_ret2
  rw [HS.out]
  exact ⟨b, rfl, hide P5.out.less⟩
set_option maxRecDepth 100000 in
set_option maxHeartbeats 2000000 in
theorem ldoes_1 {w0 w : World} {b rb : Nat} {D : DiskM} (x : DOp) (hx : Hid x.Ok) (h : Hid (PD w0 w b rb D D (fun _ => False)))  (hW : D.waits.length ≤ 4294967290) (hk : x.kind = 1) :
    Calls Try.prog 22 #[.pointer (some ⟨b, 0, none⟩), .pointer (some ⟨rb, 0, none⟩), .agg x.cells.toArray] w (PlayPost w0 rb (playStep D x)) := by
  have HX := hx
  have hblk : Hid (Blk (w.alloc (.cells #[.int .i64 x.kind, .int .i64 x.i, .int .u8 x.c, .string x.s, .bool x.odd, .int .u64 x.mask] 52)) w.heap.size 52 x.cells.toArray) := hide (Blk.new w 52 x.cells.toArray)
  have P1 : Hid (PD w0 (w.alloc (.cells #[.int .i64 x.kind, .int .i64 x.i, .int .u8 x.c, .string x.s, .bool x.odd, .int .u64 x.mask] 52)) b rb D D (fun y => y = w.heap.size)) := hide (h.out.more (.cells #[.int .i64 x.kind, .int .i64 x.i, .int .u8 x.c, .string x.s, .bool x.odd, .int .u64 x.mask] 52))
  have q0 : (x.kind == 0) = false := by simp [hk]
  have q1 : (x.kind == 1) = true := by simp [hk]
  have q2 : (x.kind == 2) = false := by simp [hk]
  have q3 : (x.kind == 3) = false := by simp [hk]
  have q4 : (x.kind == 4) = false := by simp [hk]
  have q5 : (x.kind == 5) = false := by simp [hk]
  have HS : Hid (playStep D x = D.sync.1) := hide (by unfold playStep; rw [if_neg (by omega), if_pos hk])
  clear hk
  show Calls Try.prog 22 #[.pointer (some ⟨b, 0, none⟩), .pointer (some ⟨rb, 0, none⟩), .agg #[.int .i64 x.kind, .int .i64 x.i, .int .u8 x.c, .string x.s, .bool x.odd, .int .u64 x.mask]] w (PlayPost w0 rb (playStep D x))
  go_enter Try.func22, Try.ntmps22
  go_wp2_with fail
  refine (P1.out.d (fun F hF => dsync_calls hF hW)).mono ?_
  rintro e w3 ⟨rfl, P3, _⟩
  go_wp2_with fail
  refine (P3.out.r (fun G hG => rdsync_calls hG hW)).mono ?_
  rintro e w5 ⟨rfl, P5, _⟩
  go_wp2_with fail
  go_ret2
  rw [HS.out]
  exact ⟨b, rfl, hide P5.out.less⟩
set_option maxRecDepth 100000 in
set_option maxHeartbeats 2000000 in
theorem ldoes_3 {w0 w : World} {b rb : Nat} {D : DiskM} (x : DOp) (hx : Hid x.Ok) (h : Hid (PD w0 w b rb D D (fun _ => False)))  (hk : x.kind = 3) :
    Calls Try.prog 22 #[.pointer (some ⟨b, 0, none⟩), .pointer (some ⟨rb, 0, none⟩), .agg x.cells.toArray] w (PlayPost w0 rb (playStep D x)) := by
  have HX := hx
  have hblk : Hid (Blk (w.alloc (.cells #[.int .i64 x.kind, .int .i64 x.i, .int .u8 x.c, .string x.s, .bool x.odd, .int .u64 x.mask] 52)) w.heap.size 52 x.cells.toArray) := hide (Blk.new w 52 x.cells.toArray)
  have P1 : Hid (PD w0 (w.alloc (.cells #[.int .i64 x.kind, .int .i64 x.i, .int .u8 x.c, .string x.s, .bool x.odd, .int .u64 x.mask] 52)) b rb D D (fun y => y = w.heap.size)) := hide (h.out.more (.cells #[.int .i64 x.kind, .int .i64 x.i, .int .u8 x.c, .string x.s, .bool x.odd, .int .u64 x.mask] 52))
  have q0 : (x.kind == 0) = false := by simp [hk]
  have q1 : (x.kind == 1) = false := by simp [hk]
  have q2 : (x.kind == 2) = false := by simp [hk]
  have q3 : (x.kind == 3) = true := by simp [hk]
  have q4 : (x.kind == 4) = false := by simp [hk]
  have q5 : (x.kind == 5) = false := by simp [hk]
  have HS : Hid (playStep D x = (D.plan x.i x.mask).1) := hide (by unfold playStep; rw [if_neg (by omega), if_neg (by omega), if_neg (by omega), if_pos hk])
  clear hk
  show Calls Try.prog 22 #[.pointer (some ⟨b, 0, none⟩), .pointer (some ⟨rb, 0, none⟩), .agg #[.int .i64 x.kind, .int .i64 x.i, .int .u8 x.c, .string x.s, .bool x.odd, .int .u64 x.mask]] w (PlayPost w0 rb (playStep D x))
  go_enter Try.func22, Try.ntmps22
  go_wp2_with fail
  generalize hWA : w.alloc (.cells #[.int .i64 x.kind, .int .i64 x.i, .int .u8 x.c, .string x.s, .bool x.odd, .int .u64 x.mask] 52) = WA at *
  generalize hg0 : w.heap.size = g at *
  clear hWA hg0
  have P1d := hide P1.out.drew
  refine wp_region_heads [0, 1, 2, 3, 4, 5, 7, 8, 9, 10, 11] 5 (fun w' => Blk w' g 52 x.cells.toArray) (by kernel_rfl) rfl (by kernel_rfl) (by kernel_rfl) (fun _ _ d _ _ h => by cases d <;> exact h) hblk.out ?_
  iterate 11
    refine' Heads.step rfl (by rfl) ?_ ?_
    rotate_left
    · intro w' hSw
      obtain ⟨c0, c1, c2, c3, c4, c5⟩ := dop_all hSw
      go_simp
      try with_reducible rfl
    simp only [Act.put, List.setIfInBounds_toArray, List.set_cons_zero, List.set_cons_succ]
  refine Heads.done ?_
  refine wpAnyH_ready (rs := [6]) (by kernel_rfl) (by simp) (AllReadyH.cons rfl (fun K hK => ?_) AllReadyH.nil)
  go_simp
  refine (P1d.out.d (fun F hF => dplan_calls hF x.i x.mask)).mono ?_
  rintro e w3 ⟨rfl, P3, hk3⟩
  refine hK.out _ _ (hk3.out.blk hblk.out rfl) (fun hHeld1 => ?_)
  clear hK K
  refine wpAnyH_ready (rs := [12]) (by kernel_rfl) (by simp) (AllReadyH.cons rfl (fun K hK => ?_) AllReadyH.nil)
  go_simp
  refine (P3.out.r (fun G hG => rdplan_calls hG x.i x.mask HX.out.mask)).mono ?_
  rintro e w5 ⟨rfl, P5, hk5⟩
  refine hK.out _ _ (hk5.out.blk hHeld1 rfl) (fun hHeld2 => ?_)
  clear hK K
  refine wpAnyH_more [13, 14, 15] 0 rfl (by kernel_rfl) (by kernel_rfl) (fun _ _ d _ _ h => by cases d <;> exact h) hHeld2 ?_
  iterate 3
    refine' Heads.step rfl (by rfl) ?_ ?_
    rotate_left
    · intro w' hSw
      obtain ⟨c0, c1, c2, c3, c4, c5⟩ := dop_all hSw
      go_simp
      try with_reducible rfl
    simp only [Act.put, List.setIfInBounds_toArray, List.set_cons_zero, List.set_cons_succ]
  refine Heads.done ?_
  refine wpAnyH_done (by kernel_rfl) ?_ _
  go_wp2_with fail
  go_ret2
  rw [HS.out]
  exact ⟨b, rfl, hide P5.out.less⟩
set_option maxRecDepth 100000 in
set_option maxHeartbeats 2000000 in
theorem ldoes_2 {w0 w : World} {b rb : Nat} {D : DiskM} (x : DOp) (hx : Hid x.Ok) (h : Hid (PD w0 w b rb D D (fun _ => False)))  (hW : D.waits.length ≤ 4294967290) (hk : x.kind = 2) :
    Calls Try.prog 22 #[.pointer (some ⟨b, 0, none⟩), .pointer (some ⟨rb, 0, none⟩), .agg x.cells.toArray] w (PlayPost w0 rb (playStep D x)) := by
  have HX := hx
  have hblk : Hid (Blk (w.alloc (.cells #[.int .i64 x.kind, .int .i64 x.i, .int .u8 x.c, .string x.s, .bool x.odd, .int .u64 x.mask] 52)) w.heap.size 52 x.cells.toArray) := hide (Blk.new w 52 x.cells.toArray)
  have P1 : Hid (PD w0 (w.alloc (.cells #[.int .i64 x.kind, .int .i64 x.i, .int .u8 x.c, .string x.s, .bool x.odd, .int .u64 x.mask] 52)) b rb D D (fun y => y = w.heap.size)) := hide (h.out.more (.cells #[.int .i64 x.kind, .int .i64 x.i, .int .u8 x.c, .string x.s, .bool x.odd, .int .u64 x.mask] 52))
  have q0 : (x.kind == 0) = false := by simp [hk]
  have q1 : (x.kind == 1) = false := by simp [hk]
  have q2 : (x.kind == 2) = true := by simp [hk]
  have q3 : (x.kind == 3) = false := by simp [hk]
  have q4 : (x.kind == 4) = false := by simp [hk]
  have q5 : (x.kind == 5) = false := by simp [hk]
  have HS : Hid (playStep D x = D) := hide (by unfold playStep; rw [if_neg (by omega), if_neg (by omega), if_pos hk])
  clear hk
  show Calls Try.prog 22 #[.pointer (some ⟨b, 0, none⟩), .pointer (some ⟨rb, 0, none⟩), .agg #[.int .i64 x.kind, .int .i64 x.i, .int .u8 x.c, .string x.s, .bool x.odd, .int .u64 x.mask]] w (PlayPost w0 rb (playStep D x))
  go_enter Try.func22, Try.ntmps22
  go_wp2_with fail
  have z1 := (dop_all hblk.out).2.1
  obtain ⟨F, G, hF, hG, hd, hr⟩ := P1.out.dk
  have HD := hide (dread_calls hd hW x.i)
  have HR := hide (rdread_calls hr hW x.i)
  clear hd hr hF hG
  go_wp2_with fail
  refine HD.out.mono ?_
  rintro e w' ⟨rfl, rfl⟩
  go_wp2_with fail
  refine HR.out.mono ?_
  rintro e w' ⟨rfl, rfl⟩
  generalize (D.read x.i).1 = y1
  generalize (D.read x.i).2 = y2
  go_wp2_with fail
  go_ret2
  rw [HS.out]
  exact ⟨b, rfl, hide P1.out.less⟩
set_option maxRecDepth 100000 in
set_option maxHeartbeats 2000000 in
theorem ldoes_4 {w0 w : World} {b rb : Nat} {D : DiskM} (x : DOp) (hx : Hid x.Ok) (h : Hid (PD w0 w b rb D D (fun _ => False)))  (hW : D.waits.length ≤ 4294967290) (hk : x.kind = 4) :
    Calls Try.prog 22 #[.pointer (some ⟨b, 0, none⟩), .pointer (some ⟨rb, 0, none⟩), .agg x.cells.toArray] w (PlayPost w0 rb (playStep D x)) := by
  have HX := hx
  have hblk : Hid (Blk (w.alloc (.cells #[.int .i64 x.kind, .int .i64 x.i, .int .u8 x.c, .string x.s, .bool x.odd, .int .u64 x.mask] 52)) w.heap.size 52 x.cells.toArray) := hide (Blk.new w 52 x.cells.toArray)
  have P1 : Hid (PD w0 (w.alloc (.cells #[.int .i64 x.kind, .int .i64 x.i, .int .u8 x.c, .string x.s, .bool x.odd, .int .u64 x.mask] 52)) b rb D D (fun y => y = w.heap.size)) := hide (h.out.more (.cells #[.int .i64 x.kind, .int .i64 x.i, .int .u8 x.c, .string x.s, .bool x.odd, .int .u64 x.mask] 52))
  have q0 : (x.kind == 0) = false := by simp [hk]
  have q1 : (x.kind == 1) = false := by simp [hk]
  have q2 : (x.kind == 2) = false := by simp [hk]
  have q3 : (x.kind == 3) = false := by simp [hk]
  have q4 : (x.kind == 4) = true := by simp [hk]
  have q5 : (x.kind == 5) = false := by simp [hk]
  have HS : Hid (playStep D x = D.fail x.mask) := hide (by unfold playStep; rw [if_neg (by omega), if_neg (by omega), if_neg (by omega), if_neg (by omega), if_pos hk])
  clear hk
  show Calls Try.prog 22 #[.pointer (some ⟨b, 0, none⟩), .pointer (some ⟨rb, 0, none⟩), .agg #[.int .i64 x.kind, .int .i64 x.i, .int .u8 x.c, .string x.s, .bool x.odd, .int .u64 x.mask]] w (PlayPost w0 rb (playStep D x))
  go_enter Try.func22, Try.ntmps22
  go_wp2_with fail
  generalize hWA : w.alloc (.cells #[.int .i64 x.kind, .int .i64 x.i, .int .u8 x.c, .string x.s, .bool x.odd, .int .u64 x.mask] 52) = WA at *
  generalize hg0 : w.heap.size = g at *
  clear hWA hg0
  have z5 := (dop_all hblk.out).2.2.2.2.2
  go_wp2_with fail
  refine (P1.out.d (fun F hF => dfail_calls hF x.mask (by omega))).mono ?_
  rintro e w3 ⟨rfl, P3, hk3⟩
  have hb3 := hk3.out.blk hblk.out rfl
  have y5 := (dop_all hb3).2.2.2.2.2
  clear hb3 hk3
  go_wp2_with fail
  refine (P3.out.r (fun G hG => rdfail_calls hG x.mask HX.out.mask.1 HX.out.mask.2 (by omega))).mono ?_
  rintro e w5 ⟨rfl, P5, _⟩
  go_wp2_with fail
  go_ret2
  rw [HS.out]
  exact ⟨b, rfl, hide P5.out.less⟩
set_option maxRecDepth 100000 in
set_option maxHeartbeats 2000000 in
theorem ldoes_5 {w0 w : World} {b rb : Nat} {D : DiskM} (x : DOp) (hx : Hid x.Ok) (h : Hid (PD w0 w b rb D D (fun _ => False)))  (hk : x.kind = 5) :
    Calls Try.prog 22 #[.pointer (some ⟨b, 0, none⟩), .pointer (some ⟨rb, 0, none⟩), .agg x.cells.toArray] w (PlayPost w0 rb (playStep D x)) := by
  have HX := hx
  have hblk : Hid (Blk (w.alloc (.cells #[.int .i64 x.kind, .int .i64 x.i, .int .u8 x.c, .string x.s, .bool x.odd, .int .u64 x.mask] 52)) w.heap.size 52 x.cells.toArray) := hide (Blk.new w 52 x.cells.toArray)
  have P1 : Hid (PD w0 (w.alloc (.cells #[.int .i64 x.kind, .int .i64 x.i, .int .u8 x.c, .string x.s, .bool x.odd, .int .u64 x.mask] 52)) b rb D D (fun y => y = w.heap.size)) := hide (h.out.more (.cells #[.int .i64 x.kind, .int .i64 x.i, .int .u8 x.c, .string x.s, .bool x.odd, .int .u64 x.mask] 52))
  have q0 : (x.kind == 0) = false := by simp [hk]
  have q1 : (x.kind == 1) = false := by simp [hk]
  have q2 : (x.kind == 2) = false := by simp [hk]
  have q3 : (x.kind == 3) = false := by simp [hk]
  have q4 : (x.kind == 4) = false := by simp [hk]
  have q5 : (x.kind == 5) = true := by simp [hk]
  have HS : Hid (playStep D x = D.start) := hide (by unfold playStep; rw [if_neg (by omega), if_neg (by omega), if_neg (by omega), if_neg (by omega), if_neg (by omega), if_pos hk])
  clear hk
  show Calls Try.prog 22 #[.pointer (some ⟨b, 0, none⟩), .pointer (some ⟨rb, 0, none⟩), .agg #[.int .i64 x.kind, .int .i64 x.i, .int .u8 x.c, .string x.s, .bool x.odd, .int .u64 x.mask]] w (PlayPost w0 rb (playStep D x))
  go_enter Try.func22, Try.ntmps22
  go_wp2_with fail
  generalize hWA : w.alloc (.cells #[.int .i64 x.kind, .int .i64 x.i, .int .u8 x.c, .string x.s, .bool x.odd, .int .u64 x.mask] 52) = WA at *
  generalize hg0 : w.heap.size = g at *
  clear hWA hg0
  refine (P1.out.d (fun F hF => dstart_calls hF)).mono ?_
  rintro e w3 ⟨rfl, P3, _⟩
  obtain ⟨F, G, hF, hG, hd, lv, wv, hr⟩ := P3.out.dk
  have x2 := hr.hb.cell 2
  have f2 := hr.hb.frozen 2
  simp only [List.getElem?_toArray, List.getElem?_cons_succ, List.getElem?_cons_zero] at x2
  have h2 := hr.put (D' := D.start) (i := 2) (u := .bool false) rfl rfl hr.msk rfl
  have tu : Turned G w3 (w3.setCell ⟨rb, 2, none⟩ (.bool false)) := (Turned.refl G w3).setCell (.inl hr.Fb) _
  have P5 : Hid (PD w0 (w3.setCell ⟨rb, 2, none⟩ (.bool false)) b rb D.start D.start (fun _ => False)) := by
    refine hide ⟨P3.out.bel.trans (tu.below P3.out.bel.size (fun x hx => (hG x hx).1)), fun _ h => h.elim, F, G, fun x hx => ⟨(hF x hx).1, fun h => h⟩, fun x hx => ⟨(hG x hx).1, fun h => h, (hG x hx).2.2⟩, hd.turned tu (fun x hx hg => (hG x hg).2.2 hx), h2.at_⟩
  clear h2 hr hd hF hG tu P3
  go_wp2_with fail
  go_ret2
  rw [HS.out]
  exact ⟨b, rfl, hide P5.out⟩
set_option maxRecDepth 100000 in
set_option maxHeartbeats 2000000 in
theorem ldoes_6 {w0 w : World} {b rb : Nat} {D : DiskM} (x : DOp) (hx : Hid x.Ok) (h : Hid (PD w0 w b rb D D (fun _ => False)))  (hW : D.waits.length ≤ 4294967280) (hk : x.kind < 0 ∨ 5 < x.kind) :
    Calls Try.prog 22 #[.pointer (some ⟨b, 0, none⟩), .pointer (some ⟨rb, 0, none⟩), .agg x.cells.toArray] w (PlayPost w0 rb (playStep D x)) := by
  have HX := hx
  have hblk : Hid (Blk (w.alloc (.cells #[.int .i64 x.kind, .int .i64 x.i, .int .u8 x.c, .string x.s, .bool x.odd, .int .u64 x.mask] 52)) w.heap.size 52 x.cells.toArray) := hide (Blk.new w 52 x.cells.toArray)
  have P1 : Hid (PD w0 (w.alloc (.cells #[.int .i64 x.kind, .int .i64 x.i, .int .u8 x.c, .string x.s, .bool x.odd, .int .u64 x.mask] 52)) b rb D D (fun y => y = w.heap.size)) := hide (h.out.more (.cells #[.int .i64 x.kind, .int .i64 x.i, .int .u8 x.c, .string x.s, .bool x.odd, .int .u64 x.mask] 52))
  have q0 : (x.kind == 0) = false := by simp; omega
  have q1 : (x.kind == 1) = false := by simp; omega
  have q2 : (x.kind == 2) = false := by simp; omega
  have q3 : (x.kind == 3) = false := by simp; omega
  have q4 : (x.kind == 4) = false := by simp; omega
  have q5 : (x.kind == 5) = false := by simp; omega
  have HS : Hid (playStep D x = D) := hide (by unfold playStep; rw [if_neg (by omega), if_neg (by omega), if_neg (by omega), if_neg (by omega), if_neg (by omega), if_neg (by omega)])
  clear hk
  show Calls Try.prog 22 #[.pointer (some ⟨b, 0, none⟩), .pointer (some ⟨rb, 0, none⟩), .agg #[.int .i64 x.kind, .int .i64 x.i, .int .u8 x.c, .string x.s, .bool x.odd, .int .u64 x.mask]] w (PlayPost w0 rb (playStep D x))
  go_enter Try.func22, Try.ntmps22
  go_wp2_with fail
  generalize hWA : w.alloc (.cells #[.int .i64 x.kind, .int .i64 x.i, .int .u8 x.c, .string x.s, .bool x.odd, .int .u64 x.mask] 52) = WA at *
  generalize hg0 : w.heap.size = g at *
  clear hWA hg0
  obtain ⟨F, G, hF, hG, hd, hr⟩ := P1.out.dk
  have HD := hide hd
  have HR := hide hr
  have HFF := hide hF
  have HGG := hide hG
  have HB := hide P1.out.bel
  clear hd hr hF hG P1
  refine (dcopy_calls HD.out (by omega)).mono ?_
  rintro e w2 ⟨b2, F2, rfl, hb2, hF2, hf2⟩
  have HB2 := hide hb2
  have HF2 := hide hF2
  have HC2 := hide hf2
  have HD2 := hide (HD.out.below hb2)
  clear hb2 hF2 hf2
  go_wp2_with fail
  refine (lFull_int 122 (by omega) (by omega) _).mono ?_
  rintro e w3 ⟨rfl, hb3⟩
  have HB3 := hide hb3
  have HD3 := hide (HD2.out.below hb3)
  clear hb3
  go_wp2_with fail
  refine (dwrite_calls HD3.out (by omega) _ _).mono ?_
  rintro e w4 ⟨rfl, tu4, F4, hF4, hd4⟩
  have HT4 := hide tu4
  have HF4 := hide hF4
  have HD4 := hide hd4
  have hw4 := play_waits D 0 (fullI 122)
  clear tu4 hF4 hd4
  generalize (D.write 0 (fullI 122)).1 = D4 at *
  generalize (D.write 0 (fullI 122)).2 = v4 at *
  go_wp2_with fail
  refine (dsync_calls HD4.out (by omega)).mono ?_
  rintro e w5 ⟨rfl, tu5, F5, hF5, hd5⟩
  have HT5 := hide tu5
  have HF5 := hide hF5
  have HD5 := hide hd5
  have hw5 := sync_waits D4
  clear tu5 hF5 hd5
  generalize D4.sync.1 = D5 at *
  generalize D4.sync.2 = v5 at *
  go_wp2_with fail
  refine (dfail_calls HD5.out 0 (by omega)).mono ?_
  rintro e w6 ⟨rfl, tu6, F6, hF6, hd6⟩
  have HT6 := hide tu6
  have P6 : Hid (PD w0 w6 b2 rb D D (fun _ => False)) := hide (pd_copied HB.out HFF.out HGG.out HD.out HR.out HB2.out HF2.out HC2.out HB3.out HT4.out HF4.out HT5.out HF5.out HT6.out)
  clear tu6 hF6 hd6 HT4 HF4 HT5 HF5 HT6 HB3 HB2 HF2 HC2 HD2 HD3 HD4 HD5
  go_wp2_with fail
  go_ret2
  rw [HS.out]
  exact ⟨b2, rfl, P6⟩
end Go.Proofs.Ytfdikdacknfoeaa
