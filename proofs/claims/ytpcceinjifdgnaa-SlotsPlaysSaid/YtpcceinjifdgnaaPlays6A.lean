/- SlotsPlays: one thing done to both disks. -/
import Derived.Test.YtpcceinjifdgnaaSlotP
import Derived.Test.YtpcceinjifdgnaaSlotK
import Derived.Test.YtpcceinjifdgnaaPD
import Derived.Test.YtpcceinjifdgnaaArgs4
namespace Go.Proofs.Ytpcceinjifdgnaa
open Go.RowKit Zb

/-- something that is done -/
structure SOp where
  kind : Int
  slot : Int
  s : ByteArray
  size : Int
  mask : Int
def SOp.cells (o : SOp) : List Value := [.int .i64 o.kind, .int .i64 o.slot, .string o.s, .int .i64 o.size, .int .u64 o.mask]
structure SOp.Ok (o : SOp) : Prop where
  kind : -9223372036854775808 ≤ o.kind ∧ o.kind ≤ 9223372036854775807
  slot : -9223372036854775808 ≤ o.slot ∧ o.slot ≤ 9223372036854775807
  s : o.s.size ≤ maxLen
  size : -9223372036854775808 ≤ o.size ∧ o.size ≤ 9223372036854775807
  mask : 0 ≤ o.mask ∧ o.mask ≤ 18446744073709551615
theorem sop_el {H : Type} {enc : TypeId × Value → H} {w : World} {base : Nat} {spare : Nat → Bool} {held : Bool} (cs : List Value) (n : Nat) (y : DataW H × List MemPlace) (hl : cs.length = 5)
    (h : DataW.trod enc Try.prog w base spare held n 50 cs = some y) : ∃ x : SOp, cs = x.cells ∧ x.Ok := by
  obtain ⟨a0, e0, w0⟩ := field_int Try.underlying50 h 0 _ rfl Try.underlying3 (by kernel_rfl)
  obtain ⟨a1, e1, w1⟩ := field_int Try.underlying50 h 1 _ rfl Try.underlying3 (by kernel_rfl)
  obtain ⟨a2, e2, w2⟩ := field_string Try.underlying50 h 2 _ rfl Try.underlying9 (by kernel_rfl)
  obtain ⟨a3, e3, w3⟩ := field_int Try.underlying50 h 3 _ rfl Try.underlying3 (by kernel_rfl)
  obtain ⟨a4, e4, w4⟩ := field_int Try.underlying50 h 4 _ rfl Try.underlying39 (by kernel_rfl)
  have b0 := bounds_i64 w0
  have b1 := bounds_i64 w1
  have b3 := bounds_i64 w3
  have b4 := bounds_u64 w4
  refine ⟨⟨a0, a1, a2, a3, a4⟩, ?_, ⟨by dsimp; omega, by dsimp; omega, w2, by dsimp; omega, by dsimp; omega⟩⟩
  match cs, hl with
  | [x0, x1, x2, x3, x4], _ =>
    simp at e0 e1 e2 e3 e4
    rw [e0, e1, e2, e3, e4]
    rfl
theorem sop_all {w : World} {g : Nat} {x : SOp} (h : Blk w g 50 x.cells.toArray) : w.cell? ⟨g, 0, none⟩ = some (.int .i64 x.kind) ∧ w.cell? ⟨g, 1, none⟩ = some (.int .i64 x.slot) ∧ w.cell? ⟨g, 2, none⟩ = some (.string x.s) ∧ w.cell? ⟨g, 3, none⟩ = some (.int .i64 x.size) ∧ w.cell? ⟨g, 4, none⟩ = some (.int .u64 x.mask) :=
  ⟨h.cell 0, h.cell 1, h.cell 2, h.cell 3, h.cell 4⟩

/-- what holds behind whatever is done: nothing waits, each block has 64 bytes -/
structure Good (D : DiskM) : Prop where
  w : D.waits = []
  len : 16 ≤ D.lasts.length
  full : Full64 D
theorem Good.new (n : Nat) (h : 16 ≤ n) : Good (DiskM.new n) := ⟨rfl, by simp [DiskM.new]; exact h, Full64.new n⟩
theorem wl_off (D : DiskM) (h : D.off = true) (a : Nat) (bs : List ByteArray) : (writeLoop D a bs).1 = D := by
  have hw : ∀ i, D.wrong i = 7 := fun i => by unfold DiskM.wrong; rw [if_pos h]
  cases bs with
  | nil => simp [writeLoop, DiskM.sync, hw]
  | cons b r => simp [writeLoop, DiskM.write, hw]
theorem Good.slot {D : DiskM} (h : Good D) (slot : Int) (s : ByteArray) : Good (slotWrite D slot s).1 := by
  have hf := h.full.slot slot s
  by_cases hsl : slot < 0 ∨ 2 ≤ slot
  · have e : slotWrite D slot s = (D, 1) := by unfold slotWrite; rw [if_pos hsl]
    rw [e]; exact h
  · by_cases hs : slotN D * 64 < s.size
    · rw [slotWrite_full D slot s (by omega) (by omega) hs]; exact h
    · cases ho : D.off
      · obtain ⟨D', e, he, hw, hl, _⟩ := slotWrite_ok D slot s (by omega) (by omega) h.len (by omega) ho h.w
        rw [he] at hf ⊢
        exact ⟨hw, by rw [hl]; exact h.len, hf⟩
      · have e : (slotWrite D slot s).1 = D := by
          unfold slotWrite
          rw [if_neg hsl, if_neg hs]
          exact wl_off D ho _ _
        rw [e]; exact h
/-- what one thing makes of a disk -/
def play6 (D : DiskM) (x : SOp) : DiskM :=
  if x.kind = 0 then (slotWrite D x.slot x.s).1 else if x.kind = 1 then D else if x.kind = 2 then (D.plan x.size x.mask).1 else if x.kind = 3 then D.fail x.mask else if x.kind = 4 then D.start else D
theorem Good.play {D : DiskM} (h : Good D) (x : SOp) : Good (play6 D x) := by
  unfold play6
  split
  · exact h.slot _ _
  · split
    · exact h
    · split
      · unfold DiskM.plan
        split
        · exact h
        · exact ⟨h.w, h.len, ⟨h.full.l, h.full.w⟩⟩
      · split
        · refine ⟨?_, ?_, h.full.fail _⟩
          · unfold DiskM.fail
            split
            · exact h.w
            · rfl
          · unfold DiskM.fail
            split
            · exact h.len
            · show 16 ≤ (settleTo _ _ _ _).length
              rw [settleTo_length]
              exact h.len
        · split
          · exact ⟨h.w, h.len, ⟨h.full.l, h.full.w⟩⟩
          · exact h
def Play6Post (w0 : World) (b rb : Nat) (D' : DiskM) (e : Ending) (w' : World) : Prop := e = .returned (.bool true) ∧ Hid (PD w0 w' b rb D' D' (fun _ => False))

set_option maxRecDepth 100000 in
set_option maxHeartbeats 2000000 in
theorem does6_0 {w0 w : World} {b rb : Nat} {D : DiskM} (x : SOp) (hx : Hid x.Ok) (h : Hid (PD w0 w b rb D D (fun _ => False))) (hD : Hid (Good D)) (hk : x.kind = 0) :
    Calls Try.prog 21 #[.pointer (some ⟨b, 0, none⟩), .pointer (some ⟨rb, 0, none⟩), .agg x.cells.toArray] w (Play6Post w0 b rb (play6 D x)) := by
  have HX := hx
  have hW : D.waits.length ≤ 4294960000 := by rw [hD.out.w]; simp
  have hblk : Hid (Blk (w.alloc (.cells #[.int .i64 x.kind, .int .i64 x.slot, .string x.s, .int .i64 x.size, .int .u64 x.mask] 50)) w.heap.size 50 x.cells.toArray) := hide (Blk.new w 50 x.cells.toArray)
  have P1 : Hid (PD w0 (w.alloc (.cells #[.int .i64 x.kind, .int .i64 x.slot, .string x.s, .int .i64 x.size, .int .u64 x.mask] 50)) b rb D D (fun y => y = w.heap.size)) := hide (h.out.more (.cells #[.int .i64 x.kind, .int .i64 x.slot, .string x.s, .int .i64 x.size, .int .u64 x.mask] 50))
  have q0 : (x.kind == 0) = true := by simp [hk]
  have q1 : (x.kind == 1) = false := by simp [hk]
  have q2 : (x.kind == 2) = false := by simp [hk]
  have q3 : (x.kind == 3) = false := by simp [hk]
  have q4 : (x.kind == 4) = false := by simp [hk]
  have HS : Hid (play6 D x = (slotWrite D x.slot x.s).1) := hide (by unfold play6; rw [if_pos hk])
  clear hk
  show Calls Try.prog 21 #[.pointer (some ⟨b, 0, none⟩), .pointer (some ⟨rb, 0, none⟩), .agg #[.int .i64 x.kind, .int .i64 x.slot, .string x.s, .int .i64 x.size, .int .u64 x.mask]] w (Play6Post w0 b rb (play6 D x))
  go_enter Try.func21, Try.ntmps21
  go_wp2_with fail
  generalize hWA : w.alloc (.cells #[.int .i64 x.kind, .int .i64 x.slot, .string x.s, .int .i64 x.size, .int .u64 x.mask] 50) = WA at *
  generalize hg0 : w.heap.size = g at *
  clear hWA hg0
  have P1d := hide P1.out.drew
  refine wp_region_heads [0, 1, 2, 3, 4, 6, 7, 8, 9, 10] 4 (fun w' => Blk w' g 50 x.cells.toArray) (by kernel_rfl) rfl (by kernel_rfl) (by kernel_rfl) (fun _ _ d _ _ h => by cases d <;> exact h) hblk.out ?_
  iterate 10
    refine' Heads.step rfl (by rfl) ?_ ?_
    rotate_left
    · intro w' hSw
      obtain ⟨c0, c1, c2, c3, c4⟩ := sop_all hSw
      go_simp
      try with_reducible rfl
    simp only [Act.put, List.setIfInBounds_toArray, List.set_cons_zero, List.set_cons_succ]
  refine Heads.done ?_
  refine wpAnyH_ready (rs := [5]) (by kernel_rfl) (by simp) (AllReadyH.cons rfl (fun K hK => ?_) AllReadyH.nil)
  go_simp
  refine (P1d.out.d (fun F hF => sWrite_calls hF hW x.slot x.s)).mono ?_
  rintro e w3 ⟨rfl, P3, hk3⟩
  refine hK.out _ _ (hk3.out.blk hblk.out rfl) (fun hHeld1 => ?_)
  clear hK K
  refine wpAnyH_ready (rs := [11]) (by kernel_rfl) (by simp) (AllReadyH.cons rfl (fun K hK => ?_) AllReadyH.nil)
  go_simp
  refine (P3.out.r (fun G hG => rsWrite_calls hG hW x.slot x.s)).mono ?_
  rintro e w5 ⟨rfl, P5, hk5⟩
  refine hK.out _ _ (hk5.out.blk hHeld1 rfl) (fun hHeld2 => ?_)
  clear hK K
  refine wpAnyH_more [12, 13] 0 rfl (by kernel_rfl) (by kernel_rfl) (fun _ _ d _ _ h => by cases d <;> exact h) hHeld2 ?_
  iterate 2
    refine' Heads.step rfl (by rfl) ?_ ?_
    rotate_left
    · intro w' hSw
      obtain ⟨c0, c1, c2, c3, c4⟩ := sop_all hSw
      go_simp
      try with_reducible rfl
    simp only [Act.put, List.setIfInBounds_toArray, List.set_cons_zero, List.set_cons_succ]
  refine Heads.done ?_
  refine wpAnyH_done (by kernel_rfl) ?_ _
  go_wp2_with fail
  go_ret
  rw [HS.out]
  exact ⟨rfl, hide P5.out.less⟩
set_option maxRecDepth 100000 in
set_option maxHeartbeats 2000000 in
theorem does6_2 {w0 w : World} {b rb : Nat} {D : DiskM} (x : SOp) (hx : Hid x.Ok) (h : Hid (PD w0 w b rb D D (fun _ => False))) (hD : Hid (Good D)) (hk : x.kind = 2) :
    Calls Try.prog 21 #[.pointer (some ⟨b, 0, none⟩), .pointer (some ⟨rb, 0, none⟩), .agg x.cells.toArray] w (Play6Post w0 b rb (play6 D x)) := by
  have HX := hx
  have hW : D.waits.length ≤ 4294960000 := by rw [hD.out.w]; simp
  have hblk : Hid (Blk (w.alloc (.cells #[.int .i64 x.kind, .int .i64 x.slot, .string x.s, .int .i64 x.size, .int .u64 x.mask] 50)) w.heap.size 50 x.cells.toArray) := hide (Blk.new w 50 x.cells.toArray)
  have P1 : Hid (PD w0 (w.alloc (.cells #[.int .i64 x.kind, .int .i64 x.slot, .string x.s, .int .i64 x.size, .int .u64 x.mask] 50)) b rb D D (fun y => y = w.heap.size)) := hide (h.out.more (.cells #[.int .i64 x.kind, .int .i64 x.slot, .string x.s, .int .i64 x.size, .int .u64 x.mask] 50))
  have q0 : (x.kind == 0) = false := by simp [hk]
  have q1 : (x.kind == 1) = false := by simp [hk]
  have q2 : (x.kind == 2) = true := by simp [hk]
  have q3 : (x.kind == 3) = false := by simp [hk]
  have q4 : (x.kind == 4) = false := by simp [hk]
  have HS : Hid (play6 D x = (D.plan x.size x.mask).1) := hide (by unfold play6; rw [if_neg (by omega), if_neg (by omega), if_pos hk])
  clear hk
  show Calls Try.prog 21 #[.pointer (some ⟨b, 0, none⟩), .pointer (some ⟨rb, 0, none⟩), .agg #[.int .i64 x.kind, .int .i64 x.slot, .string x.s, .int .i64 x.size, .int .u64 x.mask]] w (Play6Post w0 b rb (play6 D x))
  go_enter Try.func21, Try.ntmps21
  go_wp2_with fail
  generalize hWA : w.alloc (.cells #[.int .i64 x.kind, .int .i64 x.slot, .string x.s, .int .i64 x.size, .int .u64 x.mask] 50) = WA at *
  generalize hg0 : w.heap.size = g at *
  clear hWA hg0
  have P1d := hide P1.out.drew
  refine wp_region_heads [0, 1, 2, 3, 4, 6, 7, 8, 9, 10] 4 (fun w' => Blk w' g 50 x.cells.toArray) (by kernel_rfl) rfl (by kernel_rfl) (by kernel_rfl) (fun _ _ d _ _ h => by cases d <;> exact h) hblk.out ?_
  iterate 10
    refine' Heads.step rfl (by rfl) ?_ ?_
    rotate_left
    · intro w' hSw
      obtain ⟨c0, c1, c2, c3, c4⟩ := sop_all hSw
      go_simp
      try with_reducible rfl
    simp only [Act.put, List.setIfInBounds_toArray, List.set_cons_zero, List.set_cons_succ]
  refine Heads.done ?_
  refine wpAnyH_ready (rs := [5]) (by kernel_rfl) (by simp) (AllReadyH.cons rfl (fun K hK => ?_) AllReadyH.nil)
  go_simp
  refine (P1d.out.d (fun F hF => dplan_calls hF x.size x.mask)).mono ?_
  rintro e w3 ⟨rfl, P3, hk3⟩
  refine hK.out _ _ (hk3.out.blk hblk.out rfl) (fun hHeld1 => ?_)
  clear hK K
  refine wpAnyH_ready (rs := [11]) (by kernel_rfl) (by simp) (AllReadyH.cons rfl (fun K hK => ?_) AllReadyH.nil)
  go_simp
  refine (P3.out.r (fun G hG => rdplan_calls hG x.size x.mask HX.out.mask)).mono ?_
  rintro e w5 ⟨rfl, P5, hk5⟩
  refine hK.out _ _ (hk5.out.blk hHeld1 rfl) (fun hHeld2 => ?_)
  clear hK K
  refine wpAnyH_more [12, 13] 0 rfl (by kernel_rfl) (by kernel_rfl) (fun _ _ d _ _ h => by cases d <;> exact h) hHeld2 ?_
  iterate 2
    refine' Heads.step rfl (by rfl) ?_ ?_
    rotate_left
    · intro w' hSw
      obtain ⟨c0, c1, c2, c3, c4⟩ := sop_all hSw
      go_simp
      try with_reducible rfl
    simp only [Act.put, List.setIfInBounds_toArray, List.set_cons_zero, List.set_cons_succ]
  refine Heads.done ?_
  refine wpAnyH_done (by kernel_rfl) ?_ _
  go_wp2_with fail
  go_ret
  rw [HS.out]
  exact ⟨rfl, hide P5.out.less⟩
set_option maxRecDepth 100000 in
set_option maxHeartbeats 2000000 in
theorem does6_1 {w0 w : World} {b rb : Nat} {D : DiskM} (x : SOp) (hx : Hid x.Ok) (h : Hid (PD w0 w b rb D D (fun _ => False))) (hD : Hid (Good D)) (hk : x.kind = 1) :
    Calls Try.prog 21 #[.pointer (some ⟨b, 0, none⟩), .pointer (some ⟨rb, 0, none⟩), .agg x.cells.toArray] w (Play6Post w0 b rb (play6 D x)) := by
  have HX := hx
  have hW : D.waits.length ≤ 4294960000 := by rw [hD.out.w]; simp
  have hblk : Hid (Blk (w.alloc (.cells #[.int .i64 x.kind, .int .i64 x.slot, .string x.s, .int .i64 x.size, .int .u64 x.mask] 50)) w.heap.size 50 x.cells.toArray) := hide (Blk.new w 50 x.cells.toArray)
  have P1 : Hid (PD w0 (w.alloc (.cells #[.int .i64 x.kind, .int .i64 x.slot, .string x.s, .int .i64 x.size, .int .u64 x.mask] 50)) b rb D D (fun y => y = w.heap.size)) := hide (h.out.more (.cells #[.int .i64 x.kind, .int .i64 x.slot, .string x.s, .int .i64 x.size, .int .u64 x.mask] 50))
  have q0 : (x.kind == 0) = false := by simp [hk]
  have q1 : (x.kind == 1) = true := by simp [hk]
  have q2 : (x.kind == 2) = false := by simp [hk]
  have q3 : (x.kind == 3) = false := by simp [hk]
  have q4 : (x.kind == 4) = false := by simp [hk]
  have HS : Hid (play6 D x = D) := hide (by unfold play6; rw [if_neg (by omega), if_pos hk])
  clear hk
  show Calls Try.prog 21 #[.pointer (some ⟨b, 0, none⟩), .pointer (some ⟨rb, 0, none⟩), .agg #[.int .i64 x.kind, .int .i64 x.slot, .string x.s, .int .i64 x.size, .int .u64 x.mask]] w (Play6Post w0 b rb (play6 D x))
  go_enter Try.func21, Try.ntmps21
  go_wp2_with fail
  generalize hWA : w.alloc (.cells #[.int .i64 x.kind, .int .i64 x.slot, .string x.s, .int .i64 x.size, .int .u64 x.mask] 50) = WA at *
  generalize hg0 : w.heap.size = g at *
  clear hWA hg0
  have ⟨_, z1, _, z3, _⟩ := sop_all hblk.out
  have HRD := hide (fun (F : Nat → Prop) (hF : DiskAt WA b F D) => sRead_calls hF hD.out.full (by omega) x.slot x.size)
  obtain ⟨F, G, hF, hG, hd, hr⟩ := P1.out.dk
  have HDC := hide (HRD.out F hd)
  clear HRD hd hr hF hG F G
  go_wp2_with fail
  refine HDC.out.mono ?_
  rintro e w2 ⟨rfl, hb2⟩
  have P2 := hide (P1.out.below hb2)
  have hblk2 := hblk.out.below hb2 hblk.out.lt
  have ⟨_, y1, _, y3, _⟩ := sop_all hblk2
  clear hblk2 hb2 z1 z3 HDC
  obtain ⟨F, G, hF, hG, hd, hr⟩ := P2.out.dk
  have HRC := hide (rsRead_calls hr hD.out.full (by omega) x.slot x.size)
  clear hd hr hF hG F G
  go_wp2_with fail
  refine HRC.out.mono ?_
  rintro e w3 ⟨rfl, rfl⟩
  generalize (slotRead D x.slot x.size).1 = v1
  generalize (slotRead D x.slot x.size).2 = v2
  go_wp2_with fail
  go_ret
  rw [HS.out]
  exact ⟨rfl, hide P2.out.less⟩
set_option maxRecDepth 100000 in
set_option maxHeartbeats 2000000 in
theorem does6_3 {w0 w : World} {b rb : Nat} {D : DiskM} (x : SOp) (hx : Hid x.Ok) (h : Hid (PD w0 w b rb D D (fun _ => False))) (hD : Hid (Good D)) (hk : x.kind = 3) :
    Calls Try.prog 21 #[.pointer (some ⟨b, 0, none⟩), .pointer (some ⟨rb, 0, none⟩), .agg x.cells.toArray] w (Play6Post w0 b rb (play6 D x)) := by
  have HX := hx
  have hW : D.waits.length ≤ 4294960000 := by rw [hD.out.w]; simp
  have hblk : Hid (Blk (w.alloc (.cells #[.int .i64 x.kind, .int .i64 x.slot, .string x.s, .int .i64 x.size, .int .u64 x.mask] 50)) w.heap.size 50 x.cells.toArray) := hide (Blk.new w 50 x.cells.toArray)
  have P1 : Hid (PD w0 (w.alloc (.cells #[.int .i64 x.kind, .int .i64 x.slot, .string x.s, .int .i64 x.size, .int .u64 x.mask] 50)) b rb D D (fun y => y = w.heap.size)) := hide (h.out.more (.cells #[.int .i64 x.kind, .int .i64 x.slot, .string x.s, .int .i64 x.size, .int .u64 x.mask] 50))
  have q0 : (x.kind == 0) = false := by simp [hk]
  have q1 : (x.kind == 1) = false := by simp [hk]
  have q2 : (x.kind == 2) = false := by simp [hk]
  have q3 : (x.kind == 3) = true := by simp [hk]
  have q4 : (x.kind == 4) = false := by simp [hk]
  have HS : Hid (play6 D x = D.fail x.mask) := hide (by unfold play6; rw [if_neg (by omega), if_neg (by omega), if_neg (by omega), if_pos hk])
  clear hk
  show Calls Try.prog 21 #[.pointer (some ⟨b, 0, none⟩), .pointer (some ⟨rb, 0, none⟩), .agg #[.int .i64 x.kind, .int .i64 x.slot, .string x.s, .int .i64 x.size, .int .u64 x.mask]] w (Play6Post w0 b rb (play6 D x))
  go_enter Try.func21, Try.ntmps21
  go_wp2_with fail
  generalize hWA : w.alloc (.cells #[.int .i64 x.kind, .int .i64 x.slot, .string x.s, .int .i64 x.size, .int .u64 x.mask] 50) = WA at *
  generalize hg0 : w.heap.size = g at *
  clear hWA hg0
  have ⟨_, _, _, _, z4⟩ := sop_all hblk.out
  go_wp2_with fail
  refine (P1.out.d (fun F hF => dfail_calls hF x.mask (by omega))).mono ?_
  rintro e w3 ⟨rfl, P3, hk3⟩
  have hb3 := hk3.out.blk hblk.out rfl
  have ⟨_, _, _, _, y4⟩ := sop_all hb3
  clear hb3 hk3
  go_wp2_with fail
  refine (P3.out.r (fun G hG => rdfail_calls hG x.mask HX.out.mask.1 HX.out.mask.2 (by omega))).mono ?_
  rintro e w5 ⟨rfl, P5, _⟩
  go_wp2_with fail
  go_ret
  rw [HS.out]
  exact ⟨rfl, hide P5.out.less⟩
set_option maxRecDepth 100000 in
set_option maxHeartbeats 2000000 in
theorem does6_4 {w0 w : World} {b rb : Nat} {D : DiskM} (x : SOp) (hx : Hid x.Ok) (h : Hid (PD w0 w b rb D D (fun _ => False))) (hD : Hid (Good D)) (hk : x.kind = 4) :
    Calls Try.prog 21 #[.pointer (some ⟨b, 0, none⟩), .pointer (some ⟨rb, 0, none⟩), .agg x.cells.toArray] w (Play6Post w0 b rb (play6 D x)) := by
  have HX := hx
  have hW : D.waits.length ≤ 4294960000 := by rw [hD.out.w]; simp
  have hblk : Hid (Blk (w.alloc (.cells #[.int .i64 x.kind, .int .i64 x.slot, .string x.s, .int .i64 x.size, .int .u64 x.mask] 50)) w.heap.size 50 x.cells.toArray) := hide (Blk.new w 50 x.cells.toArray)
  have P1 : Hid (PD w0 (w.alloc (.cells #[.int .i64 x.kind, .int .i64 x.slot, .string x.s, .int .i64 x.size, .int .u64 x.mask] 50)) b rb D D (fun y => y = w.heap.size)) := hide (h.out.more (.cells #[.int .i64 x.kind, .int .i64 x.slot, .string x.s, .int .i64 x.size, .int .u64 x.mask] 50))
  have q0 : (x.kind == 0) = false := by simp [hk]
  have q1 : (x.kind == 1) = false := by simp [hk]
  have q2 : (x.kind == 2) = false := by simp [hk]
  have q3 : (x.kind == 3) = false := by simp [hk]
  have q4 : (x.kind == 4) = true := by simp [hk]
  have HS : Hid (play6 D x = D.start) := hide (by unfold play6; rw [if_neg (by omega), if_neg (by omega), if_neg (by omega), if_neg (by omega), if_pos hk])
  clear hk
  show Calls Try.prog 21 #[.pointer (some ⟨b, 0, none⟩), .pointer (some ⟨rb, 0, none⟩), .agg #[.int .i64 x.kind, .int .i64 x.slot, .string x.s, .int .i64 x.size, .int .u64 x.mask]] w (Play6Post w0 b rb (play6 D x))
  go_enter Try.func21, Try.ntmps21
  go_wp2_with fail
  generalize hWA : w.alloc (.cells #[.int .i64 x.kind, .int .i64 x.slot, .string x.s, .int .i64 x.size, .int .u64 x.mask] 50) = WA at *
  generalize hg0 : w.heap.size = g at *
  clear hWA hg0
  refine (P1.out.d (fun F hF => dstart_calls hF)).mono ?_
  rintro e w3 ⟨rfl, P3, _⟩
  obtain ⟨F, G, hF, hG, hd, lv, wv, hr⟩ := P3.out.dk
  have x2 := hr.hb.cell 2
  have f2 := hr.hb.frozen 2
  simp only [List.getElem?_toArray, List.getElem?_cons_succ, List.getElem?_cons_zero] at x2
  have h2 := hr.put (D' := D.start) (i := 2) (u := .bool false) rfl rfl hr.msk rfl
  have tu : Turned G w3 (w3.setCell ⟨rb, 2, none⟩ (.bool false)) := (Turned.refl G w3).setCell (.inl hr.Fb) _
  have P5 : Hid (PD w0 (w3.setCell ⟨rb, 2, none⟩ (.bool false)) b rb D.start D.start (fun _ => False)) := by
    refine hide ⟨P3.out.bel.trans (tu.below P3.out.bel.size (fun x hx => (hG x hx).1)), fun _ h => h.elim, F, G, fun x hx => ⟨(hF x hx).1, fun h => h⟩, fun x hx => ⟨(hG x hx).1, fun h => h, (hG x hx).2.2⟩, hd.turned tu (fun x hx hg => (hG x hg).2.2 hx), h2.at_⟩
  clear h2 hr hd hF hG tu P3
  go_wp2_with fail
  go_ret
  rw [HS.out]
  exact ⟨rfl, hide P5.out⟩
set_option maxRecDepth 100000 in
set_option maxHeartbeats 2000000 in
theorem does6_5 {w0 w : World} {b rb : Nat} {D : DiskM} (x : SOp) (hx : Hid x.Ok) (h : Hid (PD w0 w b rb D D (fun _ => False))) (hD : Hid (Good D)) (hk : x.kind < 0 ∨ 4 < x.kind) :
    Calls Try.prog 21 #[.pointer (some ⟨b, 0, none⟩), .pointer (some ⟨rb, 0, none⟩), .agg x.cells.toArray] w (Play6Post w0 b rb (play6 D x)) := by
  have HX := hx
  have hW : D.waits.length ≤ 4294960000 := by rw [hD.out.w]; simp
  have hblk : Hid (Blk (w.alloc (.cells #[.int .i64 x.kind, .int .i64 x.slot, .string x.s, .int .i64 x.size, .int .u64 x.mask] 50)) w.heap.size 50 x.cells.toArray) := hide (Blk.new w 50 x.cells.toArray)
  have P1 : Hid (PD w0 (w.alloc (.cells #[.int .i64 x.kind, .int .i64 x.slot, .string x.s, .int .i64 x.size, .int .u64 x.mask] 50)) b rb D D (fun y => y = w.heap.size)) := hide (h.out.more (.cells #[.int .i64 x.kind, .int .i64 x.slot, .string x.s, .int .i64 x.size, .int .u64 x.mask] 50))
  have q0 : (x.kind == 0) = false := by simp; omega
  have q1 : (x.kind == 1) = false := by simp; omega
  have q2 : (x.kind == 2) = false := by simp; omega
  have q3 : (x.kind == 3) = false := by simp; omega
  have q4 : (x.kind == 4) = false := by simp; omega
  have HS : Hid (play6 D x = D) := hide (by unfold play6; rw [if_neg (by omega), if_neg (by omega), if_neg (by omega), if_neg (by omega), if_neg (by omega)])
  clear hk
  show Calls Try.prog 21 #[.pointer (some ⟨b, 0, none⟩), .pointer (some ⟨rb, 0, none⟩), .agg #[.int .i64 x.kind, .int .i64 x.slot, .string x.s, .int .i64 x.size, .int .u64 x.mask]] w (Play6Post w0 b rb (play6 D x))
  go_enter Try.func21, Try.ntmps21
  go_wp2_with fail
  generalize hWA : w.alloc (.cells #[.int .i64 x.kind, .int .i64 x.slot, .string x.s, .int .i64 x.size, .int .u64 x.mask] 50) = WA at *
  generalize hg0 : w.heap.size = g at *
  clear hWA hg0
  have ⟨_, _, _, z3, _⟩ := sop_all hblk.out
  obtain ⟨F, G, hF, hG, hd, hr⟩ := P1.out.dk
  have HDC := hide (dread_calls hd (by omega) x.size)
  have HRC := hide (rdread_calls hr (by omega) x.size)
  clear hd hr hF hG
  go_wp2_with fail
  refine HDC.out.mono ?_
  rintro e w' ⟨rfl, rfl⟩
  go_wp2_with fail
  refine HRC.out.mono ?_
  rintro e w' ⟨rfl, rfl⟩
  generalize (D.read x.size).1 = v1
  generalize (D.read x.size).2 = v2
  go_wp2_with fail
  go_ret
  rw [HS.out]
  exact ⟨rfl, hide P1.out.less⟩
theorem does6_calls {w0 w : World} {b rb : Nat} {D : DiskM} (x : SOp) (hx : Hid x.Ok) (h : Hid (PD w0 w b rb D D (fun _ => False))) (hD : Hid (Good D)) :
    Calls Try.prog 21 #[.pointer (some ⟨b, 0, none⟩), .pointer (some ⟨rb, 0, none⟩), .agg x.cells.toArray] w (Play6Post w0 b rb (play6 D x)) := by
  by_cases h0 : x.kind = 0
  · exact does6_0 x hx h hD h0
  by_cases h1 : x.kind = 1
  · exact does6_1 x hx h hD h1
  by_cases h2 : x.kind = 2
  · exact does6_2 x hx h hD h2
  by_cases h3 : x.kind = 3
  · exact does6_3 x hx h hD h3
  by_cases h4 : x.kind = 4
  · exact does6_4 x hx h hD h4
  · exact does6_5 x hx h hD (by omega)
end Go.Proofs.Ytpcceinjifdgnaa
