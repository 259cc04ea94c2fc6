/- Chapter 7: the store's small functions, walked. -/
import Derived.Test.YtacbnoagdlelgaaStM
import Derived.Test.YtacbnoagdlelgaaRingO
namespace Go.Proofs.Ytacbnoagdlelgaa
open Go.RowKit Zb

set_option maxRecDepth 20000 in
theorem tthere_nil (w : World) : Calls Try.prog 24 #[.pointer none] w fun e w' => e = .returned (.bool false) ∧ w = w' := by
  go_enter Try.func24, Try.ntmps24
  go_wp2_with fail
  go_ret
  exact ⟨rfl, rfl⟩
set_option maxRecDepth 20000 in
theorem tthere_zero {w : World} {s : Nat} (h : w.cell? ⟨s, 3, none⟩ = some (.pointer none)) : Calls Try.prog 24 #[.pointer (some ⟨s, 0, none⟩)] w fun e w' => e = .returned (.bool false) ∧ w = w' := by
  go_enter Try.func24, Try.ntmps24
  go_wp2_with fail
  go_ret
  exact ⟨rfl, rfl⟩
set_option maxRecDepth 20000 in
theorem tthere_calls {w : World} {s b : Nat} (h : w.cell? ⟨s, 3, none⟩ = some (.pointer (some ⟨b, 0, none⟩))) : Calls Try.prog 24 #[.pointer (some ⟨s, 0, none⟩)] w fun e w' => e = .returned (.bool true) ∧ w = w' := by
  go_enter Try.func24, Try.ntmps24
  go_wp2_with fail
  go_ret
  exact ⟨rfl, rfl⟩
set_option maxRecDepth 20000 in
theorem tother_calls {w : World} {s : Nat} {S : StoreM} {dv wv : Value} (h : Blk w s 48 (scells S dv wv).toArray) : Calls Try.prog 25 #[.pointer (some ⟨s, 0, none⟩)] w fun e w' => e = .returned (.int .i64 (otherS S)) ∧ w = w' := by
  obtain ⟨c0, c1, c2, c3, c4, c5⟩ := st_cells h
  by_cases h0 : S.k.slot = 0
  · have e : otherS S = 1 := by unfold otherS; rw [if_pos h0]
    have E := hide e
    have h0b : (S.k.slot == 0) = true := by simp [h0]
    clear e h0
    go_enter Try.func25, Try.ntmps25
    go_wp2_with fail
    go_ret
    exact ⟨by rw [E.out]; rfl, rfl⟩
  · have e : otherS S = 0 := by unfold otherS; rw [if_neg h0]
    have E := hide e
    have h0b : (S.k.slot == 0) = false := by simp [h0]
    clear e h0
    go_enter Try.func25, Try.ntmps25
    go_wp2_with fail
    go_ret
    exact ⟨by rw [E.out]; rfl, rfl⟩
set_option maxRecDepth 20000 in
theorem tText_nil (w : World) : Calls Try.prog 12 #[.pointer none] w fun e w' => e = .returned (.tuple #[.string ⟨#[]⟩, .bool false]) ∧ w = w' := by
  go_enter Try.func12, Try.ntmps12
  go_wp2_with fail
  refine (tthere_nil _).mono ?_
  rintro e w' ⟨rfl, rfl⟩
  go_wp2_with fail
  go_ret2
  exact ⟨rfl, rfl⟩
set_option maxRecDepth 20000 in
theorem tText_calls {w : World} {s b : Nat} {S : StoreM} (h : StAt w s b S) : Calls Try.prog 12 #[.pointer (some ⟨s, 0, none⟩)] w fun e w' => e = .returned (.tuple #[.string (textS S).1, .bool (textS S).2]) ∧ w = w' := by
  obtain ⟨wv, hb, _⟩ := h
  obtain ⟨c0, c1, c2, c3, c4, c5⟩ := st_cells hb
  have HT := hide (tthere_calls c3)
  clear hb
  by_cases h0 : S.k.slot = 2
  · have e : textS S = (⟨#[]⟩, false) := by unfold textS; rw [if_pos h0]
    have E := hide e
    have h0b : (S.k.slot == 2) = true := by simp [h0]
    clear e h0
    go_enter Try.func12, Try.ntmps12
    go_wp2_with fail
    refine HT.out.mono ?_
    rintro e w' ⟨rfl, rfl⟩
    go_wp2_with fail
    go_ret2
    exact ⟨by rw [E.out]; rfl, rfl⟩
  · have e : textS S = (S.k.text, true) := by unfold textS; rw [if_neg h0]
    have E := hide e
    have h0b : (S.k.slot == 2) = false := by simp [h0]
    clear e h0
    go_enter Try.func12, Try.ntmps12
    go_wp2_with fail
    refine HT.out.mono ?_
    rintro e w' ⟨rfl, rfl⟩
    go_wp2_with fail
    go_ret2
    exact ⟨by rw [E.out]; rfl, rfl⟩
set_option maxRecDepth 20000 in
theorem tOdd_nil (w : World) : Calls Try.prog 19 #[.pointer none] w fun e w' => e = .returned (.bool false) ∧ w = w' := by
  go_enter Try.func19, Try.ntmps19
  go_wp2_with fail
  refine (tthere_nil _).mono ?_
  rintro e w' ⟨rfl, rfl⟩
  go_wp2_with fail
  go_ret
  exact ⟨rfl, rfl⟩
set_option maxRecDepth 20000 in
theorem tOdd_calls {w : World} {s b : Nat} {S : StoreM} (h : StAt w s b S) : Calls Try.prog 19 #[.pointer (some ⟨s, 0, none⟩)] w fun e w' => e = .returned (.bool S.odd) ∧ w = w' := by
  obtain ⟨wv, hb, _⟩ := h
  obtain ⟨c0, c1, c2, c3, c4, c5⟩ := st_cells hb
  have HT := hide (tthere_calls c3)
  clear hb
  go_enter Try.func19, Try.ntmps19
  go_wp2_with fail
  refine HT.out.mono ?_
  rintro e w' ⟨rfl, rfl⟩
  go_wp2_with fail
  go_ret
  exact ⟨rfl, rfl⟩
set_option maxRecDepth 20000 in
theorem tWaits_nil (w : World) : Calls Try.prog 13 #[.pointer none] w fun e w' => e = .returned (.bool false) ∧ w = w' := by
  go_enter Try.func13, Try.ntmps13
  go_wp2_with fail
  refine (tthere_nil _).mono ?_
  rintro e w' ⟨rfl, rfl⟩
  go_wp2_with fail
  go_ret
  exact ⟨rfl, rfl⟩
set_option maxRecDepth 20000 in
theorem tWaits_calls {w : World} {s b : Nat} {S : StoreM} (h : StAt w s b S) : Calls Try.prog 13 #[.pointer (some ⟨s, 0, none⟩)] w fun e w' => e = .returned (.bool S.waits.isSome) ∧ w = w' := by
  obtain ⟨wv, hb, hw⟩ := h
  obtain ⟨c0, c1, c2, c3, c4, c5⟩ := st_cells hb
  have HT := hide (tthere_calls c3)
  clear hb
  cases ho : S.waits with
  | none =>
    rw [ho] at hw
    obtain rfl : wv = .pointer none := hw
    clear ho
    go_enter Try.func13, Try.ntmps13
    go_wp2_with fail
    refine HT.out.mono ?_
    rintro e w' ⟨rfl, rfl⟩
    go_wp2_with fail
    go_ret
    exact ⟨rfl, rfl⟩
  | some k =>
    rw [ho] at hw
    obtain ⟨g, rfl, _⟩ := hw
    clear ho
    go_enter Try.func13, Try.ntmps13
    go_wp2_with fail
    refine HT.out.mono ?_
    rintro e w' ⟨rfl, rfl⟩
    go_wp2_with fail
    go_ret
    exact ⟨rfl, rfl⟩
set_option maxRecDepth 20000 in
theorem kept_info (k : KeptM) : (Try.prog.info? 45).map (·.size) = some k.cells.toArray.size := by kernel_rfl
set_option maxRecDepth 20000 in
theorem ret_kept {P : Program} {fn : Func} {p u : Tmp} {ty t : TypeId} {R : Ending → World → Prop} {a : Act} {w : World} {g : Nat} {cs : Array Value} {d : TypeDesc} (h : fn.results = #[.cell p ty, .tmp u]) (hd : a.defers = [])
    (hp : a.tmps.getD p undef = .pointer (some ⟨g, 0, none⟩)) (hg : Blk w g t cs) (hu : P.underlying ty = some d) (hs : (match d with | .struct _ | .array _ _ => true | _ => false) = true) (hi : (P.info? ty).map (·.size) = some cs.size)
    (hR : R (.returned (.tuple #[.agg cs, a.tmps.getD u undef])) w) : bodyPost P fn R .ret a w := ret_cell h hd hp hg hu hs hi hR
def keptO : Obj := .cells #[.int .i64 0, .string ⟨#[]⟩, .string ⟨#[]⟩] 45
def kvarW (w : World) (k : KeptM) : World := (w.alloc (.cells #[.int .i64 0, .string ⟨#[]⟩, .string ⟨#[]⟩] 45)).setRow w.heap.size k.cells.toArray
set_option maxRecDepth 20000 in
theorem kvarW_new (w : World) : Blk (w.alloc (.cells #[.int .i64 0, .string ⟨#[]⟩, .string ⟨#[]⟩] 45)) w.heap.size 45 KeptM.zero.cells.toArray := Blk.new w 45 _
set_option maxRecDepth 20000 in
theorem kvarW_blk (w : World) (k : KeptM) : Blk (kvarW w k) w.heap.size 45 k.cells.toArray := setRow_heap _ _ _ _ _ _ (kvarW_new w)
set_option maxRecDepth 20000 in
theorem kvarW_below (w : World) (k : KeptM) : Below w.heap.size w (kvarW w k) := below_setRow ((Below.refl _ _).alloc (Nat.le_refl _) _) (Nat.le_refl _) _
set_option maxRecDepth 20000 in
theorem tentry_calls (k : KeptM) (kind : Int) (w : World) : Calls Try.prog 29 #[.agg #[.int .i64 k.slot, .string k.text, .string k.sum], .int .i64 kind] w fun e w' => e = .returned (.agg (k.entry kind).cells.toArray) ∧ Below w.heap.size w w' := by
  have HZ : Hid (Blk ((w.alloc (.cells #[.int .i64 k.slot, .string k.text, .string k.sum] 45)).alloc (.cells #[.int .i64 0, .int .i64 0, .int .i64 0, .int .i64 0, .string ⟨#[]⟩] 59)) (w.heap.size + 1) 59 EntM.zero.cells.toArray) := hide (heap_alloc2_new w _ _)
  have HB : Hid (Blk (((w.alloc (.cells #[.int .i64 k.slot, .string k.text, .string k.sum] 45)).alloc (.cells #[.int .i64 0, .int .i64 0, .int .i64 0, .int .i64 0, .string ⟨#[]⟩] 59)).setRow (w.heap.size + 1) (k.entry kind).cells.toArray) (w.heap.size + 1) 59 (k.entry kind).cells.toArray) := hide (setRow_heap _ _ _ _ _ _ HZ.out)
  have HX := hide (below_setRow (((Below.refl w.heap.size w).alloc (Nat.le_refl _) (.cells #[.int .i64 k.slot, .string k.text, .string k.sum] 45)).alloc (Nat.le_of_lt (Nat.lt_of_lt_of_eq (Nat.lt_succ_self _) (Array.size_push _).symm)) (.cells #[.int .i64 0, .int .i64 0, .int .i64 0, .int .i64 0, .string ⟨#[]⟩] 59)) (Nat.le_succ w.heap.size) (k.entry kind).cells.toArray)
  go_enter Try.func29, Try.ntmps29
  go_wp2_with (first | ((with_reducible show wpList _ _ _ (⟨some 13, _, _, _, _, _⟩ :: _) _ _); refine wpList_build_as rfl _ _ (k.entry kind).cells.toArray rfl (by kernel_rfl) ?_) | ((with_reducible show wpList _ _ _ (⟨none, _, _, _, _, _⟩ :: _) _ _); refine wpList_store_row rfl _ _ _ rfl (w.heap.size + 1) (k.entry kind).cells.toArray rfl (by kernel_rfl) 59 _ HZ.out (by kernel_rfl) rfl (by kernel_rfl) ?_))
  exact ret_cell1 rfl rfl rfl HB.out Try.underlying59 rfl (by kernel_rfl) ⟨rfl, HX.out⟩
set_option maxRecDepth 20000 in
theorem tnone_calls (w : World) : Calls Try.prog 22 #[] w fun e w' => e = .returned (.agg KeptM.none.cells.toArray) ∧ Below w.heap.size w w' := by
  have HZ : Hid (Blk ((w.alloc (.cells #[.int .i64 0, .string ⟨#[]⟩, .string ⟨#[]⟩] 45)).alloc (.cells (madeCells #[.int .u8 0] 32) 5)) w.heap.size 45 KeptM.zero.cells.toArray) := hide ((kvarW_new w).alloc _)
  have HB : Hid (Blk (((w.alloc (.cells #[.int .i64 0, .string ⟨#[]⟩, .string ⟨#[]⟩] 45)).alloc (.cells (madeCells #[.int .u8 0] 32) 5)).setRow w.heap.size KeptM.none.cells.toArray) w.heap.size 45 KeptM.none.cells.toArray) := hide (setRow_heap _ _ _ _ _ _ HZ.out)
  have HX := hide (below_setRow (((Below.refl w.heap.size w).alloc (Nat.le_refl _) (.cells #[.int .i64 0, .string ⟨#[]⟩, .string ⟨#[]⟩] 45)).alloc (Nat.le_of_lt (Nat.lt_of_lt_of_eq (Nat.lt_succ_self _) (Array.size_push _).symm)) (.cells (madeCells #[.int .u8 0] 32) 5)) (Nat.le_refl _) KeptM.none.cells.toArray)
  have hmk : ∀ W : World, (Instr.makeSlice 32 (.int .i64 32) (.int .i64 32)).run Try.prog W = .ok (.slice (some ⟨W.heap.size, 0, none⟩) 32 32) (W.alloc (.cells (madeCells #[.int .u8 0] 32) 5)) := fun W => make_row (P := Try.prog) 32 5 _ 1 Try.underlying32 binfo_u8 rfl .i64 .i64 32 (by omega) (by omega) W
  have hcv : (convert 32 9 (.slice (some ⟨(w.alloc (.cells #[.int .i64 0, .string ⟨#[]⟩, .string ⟨#[]⟩] 45)).heap.size, 0, none⟩) 32 32)).run Try.prog ((w.alloc (.cells #[.int .i64 0, .string ⟨#[]⟩, .string ⟨#[]⟩] 45)).alloc (.cells (madeCells #[.int .u8 0] 32) 5)) = .ok (.string (zeros 32)) ((w.alloc (.cells #[.int .i64 0, .string ⟨#[]⟩, .string ⟨#[]⟩] 45)).alloc (.cells (madeCells #[.int .u8 0] 32) 5)) := by
    have h1 := (Buf.made (Below.refl (w.alloc (.cells #[.int .i64 0, .string ⟨#[]⟩, .string ⟨#[]⟩] 45)).heap.size (w.alloc (.cells #[.int .i64 0, .string ⟨#[]⟩, .string ⟨#[]⟩] 45))) 32 (by unfold maxLen; omega)).conv
    rw [h1]
    rfl
  have hsz : (w.alloc (.cells #[.int .i64 0, .string ⟨#[]⟩, .string ⟨#[]⟩] 45)).heap.size = w.heap.size + 1 := Array.size_push _
  rw [hsz] at hcv
  clear hsz
  go_enter Try.func22, Try.ntmps22
  go_wp2_with (first | ((with_reducible show wpList _ _ _ (⟨some 3, _, _, _, _, _⟩ :: _) _ _); refine wpList_build_as rfl _ _ KeptM.none.cells.toArray rfl (by kernel_rfl) ?_) | ((with_reducible show wpList _ _ _ (⟨none, _, _, _, _, _⟩ :: _) _ _); refine wpList_store_row rfl _ _ _ rfl w.heap.size KeptM.none.cells.toArray rfl (by kernel_rfl) 45 _ HZ.out (by kernel_rfl) rfl (by kernel_rfl) ?_))
  exact ret_cell1 rfl rfl rfl HB.out Try.underlying45 rfl (by kernel_rfl) ⟨rfl, HX.out⟩
/-- the store with nothing that waits -/
theorem st_shut {w : World} {s b : Nat} {S : StoreM} {wv : Value} (h : Blk w s 48 (scells S (.pointer (some ⟨b, 0, none⟩)) wv).toArray) : StAt (w.setCell ⟨s, 5, none⟩ (.pointer none)) s b S.shut := ⟨.pointer none, h.set_ 5 _, rfl⟩
def TakePost (w : World) (s b : Nat) (S : StoreM) (e : Ending) (w' : World) : Prop :=
  match S.waits with
  | none => e = .returned (.tuple #[.agg KeptM.zero.cells.toArray, .int .i64 8]) ∧ Below w.heap.size w w'
  | some k => e = .returned (.tuple #[.agg k.cells.toArray, .int .i64 0]) ∧ Turned (fun x => x = s) w w' ∧ StAt w' s b S.shut
set_option maxRecDepth 20000 in
theorem ttake_nil (w : World) : Calls Try.prog 30 #[.pointer none] w fun e w' => e = .returned (.tuple #[.agg KeptM.zero.cells.toArray, .int .i64 16]) ∧ Below w.heap.size w w' := by
  have HZ := hide (kvarW_new w)
  go_enter Try.func30, Try.ntmps30
  go_wp2_with fail
  refine (tthere_nil _).mono ?_
  rintro e w' ⟨rfl, rfl⟩
  go_wp2_with (first | ((with_reducible show wpList _ _ _ (⟨some 9, _, _, _, _, _⟩ :: _) _ _); refine wpList_build_as rfl _ _ KeptM.zero.cells.toArray rfl (by kernel_rfl) ?_) | ((with_reducible show wpList _ _ _ (⟨none, _, _, _, _, _⟩ :: _) _ _); refine wpList_store_row rfl _ _ _ rfl w.heap.size KeptM.zero.cells.toArray rfl (by kernel_rfl) 45 _ HZ.out (by kernel_rfl) rfl (by kernel_rfl) ?_))
  exact ret_cell rfl rfl rfl (kvarW_blk w KeptM.zero) Try.underlying45 rfl (by kernel_rfl) ⟨rfl, kvarW_below w KeptM.zero⟩
set_option maxRecDepth 20000 in
theorem ttake_calls {w : World} {s b : Nat} {S : StoreM} (h : StAt w s b S) : Calls Try.prog 30 #[.pointer (some ⟨s, 0, none⟩)] w (TakePost w s b S) := by
  obtain ⟨wv, hb, hw⟩ := h
  have hs := hb.lt
  unfold TakePost
  cases ho : S.waits with
  | none =>
    rw [ho] at hw
    obtain rfl : wv = .pointer none := hw
    clear ho
    have HZ := hide (kvarW_new w)
    have HT := hide (tthere_calls (hb.alloc (.cells #[.int .i64 0, .string ⟨#[]⟩, .string ⟨#[]⟩] 45) |>.cell 3))
    obtain ⟨c0, c1, c2, c3, c4, c5⟩ := st_cells (hb.alloc (.cells #[.int .i64 0, .string ⟨#[]⟩, .string ⟨#[]⟩] 45))
    go_enter Try.func30, Try.ntmps30
    go_wp2_with fail
    refine HT.out.mono ?_
    rintro e w' ⟨rfl, rfl⟩
    go_wp2_with (first | ((with_reducible show wpList _ _ _ (⟨some 16, _, _, _, _, _⟩ :: _) _ _); refine wpList_build_as rfl _ _ KeptM.zero.cells.toArray rfl (by kernel_rfl) ?_) | ((with_reducible show wpList _ _ _ (⟨none, _, _, _, _, _⟩ :: _) _ _); refine wpList_store_row rfl _ _ _ rfl w.heap.size KeptM.zero.cells.toArray rfl (by kernel_rfl) 45 _ HZ.out (by kernel_rfl) rfl (by kernel_rfl) ?_))
    exact ret_cell rfl rfl rfl (kvarW_blk w KeptM.zero) Try.underlying45 rfl (by kernel_rfl) ⟨rfl, kvarW_below w KeptM.zero⟩
  | some k =>
    rw [ho] at hw
    obtain ⟨g, rfl, hg⟩ := hw
    clear ho
    have hgs : g ≠ s := hg.ne_ hb (by decide)
    generalize hw0 : w.alloc (.cells #[.int .i64 0, .string ⟨#[]⟩, .string ⟨#[]⟩] 45) = w0
    have HB0 : Hid (Blk w0 s 48 (scells S (.pointer (some ⟨b, 0, none⟩)) (.pointer (some ⟨g, 0, none⟩))).toArray) := hide (hw0 ▸ hb.alloc _)
    have HG0 : Hid (Blk w0 g 45 k.cells.toArray) := hide (hw0 ▸ hg.alloc _)
    have HZ0 : Hid (Blk w0 w.heap.size 45 KeptM.zero.cells.toArray) := hide (hw0 ▸ kvarW_new w)
    have HW0 : Hid (Below w.heap.size w w0) := hide (hw0 ▸ (Below.refl _ _).alloc (Nat.le_refl _) _)
    have HT := hide (tthere_calls (HB0.out.cell 3))
    have HZ4 := hide (kvarW_new w0)
    have HK4 := hide (kvarW_blk w0 k)
    have HB4 := hide (HB0.out.below (kvarW_below w0 k) HB0.out.lt)
    have HZ4r := hide (HZ0.out.below (kvarW_below w0 k) HZ0.out.lt)
    have HW4 := hide (HW0.out.trans ((kvarW_below w0 k).mono HW0.out.size))
    obtain ⟨c0, c1, c2, c3, c4, c5⟩ := st_cells HB0.out
    have HH := hide hw0
    clear hw0
    go_enter Try.func30, Try.ntmps30
    go_wp2_with fail
    rw [HH.out]
    refine HT.out.mono ?_
    rintro e w' ⟨rfl, rfl⟩
    have hs4 : s ≠ w0.heap.size := Nat.ne_of_lt HB0.out.lt
    have f5 : (kvarW w0 k).frozen? ⟨s, 5, none⟩ = false := HB4.out.frozen 5
    have e5 : (kvarW w0 k).cell? ⟨s, 5, none⟩ = some (.pointer (some ⟨g, 0, none⟩)) := HB4.out.cell 5
    have HK5 : Hid (Blk ((kvarW w0 k).setCell ⟨s, 5, none⟩ (.pointer none)) w0.heap.size 45 k.cells.toArray) := hide (HK4.out.far (p := ⟨s, 5, none⟩) (fun e => hs4 e.symm) _)
    have HS5 : Hid (StAt ((kvarW w0 k).setCell ⟨s, 5, none⟩ (.pointer none)) s b S.shut) := hide (st_shut HB4.out)
    have HZ5 : Hid (Blk ((kvarW w0 k).setCell ⟨s, 5, none⟩ (.pointer none)) w.heap.size 45 KeptM.zero.cells.toArray) := hide (HZ4r.out.far (p := ⟨s, 5, none⟩) (Nat.ne_of_gt hs) _)
    have HT5 : Hid (Turned (fun x => x = s) w ((kvarW w0 k).setCell ⟨s, 5, none⟩ (.pointer none))) := hide ((Turned.of_below (F := fun x => x = s) HW4.out).setCell (p := ⟨s, 5, none⟩) (.inl rfl) _)
    have c5' : (kvarW w0 k).cell? ⟨s, 5, none⟩ = some (.pointer (some ⟨g, 0, none⟩)) := e5
    clear HB4 HK4 HZ4r HW4 HB0 hg hb HH HW0 HZ0 hgs hs4
    go_wp2_with (first | ((with_reducible show wpList _ _ _ (⟨some 22, _, _, _, _, _⟩ :: _) _ _); refine wpList_load_row rfl _ _ rfl g rfl 45 _ (0, 0) _ HG0.out Try.underlying45 rfl (by kernel_rfl) ?_) | ((with_reducible show wpList _ _ _ (⟨none, _, _, _, _, _⟩ :: _) _ _); refine wpList_store_row rfl _ _ _ rfl w0.heap.size k.cells.toArray rfl rfl 45 _ HZ4.out (by kernel_rfl) rfl (by kernel_rfl) ?_; change wpList _ _ _ _ _ (kvarW w0 k); generalize kvarW w0 k = w4 at *) | ((with_reducible show wpList _ _ _ (⟨some 26, _, _, _, _, _⟩ :: _) _ _); refine wpList_load_row rfl _ _ rfl w0.heap.size rfl 45 _ (0, 0) _ HK5.out Try.underlying45 rfl (by kernel_rfl) ?_) | ((with_reducible show wpList _ _ _ (⟨none, _, _, _, _, _⟩ :: _) _ _); refine wpList_store_row rfl _ _ _ rfl w.heap.size k.cells.toArray rfl rfl 45 _ HZ5.out (by kernel_rfl) rfl (by kernel_rfl) ?_))
    generalize w4.setCell ⟨s, 5, none⟩ (.pointer none) = w5 at *
    have HR := hide (setRow_heap _ _ _ k.cells.toArray _ _ HZ5.out)
    refine ret_cell rfl rfl rfl HR.out Try.underlying45 rfl (by kernel_rfl) ⟨rfl, ?_, ?_⟩
    · have ht := HT5.out
      exact ⟨ht.os, ht.tape, ht.output, by rw [setRow_size]; exact ht.size, fun i hi hn => (setRow_other _ _ _ _ (Nat.ne_of_lt hi)).trans (ht.block i hi hn)⟩
    · obtain ⟨wv, h1, h2⟩ := HS5.out
      exact ⟨wv, (setRow_other _ _ _ _ (Nat.ne_of_lt hs)).trans h1, h2⟩
end Go.Proofs.Ytacbnoagdlelgaa
