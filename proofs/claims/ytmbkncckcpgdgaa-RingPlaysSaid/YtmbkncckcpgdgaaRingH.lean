/- Chapter 5: Last, walked. -/
import Derived.Test.YtmbkncckcpgdgaaRingF
namespace Go.Proofs.Ytmbkncckcpgdgaa
open Go.RowKit Zb

set_option maxRecDepth 20000 in
theorem results_cell_tmp2 {fn : Func} {p u v : Tmp} {ty : TypeId} (h : fn.results = #[.cell p ty, .tmp u, .tmp v]) (tmps : Array Value) (P : Program) (w : World) :
    (results fn tmps).run P w =
      ((asAddr (tmps.getD p undef)).run P w).andThen fun a w₁ => ((loadVar ty a).run P w₁).andThen fun x w₂ => .ok (.tuple #[x, tmps.getD u undef, tmps.getD v undef]) w₂ := by
  simp only [results, h]
  simp [Sem.run_bind, Result.andThen]
set_option maxRecDepth 20000 in
theorem ret_cell2 {P : Program} {fn : Func} {p u v : Tmp} {ty t : TypeId} {R : Ending → World → Prop} {a : Act} {w : World} {g : Nat} {cs : Array Value} {d : TypeDesc} (h : fn.results = #[.cell p ty, .tmp u, .tmp v]) (hd : a.defers = [])
    (hp : a.tmps.getD p undef = .pointer (some ⟨g, 0, none⟩)) (hg : Blk w g t cs) (hu : P.underlying ty = some d) (hs : (match d with | .struct _ | .array _ _ => true | _ => false) = true) (hi : (P.info? ty).map (·.size) = some cs.size)
    (hR : R (.returned (.tuple #[.agg cs, a.tmps.getD u undef, a.tmps.getD v undef])) w) : bodyPost P fn R .ret a w := by
  refine bodyPost_ret (v := .tuple #[.agg cs, a.tmps.getD u undef, a.tmps.getD v undef]) ?_ hd hR
  rw [results_cell_tmp2 h, hp]
  have e : (asAddr (.pointer (some ⟨g, 0, none⟩))).run P w = .ok ⟨g, 0, none⟩ w := rfl
  rw [e]
  simp only [Result.andThen]
  rw [run_loadVar_row w g t ty cs (0, 0) d hg hu hs hi]
def LastPost (w : World) (D : DiskM) (r : Ending) (w' : World) : Prop := r = .returned (.tuple #[.agg (lastM D).cells.toArray, .bool (lastIs D), .int .i64 (scanE D)]) ∧ Below w.heap.size w w'
set_option maxRecDepth 20000 in
theorem last_nil {D : DiskM} (h : scanL D = []) : lastM D = EntM.zero ∧ lastIs D = false := by unfold lastM lastIs; rw [h]; exact ⟨rfl, rfl⟩
set_option maxRecDepth 20000 in
theorem last_at {D : DiskM} {n : Nat} (h : (scanL D).length = n + 1) : (scanL D)[n]? = some (lastM D) ∧ lastIs D = true := by
  constructor
  · unfold lastM
    rw [List.getLastD_eq_getLast?, List.getLast?_eq_getElem?, h]
    show _ = some (((scanL D)[n]?).getD _)
    rw [List.getElem?_eq_getElem (by omega)]
    rfl
  · unfold lastIs
    cases hl : scanL D
    · rw [hl] at h; simp at h
    · rfl
set_option maxRecDepth 20000 in
set_option maxHeartbeats 2000000 in
theorem eLast_of {w : World} {b : Nat} {D : DiskM} (hS : Calls Try.prog 17 #[.pointer (some ⟨b, 0, none⟩)] (w.alloc (.cells #[.int .i64 0, .int .i64 0, .int .i64 0, .int .i64 0, .string ⟨#[]⟩] 28)) (ScanPost 28 (w.alloc (.cells #[.int .i64 0, .int .i64 0, .int .i64 0, .int .i64 0, .string ⟨#[]⟩] 28)) D)) : Calls Try.prog 18 #[.pointer (some ⟨b, 0, none⟩)] w (LastPost w D) := by
  have HS := hide hS
  clear hS
  have HB0 := hide (Blk.new w 28 EntM.zero.cells.toArray)
  have HW0 := hide ((Below.refl w.heap.size w).alloc (Nat.le_refl _) (.cells #[.int .i64 0, .int .i64 0, .int .i64 0, .int .i64 0, .string ⟨#[]⟩] 28))
  go_enter Try.func18, Try.ntmps18
  go_wp2_with fail
  refine HS.out.mono ?_
  rintro r w1 ⟨v, rfl, hb1, hr1, ho1⟩
  have HR := hide hr1
  have HB1 := hide (HB0.out.below hb1 HB0.out.lt)
  have HW1 := hide (HW0.out.trans (hb1.mono HW0.out.size))
  have HZR : Hid (Blk (w1.setRow w.heap.size EntM.zero.cells.toArray) w.heap.size 28 EntM.zero.cells.toArray) := hide (setRow_heap _ _ _ _ _ _ HB1.out)
  have HZW := hide (below_setRow HW1.out (Nat.le_refl _) EntM.zero.cells.toArray)
  obtain ⟨A, c, rfl, hc⟩ := row_slice hr1
  have HSN : Hid (scanE D ≠ 0 → scanL D = []) := hide (fun h => by unfold scanL; rw [if_neg h])
  clear hb1 hr1 ho1
  by_cases hf : scanE D = 0
  · rw [hf]
    have HF := hide hf
    clear hf
    cases hl : (scanL D).length with
    | zero =>
      have HN := hide (last_nil (List.eq_nil_of_length_eq_zero hl))
      clear hl hc
      go_wp2_with (first | ((with_reducible show wpList _ _ _ (⟨some 19, _, _, _, _, _⟩ :: _) _ _); refine wpList_build rfl _ _ rfl (by kernel_rfl) ?_) | ((with_reducible show wpList _ _ _ (⟨none, _, _, _, _, _⟩ :: _) _ _); refine wpList_store_row rfl _ _ _ rfl w.heap.size EntM.zero.cells.toArray rfl (by kernel_rfl) 28 _ HB1.out (by kernel_rfl) rfl (by kernel_rfl) ?_))
      exact ret_cell2 rfl rfl rfl HZR.out Try.underlying28 rfl (ent_info _) ⟨by rw [HN.out.1, HN.out.2, HF.out]; rfl, HZW.out⟩
    | succ m =>
      rw [hl] at HR hc
      have HRR : Hid (Blk (w1.setRow w.heap.size (lastM D).cells.toArray) w.heap.size 28 (lastM D).cells.toArray) := hide (setRow_heap _ _ _ _ _ _ HB1.out)
      have HRW := hide (below_setRow HW1.out (Nat.le_refl _) (lastM D).cells.toArray)
      obtain ⟨hy, HIS⟩ := last_at hl
      obtain ⟨g, c', he, _, hgl, _, hcell⟩ := row_form HR.out (by omega)
      obtain ⟨rfl, -⟩ : A = some ⟨g, 0, none⟩ ∧ True := by
        simp only [Value.slice.injEq] at he
        exact ⟨he.1, trivial⟩
      have hm8 : m < 8 := by have h1 := scanTo_len D 8; have h2 : scanL D = scanTo D 8 := by { unfold scanL; rw [if_pos HF.out] }; rw [h2] at hl; omega
      have hm0 : ¬ ((m : Int) + 1 = 0) := by omega
      have hc5 : ∀ j, j < 5 → w1.cell? ⟨g, m * 5 + j, none⟩ = (lastM D).cells[j]? := fun j hj => by
        rw [hcell _ (by omega), ecells_get _ _ _ hy j hj]
      have y0 : w1.cell? ⟨g, m * 5, none⟩ = some (.int .i64 (lastM D).kind) := hc5 0 (by omega)
      have y1 : w1.cell? ⟨g, m * 5 + 1, none⟩ = some (.int .i64 (lastM D).number) := hc5 1 (by omega)
      have y2 : w1.cell? ⟨g, m * 5 + 2, none⟩ = some (.int .i64 (lastM D).slot) := hc5 2 (by omega)
      have y3 : w1.cell? ⟨g, m * 5 + 3, none⟩ = some (.int .i64 (lastM D).size) := hc5 3 (by omega)
      have y4 : w1.cell? ⟨g, m * 5 + 4, none⟩ = some (.string (lastM D).sum) := hc5 4 (by omega)
      have HIS := hide HIS
      clear he hcell hc5 hy hl
      go_wp2_with ((with_reducible show wpList _ _ _ (⟨none, _, _, _, _, _⟩ :: _) _ _); refine wpList_store_row rfl _ _ _ rfl w.heap.size (lastM D).cells.toArray rfl (by kernel_rfl) 28 _ HB1.out (ent_info _) rfl (by kernel_rfl) ?_)
      exact ret_cell2 rfl rfl rfl HRR.out Try.underlying28 rfl (ent_info _) ⟨by rw [HIS.out, HF.out]; rfl, HRW.out⟩
  · have HN := hide (last_nil (HSN.out hf))
    obtain ⟨f, hfe⟩ : ∃ f, scanE D = f := ⟨_, rfl⟩
    have HFE := hide hfe
    rw [hfe]
    rw [hfe] at hf
    clear hfe
    go_wp2_with (first | ((with_reducible show wpList _ _ _ (⟨some 19, _, _, _, _, _⟩ :: _) _ _); refine wpList_build rfl _ _ rfl (by kernel_rfl) ?_) | ((with_reducible show wpList _ _ _ (⟨none, _, _, _, _, _⟩ :: _) _ _); refine wpList_store_row rfl _ _ _ rfl w.heap.size EntM.zero.cells.toArray rfl (by kernel_rfl) 28 _ HB1.out (by kernel_rfl) rfl (by kernel_rfl) ?_))
    exact ret_cell2 rfl rfl rfl HZR.out Try.underlying28 rfl (ent_info _) ⟨by rw [HN.out.1, HN.out.2, HFE.out]; rfl, HZW.out⟩
set_option maxRecDepth 20000 in
theorem eLast_calls {w : World} {b : Nat} {F : Nat → Prop} {D : DiskM} (h : DiskAt w b F D) (hW : D.waits.length ≤ 4294967290) : Calls Try.prog 18 #[.pointer (some ⟨b, 0, none⟩)] w (LastPost w D) :=
  eLast_of (eScan_calls (h.alloc _) hW)
end Go.Proofs.Ytmbkncckcpgdgaa
