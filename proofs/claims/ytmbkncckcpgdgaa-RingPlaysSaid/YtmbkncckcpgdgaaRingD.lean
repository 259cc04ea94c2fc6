/- Chapter 5: Parse, walked. -/
import Derived.Test.YtmbkncckcpgdgaaRingC
import Derived.Laws.ResultCell
namespace Go.Proofs.Ytmbkncckcpgdgaa
open Go.RowKit Zb

/-- two results, of which the first lies in a row of its own -/
theorem ret_cell {P : Program} {fn : Func} {p u : Tmp} {ty t : TypeId} {R : Ending → World → Prop} {a : Act} {w : World} {g : Nat} {cs : Array Value} {d : TypeDesc} (h : fn.results = #[.cell p ty, .tmp u]) (hd : a.defers = [])
    (hp : a.tmps.getD p undef = .pointer (some ⟨g, 0, none⟩)) (hg : Blk w g t cs) (hu : P.underlying ty = some d) (hs : (match d with | .struct _ | .array _ _ => true | _ => false) = true) (hi : (P.info? ty).map (·.size) = some cs.size)
    (hR : R (.returned (.tuple #[.agg cs, a.tmps.getD u undef])) w) : bodyPost P fn R .ret a w := by
  refine bodyPost_ret (v := .tuple #[.agg cs, a.tmps.getD u undef]) ?_ hd hR
  rw [results_cell_tmp h, hp]
  have e : (asAddr (.pointer (some ⟨g, 0, none⟩))).run P w = .ok ⟨g, 0, none⟩ w := rfl
  rw [e]
  simp only [Result.andThen]
  rw [run_loadVar_row w g t ty cs (0, 0) d hg hu hs hi]
set_option maxRecDepth 20000 in
theorem rbytes_ne {n m : ByteArray} (h : n ≠ m) : (¬ n.toList = m.toList) ∧ (n.toList == m.toList) = false := by
  have h1 : ¬ n.toList = m.toList := by
    intro e
    rw [ByteArray.toList_eq, ByteArray.toList_eq] at e
    exact h (ByteArray.ext (Array.toList_inj.1 e))
  exact ⟨h1, by simpa using h1⟩
set_option maxRecDepth 20000 in
theorem wp_build_as {P : Program} {o : Oper} {a : Act} {w : World} {K : Act → World → Prop} {Q : Exit → Act → World → Prop} (t : TypeId) (parts : Array (Nat × Operand)) (cs : Array Value) (ho : o.op = .build t parts)
    (hf : P.built t (parts.map fun (i, x) => (i, a.eval x)).toList = some cs) (h : K (a.put o.dst (.agg cs)) w) : o.wp P a w K Q :=
  wp_build t parts ho (by rw [hf]; rfl) (by rw [hf]; exact h)
set_option maxRecDepth 20000 in
theorem wpList_build_as {P : Program} {ops : Array Oper} {rest : List Oper} {o : Oper} {a : Act} {w : World} {Q : Exit → Act → World → Prop} (hg : o.guard = none) (t : TypeId) (parts : Array (Nat × Operand)) (cs : Array Value) (ho : o.op = .build t parts)
    (hf : P.built t (parts.map fun (i, x) => (i, a.eval x)).toList = some cs) (h : wpList P ops Q rest (a.put o.dst (.agg cs)) w) : wpList P ops Q (o :: rest) a w :=
  wpList_build hg t parts ho (by rw [hf]; rfl) (by rw [hf]; exact h)
structure Boxed (M : Prop) : Prop where
  out : M
set_option maxRecDepth 20000 in
theorem merge_at {M G : Prop} (m : M) (g : Boxed M → G) : G := g ⟨m⟩
set_option maxRecDepth 20000 in
theorem wpAnyH_at {P : Program} {md : Region.Mode} {ops : Array Oper} {Q : Exit → Act → World → Prop} {S : World → Prop} {n : Nat} {L' : Array Bool} {a : Act} {w : World} (L : Array Bool) (h : L' = L) (hW : wpAnyH P md ops Q S n L a w) : wpAnyH P md ops Q S n L' a w := h ▸ hW
set_option maxRecDepth 20000 in
theorem ent_zero : EntM.zero.cells = [.int .i64 0, .int .i64 0, .int .i64 0, .int .i64 0, .string ⟨#[]⟩] := rfl
set_option maxRecDepth 20000 in
theorem ent_info (e : EntM) : (Try.prog.info? 28).map (·.size) = some e.cells.toArray.size := by kernel_rfl
set_option maxRecDepth 20000 in
theorem rent_info (e : EntM) : (Try.prog.info? 23).map (·.size) = some e.cells.toArray.size := by kernel_rfl
def ParsePost (w : World) (s : ByteArray) (r : Ending) (w' : World) : Prop := r = .returned (.tuple #[.agg (parseM s).cells.toArray, .bool (parseOk s)]) ∧ Below w.heap.size w w'
set_option maxRecDepth 20000 in
theorem parse_no {s : ByteArray} (h : parseOk s = false) : parseM s = EntM.zero := by unfold parseM; rw [h]; rfl
set_option maxRecDepth 20000 in
theorem parse_yes {s : ByteArray} (h : parseOk s = true) : parseM s = saidE s := by unfold parseM; rw [if_pos h]
/-- what is asked of a block's said entry -/
theorem parse_cases {s : ByteArray} (h : s.size = 64) : parseOk s = ((saidE s).right && decide ((saidE s).block = s)) := by
  unfold parseOk
  rw [h]
  simp
set_option maxRecDepth 100000 in
set_option maxHeartbeats 4000000 in
theorem eParse_calls (s : ByteArray) (w : World) : Calls Try.prog 13 #[.string s] w (ParsePost w s) := by
  have HRES : Hid (Blk (w.alloc (.cells #[.int .i64 0, .int .i64 0, .int .i64 0, .int .i64 0, .string ⟨#[]⟩] 28)) w.heap.size 28 EntM.zero.cells.toArray) := hide (Blk.new w 28 _)
  have HB0 := hide ((Below.refl w.heap.size w).alloc (Nat.le_refl _) (.cells #[.int .i64 0, .int .i64 0, .int .i64 0, .int .i64 0, .string ⟨#[]⟩] 28))
  by_cases hl : s.size = 64
  · have HPC := hide (parse_cases hl)
    have hl1 : ((s.size : Int) != 64) = false := by rw [hl]; rfl
    have hlI : (44 : Int) ≤ (s.size : Int) := by omega
    have hlN : 44 ≤ s.size := by omega
    have hs : s.size ≤ 1000000000 := by omega
    have HBU := hide (eBuild_calls (saidE s))
    clear hl
    generalize hw0 : w.alloc (.cells #[.int .i64 0, .int .i64 0, .int .i64 0, .int .i64 0, .string ⟨#[]⟩] 28) = w0 at HRES HB0
    have HW0 := hide hw0
    go_enter Try.func13, Try.ntmps13
    go_wp2_with fail
    have HE1 : Hid (Blk ((w0.alloc (.cells #[.int .i64 0, .int .i64 0, .int .i64 0, .int .i64 0, .string ⟨#[]⟩] 28)).drew) w0.heap.size 28 EntM.zero.cells.toArray) := hide (Blk.new w0.drew 28 _)
    refine wp_region_heads [0, 2, 4, 6, 8, 9] 7 (fun _ => True) (by kernel_rfl) rfl (by kernel_rfl) (by kernel_rfl) (fun _ _ d _ _ h => by cases d <;> exact h) trivial ?_
    iterate 6
      refine' Heads.step rfl (by rfl) ?_ ?_
      rotate_left
      · intro w' hSw
        go_simp
        try with_reducible rfl
      simp only [Act.put, List.setIfInBounds_toArray, List.set_cons_zero, List.set_cons_succ]
    refine Heads.done ?_
    refine' merge_at ?_ ?_
    rotate_left 2
    · intro HM
      refine wpAnyH_ready (rs := [1, 11]) (by kernel_rfl) (by simp) (AllReadyH.cons rfl (fun K hK => ?_) (AllReadyH.cons rfl (fun K hK => ?_) AllReadyH.nil))
      rotate_left
      · skip
        go_simp
        refine hK.out _ _ trivial (fun _ => ?_)
        clear hK K
        refine wpAnyH_ready (rs := [1]) (by kernel_rfl) (by simp) (AllReadyH.cons rfl (fun K hK => ?_) AllReadyH.nil)
        go_simp
        refine (eget_calls s (by omega) 2 1 (by omega) (by omega) _).mono ?_
        rintro r w' ⟨rfl, rfl⟩
        refine hK.out _ _ trivial (fun _ => ?_)
        clear hK K
        refine wpAnyH_ready (rs := [3]) (by kernel_rfl) (by simp) (AllReadyH.cons rfl (fun K hK => ?_) AllReadyH.nil)
        go_simp
        refine (eget_calls s (by omega) 4 4 (by omega) (by omega) _).mono ?_
        rintro r w' ⟨rfl, rfl⟩
        refine hK.out _ _ trivial (fun _ => ?_)
        clear hK K
        refine wpAnyH_ready (rs := [5]) (by kernel_rfl) (by simp) (AllReadyH.cons rfl (fun K hK => ?_) AllReadyH.nil)
        go_simp
        refine (eget_calls s (by omega) 3 1 (by omega) (by omega) _).mono ?_
        rintro r w' ⟨rfl, rfl⟩
        refine hK.out _ _ trivial (fun _ => ?_)
        clear hK K
        refine wpAnyH_ready (rs := [7]) (by kernel_rfl) (by simp) (AllReadyH.cons rfl (fun K hK => ?_) AllReadyH.nil)
        go_simp
        refine (eget_calls s (by omega) 8 4 (by omega) (by omega) _).mono ?_
        rintro r w' ⟨rfl, rfl⟩
        refine hK.out _ _ trivial (fun _ => ?_)
        clear hK K
        refine wpAnyH_ready (rs := [10]) (by kernel_rfl) (by simp) (AllReadyH.cons rfl (fun K hK => ?_) AllReadyH.nil)
        rw [if_pos (by rfl)]
        refine wp_build_as _ _ (saidE s).cells.toArray rfl (by kernel_rfl) ?_
        refine hK.out _ _ trivial (fun _ => ?_)
        clear hK K
        simp only [Act.put, List.setIfInBounds_toArray]
        refine wpAnyH_at #[true, true, true, true, true, true, true, true, true, true, true, true, false] (by kernel_rfl) ?_
        exact HM.out
      go_simp
      refine (eget_calls s (by omega) 2 1 (by omega) (by omega) _).mono ?_
      rintro r w' ⟨rfl, rfl⟩
      refine hK.out _ _ trivial (fun _ => ?_)
      clear hK K
      refine wpAnyH_ready (rs := [3, 11]) (by kernel_rfl) (by simp) (AllReadyH.cons rfl (fun K hK => ?_) (AllReadyH.cons rfl (fun K hK => ?_) AllReadyH.nil))
      rotate_left
      · skip
        go_simp
        refine hK.out _ _ trivial (fun _ => ?_)
        clear hK K
        refine wpAnyH_ready (rs := [3]) (by kernel_rfl) (by simp) (AllReadyH.cons rfl (fun K hK => ?_) AllReadyH.nil)
        go_simp
        refine (eget_calls s (by omega) 4 4 (by omega) (by omega) _).mono ?_
        rintro r w' ⟨rfl, rfl⟩
        refine hK.out _ _ trivial (fun _ => ?_)
        clear hK K
        refine wpAnyH_ready (rs := [5]) (by kernel_rfl) (by simp) (AllReadyH.cons rfl (fun K hK => ?_) AllReadyH.nil)
        go_simp
        refine (eget_calls s (by omega) 3 1 (by omega) (by omega) _).mono ?_
        rintro r w' ⟨rfl, rfl⟩
        refine hK.out _ _ trivial (fun _ => ?_)
        clear hK K
        refine wpAnyH_ready (rs := [7]) (by kernel_rfl) (by simp) (AllReadyH.cons rfl (fun K hK => ?_) AllReadyH.nil)
        go_simp
        refine (eget_calls s (by omega) 8 4 (by omega) (by omega) _).mono ?_
        rintro r w' ⟨rfl, rfl⟩
        refine hK.out _ _ trivial (fun _ => ?_)
        clear hK K
        refine wpAnyH_ready (rs := [10]) (by kernel_rfl) (by simp) (AllReadyH.cons rfl (fun K hK => ?_) AllReadyH.nil)
        rw [if_pos (by rfl)]
        refine wp_build_as _ _ (saidE s).cells.toArray rfl (by kernel_rfl) ?_
        refine hK.out _ _ trivial (fun _ => ?_)
        clear hK K
        simp only [Act.put, List.setIfInBounds_toArray]
        refine wpAnyH_at #[true, true, true, true, true, true, true, true, true, true, true, true, false] (by kernel_rfl) ?_
        exact HM.out
      go_simp
      refine (eget_calls s (by omega) 4 4 (by omega) (by omega) _).mono ?_
      rintro r w' ⟨rfl, rfl⟩
      refine hK.out _ _ trivial (fun _ => ?_)
      clear hK K
      refine wpAnyH_ready (rs := [5, 11]) (by kernel_rfl) (by simp) (AllReadyH.cons rfl (fun K hK => ?_) (AllReadyH.cons rfl (fun K hK => ?_) AllReadyH.nil))
      rotate_left
      · skip
        go_simp
        refine hK.out _ _ trivial (fun _ => ?_)
        clear hK K
        refine wpAnyH_ready (rs := [5]) (by kernel_rfl) (by simp) (AllReadyH.cons rfl (fun K hK => ?_) AllReadyH.nil)
        go_simp
        refine (eget_calls s (by omega) 3 1 (by omega) (by omega) _).mono ?_
        rintro r w' ⟨rfl, rfl⟩
        refine hK.out _ _ trivial (fun _ => ?_)
        clear hK K
        refine wpAnyH_ready (rs := [7]) (by kernel_rfl) (by simp) (AllReadyH.cons rfl (fun K hK => ?_) AllReadyH.nil)
        go_simp
        refine (eget_calls s (by omega) 8 4 (by omega) (by omega) _).mono ?_
        rintro r w' ⟨rfl, rfl⟩
        refine hK.out _ _ trivial (fun _ => ?_)
        clear hK K
        refine wpAnyH_ready (rs := [10]) (by kernel_rfl) (by simp) (AllReadyH.cons rfl (fun K hK => ?_) AllReadyH.nil)
        rw [if_pos (by rfl)]
        refine wp_build_as _ _ (saidE s).cells.toArray rfl (by kernel_rfl) ?_
        refine hK.out _ _ trivial (fun _ => ?_)
        clear hK K
        simp only [Act.put, List.setIfInBounds_toArray]
        refine wpAnyH_at #[true, true, true, true, true, true, true, true, true, true, true, true, false] (by kernel_rfl) ?_
        exact HM.out
      go_simp
      refine (eget_calls s (by omega) 3 1 (by omega) (by omega) _).mono ?_
      rintro r w' ⟨rfl, rfl⟩
      refine hK.out _ _ trivial (fun _ => ?_)
      clear hK K
      refine wpAnyH_ready (rs := [7, 11]) (by kernel_rfl) (by simp) (AllReadyH.cons rfl (fun K hK => ?_) (AllReadyH.cons rfl (fun K hK => ?_) AllReadyH.nil))
      rotate_left
      · skip
        go_simp
        refine hK.out _ _ trivial (fun _ => ?_)
        clear hK K
        refine wpAnyH_ready (rs := [7]) (by kernel_rfl) (by simp) (AllReadyH.cons rfl (fun K hK => ?_) AllReadyH.nil)
        go_simp
        refine (eget_calls s (by omega) 8 4 (by omega) (by omega) _).mono ?_
        rintro r w' ⟨rfl, rfl⟩
        refine hK.out _ _ trivial (fun _ => ?_)
        clear hK K
        refine wpAnyH_ready (rs := [10]) (by kernel_rfl) (by simp) (AllReadyH.cons rfl (fun K hK => ?_) AllReadyH.nil)
        rw [if_pos (by rfl)]
        refine wp_build_as _ _ (saidE s).cells.toArray rfl (by kernel_rfl) ?_
        refine hK.out _ _ trivial (fun _ => ?_)
        clear hK K
        simp only [Act.put, List.setIfInBounds_toArray]
        refine wpAnyH_at #[true, true, true, true, true, true, true, true, true, true, true, true, false] (by kernel_rfl) ?_
        exact HM.out
      go_simp
      refine (eget_calls s (by omega) 8 4 (by omega) (by omega) _).mono ?_
      rintro r w' ⟨rfl, rfl⟩
      refine hK.out _ _ trivial (fun _ => ?_)
      clear hK K
      refine wpAnyH_ready (rs := [10, 11]) (by kernel_rfl) (by simp) (AllReadyH.cons rfl (fun K hK => ?_) (AllReadyH.cons rfl (fun K hK => ?_) AllReadyH.nil))
      rotate_left
      · skip
        go_simp
        refine hK.out _ _ trivial (fun _ => ?_)
        clear hK K
        refine wpAnyH_ready (rs := [10]) (by kernel_rfl) (by simp) (AllReadyH.cons rfl (fun K hK => ?_) AllReadyH.nil)
        rw [if_pos (by rfl)]
        refine wp_build_as _ _ (saidE s).cells.toArray rfl (by kernel_rfl) ?_
        refine hK.out _ _ trivial (fun _ => ?_)
        clear hK K
        simp only [Act.put, List.setIfInBounds_toArray]
        refine wpAnyH_at #[true, true, true, true, true, true, true, true, true, true, true, true, false] (by kernel_rfl) ?_
        exact HM.out
      rw [if_pos (by rfl)]
      refine wp_build_as _ _ (saidE s).cells.toArray rfl (by kernel_rfl) ?_
      refine hK.out _ _ trivial (fun _ => ?_)
      clear hK K
      simp only [Act.put, List.setIfInBounds_toArray]
      refine wpAnyH_ready (rs := [11]) (by kernel_rfl) (by simp) (AllReadyH.cons rfl (fun K hK => ?_) AllReadyH.nil)
      go_simp
      refine hK.out _ _ trivial (fun _ => ?_)
      clear hK K
      refine wpAnyH_at #[true, true, true, true, true, true, true, true, true, true, true, true, false] (by kernel_rfl) ?_
      exact HM.out
    have HST : Hid (∃ wn, ((w0.alloc (.cells #[.int .i64 0, .int .i64 0, .int .i64 0, .int .i64 0, .string ⟨#[]⟩] 28)).drew.setRow w0.heap.size (saidE s).cells.toArray) = wn) := hide ⟨_, rfl⟩
    have HNE : w.heap.size < w0.heap.size := HRES.out.lt
    have HS1 : Hid (Blk ((w0.alloc (.cells #[.int .i64 0, .int .i64 0, .int .i64 0, .int .i64 0, .string ⟨#[]⟩] 28)).drew.setRow w0.heap.size (saidE s).cells.toArray) w0.heap.size 28 (saidE s).cells.toArray) := hide (setRow_heap _ _ _ _ _ _ HE1.out)
    have HR1 : Hid (Blk ((w0.alloc (.cells #[.int .i64 0, .int .i64 0, .int .i64 0, .int .i64 0, .string ⟨#[]⟩] 28)).drew.setRow w0.heap.size (saidE s).cells.toArray) w.heap.size 28 EntM.zero.cells.toArray) := hide ((setRow_other _ _ _ _ (Nat.ne_of_lt HNE)).trans (Blk.alloc (w := w0.drew) HRES.out _))
    have HB1 := hide (below_setRow (HB0.out.drew.alloc HB0.out.size (.cells #[.int .i64 0, .int .i64 0, .int .i64 0, .int .i64 0, .string ⟨#[]⟩] 28)) HB0.out.size (saidE s).cells.toArray)
    refine wpAnyH_ready (rs := [12]) (by kernel_rfl) (by simp) (AllReadyH.cons rfl (fun K hK => ?_) AllReadyH.nil)
    rw [if_pos (by rfl)]
    refine wp_store_row _ _ _ rfl w0.heap.size (saidE s).cells.toArray rfl (by kernel_rfl) 28 _ HE1.out (by kernel_rfl) rfl (by kernel_rfl) ?_
    refine hK.out _ _ trivial (fun _ => ?_)
    clear hK K
    refine wpAnyH_done (by kernel_rfl) ?_ _
    change Hid (Below w.heap.size w ((w0.alloc (.cells #[.int .i64 0, .int .i64 0, .int .i64 0, .int .i64 0, .string ⟨#[]⟩] 28)).drew.setRow w0.heap.size (saidE s).cells.toArray)) at HB1
    generalize ((w0.alloc (.cells #[.int .i64 0, .int .i64 0, .int .i64 0, .int .i64 0, .string ⟨#[]⟩] 28)).drew.setRow w0.heap.size (saidE s).cells.toArray) = w1 at *
    go_wp2_with ((with_reducible show wpList _ _ _ (⟨some 23, _, _, _, _, _⟩ :: _) _ _); refine wpList_load_row rfl _ _ rfl w0.heap.size rfl 28 _ (0, 0) _ HS1.out Try.underlying28 rfl (ent_info _) ?_)
    refine (HBU.out _).mono ?_
    rintro r w2 ⟨rfl, hb2⟩
    have HR2 := hide (HR1.out.below hb2 HR1.out.lt)
    have HS2 := hide (HS1.out.below hb2 HS1.out.lt)
    have HB2 := hide (HB1.out.trans (hb2.mono HB1.out.size))
    clear hb2 HST
    have HZR : Hid (Blk (w2.setRow w.heap.size EntM.zero.cells.toArray) w.heap.size 28 EntM.zero.cells.toArray) := hide (setRow_heap _ _ _ _ _ _ HR2.out)
    have HBZ := hide (below_setRow HB2.out (Nat.le_refl _) EntM.zero.cells.toArray)
    have HRR : Hid (Blk (w2.setRow w.heap.size (saidE s).cells.toArray) w.heap.size 28 (saidE s).cells.toArray) := hide (setRow_heap _ _ _ _ _ _ HR2.out)
    have HBR := hide (below_setRow HB2.out (Nat.le_refl _) (saidE s).cells.toArray)
    cases hr : (saidE s).right
    · have e1 : buildB (saidE s) = ⟨#[]⟩ := by unfold buildB; rw [hr]; rfl
      have e2 : buildE (saidE s) = 1 := by unfold buildE; rw [hr]; rfl
      have HP : Hid (parseOk s = false) := hide (by rw [HPC.out, hr]; rfl)
      have HPM := hide (parse_no HP.out)
      rw [e1, e2]
      clear e1 e2 hr
      go_wp2_with (first | ((with_reducible show wpList _ _ _ (⟨some 34, _, _, _, _, _⟩ :: _) _ _); refine wpList_build rfl _ _ rfl (by kernel_rfl) ?_) | ((with_reducible show wpList _ _ _ (⟨none, _, _, _, _, _⟩ :: _) _ _); refine wpList_store_row rfl _ _ _ rfl w.heap.size EntM.zero.cells.toArray rfl (by kernel_rfl) 28 _ HR2.out (by kernel_rfl) rfl (by kernel_rfl) ?_))
      exact ret_cell rfl rfl rfl HZR.out Try.underlying28 rfl (ent_info _) ⟨by rw [HP.out, HPM.out]; rfl, HBZ.out⟩
    · have e1 : buildB (saidE s) = (saidE s).block := by unfold buildB; rw [hr]; rfl
      have e2 : buildE (saidE s) = 0 := by unfold buildE; rw [hr]; rfl
      by_cases hq : (saidE s).block = s
      · have HP : Hid (parseOk s = true) := hide (by rw [HPC.out, hr, hq]; simp)
        have HPM := hide (parse_yes HP.out)
        rw [e1, e2, hq]
        clear e1 e2 hr hq
        go_wp2_with (first | ((with_reducible show wpList _ _ _ (⟨some 35, _, _, _, _, _⟩ :: _) _ _); refine wpList_load_row rfl _ _ rfl w0.heap.size rfl 28 _ (0, 0) _ HS2.out Try.underlying28 rfl (ent_info _) ?_) | ((with_reducible show wpList _ _ _ (⟨none, _, _, _, _, _⟩ :: _) _ _); refine wpList_store_row rfl _ _ _ rfl w.heap.size (saidE s).cells.toArray rfl rfl 28 _ HR2.out (ent_info _) rfl (by kernel_rfl) ?_))
        exact ret_cell rfl rfl rfl HRR.out Try.underlying28 rfl (ent_info _) ⟨by rw [HP.out, HPM.out]; rfl, HBR.out⟩
      · have HP : Hid (parseOk s = false) := hide (by rw [HPC.out, hr]; simpa using hq)
        have HPM := hide (parse_no HP.out)
        obtain ⟨n1, n2⟩ := rbytes_ne hq
        rw [e1, e2]
        clear e1 e2 hr hq
        generalize (saidE s).block = B at *
        go_wp2_with (first | ((with_reducible show wpList _ _ _ (⟨some 34, _, _, _, _, _⟩ :: _) _ _); refine wpList_build rfl _ _ rfl (by kernel_rfl) ?_) | ((with_reducible show wpList _ _ _ (⟨none, _, _, _, _, _⟩ :: _) _ _); refine wpList_store_row rfl _ _ _ rfl w.heap.size EntM.zero.cells.toArray rfl (by kernel_rfl) 28 _ HR2.out (by kernel_rfl) rfl (by kernel_rfl) ?_))
        exact ret_cell rfl rfl rfl HZR.out Try.underlying28 rfl (ent_info _) ⟨by rw [HP.out, HPM.out]; rfl, HBZ.out⟩
  · have HP : Hid (parseOk s = false) := hide (by unfold parseOk; simp [hl])
    have HPM := hide (parse_no HP.out)
    have hl1 : ((s.size : Int) != 64) = true := by rw [bne_iff_ne]; omega
    have HSR : Hid (Blk ((w.alloc (.cells #[.int .i64 0, .int .i64 0, .int .i64 0, .int .i64 0, .string ⟨#[]⟩] 28)).setRow w.heap.size EntM.zero.cells.toArray) w.heap.size 28 EntM.zero.cells.toArray) := hide (setRow_heap _ _ _ _ _ _ HRES.out)
    have HB1 := hide (below_setRow HB0.out (Nat.le_refl _) EntM.zero.cells.toArray)
    clear hl
    go_enter Try.func13, Try.ntmps13
    go_wp2_with ((with_reducible show wpList _ _ _ (⟨some 10, _, _, _, _, _⟩ :: _) _ _); refine wpList_build rfl _ _ rfl (by kernel_rfl) ?_; refine wpList_store_row rfl _ _ _ rfl w.heap.size EntM.zero.cells.toArray rfl (by kernel_rfl) 28 _ HRES.out (by kernel_rfl) rfl (by kernel_rfl) ?_)
    exact ret_cell rfl rfl rfl HSR.out Try.underlying28 rfl (ent_info _) ⟨by rw [HP.out, HPM.out]; rfl, HB1.out⟩
end Go.Proofs.Ytmbkncckcpgdgaa
