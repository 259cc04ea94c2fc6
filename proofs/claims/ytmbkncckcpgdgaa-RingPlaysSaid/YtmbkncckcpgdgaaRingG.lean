/- Chapter 5: the document's Scan, walked. -/
import Derived.Test.YtmbkncckcpgdgaaRingE
import Derived.Test.YtmbkncckcpgdgaaRingF
import Derived.Test.YtmbkncckcpgdgaaRingI
import Derived.Test.YtmbkncckcpgdgaaRd1
namespace Go.Proofs.Ytmbkncckcpgdgaa
open Go.RowKit Zb

set_option maxRecDepth 20000 in
theorem rentinfo : (Try.prog.info? 23).map (fun i => (i.zero, i.size, i.bytes)) = some (some (.agg EntM.zero.cells.toArray), 5, 48) := by kernel_rfl
set_option maxRecDepth 20000 in
theorem insE_mid : ∀ (L : List EntM) (x : EntM) (m : Nat), m ≤ L.length → (∀ (j : Nat) (y : EntM), j < m → L[j]? = some y → y.number < x.number) → (∀ y, L[m]? = some y → x.number < y.number) → insE L x = L.take m ++ x :: L.drop m := by
  intro L x m hm h1 h2
  by_cases h : m < L.length
  · exact insE_at L x m L[m] (List.getElem?_eq_getElem h) (h2 _ (List.getElem?_eq_getElem h)) fun j y hj hy => Int.le_of_lt (h1 j y hj hy)
  · rw [insE_end L x fun j y hy => Int.le_of_lt (h1 j y (by have := (List.getElem?_eq_some_iff.1 hy).1; omega) hy), List.take_of_length_le (by omega), List.drop_of_length_le (by omega)]
set_option maxRecDepth 20000 in
theorem scanTo_mod (D : DiskM) : ∀ n, ∀ x ∈ scanTo D n, x.number % 8 < (n : Int)
  | 0, x, hx => by simp [scanTo] at hx
  | n + 1, x, hx => by
    unfold scanTo scanStep at hx
    split at hx
    · next h =>
      rw [Bool.and_eq_true, decide_eq_true_eq] at h
      exact insE_all (p := fun x => x.number % 8 < ((n + 1 : Nat) : Int)) (by show _ < _; omega) _ (fun y hy => by have := scanTo_mod D n y hy; show _ < _; omega) x hx
    · have := scanTo_mod D n x hx; omega
/-- what is gathered ahead of the entry -/
structure NxInv (T : TypeId) (w3 wr : World) (v : Value) (L : List EntM) (e : EntM) (m : Nat) : Prop where
  bel : Below w3.heap.size w3 wr
  row : Row wr T 5 v m (ecells (L.take m))
  own : OwnNew w3 v
  le : ∀ (j : Nat) (y : EntM), j < m → L[j]? = some y → y.number < e.number
set_option maxRecDepth 20000 in
theorem row_past {w3 wr w4 : World} {T : TypeId} {v : Value} {n : Nat} {xs : List Value} {row : Option Nat} (h : Row w3 T 5 v n xs) (hb : Below w3.heap.size w3 wr) (o : Obj) (hg : (wr.drew.alloc o).grownBy w4 row) (hr : ∀ q, row = some q → w3.heap.size ≤ q) : Row w4 T 5 v n xs :=
  row_of h fun q hq => by
    have hq' := row_lt h q hq
    have hs := hb.size
    have h1 := hg.block q (by show q < (wr.heap.push o).size; rw [Array.size_push]; omega) (fun e => by have := hr q e.symm; omega)
    rw [h1, Below.heap_alloc _ _ _ (by show q < wr.heap.size; omega)]
    exact hb.block q hq'
set_option maxRecDepth 20000 in
set_option maxHeartbeats 2000000 in
theorem reScan_calls {w : World} {b : Nat} {F : Nat → Prop} {D : DiskM} (h : RAt w b F D) (hW : D.waits.length ≤ 4294967290) : Calls Try.prog 33 #[.pointer (some ⟨b, 0, none⟩)] w (ScanPost 23 w D) := by
  have HD := hide (fun w1 (hb : Below w.heap.size w w1) (i : Int) => rdread_calls (h.below hb) hW i)
  have HL8 : 8 ≤ D.lasts.length := by have := h.ok.len; omega
  have HERR := hide (fun (i : Nat) (hi : i < 8) => read_err HL8 hi)
  have HS0 : Hid (ScInv 23 w w (.slice none 0 0) D 0) := hide ⟨Below.refl _ _, row_nil _ _ _, own_nil w, fun h => by omega⟩
  clear h hW HL8
  go_enter Try.func33, Try.ntmps33
  go_wp2_with fail
  go_loopw [4, 5] (fun v i wr => ∃ (k : Nat), k ≤ 8 ∧ i = .int .i64 (k : Int) ∧ Hid (ScInv 23 w wr v D k)) (fun _ i _ => 8 - (intOf i).toNat)
  case atStart => exact ⟨0, by omega, rfl, HS0⟩
  case round =>
  obtain ⟨k, hk, rfl, HI⟩ := hrel
  by_cases hk8 : k < 8
  · have hkI : (k : Int) < 8 := by omega
    have HE := hide (HERR.out k hk8)
    go_wp2_with fail
    refine (HD.out _ HI.out.bel _).mono ?_
    rintro r w1 ⟨rfl, rfl⟩
    rw [HE.out]
    by_cases hf : scanE D = 0
    · rw [hf]
      have HF := hide hf
      have HSC : Hid (scanTo D (k + 1) = scanStep D (scanTo D k) k) := hide rfl
      unfold scanStep at HSC
      clear hf HE
      generalize (D.read (k : Int)).1 = s at *
      go_wp2_with fail
      refine (reParse_calls s _).mono ?_
      rintro r w2 ⟨rfl, hb2⟩
      have HI2 := hide (HI.out.below hb2)
      have HZ : Hid (Blk (w2.alloc (.cells #[.int .i64 0, .int .i64 0, .int .i64 0, .int .i64 0, .string ⟨#[]⟩] 23)) w2.heap.size 23 EntM.zero.cells.toArray) := hide (Blk.new w2 23 _)
      have HB3 : Hid (Blk ((w2.alloc (.cells #[.int .i64 0, .int .i64 0, .int .i64 0, .int .i64 0, .string ⟨#[]⟩] 23)).setRow w2.heap.size (parseM s).cells.toArray) w2.heap.size 23 (parseM s).cells.toArray) := hide (setRow_heap _ _ _ _ _ _ HZ.out)
      have HI3 : Hid (ScInv 23 w ((w2.alloc (.cells #[.int .i64 0, .int .i64 0, .int .i64 0, .int .i64 0, .string ⟨#[]⟩] 23)).setRow w2.heap.size (parseM s).cells.toArray) u4 D k) := hide (HI2.out.below (below_setRow ((Below.refl _ _).alloc (Nat.le_refl _) _) (Nat.le_refl _) _))
      clear hb2 HI HI2
      have z1 : ((w2.alloc (.cells #[.int .i64 0, .int .i64 0, .int .i64 0, .int .i64 0, .string ⟨#[]⟩] 23)).setRow w2.heap.size (parseM s).cells.toArray).cell? ⟨w2.heap.size, 1, none⟩ = some (.int .i64 (parseM s).number) := HB3.out.cell 1
      cases hp : parseOk s
      · have HI4 := hide (HI3.out.same (by rw [HSC.out, hp]; rfl) HF.out)
        clear hp
        go_wp2_with ((with_reducible show wpList _ _ _ (⟨none, _, _, _, _, _⟩ :: _) _ _); refine wpList_store_row rfl _ _ _ rfl w2.heap.size (parseM s).cells.toArray rfl rfl 23 _ HZ.out (rent_info _) rfl (by kernel_rfl) ?_; change wpList _ _ _ _ _ ((w2.alloc (.cells #[.int .i64 0, .int .i64 0, .int .i64 0, .int .i64 0, .string ⟨#[]⟩] 23)).setRow w2.heap.size (parseM s).cells.toArray); generalize ((w2.alloc (.cells #[.int .i64 0, .int .i64 0, .int .i64 0, .int .i64 0, .string ⟨#[]⟩] 23)).setRow w2.heap.size (parseM s).cells.toArray) = w3 at *)
        refine ⟨⟨k + 1, by omega, by go_num, HI4⟩, ?_⟩
        simp [intOf]; omega
      · have hR := (parse_right hp).1
        have htm : (parseM s).number.tmod 8 = (parseM s).number % 8 := Int.tmod_eq_emod_of_nonneg (by have := hR.n0; omega)
        clear hR
        by_cases hn : (parseM s).number % 8 = k
        · have HNE : Hid (∀ y, y ∈ scanTo D k → y.number ≠ (parseM s).number) := hide (fun y hy e => by have := scanTo_mod D k y hy; rw [e, hn] at this; omega)
          rw [← htm] at hn
          have HIN : Hid (scanTo D (k + 1) = insE (scanTo D k) (parseM s)) := hide (by rw [HSC.out, hp, ← htm, hn]; simp)
          have HTM := hide htm
          clear hp htm HSC
          have hROW := HI3.out.row
          have hlen8 := scanTo_len D k
          have hn1 : ((parseM s).number.tmod 8 != (k : Int)) = false := by simpa using hn
          obtain ⟨A, c, rfl, hc⟩ := row_slice HI3.out.row
          obtain ⟨n, hn⟩ : ∃ n, (scanTo D k).length = n := ⟨_, rfl⟩
          rw [hn] at hlen8 hc
          have HNL := hide hn
          rw [hn]
          clear hn hROW
          go_wp2_with ((with_reducible show wpList _ _ _ (⟨none, _, _, _, _, _⟩ :: _) _ _); refine wpList_store_row rfl _ _ _ rfl w2.heap.size (parseM s).cells.toArray rfl rfl 23 _ HZ.out (rent_info _) rfl (by kernel_rfl) ?_; change wpList _ _ _ _ _ ((w2.alloc (.cells #[.int .i64 0, .int .i64 0, .int .i64 0, .int .i64 0, .string ⟨#[]⟩] 23)).setRow w2.heap.size (parseM s).cells.toArray); generalize ((w2.alloc (.cells #[.int .i64 0, .int .i64 0, .int .i64 0, .int .i64 0, .string ⟨#[]⟩] 23)).setRow w2.heap.size (parseM s).cells.toArray) = w3 at *)
          have HB3 := hide HB3.out
          generalize parseM s = x at *
          have HROW : Hid (Row w3 23 5 (.slice A n c) n (ecells (scanTo D k))) := hide (by have := HI3.out.row; rw [HNL.out] at this; exact this)
          go_loopw [10, 11] (fun v i wr' => ∃ (m : Nat), m ≤ n ∧ i = .int .i64 (m : Int) ∧ Hid (NxInv 23 w3 wr' v (scanTo D k) x m)) (fun _ i _ => n - (intOf i).toNat)
          case atStart => exact ⟨0, by omega, rfl, hide ⟨Below.refl _ _, row_nil _ _ _, own_nil _, fun j y hj _ => by omega⟩⟩
          case round =>
          obtain ⟨m, hm, rfl, HJ⟩ := hrel
          by_cases hmn : m < n
          · have hmnI : (m : Int) < (n : Int) := by omega
            obtain ⟨g, c', he, _, hgl, _, hcell⟩ := row_form HROW.out (by omega)
            obtain ⟨rfl, -⟩ : A = some ⟨g, 0, none⟩ ∧ True := by
              simp only [Value.slice.injEq] at he
              exact ⟨he.1, trivial⟩
            have hlm : m < (scanTo D k).length := by rw [HNL.out]; exact hmn
            obtain ⟨y, hy⟩ : ∃ y, (scanTo D k)[m]? = some y := ⟨_, List.getElem?_eq_getElem hlm⟩
            have hc5 : ∀ j, j < 5 → wr.cell? ⟨g, m * 5 + j, none⟩ = y.cells[j]? := fun j hj => by
              rw [World.cell?_of_block (w := w3) (HJ.out.bel.block g hgl), hcell _ (by omega), ecells_get _ _ _ hy j hj]
            have y0 : wr.cell? ⟨g, m * 5, none⟩ = some (.int .i64 y.kind) := hc5 0 (by omega)
            have y1 : wr.cell? ⟨g, m * 5 + 1, none⟩ = some (.int .i64 y.number) := hc5 1 (by omega)
            have y2 : wr.cell? ⟨g, m * 5 + 2, none⟩ = some (.int .i64 y.slot) := hc5 2 (by omega)
            have y3 : wr.cell? ⟨g, m * 5 + 3, none⟩ = some (.int .i64 y.size) := hc5 3 (by omega)
            have y4 : wr.cell? ⟨g, m * 5 + 4, none⟩ = some (.string y.sum) := hc5 4 (by omega)
            have x1 : wr.cell? ⟨w2.heap.size, 1, none⟩ = some (.int .i64 x.number) := (HB3.out.below HJ.out.bel HB3.out.lt).cell 1
            have HY := hide hy
            clear he hcell hlm hc5 hy
            by_cases hlt : y.number < x.number
            · go_wp2_with fail
              refine wp_region_heads [0, 1, 2, 3, 4, 5, 6, 7, 8, 9, 10, 11, 12, 13] 0 (fun w' => w'.cell? ⟨g, m * 5 + 1, none⟩ = some (.int .i64 y.number) ∧ w'.cell? ⟨w2.heap.size, 1, none⟩ = some (.int .i64 x.number)) (by kernel_rfl) rfl (by kernel_rfl) (by kernel_rfl) (fun _ _ d _ _ h => by cases d <;> exact h) ⟨y1, x1⟩ ?_
              iterate 14
                first
                | refine' Heads.skip rfl (by rfl) ?_
                | (refine' Heads.step rfl (by rfl) ?_ ?_
                   rotate_left
                   · intro w' hSw
                     obtain ⟨s0, s1⟩ := hSw
                     go_simp
                     try with_reducible rfl)
                simp only [Act.put, List.setIfInBounds_toArray, List.set_cons_zero, List.set_cons_succ]
              refine Heads.done ?_
              refine wpAnyH_done (by kernel_rfl) ?_ _
              have q0 : wr.drew.cell? ⟨g, m * 5, none⟩ = some (.int .i64 y.kind) := y0
              have q1 : wr.drew.cell? ⟨g, m * 5 + 1, none⟩ = some (.int .i64 y.number) := y1
              have q2 : wr.drew.cell? ⟨g, m * 5 + 2, none⟩ = some (.int .i64 y.slot) := y2
              have q3 : wr.drew.cell? ⟨g, m * 5 + 3, none⟩ = some (.int .i64 y.size) := y3
              have q4 : wr.drew.cell? ⟨g, m * 5 + 4, none⟩ = some (.string y.sum) := y4
              have HJR := hide HJ.out.row
              have HJO := hide HJ.out.own
              obtain ⟨A2, c2, rfl, hc2⟩ := row_slice HJ.out.row
              clear y0 y1 y2 y3 y4 x1
              go_wp2_with (at_builtin; refine app_list rfl (.tmp 56) (.tmp 61) 70 23 rfl _ 5 48 Try.underlying70 rentinfo rfl (by decide) (.slice A2 m c2) m (ecells ((scanTo D k).take m)) rfl (row_alloc (w := wr.drew) HJR.out _) (.slice (some ⟨wr.heap.size, 0, none⟩) 1 1) 1 y.cells rfl (Zb.Src.blk (Blk.new wr.drew 23 y.cells.toArray)) rfl (ecells_one y) (by unfold maxLen; omega) (by omega) ?_; intro v1 w4 hr4 hg4 ha4)
              have HN : Hid (NxInv 23 w3 w4 v1 (scanTo D k) x (m + 1)) := hide (by
                have h1 := HJ.out.bel.drew
                have h2 := h1.alloc h1.size (.cells #[.int .i64 y.kind, .int .i64 y.number, .int .i64 y.slot, .int .i64 y.size, .string y.sum] 23)
                refine ⟨h2.grown hg4.out h2.size (fun q hq => HJO.out q hq), ?_, fun q hq => ?_, fun j z hj hz => ?_⟩
                · rw [List.take_add_one, HY.out]
                  show Row w4 23 5 v1 (m + 1) (ecells (_ ++ [y]))
                  rw [ecells_snoc]
                  exact hr4.out
                · rcases ha4.out with e | e
                  · exact HJO.out q (e ▸ hq)
                  · rw [e] at hq
                    cases hq
                    show _ ≤ (wr.heap.push _).size
                    rw [Array.size_push]
                    have := HJ.out.bel.size
                    omega
                · by_cases hjm : j < m
                  · exact HJ.out.le j z hjm hz
                  · obtain rfl : j = m := by omega
                    rw [HY.out, Option.some.injEq] at hz
                    rw [← hz]; exact hlt)
              refine ⟨⟨m + 1, by omega, by go_num, HN⟩, ?_⟩
              simp [intOf]; omega
            · have HGT : Hid (∀ z, (scanTo D k)[m]? = some z → x.number < z.number) := hide (fun z hz => by
                have := HNE.out z (List.mem_of_getElem? hz)
                rw [HY.out, Option.some.injEq] at hz
                rw [← hz] at this ⊢
                omega)
              go_wp2_with fail
              refine wp_region_heads [0, 1, 2, 3, 4, 5, 6, 7, 8, 9, 10, 11, 12, 13] 0 (fun w' => w'.cell? ⟨g, m * 5 + 1, none⟩ = some (.int .i64 y.number) ∧ w'.cell? ⟨w2.heap.size, 1, none⟩ = some (.int .i64 x.number)) (by kernel_rfl) rfl (by kernel_rfl) (by kernel_rfl) (fun _ _ d _ _ h => by cases d <;> exact h) ⟨y1, x1⟩ ?_
              iterate 14
                first
                | refine' Heads.skip rfl (by rfl) ?_
                | (refine' Heads.step rfl (by rfl) ?_ ?_
                   rotate_left
                   · intro w' hSw
                     obtain ⟨s0, s1⟩ := hSw
                     go_simp
                     try with_reducible rfl)
                simp only [Act.put, List.setIfInBounds_toArray, List.set_cons_zero, List.set_cons_succ]
              refine Heads.done ?_
              refine wpAnyH_done (by kernel_rfl) ?_ _
              clear y0 y1 y2 y3 y4 x1
              have hcm : ¬ c = m := by omega
              have HEX := hide (HIN.out.trans (insE_mid (scanTo D k) x m (by rw [HNL.out]; exact hm) HJ.out.le HGT.out))
              have hxw := HB3.out.below HJ.out.bel HB3.out.lt
              obtain ⟨s0, s1, s2, s3, s4⟩ := ent_all (show Blk wr.drew w2.heap.size 23 x.cells.toArray from hxw)
              clear hxw
              have HJR := hide HJ.out.row
              have HJO := hide HJ.out.own
              obtain ⟨A2, c2, rfl, hc2⟩ := row_slice HJ.out.row
              go_wp2_with (first | (at_builtin; refine app_list rfl (.tmp 65) (.tmp 67) 70 23 rfl _ 5 48 Try.underlying70 rentinfo rfl (by decide) (.slice A2 m c2) m (ecells ((scanTo D k).take m)) rfl (row_alloc (w := wr.drew) HJR.out _) (.slice (some ⟨wr.heap.size, 0, none⟩) 1 1) 1 x.cells rfl (Zb.Src.blk (Blk.new wr.drew 23 x.cells.toArray)) rfl (ecells_one x) (by unfold maxLen; omega) (by omega) ?_; intro v1 w4 hr4 hg4 ha4; have HROW4 := hide (row_past HROW.out HJ.out.bel _ hg4.out HJO.out)) | (at_builtin; refine app_list rfl (.tmp 69) (.tmp 72) 70 23 rfl _ 5 48 Try.underlying70 rentinfo rfl (by decide) v1 (m + 1) (ecells ((scanTo D k).take m) ++ x.cells) rfl hr4.out _ (n - m) (ecells ((scanTo D k).drop m)) rfl (src_tail HROW4.out m _ _ rfl) (by simp [ecells_len, HNL.out]) (ecells_ones _) (by unfold maxLen; omega) (by omega) ?_; intro v2 w5 hr5 hg5 ha5))
              have HI5 : Hid (ScInv 23 w w5 v2 D (k + 1)) := hide (by
                have hs3 := HI3.out.bel.size
                have ho1 : OwnNew w3 v1 := fun q hq => by
                  rcases ha4.out with e | e
                  · exact HJO.out q (e ▸ hq)
                  · rw [e] at hq
                    cases hq
                    show _ ≤ (wr.heap.push _).size
                    rw [Array.size_push]
                    have := HJ.out.bel.size
                    omega
                have h1 := (HI3.out.bel.trans (HJ.out.bel.mono hs3)).drew
                have h2 := h1.alloc h1.size (.cells #[.int .i64 x.kind, .int .i64 x.number, .int .i64 x.slot, .int .i64 x.size, .string x.sum] 23)
                have h3 := h2.grown hg4.out h2.size (fun q hq => Nat.le_trans hs3 (HJO.out q hq))
                have h4 := h3.grown hg5.out h3.size (fun q hq => Nat.le_trans hs3 (ho1 q hq))
                have e2 : ecells ((scanTo D k).take m ++ x :: (scanTo D k).drop m) = ecells ((scanTo D k).take m) ++ x.cells ++ ecells ((scanTo D k).drop m) := by rw [ecells_app]; simp [ecells]
                have e3 : ((scanTo D k).take m ++ x :: (scanTo D k).drop m).length = m + 1 + (n - m) := by
                  rw [List.length_append, List.length_take, List.length_cons, List.length_drop, HNL.out, Nat.min_eq_left (by omega)]
                  try omega
                refine ⟨h4, by rw [HEX.out, e2, e3]; exact hr5.out, fun q hq => ?_, fun _ => HF.out⟩
                rcases ha5.out with e | e
                · exact Nat.le_trans hs3 (ho1 q (e ▸ hq))
                · rw [e] at hq
                  cases hq
                  exact h3.size)
              refine ⟨⟨k + 1, by omega, by go_num, HI5⟩, ?_⟩
              simp [intOf]; omega
          · obtain rfl : m = n := by omega
            have HGT : Hid (∀ z, (scanTo D k)[m]? = some z → x.number < z.number) := hide (fun z hz => by
              have := (List.getElem?_eq_some_iff.1 hz).1
              rw [HNL.out] at this
              omega)
            go_wp2_with fail
            refine wp_region_heads [0, 1, 2, 3, 4, 5, 6, 7, 8, 9, 10, 11, 12, 13] 0 (fun w' => True) (by kernel_rfl) rfl (by kernel_rfl) (by kernel_rfl) (fun _ _ d _ _ h => by cases d <;> exact h) trivial ?_
            iterate 14
              first
              | refine' Heads.skip rfl (by rfl) ?_
              | (refine' Heads.step rfl (by rfl) ?_ ?_
                 rotate_left
                 · intro w' hSw
                   go_simp
                   try with_reducible rfl)
              simp only [Act.put, List.setIfInBounds_toArray, List.set_cons_zero, List.set_cons_succ]
            refine Heads.done ?_
            refine wpAnyH_done (by kernel_rfl) ?_ _
            cases A with
            | none =>
              obtain ⟨rfl, rfl⟩ : m = 0 ∧ c = 0 := by
                rcases HROW.out.2 with ⟨e, h⟩ | ⟨g, cap, cur, e, _⟩
                · simp only [Value.slice.injEq] at e; exact ⟨h, e.2.2⟩
                · exact absurd e (by simp)
              have HEX := hide (HIN.out.trans (insE_mid (scanTo D k) x 0 (by rw [HNL.out]; exact hm) HJ.out.le HGT.out))
              have hxw := HB3.out.below HJ.out.bel HB3.out.lt
              obtain ⟨s0, s1, s2, s3, s4⟩ := ent_all (show Blk wr.drew w2.heap.size 23 x.cells.toArray from hxw)
              clear hxw
              have HJR := hide HJ.out.row
              have HJO := hide HJ.out.own
              obtain ⟨A2, c2, rfl, hc2⟩ := row_slice HJ.out.row
              go_wp2_with (first | (at_builtin; refine app_list rfl (.tmp 65) (.tmp 67) 70 23 rfl _ 5 48 Try.underlying70 rentinfo rfl (by decide) (.slice A2 0 c2) 0 (ecells ((scanTo D k).take 0)) rfl (row_alloc (w := wr.drew) HJR.out _) (.slice (some ⟨wr.heap.size, 0, none⟩) 1 1) 1 x.cells rfl (Zb.Src.blk (Blk.new wr.drew 23 x.cells.toArray)) rfl (ecells_one x) (by unfold maxLen; omega) (by omega) ?_; intro v1 w4 hr4 hg4 ha4; have HROW4 := hide (row_past HROW.out HJ.out.bel _ hg4.out HJO.out)) | (at_builtin; refine app_list rfl (.tmp 69) (.tmp 72) 70 23 rfl _ 5 48 Try.underlying70 rentinfo rfl (by decide) v1 (0 + 1) (ecells ((scanTo D k).take 0) ++ x.cells) rfl hr4.out _ (0) (ecells ((scanTo D k).drop 0)) rfl (.inr ⟨rfl, rfl, by rw [List.drop_of_length_le (by rw [HNL.out]; exact Nat.le_refl _)]; rfl⟩) (by simp [ecells_len, HNL.out]) (ecells_ones _) (by unfold maxLen; omega) (by omega) ?_; intro v2 w5 hr5 hg5 ha5))
              have HI5 : Hid (ScInv 23 w w5 v2 D (k + 1)) := hide (by
                have hs3 := HI3.out.bel.size
                have ho1 : OwnNew w3 v1 := fun q hq => by
                  rcases ha4.out with e | e
                  · exact HJO.out q (e ▸ hq)
                  · rw [e] at hq
                    cases hq
                    show _ ≤ (wr.heap.push _).size
                    rw [Array.size_push]
                    have := HJ.out.bel.size
                    omega
                have h1 := (HI3.out.bel.trans (HJ.out.bel.mono hs3)).drew
                have h2 := h1.alloc h1.size (.cells #[.int .i64 x.kind, .int .i64 x.number, .int .i64 x.slot, .int .i64 x.size, .string x.sum] 23)
                have h3 := h2.grown hg4.out h2.size (fun q hq => Nat.le_trans hs3 (HJO.out q hq))
                have h4 := h3.grown hg5.out h3.size (fun q hq => Nat.le_trans hs3 (ho1 q hq))
                have e2 : ecells ((scanTo D k).take 0 ++ x :: (scanTo D k).drop 0) = ecells ((scanTo D k).take 0) ++ x.cells ++ ecells ((scanTo D k).drop 0) := by rw [ecells_app]; simp [ecells]
                have e3 : ((scanTo D k).take 0 ++ x :: (scanTo D k).drop 0).length = 0 + 1 + (0) := by
                  rw [List.length_append, List.length_take, List.length_cons, List.length_drop, HNL.out, Nat.min_eq_left (by omega)]
                  try omega
                refine ⟨h4, by rw [HEX.out, e2, e3]; exact hr5.out, fun q hq => ?_, fun _ => HF.out⟩
                rcases ha5.out with e | e
                · exact Nat.le_trans hs3 (ho1 q (e ▸ hq))
                · rw [e] at hq
                  cases hq
                  exact h3.size)
              refine ⟨⟨k + 1, by omega, by go_num, HI5⟩, ?_⟩
              simp [intOf]; omega
            | some ad =>
              obtain ⟨g, rfl⟩ : ∃ g, ad = ⟨g, 0, none⟩ := by
                rcases HROW.out.2 with ⟨e, h⟩ | ⟨g, cap, cur, e, _⟩
                · exact absurd e (by simp)
                · simp only [Value.slice.injEq, Option.some.injEq] at e; exact ⟨g, e.1⟩
              by_cases hcm : c = m
              · subst hcm
                have HEX := hide (HIN.out.trans (insE_mid (scanTo D k) x c (by rw [HNL.out]; exact hm) HJ.out.le HGT.out))
                have hxw := HB3.out.below HJ.out.bel HB3.out.lt
                obtain ⟨s0, s1, s2, s3, s4⟩ := ent_all (show Blk wr.drew w2.heap.size 23 x.cells.toArray from hxw)
                clear hxw
                have HJR := hide HJ.out.row
                have HJO := hide HJ.out.own
                obtain ⟨A2, c2, rfl, hc2⟩ := row_slice HJ.out.row
                go_wp2_with (first | (at_builtin; refine app_list rfl (.tmp 65) (.tmp 67) 70 23 rfl _ 5 48 Try.underlying70 rentinfo rfl (by decide) (.slice A2 c c2) c (ecells ((scanTo D k).take c)) rfl (row_alloc (w := wr.drew) HJR.out _) (.slice (some ⟨wr.heap.size, 0, none⟩) 1 1) 1 x.cells rfl (Zb.Src.blk (Blk.new wr.drew 23 x.cells.toArray)) rfl (ecells_one x) (by unfold maxLen; omega) (by omega) ?_; intro v1 w4 hr4 hg4 ha4; have HROW4 := hide (row_past HROW.out HJ.out.bel _ hg4.out HJO.out)) | (at_builtin; refine app_list rfl (.tmp 69) (.tmp 72) 70 23 rfl _ 5 48 Try.underlying70 rentinfo rfl (by decide) v1 (c + 1) (ecells ((scanTo D k).take c) ++ x.cells) rfl hr4.out _ (0) (ecells ((scanTo D k).drop c)) rfl (.inl ⟨_, _, rfl, fun j u hu => by rw [List.drop_of_length_le (by rw [HNL.out]; exact Nat.le_refl _)] at hu; simp [ecells] at hu⟩) (by simp [ecells_len, HNL.out]) (ecells_ones _) (by unfold maxLen; omega) (by omega) ?_; intro v2 w5 hr5 hg5 ha5))
                have HI5 : Hid (ScInv 23 w w5 v2 D (k + 1)) := hide (by
                  have hs3 := HI3.out.bel.size
                  have ho1 : OwnNew w3 v1 := fun q hq => by
                    rcases ha4.out with e | e
                    · exact HJO.out q (e ▸ hq)
                    · rw [e] at hq
                      cases hq
                      show _ ≤ (wr.heap.push _).size
                      rw [Array.size_push]
                      have := HJ.out.bel.size
                      omega
                  have h1 := (HI3.out.bel.trans (HJ.out.bel.mono hs3)).drew
                  have h2 := h1.alloc h1.size (.cells #[.int .i64 x.kind, .int .i64 x.number, .int .i64 x.slot, .int .i64 x.size, .string x.sum] 23)
                  have h3 := h2.grown hg4.out h2.size (fun q hq => Nat.le_trans hs3 (HJO.out q hq))
                  have h4 := h3.grown hg5.out h3.size (fun q hq => Nat.le_trans hs3 (ho1 q hq))
                  have e2 : ecells ((scanTo D k).take c ++ x :: (scanTo D k).drop c) = ecells ((scanTo D k).take c) ++ x.cells ++ ecells ((scanTo D k).drop c) := by rw [ecells_app]; simp [ecells]
                  have e3 : ((scanTo D k).take c ++ x :: (scanTo D k).drop c).length = c + 1 + (0) := by
                    rw [List.length_append, List.length_take, List.length_cons, List.length_drop, HNL.out, Nat.min_eq_left (by omega)]
                    try omega
                  refine ⟨h4, by rw [HEX.out, e2, e3]; exact hr5.out, fun q hq => ?_, fun _ => HF.out⟩
                  rcases ha5.out with e | e
                  · exact Nat.le_trans hs3 (ho1 q (e ▸ hq))
                  · rw [e] at hq
                    cases hq
                    exact h3.size)
                refine ⟨⟨k + 1, by omega, by go_num, HI5⟩, ?_⟩
                simp [intOf]; omega
              · skip
                have HEX := hide (HIN.out.trans (insE_mid (scanTo D k) x m (by rw [HNL.out]; exact hm) HJ.out.le HGT.out))
                have hxw := HB3.out.below HJ.out.bel HB3.out.lt
                obtain ⟨s0, s1, s2, s3, s4⟩ := ent_all (show Blk wr.drew w2.heap.size 23 x.cells.toArray from hxw)
                clear hxw
                have HJR := hide HJ.out.row
                have HJO := hide HJ.out.own
                obtain ⟨A2, c2, rfl, hc2⟩ := row_slice HJ.out.row
                go_wp2_with (first | (at_builtin; refine app_list rfl (.tmp 65) (.tmp 67) 70 23 rfl _ 5 48 Try.underlying70 rentinfo rfl (by decide) (.slice A2 m c2) m (ecells ((scanTo D k).take m)) rfl (row_alloc (w := wr.drew) HJR.out _) (.slice (some ⟨wr.heap.size, 0, none⟩) 1 1) 1 x.cells rfl (Zb.Src.blk (Blk.new wr.drew 23 x.cells.toArray)) rfl (ecells_one x) (by unfold maxLen; omega) (by omega) ?_; intro v1 w4 hr4 hg4 ha4; have HROW4 := hide (row_past HROW.out HJ.out.bel _ hg4.out HJO.out)) | (at_builtin; refine app_list rfl (.tmp 69) (.tmp 72) 70 23 rfl _ 5 48 Try.underlying70 rentinfo rfl (by decide) v1 (m + 1) (ecells ((scanTo D k).take m) ++ x.cells) rfl hr4.out _ (0) (ecells ((scanTo D k).drop m)) rfl (src_tail HROW4.out m _ _ rfl) (by simp [ecells_len, HNL.out]) (ecells_ones _) (by unfold maxLen; omega) (by omega) ?_; intro v2 w5 hr5 hg5 ha5))
                have HI5 : Hid (ScInv 23 w w5 v2 D (k + 1)) := hide (by
                  have hs3 := HI3.out.bel.size
                  have ho1 : OwnNew w3 v1 := fun q hq => by
                    rcases ha4.out with e | e
                    · exact HJO.out q (e ▸ hq)
                    · rw [e] at hq
                      cases hq
                      show _ ≤ (wr.heap.push _).size
                      rw [Array.size_push]
                      have := HJ.out.bel.size
                      omega
                  have h1 := (HI3.out.bel.trans (HJ.out.bel.mono hs3)).drew
                  have h2 := h1.alloc h1.size (.cells #[.int .i64 x.kind, .int .i64 x.number, .int .i64 x.slot, .int .i64 x.size, .string x.sum] 23)
                  have h3 := h2.grown hg4.out h2.size (fun q hq => Nat.le_trans hs3 (HJO.out q hq))
                  have h4 := h3.grown hg5.out h3.size (fun q hq => Nat.le_trans hs3 (ho1 q hq))
                  have e2 : ecells ((scanTo D k).take m ++ x :: (scanTo D k).drop m) = ecells ((scanTo D k).take m) ++ x.cells ++ ecells ((scanTo D k).drop m) := by rw [ecells_app]; simp [ecells]
                  have e3 : ((scanTo D k).take m ++ x :: (scanTo D k).drop m).length = m + 1 + (0) := by
                    rw [List.length_append, List.length_take, List.length_cons, List.length_drop, HNL.out, Nat.min_eq_left (by omega)]
                    try omega
                  refine ⟨h4, by rw [HEX.out, e2, e3]; exact hr5.out, fun q hq => ?_, fun _ => HF.out⟩
                  rcases ha5.out with e | e
                  · exact Nat.le_trans hs3 (ho1 q (e ▸ hq))
                  · rw [e] at hq
                    cases hq
                    exact h3.size)
                refine ⟨⟨k + 1, by omega, by go_num, HI5⟩, ?_⟩
                simp [intOf]; omega
        · have HI4 := hide (HI3.out.same (by rw [HSC.out, hp]; simp [hn]) HF.out)
          rw [← htm] at hn
          have hn1 : ((parseM s).number.tmod 8 != (k : Int)) = true := by simpa using hn
          clear hp htm
          go_wp2_with ((with_reducible show wpList _ _ _ (⟨none, _, _, _, _, _⟩ :: _) _ _); refine wpList_store_row rfl _ _ _ rfl w2.heap.size (parseM s).cells.toArray rfl rfl 23 _ HZ.out (rent_info _) rfl (by kernel_rfl) ?_; change wpList _ _ _ _ _ ((w2.alloc (.cells #[.int .i64 0, .int .i64 0, .int .i64 0, .int .i64 0, .string ⟨#[]⟩] 23)).setRow w2.heap.size (parseM s).cells.toArray); generalize ((w2.alloc (.cells #[.int .i64 0, .int .i64 0, .int .i64 0, .int .i64 0, .string ⟨#[]⟩] 23)).setRow w2.heap.size (parseM s).cells.toArray) = w3 at *)
          refine ⟨⟨k + 1, by omega, by go_num, HI4⟩, ?_⟩
          simp [intOf]; omega
    · have HF := hide hf
      have HSL : Hid (scanL D = []) := hide (by unfold scanL; rw [if_neg hf])
      obtain ⟨f, hfe⟩ : ∃ f, scanE D = f := ⟨_, rfl⟩
      rw [hfe]
      rw [hfe] at hf
      have hf1 : (f != 0) = true := by simpa using hf
      have HFE := hide hfe
      clear hfe
      go_wp2_with fail
      go_ret2
      exact ⟨_, by rw [HFE.out]; rfl, HI.out.bel, by rw [HSL.out]; exact row_nil _ _ _, own_nil w⟩
  · obtain rfl : k = 8 := by omega
    have hs0 := HI.out.err (by omega)
    have HS0 := hide hs0
    have HSL : Hid (scanL D = scanTo D 8) := hide (by unfold scanL; rw [if_pos hs0])
    clear hs0 hk8
    go_wp2_with fail
    go_ret2
    exact ⟨_, by rw [HS0.out]; rfl, HI.out.bel, by rw [HSL.out]; exact HI.out.row, HI.out.own⟩
end Go.Proofs.Ytmbkncckcpgdgaa
