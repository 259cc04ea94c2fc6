/- Chapter 5: Scan, walked. -/
import Derived.Test.YtmbkncckcpgdgaaRingD
import Derived.Test.YtmbkncckcpgdgaaRingN
import Derived.Test.YtmbkncckcpgdgaaDk1
import Derived.WalkMore
namespace Go.Proofs.Ytmbkncckcpgdgaa
open Go.RowKit Zb

structure ScInv (T : TypeId) (w wr : World) (v : Value) (D : DiskM) (k : Nat) : Prop where
  bel : Below w.heap.size w wr
  row : Row wr T 5 v (scanTo D k).length (ecells (scanTo D k))
  own : OwnNew w v
  err : 0 < k → scanE D = 0
set_option maxRecDepth 20000 in
theorem ScInv.below {T : TypeId} {w wr w1 : World} {v : Value} {D : DiskM} {k : Nat} (h : ScInv T w wr v D k) (hb : Below wr.heap.size wr w1) : ScInv T w w1 v D k :=
  ⟨h.bel.trans (hb.mono h.bel.size), row_of h.row fun g hg => hb.block g (row_lt h.row g hg), h.own, h.err⟩
set_option maxRecDepth 20000 in
theorem ScInv.same {T : TypeId} {w wr : World} {v : Value} {D : DiskM} {k : Nat} (h : ScInv T w wr v D k) (hs : scanTo D (k + 1) = scanTo D k) (h0 : scanE D = 0) : ScInv T w wr v D (k + 1) :=
  ⟨h.bel, by rw [hs]; exact h.row, h.own, fun _ => h0⟩
set_option maxRecDepth 20000 in
theorem entinfo : (Try.prog.info? 28).map (fun i => (i.zero, i.size, i.bytes)) = some (some (.agg EntM.zero.cells.toArray), 5, 48) := by kernel_rfl
set_option maxRecDepth 20000 in
theorem src_tail {w : World} {T : TypeId} {g n c c' : Nat} {L : List EntM} (h : Row w T 5 (.slice (some ⟨g, 0, none⟩) n c) n (ecells L)) (m p q : Nat) (hp : p = m * 5) : Zb.Src w (.slice (some ⟨g, p, none⟩) q c') q (ecells (L.drop m)) := by
  refine .inl ⟨_, _, rfl, fun j u hu => ?_⟩
  rw [ecells_drop, List.getElem?_drop] at hu
  have := World.ownsRow.cells h rfl (m * 5 + j) u hu
  subst hp
  rw [← this]
  rw [Addr.add_lit, Addr.add_lit, Nat.zero_add]
set_option maxRecDepth 20000 in
theorem row_head {w : World} {T : TypeId} {g n c : Nat} {L : List EntM} (h : Row w T 5 (.slice (some ⟨g, 0, none⟩) n c) n (ecells L)) (m : Nat) : ∀ j u, (ecells (L.take m))[j]? = some u → w.cell? ((⟨g, 0, none⟩ : Addr).add j) = some u := by
  intro j u hu
  rw [ecells_take, List.getElem?_take] at hu
  split at hu
  · exact World.ownsRow.cells h rfl j u hu
  · cases hu
structure InInv (w3 wr : World) (L : List EntM) (e : EntM) (m : Nat) : Prop where
  bel : Below w3.heap.size w3 wr
  le : ∀ (j : Nat) (y : EntM), j < m → L[j]? = some y → y.number ≤ e.number
def ScanPost (T : TypeId) (w : World) (D : DiskM) (r : Ending) (w' : World) : Prop := ∃ v, r = .returned (.tuple #[v, .int .i64 (scanE D)]) ∧ Below w.heap.size w w' ∧ Row w' T 5 v (scanL D).length (ecells (scanL D)) ∧ OwnNew w v
set_option maxRecDepth 20000 in
theorem own_nil (w : World) : OwnNew w (.slice none 0 0) := fun g hg => by simp [Value.ownBlock] at hg
set_option maxRecDepth 20000 in
set_option maxHeartbeats 2000000 in
theorem eScan_calls {w : World} {b : Nat} {F : Nat → Prop} {D : DiskM} (h : DiskAt w b F D) (hW : D.waits.length ≤ 4294967290) : Calls Try.prog 17 #[.pointer (some ⟨b, 0, none⟩)] w (ScanPost 28 w D) := by
  have HD := hide (fun w1 (hb : Below w.heap.size w w1) (i : Int) => dread_calls (h.below hb) hW i)
  have HL8 : 8 ≤ D.lasts.length := by have := h.ok.len; omega
  have HERR := hide (fun (i : Nat) (hi : i < 8) => read_err HL8 hi)
  have HS0 : Hid (ScInv 28 w w (.slice none 0 0) D 0) := hide ⟨Below.refl _ _, row_nil _ _ _, own_nil w, fun h => by omega⟩
  clear h hW HL8
  go_enter Try.func17, Try.ntmps17
  go_wp2_with fail
  go_step3
  go_wp2_with fail
  go_step3
  go_wp2_with fail
  go_loopw [4, 12] (fun v i wr => ∃ (k : Nat), k ≤ 8 ∧ i = .int .i64 (k : Int) ∧ Hid (ScInv 28 w wr v D k)) (fun _ i _ => 8 - (intOf i).toNat)
  case atStart => exact ⟨0, by omega, rfl, HS0⟩
  case round =>
  obtain ⟨k, hk, rfl, HI⟩ := hrel
  by_cases hk8 : k < 8
  · have hkI : (k : Int) < 8 := by omega
    have HE := hide (HERR.out k hk8)
    go_wp2_with fail
    refine (HD.out _ HI.out.bel _).mono ?_
    rintro r w1 ⟨rfl, rfl⟩
    rw [HE.out]
    by_cases hf : scanE D = 0
    · rw [hf]
      have HF := hide hf
      have HSC : Hid (scanTo D (k + 1) = scanStep D (scanTo D k) k) := hide rfl
      unfold scanStep at HSC
      clear hf HE
      generalize (D.read (k : Int)).1 = s at *
      go_wp2_with fail
      refine (eParse_calls s _).mono ?_
      rintro r w2 ⟨rfl, hb2⟩
      have HI2 := hide (HI.out.below hb2)
      have HZ : Hid (Blk (w2.alloc (.cells #[.int .i64 0, .int .i64 0, .int .i64 0, .int .i64 0, .string ⟨#[]⟩] 28)) w2.heap.size 28 EntM.zero.cells.toArray) := hide (Blk.new w2 28 _)
      have HB3 : Hid (Blk ((w2.alloc (.cells #[.int .i64 0, .int .i64 0, .int .i64 0, .int .i64 0, .string ⟨#[]⟩] 28)).setRow w2.heap.size (parseM s).cells.toArray) w2.heap.size 28 (parseM s).cells.toArray) := hide (setRow_heap _ _ _ _ _ _ HZ.out)
      have HI3 : Hid (ScInv 28 w ((w2.alloc (.cells #[.int .i64 0, .int .i64 0, .int .i64 0, .int .i64 0, .string ⟨#[]⟩] 28)).setRow w2.heap.size (parseM s).cells.toArray) u4 D k) := hide (HI2.out.below (below_setRow ((Below.refl _ _).alloc (Nat.le_refl _) _) (Nat.le_refl _) _))
      clear hb2 HI HI2
      have z1 : ((w2.alloc (.cells #[.int .i64 0, .int .i64 0, .int .i64 0, .int .i64 0, .string ⟨#[]⟩] 28)).setRow w2.heap.size (parseM s).cells.toArray).cell? ⟨w2.heap.size, 1, none⟩ = some (.int .i64 (parseM s).number) := HB3.out.cell 1
      cases hp : parseOk s
      · have HI4 := hide (HI3.out.same (by rw [HSC.out, hp]; rfl) HF.out)
        clear hp
        go_wp2_with ((with_reducible show wpList _ _ _ (⟨none, _, _, _, _, _⟩ :: _) _ _); refine wpList_store_row rfl _ _ _ rfl w2.heap.size (parseM s).cells.toArray rfl rfl 28 _ HZ.out (ent_info _) rfl (by kernel_rfl) ?_; change wpList _ _ _ _ _ (World.setRow (w2.alloc (.cells #[.int .i64 0, .int .i64 0, .int .i64 0, .int .i64 0, .string ⟨#[]⟩] 28)) w2.heap.size (parseM s).cells.toArray); generalize World.setRow (w2.alloc (.cells #[.int .i64 0, .int .i64 0, .int .i64 0, .int .i64 0, .string ⟨#[]⟩] 28)) w2.heap.size (parseM s).cells.toArray = w3 at *)
        refine ⟨⟨k + 1, by omega, by go_num, HI4⟩, ?_⟩
        simp [intOf]; omega
      · have hR := (parse_right hp).1
        have htm : (parseM s).number.tmod 8 = (parseM s).number % 8 := Int.tmod_eq_emod_of_nonneg (by have := hR.n0; omega)
        clear hR
        by_cases hn : (parseM s).number % 8 = k
        · rw [← htm] at hn
          have HIN : Hid (scanTo D (k + 1) = insE (scanTo D k) (parseM s)) := hide (by rw [HSC.out, hp, ← htm, hn]; simp)
          have HTM := hide htm
          clear hp htm HSC
          have hROW := HI3.out.row
          have hlen8 := scanTo_len D k
          have hn1 : ((parseM s).number.tmod 8 != (k : Int)) = false := by simpa using hn
          go_wp2_with ((with_reducible show wpList _ _ _ (⟨none, _, _, _, _, _⟩ :: _) _ _); refine wpList_store_row rfl _ _ _ rfl w2.heap.size (parseM s).cells.toArray rfl rfl 28 _ HZ.out (ent_info _) rfl (by kernel_rfl) ?_; change wpList _ _ _ _ _ (World.setRow (w2.alloc (.cells #[.int .i64 0, .int .i64 0, .int .i64 0, .int .i64 0, .string ⟨#[]⟩] 28)) w2.heap.size (parseM s).cells.toArray); generalize World.setRow (w2.alloc (.cells #[.int .i64 0, .int .i64 0, .int .i64 0, .int .i64 0, .string ⟨#[]⟩] 28)) w2.heap.size (parseM s).cells.toArray = w3 at *)
          obtain ⟨A, c, rfl, hc⟩ := row_slice HI3.out.row
          obtain ⟨n, hn⟩ : ∃ n, (scanTo D k).length = n := ⟨_, rfl⟩
          rw [hn] at hlen8 hc
          have HNL := hide hn
          rw [hn]
          clear hn hROW
          go_wp2_with fail
          generalize parseM s = x at *
          go_simp
          go_wp2_with fail
          have HB3 := hide HB3.out
          have HROW : Hid (Row w3 28 5 (.slice A n c) n (ecells (scanTo D k))) := hide (by have := HI3.out.row; rw [HNL.out] at this; exact this)
          have HOWN : Hid (OwnNew w (.slice A n c)) := hide (by have := HI3.out.own; rw [HNL.out] at this; exact this)
          go_loopw [4, 40] (fun v i wr' => ∃ (m : Nat), m ≤ n ∧ v = .slice A n c ∧ i = .int .i64 (m : Int) ∧ Hid (InInv w3 wr' (scanTo D k) x m)) (fun _ i _ => n - (intOf i).toNat)
          case atStart => exact ⟨0, by omega, rfl, rfl, hide ⟨Below.refl _ _, fun j y hj _ => by omega⟩⟩
          case round =>
          obtain ⟨m, hm, rfl, rfl, HJ⟩ := hrel
          by_cases hmn : m < n
          · have hmnI : (m : Int) < (n : Int) := by omega
            obtain ⟨g, c', he, _, hgl, _, hcell⟩ := row_form HROW.out (by omega)
            obtain ⟨rfl, -⟩ : A = some ⟨g, 0, none⟩ ∧ True := by
              simp only [Value.slice.injEq] at he
              exact ⟨he.1, trivial⟩
            have hlm : m < (scanTo D k).length := by rw [HNL.out]; exact hmn
            obtain ⟨y, hy⟩ : ∃ y, (scanTo D k)[m]? = some y := ⟨_, List.getElem?_eq_getElem hlm⟩
            have hc5 : ∀ j, j < 5 → wr.cell? ⟨g, m * 5 + j, none⟩ = y.cells[j]? := fun j hj => by
              rw [World.cell?_of_block (w := w3) (HJ.out.bel.block g hgl), hcell _ (by omega), ecells_get _ _ _ hy j hj]
            have y0 : wr.cell? ⟨g, m * 5, none⟩ = some (.int .i64 y.kind) := hc5 0 (by omega)
            have y1 : wr.cell? ⟨g, m * 5 + 1, none⟩ = some (.int .i64 y.number) := hc5 1 (by omega)
            have y2 : wr.cell? ⟨g, m * 5 + 2, none⟩ = some (.int .i64 y.slot) := hc5 2 (by omega)
            have y3 : wr.cell? ⟨g, m * 5 + 3, none⟩ = some (.int .i64 y.size) := hc5 3 (by omega)
            have y4 : wr.cell? ⟨g, m * 5 + 4, none⟩ = some (.string y.sum) := hc5 4 (by omega)
            have HY := hide hy
            clear he hcell hlm hc5 hy
            have HX1 : Hid (Blk (wr.alloc (.cells #[.int .i64 y.kind, .int .i64 y.number, .int .i64 y.slot, .int .i64 y.size, .string y.sum] 28)) w2.heap.size 28 x.cells.toArray) := hide ((HB3.out.below HJ.out.bel HB3.out.lt).alloc _)
            have HBJ : Hid (Below w3.heap.size w3 (wr.alloc (.cells #[.int .i64 y.kind, .int .i64 y.number, .int .i64 y.slot, .int .i64 y.size, .string y.sum] 28))) := hide (HJ.out.bel.alloc HJ.out.bel.size _)
            have x1 : (wr.alloc (.cells #[.int .i64 y.kind, .int .i64 y.number, .int .i64 y.slot, .int .i64 y.size, .string y.sum] 28)).cell? ⟨w2.heap.size, 1, none⟩ = some (.int .i64 x.number) := HX1.out.cell 1
            by_cases hgt : x.number < y.number
            · have hgt1 : y.number > x.number := hgt
              have HINS := hide (insE_at (scanTo D k) x m y HY.out hgt HJ.out.le)
              go_wp2_with fail
              clear hgt hgt1 x1 y0 y1 y2 y3 y4
              generalize wr.alloc (.cells #[.int .i64 y.kind, .int .i64 y.number, .int .i64 y.slot, .int .i64 y.size, .string y.sum] 28) = W1 at *
              have hcm : m ≤ c := by omega
              have hcm2 : ¬ c = m := by omega
              have HROW1 : Hid (Row W1 28 5 (.slice (some ⟨g, 0, none⟩) n c) n (ecells (scanTo D k))) := hide (row_of HROW.out fun q hq => HBJ.out.block q (row_lt HROW.out q hq))
              refine wp_region_heads [0, 1, 2, 3, 4, 6, 7, 8] 4 (fun w' => Blk w' w2.heap.size 28 x.cells.toArray) (by kernel_rfl) rfl (by kernel_rfl) (by kernel_rfl) (fun _ _ d _ _ h => by cases d <;> exact h) HX1.out ?_
              iterate 8
                refine' Heads.step rfl (by rfl) ?_ ?_
                rotate_left
                · intro w' hSw
                  obtain ⟨s0, s1, s2, s3, s4⟩ := ent_all hSw
                  go_simp
                  try with_reducible rfl
                simp only [Act.put, List.setIfInBounds_toArray, List.set_cons_zero, List.set_cons_succ]
              refine Heads.done ?_
              refine wpAnyH_ready (rs := [5]) (by kernel_rfl) (by simp) (AllReadyH.cons rfl (fun K hK => ?_) AllReadyH.nil)
              go_simp
              refine hK.out _ _ (Blk.alloc (w := W1.drew) HX1.out _) (fun hHeld1 => ?_)
              clear hK K
              refine wpAnyH_ready (rs := [9]) (by kernel_rfl) (by simp) (AllReadyH.cons rfl (fun K hK => ?_) AllReadyH.nil)
              rw [if_pos (by rfl)]
              refine app_op (.tmp 55) (.tmp 58) 40 28 rfl _ 5 48 Try.underlying40 entinfo rfl (by decide) (.slice (some ⟨W1.heap.size, 0, none⟩) 1 1) 1 x.cells rfl (World.ownsRow_lit (base := 0) W1.drew x.cells.toArray 1 (Nat.zero_le _) (by unfold maxLen; omega) rfl) _ (n - m) (ecells ((scanTo D k).drop m)) rfl (src_tail (row_alloc (w := W1.drew) HROW1.out _) m _ _ rfl) (by rw [ecells_len, List.length_drop, HNL.out]) (ecells_ones _) (by unfold maxLen; omega) (by omega) ?_
              intro v1 w4 hr4 hg4 ha4
              refine hK.out _ _ ((Blk.alloc (w := W1.drew) HX1.out (.cells x.cells.toArray 28)).grown hg4.out (fun e => by have := HX1.out.lt; have e' : w2.heap.size = W1.heap.size := Option.some.inj e; omega)) (fun hHeld2 => ?_)
              clear hK K
              have HROW4 : Hid (Row w4 28 5 (.slice (some ⟨g, 0, none⟩) n c) n (ecells (scanTo D k))) := hide (World.ownsRow.kept (row_alloc (w := W1.drew) HROW1.out _) hg4.out (.inr (fun e => by have := row_lt HROW1.out g rfl; have e' : g = W1.heap.size := Option.some.inj e; omega)))
              refine wpAnyH_ready (rs := [10]) (by kernel_rfl) (by simp) (AllReadyH.cons rfl (fun K hK => ?_) AllReadyH.nil)
              rw [if_pos (by rfl)]
              refine app_shut (.tmp 53) (.tmp 59) rfl _ 48 Try.underlying40 entinfo rfl (by decide) ⟨g, 0, none⟩ m (1 + (n - m)) (ecells ((scanTo D k).take m)) (x.cells ++ ecells ((scanTo D k).drop m)) v1 rfl rfl (by rw [ecells_len, List.length_take, HNL.out, Nat.min_eq_left (by omega)]) (row_head HROW4.out m) (Zb.Src.row hr4.out) (by rw [List.length_append, ecells_len, List.length_drop, HNL.out]; show 5 + _ = _; omega) (by omega) (by unfold maxLen; omega) (by omega) ?_
              intro v2 w5 hr5 hg5 ho5
              refine hK.out _ _ (hHeld2.grown hg5.out (by simp)) (fun hHeld3 => ?_)
              clear hK K
              refine wpAnyH_ready (rs := [11]) (by kernel_rfl) (by simp) (AllReadyH.cons rfl (fun K hK => ?_) AllReadyH.nil)
              go_simp
              refine hK.out _ _ hHeld3 (fun hHeld4 => ?_)
              clear hK K
              refine wpAnyH_done (by kernel_rfl) ?_ _
              have HB5 : Hid (Below w.heap.size w w5 ∧ w.heap.size ≤ w4.heap.size) := hide (by
                have hs3 := HI3.out.bel.size
                have h1 := (HI3.out.bel.trans (HBJ.out.mono hs3)).drew
                have h2 := h1.alloc h1.size (.cells x.cells.toArray 28)
                have h3 := h2.grown hg4.out h2.size (fun q hq => by have e' : W1.heap.size = q := Option.some.inj hq; have := h1.size; rw [← e']; exact this)
                exact ⟨h3.grown hg5.out h3.size (fun q hq => by cases hq), h3.size⟩)
              have HI5 : Hid (ScInv 28 w w5 v2 D (k + 1)) := hide (by
                have e1 : scanTo D (k + 1) = (scanTo D k).take m ++ x :: (scanTo D k).drop m := HIN.out.trans HINS.out
                have e2 : ecells ((scanTo D k).take m ++ x :: (scanTo D k).drop m) = ecells ((scanTo D k).take m) ++ (x.cells ++ ecells ((scanTo D k).drop m)) := by rw [ecells_app]; simp [ecells]
                have e3 : ((scanTo D k).take m ++ x :: (scanTo D k).drop m).length = m + (1 + (n - m)) := by
                  rw [List.length_append, List.length_take, List.length_cons, List.length_drop, HNL.out, Nat.min_eq_left (by omega)]
                  omega
                exact ⟨HB5.out.1, by rw [e1, e2, e3]; exact hr5.out, fun q hq => Nat.le_trans HB5.out.2 (ho5.out q hq), fun _ => HF.out⟩)
              clear hr4 hg4 ha4 hr5 hg5 ho5 HROW4 hHeld1 hHeld2 hHeld3 hHeld4
              go_wp2_with fail
              refine ⟨⟨k + 1, by omega, by go_num, HI5⟩, ?_⟩
              simp [intOf]; omega
            · have HJ2 : Hid (InInv w3 (wr.alloc (.cells #[.int .i64 y.kind, .int .i64 y.number, .int .i64 y.slot, .int .i64 y.size, .string y.sum] 28)) (scanTo D k) x (m + 1)) := hide ⟨HBJ.out, fun j z hj hz => by
                by_cases hjm : j < m
                · exact HJ.out.le j z hjm hz
                · obtain rfl : j = m := by omega
                  rw [HY.out, Option.some.injEq] at hz
                  rw [← hz]; omega⟩
              have hgt1 : ¬ y.number > x.number := hgt
              go_wp2_with fail
              go_roundw
              case rel => exact ⟨m + 1, by omega, rfl, by go_num, HJ2⟩
              case measure => simp [intOf]; omega
          · obtain rfl : m = n := by omega
            have HIE : Hid (scanTo D (k + 1) = scanTo D k ++ [x]) := hide (HIN.out.trans (insE_end _ _ fun j y hy => HJ.out.le j y (by have := (List.getElem?_eq_some_iff.1 hy).1; rw [HNL.out] at this; exact this) hy))
            have HXW : Hid (Blk wr w2.heap.size 28 x.cells.toArray) := hide (HB3.out.below HJ.out.bel HB3.out.lt)
            have HRW : Hid (Row wr 28 5 (.slice A m c) m (ecells (scanTo D k))) := hide (row_of HROW.out fun q hq => HJ.out.bel.block q (row_lt HROW.out q hq))
            obtain ⟨s0, s1, s2, s3, s4⟩ := ent_all HXW.out
            go_wp2_with (at_builtin; refine app_list rfl (.tmp 62) (.tmp 64) 40 28 rfl _ 5 48 Try.underlying40 entinfo rfl (by decide) (.slice A m c) m (ecells (scanTo D k)) rfl (row_alloc HRW.out _) (.slice (some ⟨wr.heap.size, 0, none⟩) 1 1) 1 x.cells rfl (Zb.Src.blk (Blk.new wr 28 x.cells.toArray)) rfl (ecells_one x) (by unfold maxLen; omega) (by omega) ?_; intro v1 w4 hr4 hg4 ha4)
            have HI5 : Hid (ScInv 28 w w4 v1 D (k + 1)) := hide (by
              have hs3 := HI3.out.bel.size
              have h1 := HI3.out.bel.trans (HJ.out.bel.mono hs3)
              have h2 := h1.alloc h1.size (.cells #[.int .i64 x.kind, .int .i64 x.number, .int .i64 x.slot, .int .i64 x.size, .string x.sum] 28)
              have h3 := h2.grown hg4.out h2.size (fun q hq => HOWN.out q hq)
              refine ⟨h3, by rw [HIE.out, ecells_snoc, List.length_append, HNL.out]; exact hr4.out, fun q hq => ?_, fun _ => HF.out⟩
              rcases ha4.out with e | e
              · exact HOWN.out q (e ▸ hq)
              · rw [e] at hq
                have := h1.size
                cases hq
                exact Nat.le_trans this (by simp))
            refine ⟨⟨k + 1, by omega, by go_num, HI5⟩, ?_⟩
            simp [intOf]; omega
        · have HI4 := hide (HI3.out.same (by rw [HSC.out, hp]; simp [hn]) HF.out)
          rw [← htm] at hn
          have hn1 : ((parseM s).number.tmod 8 != (k : Int)) = true := by simpa using hn
          clear hp htm
          go_wp2_with ((with_reducible show wpList _ _ _ (⟨none, _, _, _, _, _⟩ :: _) _ _); refine wpList_store_row rfl _ _ _ rfl w2.heap.size (parseM s).cells.toArray rfl rfl 28 _ HZ.out (ent_info _) rfl (by kernel_rfl) ?_; change wpList _ _ _ _ _ (World.setRow (w2.alloc (.cells #[.int .i64 0, .int .i64 0, .int .i64 0, .int .i64 0, .string ⟨#[]⟩] 28)) w2.heap.size (parseM s).cells.toArray); generalize World.setRow (w2.alloc (.cells #[.int .i64 0, .int .i64 0, .int .i64 0, .int .i64 0, .string ⟨#[]⟩] 28)) w2.heap.size (parseM s).cells.toArray = w3 at *)
          refine ⟨⟨k + 1, by omega, by go_num, HI4⟩, ?_⟩
          simp [intOf]; omega
    · have HF := hide hf
      have HSL : Hid (scanL D = []) := hide (by unfold scanL; rw [if_neg hf])
      obtain ⟨f, hfe⟩ : ∃ f, scanE D = f := ⟨_, rfl⟩
      rw [hfe]
      rw [hfe] at hf
      have hf1 : (f != 0) = true := by simpa using hf
      have HFE := hide hfe
      clear hfe
      go_wp2_with fail
      rw [Exit.noGoto_ret]
      go_ret2
      exact ⟨_, by rw [HFE.out]; rfl, HI.out.bel, by rw [HSL.out]; exact row_nil _ _ _, own_nil w⟩
  · obtain rfl : k = 8 := by omega
    have hs0 := HI.out.err (by omega)
    have HS0 := hide hs0
    have HSL : Hid (scanL D = scanTo D 8) := hide (by unfold scanL; rw [if_pos hs0])
    clear hs0 hk8
    go_wp2_with fail
    try rw [Exit.noGoto_ret]
    go_ret2
    exact ⟨_, by rw [HS0.out]; rfl, HI.out.bel, by rw [HSL.out]; exact HI.out.row, HI.out.own⟩
end Go.Proofs.Ytmbkncckcpgdgaa
