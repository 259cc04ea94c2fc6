/- Chapter 5: the document's Append, walked. -/
import Derived.Test.YtmbkncckcpgdgaaRingJ
import Derived.Test.YtmbkncckcpgdgaaRingK
namespace Go.Proofs.Ytmbkncckcpgdgaa
open Go.RowKit Zb

set_option maxRecDepth 20000 in
theorem mvR : Mv RAt := ⟨fun h => h.moved, fun h => h.lt⟩
set_option maxRecDepth 20000 in
theorem ApS.callR {T : TypeId} {w wr : World} {b : Nat} {F : Nat → Prop} {D D' : DiskM} {e : EntM} {f : FuncId} {args : Array Value} {v : Value} (h : ApS RAt T w wr b F D e) (hc : ∀ F', RAt wr b F' D → Calls Try.prog f args wr (RPost F' wr b v D')) : Calls Try.prog f args wr fun r w' => r = .returned v ∧ Hid (ApS RAt T w w' b F D' e) := h.call hc
set_option maxRecDepth 20000 in
set_option maxHeartbeats 1000000 in
theorem reAppend_calls {w : World} {b : Nat} {F : Nat → Prop} {D : DiskM} (h : RAt w b F D) (hW : D.waits.length ≤ 4294967200) (e : EntM) : Calls Try.prog 23 #[.pointer (some ⟨b, 0, none⟩), .agg #[.int .i64 e.kind, .int .i64 e.number, .int .i64 e.slot, .int .i64 e.size, .string e.sum]] w (RPost F w b (.tuple #[.agg (appendM D e).2.1.cells.toArray, .int .i64 (appendM D e).2.2]) (appendM D e).1) := by
  have HA0 : Hid (ApS RAt 23 w ((w.alloc (.cells #[.int .i64 e.kind, .int .i64 e.number, .int .i64 e.slot, .int .i64 e.size, .string e.sum] 23)).alloc (.cells #[.int .i64 0, .int .i64 0, .int .i64 0, .int .i64 0, .string ⟨#[]⟩] 23)) b F D e) := hide (ApS.start mvR h 23 e)
  have HL : Hid (Calls Try.prog 34 #[.pointer (some ⟨b, 0, none⟩)] ((w.alloc (.cells #[.int .i64 e.kind, .int .i64 e.number, .int .i64 e.slot, .int .i64 e.size, .string e.sum] 23)).alloc (.cells #[.int .i64 0, .int .i64 0, .int .i64 0, .int .i64 0, .string ⟨#[]⟩] 23)) (LastPost ((w.alloc (.cells #[.int .i64 e.kind, .int .i64 e.number, .int .i64 e.slot, .int .i64 e.size, .string e.sum] 23)).alloc (.cells #[.int .i64 0, .int .i64 0, .int .i64 0, .int .i64 0, .string ⟨#[]⟩] 23)) D)) := hide (by
    obtain ⟨F', _, hd⟩ := HA0.out.dk
    exact reLast_calls hd (by omega))
  have HR := hide (lastM_range D)
  clear h
  go_enter Try.func23, Try.ntmps23
  go_wp2_with fail
  refine HL.out.mono ?_
  rintro r w1 ⟨rfl, hb1⟩
  have HA1 := hide (HA0.out.below mvR hb1)
  clear hb1
  have HZ6 : Hid (Blk (w1.alloc (.cells #[.int .i64 0, .int .i64 0, .int .i64 0, .int .i64 0, .string ⟨#[]⟩] 23)) w1.heap.size 23 EntM.zero.cells.toArray) := hide (Blk.new w1 23 _)
  have HB6 : Hid (Blk ((w1.alloc (.cells #[.int .i64 0, .int .i64 0, .int .i64 0, .int .i64 0, .string ⟨#[]⟩] 23)).setRow w1.heap.size (lastM D).cells.toArray) w1.heap.size 23 (lastM D).cells.toArray) := hide (setRow_heap _ _ _ _ _ _ HZ6.out)
  have HA2 : Hid (ApS RAt 23 w ((w1.alloc (.cells #[.int .i64 0, .int .i64 0, .int .i64 0, .int .i64 0, .string ⟨#[]⟩] 23)).setRow w1.heap.size (lastM D).cells.toArray) b F D e) := hide (HA1.out.below mvR (below_setRow ((Below.refl _ _).alloc (Nat.le_refl _) _) (Nat.le_refl _) _))
  have HB4 := hide (HA2.out.b4)
  have z6 : ((w1.alloc (.cells #[.int .i64 0, .int .i64 0, .int .i64 0, .int .i64 0, .string ⟨#[]⟩] 23)).setRow w1.heap.size (lastM D).cells.toArray).cell? ⟨w1.heap.size, 1, none⟩ = some (.int .i64 (lastM D).number) := HB6.out.cell 1
  have HZR : Hid (Blk (((w1.alloc (.cells #[.int .i64 0, .int .i64 0, .int .i64 0, .int .i64 0, .string ⟨#[]⟩] 23)).setRow w1.heap.size (lastM D).cells.toArray).setRow (w.heap.size + 1) EntM.zero.cells.toArray) (w.heap.size + 1) 23 EntM.zero.cells.toArray) := hide (setRow_heap _ _ _ _ _ _ HB4.out)
  by_cases hf : scanE D = 0
  · rw [hf]
    have HF := hide hf
    clear hf
    by_cases hn : (lastM D).number = 4294967295
    · have HAP := hide (ap_full (e := e) HF.out hn)
      go_wp2_with (first | ((with_reducible show wpList _ _ _ (⟨none, _, _, _, _, _⟩ :: _) _ _); refine wpList_store_row rfl _ _ _ rfl w1.heap.size (lastM D).cells.toArray rfl rfl 23 _ HZ6.out (rent_info _) rfl (by kernel_rfl) ?_; change wpList _ _ _ _ _ ((w1.alloc (.cells #[.int .i64 0, .int .i64 0, .int .i64 0, .int .i64 0, .string ⟨#[]⟩] 23)).setRow w1.heap.size (lastM D).cells.toArray); generalize ((w1.alloc (.cells #[.int .i64 0, .int .i64 0, .int .i64 0, .int .i64 0, .string ⟨#[]⟩] 23)).setRow w1.heap.size (lastM D).cells.toArray) = w2 at *) | ((with_reducible show wpList _ _ _ (⟨some 24, _, _, _, _, _⟩ :: _) _ _); refine wpList_build rfl _ _ rfl (by kernel_rfl) ?_) | ((with_reducible show wpList _ _ _ (⟨none, _, _, _, _, _⟩ :: _) _ _); refine wpList_store_row rfl _ _ _ rfl (w.heap.size + 1) EntM.zero.cells.toArray rfl (by kernel_rfl) 23 _ HB4.out (by kernel_rfl) rfl (by kernel_rfl) ?_))
      exact ret_cell rfl rfl rfl HZR.out Try.underlying23 rfl (rent_info _) (by rw [HAP.out]; exact ⟨rfl, HA2.out.fin mvR _⟩)
    · have HN := hide hn
      obtain ⟨N, hNe⟩ : ∃ N, (lastM D).number + 1 = N := ⟨_, rfl⟩
      obtain ⟨E, hE⟩ : ∃ E : EntM, { e with number := N } = E := ⟨_, rfl⟩
      have hNr : 1 ≤ N ∧ N ≤ 4294967296 := by have := HR.out; omega
      have hwr : IntKind.i64.wrap ((lastM D).number + 1) = N := by rw [IntWalk.i64_in _ (by have := HR.out; omega)]; exact hNe
      have HA3 : Hid (ApS RAt 23 w (((w1.alloc (.cells #[.int .i64 0, .int .i64 0, .int .i64 0, .int .i64 0, .string ⟨#[]⟩] 23)).setRow w1.heap.size (lastM D).cells.toArray).setCell ⟨w.heap.size, 1, none⟩ (.int .i64 N)) b F D E) := hide (hE ▸ HA2.out.num mvR N)
      have eN : E.number = N := by rw [← hE]
      have HEE : Hid ({ e with number := (lastM D).number + 1 } = E) := hide (by rw [hNe]; exact hE)
      have HTM : Hid (N % 8 = E.number % 8) := hide (by rw [eN])
      have HBU := hide (reBuild_calls E)
      have s2 : ((w1.alloc (.cells #[.int .i64 0, .int .i64 0, .int .i64 0, .int .i64 0, .string ⟨#[]⟩] 23)).setRow w1.heap.size (lastM D).cells.toArray).frozen? ⟨w.heap.size, 1, none⟩ = false := HA2.out.b3.frozen 1
      have sc : ∃ u, ((w1.alloc (.cells #[.int .i64 0, .int .i64 0, .int .i64 0, .int .i64 0, .string ⟨#[]⟩] 23)).setRow w1.heap.size (lastM D).cells.toArray).cell? ⟨w.heap.size, 1, none⟩ = some u := ⟨_, HA2.out.b3.cell 1⟩
      obtain ⟨u1, hu1⟩ := sc
      obtain ⟨t0, t1, t2, t3, t4⟩ := ent_all HA3.out.b3
      rw [eN] at t1 HBU
      have HEN := hide eN
      clear hE hNe eN
      go_wp2_with (first | ((with_reducible show wpList _ _ _ (⟨none, _, _, _, _, _⟩ :: _) _ _); refine wpList_store_row rfl _ _ _ rfl w1.heap.size (lastM D).cells.toArray rfl rfl 23 _ HZ6.out (rent_info _) rfl (by kernel_rfl) ?_; change wpList _ _ _ _ _ ((w1.alloc (.cells #[.int .i64 0, .int .i64 0, .int .i64 0, .int .i64 0, .string ⟨#[]⟩] 23)).setRow w1.heap.size (lastM D).cells.toArray); generalize ((w1.alloc (.cells #[.int .i64 0, .int .i64 0, .int .i64 0, .int .i64 0, .string ⟨#[]⟩] 23)).setRow w1.heap.size (lastM D).cells.toArray) = w2 at *))
      refine (HBU.out _).mono ?_
      rintro r w3 ⟨rfl, hb3⟩
      have HA4 := hide (HA3.out.below mvR hb3)
      clear hb3 t0 t1 t2 t3 t4 s2 hu1 z6 hwr
      cases hr : E.right
      · have HAP := hide (ap_bad HF.out HN.out (HEE.out ▸ hr))
        have e1 : buildB E = ⟨#[]⟩ := by unfold buildB; rw [hr]; rfl
        have e2 : buildE E = 1 := by unfold buildE; rw [hr]; rfl
        have HB4 := hide (HA4.out.b4)
        have HZR : Hid (Blk (w3.setRow (w.heap.size + 1) EntM.zero.cells.toArray) (w.heap.size + 1) 23 EntM.zero.cells.toArray) := hide (setRow_heap _ _ _ _ _ _ HB4.out)
        rw [e1, e2]
        clear e1 e2 hr
        go_wp2_with (first | ((with_reducible show wpList _ _ _ (⟨some 36, _, _, _, _, _⟩ :: _) _ _); refine wpList_build rfl _ _ rfl (by kernel_rfl) ?_) | ((with_reducible show wpList _ _ _ (⟨none, _, _, _, _, _⟩ :: _) _ _); refine wpList_store_row rfl _ _ _ rfl (w.heap.size + 1) EntM.zero.cells.toArray rfl (by kernel_rfl) 23 _ HB4.out (by kernel_rfl) rfl (by kernel_rfl) ?_))
        exact ret_cell rfl rfl rfl HZR.out Try.underlying23 rfl (rent_info _) (by rw [HAP.out]; exact ⟨rfl, HA4.out.fin mvR _⟩)
      · have e1 : buildB E = E.block := by unfold buildB; rw [hr]; rfl
        have e2 : buildE E = 0 := by unfold buildE; rw [hr]; rfl
        have HRT := hide hr
        rw [e1, e2]
        have v1 : w3.cell? ⟨w.heap.size, 1, none⟩ = some (.int .i64 N) := by rw [← HEN.out]; exact HA4.out.b3.cell 1
        clear e1 e2 hr
        obtain ⟨V, hV⟩ : ∃ V, D.write (N % 8) E.block = V := ⟨_, rfl⟩
        have HWC := hide (HA4.out.callR (fun F' hd => rdwrite_calls hd (by omega) (N % 8) E.block))
        rw [hV] at HWC
        go_wp2_with fail
        refine HWC.out.mono ?_
        rintro r w4 ⟨rfl, HA5⟩
        have HV : Hid (D.write (E.number % 8) E.block = V) := hide (by rw [← HTM.out]; exact hV)
        have hVW : V.1.waits.length ≤ 4294967290 := by rw [← hV]; have := write_waits D (N % 8) E.block; omega
        clear hV v1
        have HB4 := hide (HA5.out.b4)
        have HZR : Hid (Blk (w4.setRow (w.heap.size + 1) EntM.zero.cells.toArray) (w.heap.size + 1) 23 EntM.zero.cells.toArray) := hide (setRow_heap _ _ _ _ _ _ HB4.out)
        by_cases h3 : V.2 = 0
        · have H3 := hide h3
          rw [h3]
          clear h3
          have HSC := hide (HA5.out.callR (fun F' hd => rdsync_calls hd hVW))
          go_wp2_with fail
          refine HSC.out.mono ?_
          rintro r w5 ⟨rfl, HA6⟩
          have HB4 := hide (HA6.out.b4)
          obtain ⟨t0, t1, t2, t3, t4⟩ := ent_all HA6.out.b3
          by_cases h4 : V.1.sync.2 = 0
          · have HAP : Hid (appendM D e = (V.1.sync.1, E, 0)) := hide (by
              have := ap_ok HF.out HN.out HEE.out HRT.out (by rw [HV.out]; exact H3.out) (by rw [HV.out]; exact h4)
              rw [HV.out] at this; exact this)
            have HRR : Hid (Blk (w5.setRow (w.heap.size + 1) E.cells.toArray) (w.heap.size + 1) 23 E.cells.toArray) := hide (setRow_heap _ _ _ _ _ _ HB4.out)
            rw [h4]
            clear h4
            go_wp2_with ((with_reducible show wpList _ _ _ (⟨none, _, _, _, _, _⟩ :: _) _ _); refine wpList_store_row rfl _ _ _ rfl (w.heap.size + 1) E.cells.toArray rfl rfl 23 _ HB4.out (rent_info _) rfl (by kernel_rfl) ?_)
            exact ret_cell rfl rfl rfl HRR.out Try.underlying23 rfl (rent_info _) (by rw [HAP.out]; exact ⟨rfl, HA6.out.fin mvR _⟩)
          · have HAP : Hid (appendM D e = (V.1.sync.1, EntM.zero, V.1.sync.2)) := hide (by
              have := ap_sync HF.out HN.out HEE.out HRT.out (by rw [HV.out]; exact H3.out) (by rw [HV.out]; exact h4)
              rw [HV.out] at this; exact this)
            have HZR : Hid (Blk (w5.setRow (w.heap.size + 1) EntM.zero.cells.toArray) (w.heap.size + 1) 23 EntM.zero.cells.toArray) := hide (setRow_heap _ _ _ _ _ _ HB4.out)
            obtain ⟨f, hfe⟩ : ∃ f, V.1.sync.2 = f := ⟨_, rfl⟩
            have HFE := hide hfe
            rw [hfe] at h4 ⊢
            clear hfe
            go_wp2_with (first | ((with_reducible show wpList _ _ _ (⟨some 50, _, _, _, _, _⟩ :: _) _ _); refine wpList_build rfl _ _ rfl (by kernel_rfl) ?_) | ((with_reducible show wpList _ _ _ (⟨none, _, _, _, _, _⟩ :: _) _ _); refine wpList_store_row rfl _ _ _ rfl (w.heap.size + 1) EntM.zero.cells.toArray rfl (by kernel_rfl) 23 _ HB4.out (by kernel_rfl) rfl (by kernel_rfl) ?_))
            exact ret_cell rfl rfl rfl HZR.out Try.underlying23 rfl (rent_info _) (by rw [HAP.out, HFE.out]; exact ⟨rfl, HA6.out.fin mvR _⟩)
        · have HAP : Hid (appendM D e = (V.1, EntM.zero, V.2)) := hide (by
            have := ap_write HF.out HN.out HEE.out HRT.out (by rw [HV.out]; exact h3)
            rw [HV.out] at this; exact this)
          obtain ⟨f, hfe⟩ : ∃ f, V.2 = f := ⟨_, rfl⟩
          have HFE := hide hfe
          rw [hfe] at h3 ⊢
          clear hfe
          go_wp2_with (first | ((with_reducible show wpList _ _ _ (⟨some 50, _, _, _, _, _⟩ :: _) _ _); refine wpList_build rfl _ _ rfl (by kernel_rfl) ?_) | ((with_reducible show wpList _ _ _ (⟨none, _, _, _, _, _⟩ :: _) _ _); refine wpList_store_row rfl _ _ _ rfl (w.heap.size + 1) EntM.zero.cells.toArray rfl (by kernel_rfl) 23 _ HB4.out (by kernel_rfl) rfl (by kernel_rfl) ?_))
          exact ret_cell rfl rfl rfl HZR.out Try.underlying23 rfl (rent_info _) (by rw [HAP.out, HFE.out]; exact ⟨rfl, HA5.out.fin mvR _⟩)
  · have HAP := hide (ap_err (e := e) hf)
    obtain ⟨f, hfe⟩ : ∃ f, scanE D = f := ⟨_, rfl⟩
    have HFE := hide hfe
    rw [hfe] at hf ⊢
    clear hfe
    go_wp2_with (first | ((with_reducible show wpList _ _ _ (⟨none, _, _, _, _, _⟩ :: _) _ _); refine wpList_store_row rfl _ _ _ rfl w1.heap.size (lastM D).cells.toArray rfl rfl 23 _ HZ6.out (rent_info _) rfl (by kernel_rfl) ?_; change wpList _ _ _ _ _ ((w1.alloc (.cells #[.int .i64 0, .int .i64 0, .int .i64 0, .int .i64 0, .string ⟨#[]⟩] 23)).setRow w1.heap.size (lastM D).cells.toArray); generalize ((w1.alloc (.cells #[.int .i64 0, .int .i64 0, .int .i64 0, .int .i64 0, .string ⟨#[]⟩] 23)).setRow w1.heap.size (lastM D).cells.toArray) = w2 at *) | ((with_reducible show wpList _ _ _ (⟨some 19, _, _, _, _, _⟩ :: _) _ _); refine wpList_build rfl _ _ rfl (by kernel_rfl) ?_) | ((with_reducible show wpList _ _ _ (⟨none, _, _, _, _, _⟩ :: _) _ _); refine wpList_store_row rfl _ _ _ rfl (w.heap.size + 1) EntM.zero.cells.toArray rfl (by kernel_rfl) 23 _ HB4.out (by kernel_rfl) rfl (by kernel_rfl) ?_))
    exact ret_cell rfl rfl rfl HZR.out Try.underlying23 rfl (rent_info _) (by rw [HAP.out, HFE.out]; exact ⟨rfl, HA2.out.fin mvR _⟩)
end Go.Proofs.Ytmbkncckcpgdgaa
