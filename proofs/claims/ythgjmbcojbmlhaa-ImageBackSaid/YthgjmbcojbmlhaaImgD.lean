/- Chapter 14: the writer of the program: num, text, bit, walked. -/
import Derived.Test.YthgjmbcojbmlhaaImgC
import Derived.Test.YthgjmbcojbmlhaaHeld
namespace Go.Proofs.Ythgjmbcojbmlhaa
open Go.RowKit Zb

/-- what a writer's work keeps: blocks of any type but bytes and writers -/
def KT (w w' : World) : Prop := ∀ g t cs, Blk w g t cs → t ≠ 49 → t ≠ 5 → Blk w' g t cs
set_option maxRecDepth 20000 in
theorem KT.refl (w : World) : KT w w := fun _ _ _ h _ _ => h
set_option maxRecDepth 20000 in
theorem KT.trans {a b c : World} (h : KT a b) (k : KT b c) : KT a c := fun g t cs hb h1 h2 => k g t cs (h g t cs hb h1 h2) h1 h2
set_option maxRecDepth 20000 in
theorem KT.of_below {w w' : World} (h : Below w.heap.size w w') : KT w w' := fun _ _ _ hb _ _ => hb.below h hb.lt
set_option maxRecDepth 20000 in
theorem bufq_nt {w0 w : World} {v : Value} {l : List UInt8} {g : Nat} {t : TypeId} {cs : Array Value} (h : BufQ w0 w v l) (hb : Blk w g t cs) (ht : t ≠ 5) : v.ownBlock ≠ some g := by
  rcases h.row with ⟨rfl, _⟩ | ⟨g', cap, cur, fz, rfl, hg, _⟩
  · simp [Value.ownBlock]
  · intro e
    have e2 : g' = g := by simpa [Value.ownBlock] using e
    subst e2
    have hb' : w.heap[g']? = some (.cells cs t (0, 0)) := hb
    rw [hg] at hb'
    simp at hb'
    exact ht hb'.2.1.symm
set_option maxRecDepth 20000 in
theorem bufq_form {w0 w : World} {v : Value} {l : List UInt8} (h : BufQ w0 w v l) : ∃ A n c, v = .slice A n c := by
  obtain ⟨A, c, e, _⟩ := h.slice
  exact ⟨A, _, c, e⟩
set_option maxRecDepth 20000 in
theorem KT.grown {w0 w w' : World} {v : Value} {l : List UInt8} (h : BufQ w0 w v l) (hg : w.grownBy w' v.ownBlock) : KT w w' := fun _ _ _ hb _ h2 => hb.grown hg (Ne.symm (bufq_nt h hb h2))
set_option maxRecDepth 20000 in
theorem KT.store {w : World} {gw : Nat} {cs : Array Value} (h : Blk w gw 49 cs) (u : Value) : KT w (w.setCell ⟨gw, 0, none⟩ u) := fun _ _ _ hb h1 _ => hb.far (hb.ne_ h h1) u
/-- a writer: the bytes that it has gathered -/
structure WrS (w0 w : World) (gw : Nat) (b : ByteArray) : Prop where
  le : w0.heap.size ≤ gw
  v : ∃ v, Blk w gw 49 #[v] ∧ BufQ w0 w v b.data.toList
set_option maxRecDepth 20000 in
theorem WrS.bel {w0 w : World} {gw : Nat} {b : ByteArray} (h : WrS w0 w gw b) : Below w0.heap.size w0 w := by obtain ⟨v, _, hv⟩ := h.v; exact hv.bel
set_option maxRecDepth 20000 in
theorem WrS.below {w0 w w' : World} {gw : Nat} {b : ByteArray} (h : WrS w0 w gw b) (hb : Below w.heap.size w w') : WrS w0 w' gw b := by
  obtain ⟨v, h1, h2⟩ := h.v
  exact ⟨h.le, v, h1.below hb h1.lt, h2.below hb⟩
set_option maxRecDepth 20000 in
theorem WrS.alloc {w0 w : World} {gw : Nat} {b : ByteArray} (h : WrS w0 w gw b) (o : Obj) : WrS w0 (w.alloc o) gw b := h.below ((Below.refl _ _).alloc (Nat.le_refl _) o)
set_option maxRecDepth 20000 in
theorem wrs_store {w0 w : World} {gw : Nat} {b : ByteArray} {v v' : Value} {l : List UInt8} (h : BufQ w0 w v' l) (hb : Blk w gw 49 #[v]) (hle : w0.heap.size ≤ gw) (hl : l = b.data.toList) : WrS w0 (w.setCell ⟨gw, 0, none⟩ v') gw b := by
  subst hl
  have hne := bufq_nt h hb (by decide)
  refine ⟨hle, v', hb.set_ 0 v', h.of_block (h.bel.setCell hle _) (Nat.le_of_eq (by simp [World.setCell])) fun g hg => Below.heap_setCell w ⟨gw, 0, none⟩ v' g (fun e => hne (by rw [hg, e]))⟩
set_option maxRecDepth 20000 in
theorem bytes_len (b : ByteArray) : b.data.toList.length = b.size := rfl
abbrev ptrW (g : Nat) : Value := .pointer (some ⟨g, 0, none⟩)
set_option maxRecDepth 20000 in
set_option maxHeartbeats 2000000 in
theorem uwnum_calls {w0 w : World} {gw : Nat} {b : ByteArray} (h : WrS w0 w gw b) (n : Int) (h0 : -9223372036854775808 ≤ n) (h1 : n < 9223372036854775808) (width : Int) (hs : b.size ≤ 100000000000) : Calls Try.prog 19 #[ptrW gw, .int .i64 n, .int .i64 width] w fun e w' => e = .returned (.tuple #[]) ∧ WrS w0 w' gw (b ++ putB n width) ∧ KT w w' := by
  have HP := hide (oPut_calls n h0 h1 width w)
  have hpl : (putB n width).size ≤ 8 := by
    unfold putB
    split
    · rename_i hp
      obtain ⟨k, rfl, _, hk, _⟩ := putB_ok hp
      show (leL n k).toArray.size ≤ 8
      rw [List.size_toArray, leL_length]
      exact hk
    · exact Nat.zero_le _
  unfold PutPost at HP
  have HL : Hid (b.data.toList.length + (putB n width).size ≤ 1000000000000) := hide (by rw [bytes_len]; omega)
  have HNEW : Hid (b.data.toList ++ (putB n width).data.toList = (b ++ putB n width).data.toList) := hide (by rw [ByteArray.data_append, Array.toList_append])
  have HLE := hide h.le
  obtain ⟨v, hb, hv⟩ := h.v
  have HB0 := hide hb
  have HV0 := hide hv
  clear h hb hv h0 h1 hs hpl
  generalize putE n width = pe at *
  generalize b ++ putB n width = b2 at *
  generalize putB n width = pb at *
  generalize b.data.toList = L at *
  go_enter Try.func19, Try.ntmps19
  go_wp2_with fail
  refine HP.out.mono ?_
  rintro e w1 ⟨rfl, hb1⟩
  have HB1 := hide (HB0.out.below hb1 HB0.out.lt)
  have HV1 := hide (HV0.out.below hb1)
  have z0 : w1.cell? ⟨gw, 0, none⟩ = some v := HB1.out.cell 0
  go_wp2_with ((with_reducible show wpList _ _ _ (⟨some 20, _, _, _, _, _⟩ :: _) _ _); refine bufq_apps rfl (.tmp 18) (.tmp 19) rfl HV1 pb rfl rfl HL.out ?_; intro v2 w2 HV2 HG2; obtain ⟨A2, n2, c2, rfl⟩ := bufq_form HV2.out; (have HB2 := hide (HB1.out.grown HG2.out (Ne.symm (bufq_nt HV1.out HB1.out (by decide))))); (have z1 : w2.frozen? ⟨gw, 0, none⟩ = false := HB2.out.frozen 0); (have z2 : w2.cell? ⟨gw, 0, none⟩ = some v := HB2.out.cell 0); (have hkt := hide ((KT.of_below hb1).trans (KT.grown HV1.out HG2.out))))
  refine bodyPost_end (results_none rfl _ _ _) rfl ?_
  exact ⟨rfl, wrs_store HV2.out HB2.out HLE.out HNEW.out, hkt.out.trans (KT.store HB2.out _)⟩
set_option maxRecDepth 20000 in
set_option maxHeartbeats 2000000 in
theorem uwtext_calls {w0 w : World} {gw : Nat} {b : ByteArray} (h : WrS w0 w gw b) (s : ByteArray) (hs : s.size ≤ 100000000) (hs2 : b.size ≤ 100000000000) : Calls Try.prog 18 #[ptrW gw, .string s] w fun e w' => e = .returned (.tuple #[]) ∧ WrS w0 w' gw (b ++ textB s) ∧ KT w w' := by
  have HT := hide (fun w1 => oText_calls s (by omega) w1)
  have hpl : (textB s).size ≤ 4 + s.size := Nat.le_of_eq (textB_size s (by omega))
  have HL : Hid (b.data.toList.length + (textB s).size ≤ 1000000000000) := hide (by rw [bytes_len]; omega)
  have HNEW : Hid (b.data.toList ++ (textB s).data.toList = (b ++ textB s).data.toList) := hide (by rw [ByteArray.data_append, Array.toList_append])
  have HLE := hide h.le
  obtain ⟨v, hb, hv⟩ := h.v
  have HB0 : Hid (Blk w.drew gw 49 #[v]) := hide hb
  have HV0 := hide hv.drew
  clear h hb hv hs hs2 hpl
  generalize b ++ textB s = b2 at *
  generalize textB s = pb at *
  generalize b.data.toList = L at *
  go_enter Try.func18, Try.ntmps18
  go_wp2_with fail
  refine wp_region_heads [0, 1, 2, 3, 5] 6 (fun _ => True) (by kernel_rfl) rfl (by kernel_rfl) (by kernel_rfl) (fun _ _ d _ _ h => by cases d <;> exact h) trivial ?_
  iterate 5
    refine' Heads.step rfl (by rfl) ?_ ?_
    rotate_left
    · intro w' hSw
      go_simp
      try with_reducible rfl
    simp only [Act.put, List.setIfInBounds_toArray, List.set_cons_zero, List.set_cons_succ]
  refine Heads.done ?_
  have z0 : w.drew.cell? ⟨gw, 0, none⟩ = some v := HB0.out.cell 0
  refine wpAnyH_ready (rs := [4, 6]) (by kernel_rfl) (by simp) (AllReadyH.cons rfl (fun K hK => ?_) (AllReadyH.cons rfl (fun K hK => ?_) AllReadyH.nil))
  · go_simp
    refine hK.out _ _ trivial (fun _ => ?_)
    clear hK K
    refine wpAnyH_ready (rs := [6]) (by kernel_rfl) (by simp) (AllReadyH.cons rfl (fun K hK => ?_) AllReadyH.nil)
    go_simp
    refine (HT.out _).mono ?_
    rintro e w1 ⟨rfl, hb1⟩
    have HB1 := hide (HB0.out.below (w := w.drew) hb1 HB0.out.lt)
    have HV1 := hide (HV0.out.below hb1)
    refine hK.out _ _ trivial (fun _ => ?_)
    clear hK K
    refine wpAnyH_ready (rs := [7]) (by kernel_rfl) (by simp) (AllReadyH.cons rfl (fun K hK => ?_) AllReadyH.nil)
    rw [if_pos (by rfl)]
    refine bufq_apps_op (.tmp 8) (.tmp 10) rfl HV1 _ rfl rfl HL.out ?_
    intro v2 w2 HV2 HG2
    obtain ⟨A2, n2, c2, rfl⟩ := bufq_form HV2.out
    have HB2 := hide (HB1.out.grown HG2.out (Ne.symm (bufq_nt HV1.out HB1.out (by decide))))
    have hkt := hide ((KT.of_below hb1).trans (KT.grown HV1.out HG2.out))
    refine hK.out _ _ trivial (fun _ => ?_)
    clear hK K
    have z1 : w2.frozen? ⟨gw, 0, none⟩ = false := HB2.out.frozen 0
    have z2 : w2.cell? ⟨gw, 0, none⟩ = some v := HB2.out.cell 0
    refine wpAnyH_more [8, 9] 1 rfl (by kernel_rfl) (by kernel_rfl) (fun _ _ d _ _ h => by cases d <;> exact h) trivial ?_
    iterate 2
      refine' Heads.step rfl (by rfl) ?_ ?_
      rotate_left
      · intro w' hSw
        go_simp
        try with_reducible rfl
      simp only [Act.put, List.setIfInBounds_toArray]
    refine Heads.done ?_
    refine wpAnyH_ready (rs := [10]) (by kernel_rfl) (by simp) (AllReadyH.cons rfl (fun K hK => ?_) AllReadyH.nil)
    go_simp
    refine hK.out _ _ trivial (fun _ => ?_)
    clear hK K
    refine wpAnyH_done (by kernel_rfl) ?_ _
    go_wp2_with fail
    refine bodyPost_end (results_none rfl _ _ _) rfl ?_
    exact ⟨rfl, wrs_store HV2.out HB2.out HLE.out HNEW.out, hkt.out.trans (KT.store HB2.out _)⟩
  · go_simp
    refine (HT.out _).mono ?_
    rintro e w1 ⟨rfl, hb1⟩
    have HB1 := hide (HB0.out.below (w := w.drew) hb1 HB0.out.lt)
    have HV1 := hide (HV0.out.below hb1)
    have z3 : w1.cell? ⟨gw, 0, none⟩ = some v := HB1.out.cell 0
    refine hK.out _ _ trivial (fun _ => ?_)
    clear hK K
    refine wpAnyH_ready (rs := [4]) (by kernel_rfl) (by simp) (AllReadyH.cons rfl (fun K hK => ?_) AllReadyH.nil)
    go_simp
    refine hK.out _ _ trivial (fun _ => ?_)
    clear hK K
    refine wpAnyH_ready (rs := [7]) (by kernel_rfl) (by simp) (AllReadyH.cons rfl (fun K hK => ?_) AllReadyH.nil)
    rw [if_pos (by rfl)]
    refine bufq_apps_op (.tmp 8) (.tmp 10) rfl HV1 _ rfl rfl HL.out ?_
    intro v2 w2 HV2 HG2
    obtain ⟨A2, n2, c2, rfl⟩ := bufq_form HV2.out
    have HB2 := hide (HB1.out.grown HG2.out (Ne.symm (bufq_nt HV1.out HB1.out (by decide))))
    have hkt := hide ((KT.of_below hb1).trans (KT.grown HV1.out HG2.out))
    refine hK.out _ _ trivial (fun _ => ?_)
    clear hK K
    have z1 : w2.frozen? ⟨gw, 0, none⟩ = false := HB2.out.frozen 0
    have z2 : w2.cell? ⟨gw, 0, none⟩ = some v := HB2.out.cell 0
    refine wpAnyH_more [8, 9] 1 rfl (by kernel_rfl) (by kernel_rfl) (fun _ _ d _ _ h => by cases d <;> exact h) trivial ?_
    iterate 2
      refine' Heads.step rfl (by rfl) ?_ ?_
      rotate_left
      · intro w' hSw
        go_simp
        try with_reducible rfl
      simp only [Act.put, List.setIfInBounds_toArray]
    refine Heads.done ?_
    refine wpAnyH_ready (rs := [10]) (by kernel_rfl) (by simp) (AllReadyH.cons rfl (fun K hK => ?_) AllReadyH.nil)
    go_simp
    refine hK.out _ _ trivial (fun _ => ?_)
    clear hK K
    refine wpAnyH_done (by kernel_rfl) ?_ _
    go_wp2_with fail
    refine bodyPost_end (results_none rfl _ _ _) rfl ?_
    exact ⟨rfl, wrs_store HV2.out HB2.out HLE.out HNEW.out, hkt.out.trans (KT.store HB2.out _)⟩
set_option maxRecDepth 20000 in
theorem uwbit_calls {w0 w : World} {gw : Nat} {b : ByteArray} (h : WrS w0 w gw b) (is : Bool) (hs : b.size ≤ 100000000000) : Calls Try.prog 45 #[ptrW gw, .bool is] w fun e w' => e = .returned (.tuple #[]) ∧ WrS w0 w' gw (b ++ putB (if is then 1 else 0) 1) ∧ KT w w' := by
  cases is
  · have HP := hide (uwnum_calls h 0 (by omega) (by omega) 1 hs)
    clear h hs
    go_enter Try.func45, Try.ntmps45
    go_wp2_with fail
    refine HP.out.mono ?_
    rintro e w1 ⟨rfl, h1, h2⟩
    go_wp2_with fail
    refine bodyPost_end (results_none rfl _ _ _) rfl ?_
    exact ⟨rfl, h1, h2⟩
  · have HP := hide (uwnum_calls h 1 (by omega) (by omega) 1 hs)
    clear h hs
    go_enter Try.func45, Try.ntmps45
    go_wp2_with fail
    refine HP.out.mono ?_
    rintro e w1 ⟨rfl, h1, h2⟩
    go_wp2_with fail
    refine bodyPost_end (results_none rfl _ _ _) rfl ?_
    exact ⟨rfl, h1, h2⟩
end Go.Proofs.Ythgjmbcojbmlhaa
