/- Chapter 14: open, walked. -/
import Derived.Test.YthgjmbcojbmlhaaImgH
import Derived.Laws.ResultCell
namespace Go.Proofs.Ythgjmbcojbmlhaa
open Go.RowKit Zb

/-- one result, which lies in a row of its own -/
theorem ret_cell1 {P : Program} {fn : Func} {p : Tmp} {ty t : TypeId} {R : Ending → World → Prop} {a : Act} {w : World} {g : Nat} {cs : Array Value} {d : TypeDesc} (h : fn.results = #[.cell p ty]) (hd : a.defers = [])
    (hp : a.tmps.getD p undef = .pointer (some ⟨g, 0, none⟩)) (hg : Blk w g t cs) (hu : P.underlying ty = some d) (hs : (match d with | .struct _ | .array _ _ => true | _ => false) = true) (hi : (P.info? ty).map (·.size) = some cs.size)
    (hR : R (.returned (.agg cs)) w) : bodyPost P fn R .ret a w :=
  bodyPost_ret (v := .agg cs) (results_cell_row h _ _ g t cs (0, 0) d hp hg hu hs hi) hd hR
set_option maxRecDepth 20000 in
theorem below_row {B : Nat} {w w' : World} (h : Below B w w') {g : Nat} (hg : B ≤ g) (cs : Array Value) : Below B w (w'.setRow g cs) :=
  ⟨h.os, h.tape, h.output, Nat.le_trans h.size (Nat.le_of_eq (setRow_size _ _ _).symm), fun i hi => (setRow_other _ _ _ _ (by omega)).trans (h.block i hi)⟩
set_option maxRecDepth 20000 in
theorem blk_row_same {w : World} {g : Nat} {t : TypeId} {cs : Array Value} (h : Blk w g t cs) (cs' : Array Value) : Blk (w.setRow g cs') g t cs' := setRow_heap _ _ _ _ _ _ h
set_option maxRecDepth 20000 in
theorem blk_row_far {w : World} {g g' : Nat} {t : TypeId} {cs : Array Value} (h : Blk w g t cs) (hne : g ≠ g') (cs' : Array Value) : Blk (w.setRow g' cs') g t cs := (setRow_other _ _ _ _ hne).trans h
set_option maxRecDepth 20000 in
theorem store_ok {P : Program} {w : World} {a : Addr} {u v : Value} (hc : w.cell? a = some u) (hf : w.frozen? a = false) (hv : v.oneCell' = true) : (store a v).run P w = .ok () (w.setCell a v) := by
  rw [run_store P w a v _ hv, hc]
  simp [hf]
set_option maxRecDepth 20000 in
set_option maxHeartbeats 2000000 in
theorem uopen_calls (s : ByteArray) (w : World) : Calls Try.prog 35 #[.string s] w fun e w' => ∃ gs ga gw gx, e = .returned (.agg #[(.func (.func 61) #[] #[ptrW gs, ptrW ga, ptrW gw]), (.func (.func 63) #[] #[ptrW gs, ptrW ga, ptrW gw]), (.func (.func 65) #[] #[ptrW gx, ptrW gw]), (.func (.func 66) #[] #[ptrW gw])]) ∧ RdS w w' gs ga gw gx s ⟨0, true⟩ := by
  go_enter Try.func35, Try.ntmps35
  go_wp2_with fail
  have hb : Below w.heap.size w (((((w.alloc (.cells #[.string s] 9)).alloc (.cells #[.nilFunc, .nilFunc, .nilFunc, .nilFunc] 66)).alloc (.cells #[.int .i64 0] 3)).alloc (.cells #[.bool true] 4)).alloc (.cells #[.nilFunc, .nilFunc, .nilFunc, .nilFunc] 66)) := (((((Below.refl w.heap.size w).alloc (Nat.le_refl _) _).alloc (by simp) _).alloc (by simp; omega) _).alloc (by simp; omega) _).alloc (by simp; omega) _
  have h0 : Blk (((((w.alloc (.cells #[.string s] 9)).alloc (.cells #[.nilFunc, .nilFunc, .nilFunc, .nilFunc] 66)).alloc (.cells #[.int .i64 0] 3)).alloc (.cells #[.bool true] 4)).alloc (.cells #[.nilFunc, .nilFunc, .nilFunc, .nilFunc] 66)) w.heap.size 9 #[.string s] := ((((Blk.new w 9 #[.string s]).alloc _).alloc _).alloc _).alloc _
  have h1 : Blk (((((w.alloc (.cells #[.string s] 9)).alloc (.cells #[.nilFunc, .nilFunc, .nilFunc, .nilFunc] 66)).alloc (.cells #[.int .i64 0] 3)).alloc (.cells #[.bool true] 4)).alloc (.cells #[.nilFunc, .nilFunc, .nilFunc, .nilFunc] 66)) (w.heap.size + 1) 66 #[.nilFunc, .nilFunc, .nilFunc, .nilFunc] := by
    have := (((Blk.new (w.alloc (.cells #[.string s] 9)) 66 #[.nilFunc, .nilFunc, .nilFunc, .nilFunc]).alloc (.cells #[.int .i64 0] 3)).alloc (.cells #[.bool true] 4)).alloc (.cells #[.nilFunc, .nilFunc, .nilFunc, .nilFunc] 66)
    simpa using this
  have h2 : Blk (((((w.alloc (.cells #[.string s] 9)).alloc (.cells #[.nilFunc, .nilFunc, .nilFunc, .nilFunc] 66)).alloc (.cells #[.int .i64 0] 3)).alloc (.cells #[.bool true] 4)).alloc (.cells #[.nilFunc, .nilFunc, .nilFunc, .nilFunc] 66)) (w.heap.size + 1 + 1) 3 #[.int .i64 0] := by
    have := ((Blk.new ((w.alloc (.cells #[.string s] 9)).alloc (.cells #[.nilFunc, .nilFunc, .nilFunc, .nilFunc] 66)) 3 #[.int .i64 0]).alloc (.cells #[.bool true] 4)).alloc (.cells #[.nilFunc, .nilFunc, .nilFunc, .nilFunc] 66)
    simpa using this
  have h3 : Blk (((((w.alloc (.cells #[.string s] 9)).alloc (.cells #[.nilFunc, .nilFunc, .nilFunc, .nilFunc] 66)).alloc (.cells #[.int .i64 0] 3)).alloc (.cells #[.bool true] 4)).alloc (.cells #[.nilFunc, .nilFunc, .nilFunc, .nilFunc] 66)) (w.heap.size + 1 + 1 + 1) 4 #[.bool true] := by
    have := (Blk.new (((w.alloc (.cells #[.string s] 9)).alloc (.cells #[.nilFunc, .nilFunc, .nilFunc, .nilFunc] 66)).alloc (.cells #[.int .i64 0] 3)) 4 #[.bool true]).alloc (.cells #[.nilFunc, .nilFunc, .nilFunc, .nilFunc] 66)
    simpa using this
  have h4 : Blk (((((w.alloc (.cells #[.string s] 9)).alloc (.cells #[.nilFunc, .nilFunc, .nilFunc, .nilFunc] 66)).alloc (.cells #[.int .i64 0] 3)).alloc (.cells #[.bool true] 4)).alloc (.cells #[.nilFunc, .nilFunc, .nilFunc, .nilFunc] 66)) (w.heap.size + 1 + 1 + 1 + 1) 66 #[.nilFunc, .nilFunc, .nilFunc, .nilFunc] := by
    have := Blk.new ((((w.alloc (.cells #[.string s] 9)).alloc (.cells #[.nilFunc, .nilFunc, .nilFunc, .nilFunc] 66)).alloc (.cells #[.int .i64 0] 3)).alloc (.cells #[.bool true] 4)) 66 #[.nilFunc, .nilFunc, .nilFunc, .nilFunc]
    simpa using this
  have l1 : w.heap.size ≤ w.heap.size + 1 := by omega
  have l2 : w.heap.size ≤ w.heap.size + 1 + 1 := by omega
  have l3 : w.heap.size ≤ w.heap.size + 1 + 1 + 1 := by omega
  have l4 : w.heap.size ≤ w.heap.size + 1 + 1 + 1 + 1 := by omega
  have n1 : w.heap.size + 1 + 1 + 1 + 1 ≠ w.heap.size + 1 := by omega
  generalize (((((w.alloc (.cells #[.string s] 9)).alloc (.cells #[.nilFunc, .nilFunc, .nilFunc, .nilFunc] 66)).alloc (.cells #[.int .i64 0] 3)).alloc (.cells #[.bool true] 4)).alloc (.cells #[.nilFunc, .nilFunc, .nilFunc, .nilFunc] 66)) = W5 at *
  generalize w.heap.size + 1 + 1 + 1 + 1 = gx at *
  generalize w.heap.size + 1 + 1 + 1 = gw at *
  generalize w.heap.size + 1 + 1 = ga at *
  generalize w.heap.size + 1 = gr at *
  obtain ⟨gs, hgs⟩ : ∃ g, Hid (w.heap.size = g) := ⟨_, hide rfl⟩
  rw [hgs.out] at h0 ⊢
  have B0 : Blk W5 gx 66 #[.nilFunc, .nilFunc, .nilFunc, .nilFunc] := h4
  have z0 : W5.cell? ⟨gx, 0, none⟩ = some .nilFunc := B0.cell 0
  have f0 : W5.frozen? ⟨gx, 0, none⟩ = false := B0.frozen 0
  have s0 : (store ⟨gx, 0, none⟩ (.func (.func 61) #[] #[ptrW gs, ptrW ga, ptrW gw])).run Try.prog W5 = .ok () (W5.setCell ⟨gx, 0, none⟩ (.func (.func 61) #[] #[ptrW gs, ptrW ga, ptrW gw])) := store_ok z0 f0 rfl
  have B1 : Blk (W5.setCell ⟨gx, 0, none⟩ (.func (.func 61) #[] #[ptrW gs, ptrW ga, ptrW gw])) gx 66 #[(.func (.func 61) #[] #[ptrW gs, ptrW ga, ptrW gw]), .nilFunc, .nilFunc, .nilFunc] := B0.set_ 0 _
  have z1 : (W5.setCell ⟨gx, 0, none⟩ (.func (.func 61) #[] #[ptrW gs, ptrW ga, ptrW gw])).cell? ⟨gx, 1, none⟩ = some .nilFunc := B1.cell 1
  have f1 : (W5.setCell ⟨gx, 0, none⟩ (.func (.func 61) #[] #[ptrW gs, ptrW ga, ptrW gw])).frozen? ⟨gx, 1, none⟩ = false := B1.frozen 1
  have s1 : (store ⟨gx, 1, none⟩ (.func (.func 63) #[] #[ptrW gs, ptrW ga, ptrW gw])).run Try.prog (W5.setCell ⟨gx, 0, none⟩ (.func (.func 61) #[] #[ptrW gs, ptrW ga, ptrW gw])) = .ok () ((W5.setCell ⟨gx, 0, none⟩ (.func (.func 61) #[] #[ptrW gs, ptrW ga, ptrW gw])).setCell ⟨gx, 1, none⟩ (.func (.func 63) #[] #[ptrW gs, ptrW ga, ptrW gw])) := store_ok z1 f1 rfl
  have B2 : Blk ((W5.setCell ⟨gx, 0, none⟩ (.func (.func 61) #[] #[ptrW gs, ptrW ga, ptrW gw])).setCell ⟨gx, 1, none⟩ (.func (.func 63) #[] #[ptrW gs, ptrW ga, ptrW gw])) gx 66 #[(.func (.func 61) #[] #[ptrW gs, ptrW ga, ptrW gw]), (.func (.func 63) #[] #[ptrW gs, ptrW ga, ptrW gw]), .nilFunc, .nilFunc] := B1.set_ 1 _
  have z2 : ((W5.setCell ⟨gx, 0, none⟩ (.func (.func 61) #[] #[ptrW gs, ptrW ga, ptrW gw])).setCell ⟨gx, 1, none⟩ (.func (.func 63) #[] #[ptrW gs, ptrW ga, ptrW gw])).cell? ⟨gx, 2, none⟩ = some .nilFunc := B2.cell 2
  have f2 : ((W5.setCell ⟨gx, 0, none⟩ (.func (.func 61) #[] #[ptrW gs, ptrW ga, ptrW gw])).setCell ⟨gx, 1, none⟩ (.func (.func 63) #[] #[ptrW gs, ptrW ga, ptrW gw])).frozen? ⟨gx, 2, none⟩ = false := B2.frozen 2
  have s2 : (store ⟨gx, 2, none⟩ (.func (.func 65) #[] #[ptrW gx, ptrW gw])).run Try.prog ((W5.setCell ⟨gx, 0, none⟩ (.func (.func 61) #[] #[ptrW gs, ptrW ga, ptrW gw])).setCell ⟨gx, 1, none⟩ (.func (.func 63) #[] #[ptrW gs, ptrW ga, ptrW gw])) = .ok () (((W5.setCell ⟨gx, 0, none⟩ (.func (.func 61) #[] #[ptrW gs, ptrW ga, ptrW gw])).setCell ⟨gx, 1, none⟩ (.func (.func 63) #[] #[ptrW gs, ptrW ga, ptrW gw])).setCell ⟨gx, 2, none⟩ (.func (.func 65) #[] #[ptrW gx, ptrW gw])) := store_ok z2 f2 rfl
  have B3 : Blk (((W5.setCell ⟨gx, 0, none⟩ (.func (.func 61) #[] #[ptrW gs, ptrW ga, ptrW gw])).setCell ⟨gx, 1, none⟩ (.func (.func 63) #[] #[ptrW gs, ptrW ga, ptrW gw])).setCell ⟨gx, 2, none⟩ (.func (.func 65) #[] #[ptrW gx, ptrW gw])) gx 66 #[(.func (.func 61) #[] #[ptrW gs, ptrW ga, ptrW gw]), (.func (.func 63) #[] #[ptrW gs, ptrW ga, ptrW gw]), (.func (.func 65) #[] #[ptrW gx, ptrW gw]), .nilFunc] := B2.set_ 2 _
  have z3 : (((W5.setCell ⟨gx, 0, none⟩ (.func (.func 61) #[] #[ptrW gs, ptrW ga, ptrW gw])).setCell ⟨gx, 1, none⟩ (.func (.func 63) #[] #[ptrW gs, ptrW ga, ptrW gw])).setCell ⟨gx, 2, none⟩ (.func (.func 65) #[] #[ptrW gx, ptrW gw])).cell? ⟨gx, 3, none⟩ = some .nilFunc := B3.cell 3
  have f3 : (((W5.setCell ⟨gx, 0, none⟩ (.func (.func 61) #[] #[ptrW gs, ptrW ga, ptrW gw])).setCell ⟨gx, 1, none⟩ (.func (.func 63) #[] #[ptrW gs, ptrW ga, ptrW gw])).setCell ⟨gx, 2, none⟩ (.func (.func 65) #[] #[ptrW gx, ptrW gw])).frozen? ⟨gx, 3, none⟩ = false := B3.frozen 3
  have s3 : (store ⟨gx, 3, none⟩ (.func (.func 66) #[] #[ptrW gw])).run Try.prog (((W5.setCell ⟨gx, 0, none⟩ (.func (.func 61) #[] #[ptrW gs, ptrW ga, ptrW gw])).setCell ⟨gx, 1, none⟩ (.func (.func 63) #[] #[ptrW gs, ptrW ga, ptrW gw])).setCell ⟨gx, 2, none⟩ (.func (.func 65) #[] #[ptrW gx, ptrW gw])) = .ok () ((((W5.setCell ⟨gx, 0, none⟩ (.func (.func 61) #[] #[ptrW gs, ptrW ga, ptrW gw])).setCell ⟨gx, 1, none⟩ (.func (.func 63) #[] #[ptrW gs, ptrW ga, ptrW gw])).setCell ⟨gx, 2, none⟩ (.func (.func 65) #[] #[ptrW gx, ptrW gw])).setCell ⟨gx, 3, none⟩ (.func (.func 66) #[] #[ptrW gw])) := store_ok z3 f3 rfl
  have B4 : Blk ((((W5.setCell ⟨gx, 0, none⟩ (.func (.func 61) #[] #[ptrW gs, ptrW ga, ptrW gw])).setCell ⟨gx, 1, none⟩ (.func (.func 63) #[] #[ptrW gs, ptrW ga, ptrW gw])).setCell ⟨gx, 2, none⟩ (.func (.func 65) #[] #[ptrW gx, ptrW gw])).setCell ⟨gx, 3, none⟩ (.func (.func 66) #[] #[ptrW gw])) gx 66 #[(.func (.func 61) #[] #[ptrW gs, ptrW ga, ptrW gw]), (.func (.func 63) #[] #[ptrW gs, ptrW ga, ptrW gw]), (.func (.func 65) #[] #[ptrW gx, ptrW gw]), (.func (.func 66) #[] #[ptrW gw])] := B3.set_ 3 _
  have y0 : ((((W5.setCell ⟨gx, 0, none⟩ (.func (.func 61) #[] #[ptrW gs, ptrW ga, ptrW gw])).setCell ⟨gx, 1, none⟩ (.func (.func 63) #[] #[ptrW gs, ptrW ga, ptrW gw])).setCell ⟨gx, 2, none⟩ (.func (.func 65) #[] #[ptrW gx, ptrW gw])).setCell ⟨gx, 3, none⟩ (.func (.func 66) #[] #[ptrW gw])).cell? ⟨gx, 0, none⟩ = some (.func (.func 61) #[] #[ptrW gs, ptrW ga, ptrW gw]) := B4.cell 0
  have y1 : ((((W5.setCell ⟨gx, 0, none⟩ (.func (.func 61) #[] #[ptrW gs, ptrW ga, ptrW gw])).setCell ⟨gx, 1, none⟩ (.func (.func 63) #[] #[ptrW gs, ptrW ga, ptrW gw])).setCell ⟨gx, 2, none⟩ (.func (.func 65) #[] #[ptrW gx, ptrW gw])).setCell ⟨gx, 3, none⟩ (.func (.func 66) #[] #[ptrW gw])).cell? ⟨gx, 1, none⟩ = some (.func (.func 63) #[] #[ptrW gs, ptrW ga, ptrW gw]) := B4.cell 1
  have y2 : ((((W5.setCell ⟨gx, 0, none⟩ (.func (.func 61) #[] #[ptrW gs, ptrW ga, ptrW gw])).setCell ⟨gx, 1, none⟩ (.func (.func 63) #[] #[ptrW gs, ptrW ga, ptrW gw])).setCell ⟨gx, 2, none⟩ (.func (.func 65) #[] #[ptrW gx, ptrW gw])).setCell ⟨gx, 3, none⟩ (.func (.func 66) #[] #[ptrW gw])).cell? ⟨gx, 2, none⟩ = some (.func (.func 65) #[] #[ptrW gx, ptrW gw]) := B4.cell 2
  have y3 : ((((W5.setCell ⟨gx, 0, none⟩ (.func (.func 61) #[] #[ptrW gs, ptrW ga, ptrW gw])).setCell ⟨gx, 1, none⟩ (.func (.func 63) #[] #[ptrW gs, ptrW ga, ptrW gw])).setCell ⟨gx, 2, none⟩ (.func (.func 65) #[] #[ptrW gx, ptrW gw])).setCell ⟨gx, 3, none⟩ (.func (.func 66) #[] #[ptrW gw])).cell? ⟨gx, 3, none⟩ = some (.func (.func 66) #[] #[ptrW gw]) := B4.cell 3
  have hz1 : Blk ((((W5.setCell ⟨gx, 0, none⟩ (.func (.func 61) #[] #[ptrW gs, ptrW ga, ptrW gw])).setCell ⟨gx, 1, none⟩ (.func (.func 63) #[] #[ptrW gs, ptrW ga, ptrW gw])).setCell ⟨gx, 2, none⟩ (.func (.func 65) #[] #[ptrW gx, ptrW gw])).setCell ⟨gx, 3, none⟩ (.func (.func 66) #[] #[ptrW gw])) gr 66 #[.nilFunc, .nilFunc, .nilFunc, .nilFunc] := (((h1.far (p := ⟨gx, 0, none⟩) (Ne.symm n1) _).far (p := ⟨gx, 1, none⟩) (Ne.symm n1) _).far (p := ⟨gx, 2, none⟩) (Ne.symm n1) _).far (p := ⟨gx, 3, none⟩) (Ne.symm n1) _
  have HZ := hide hz1
  clear hz1
  go_simp
  go_wp2_with ((with_reducible show wpList _ _ _ (⟨none, Op.store 66 _ _, _, _, _, _⟩ :: _) _ _); refine wpList_store_row rfl _ _ _ rfl gr #[(.func (.func 61) #[] #[ptrW gs, ptrW ga, ptrW gw]), (.func (.func 63) #[] #[ptrW gs, ptrW ga, ptrW gw]), (.func (.func 65) #[] #[ptrW gx, ptrW gw]), (.func (.func 66) #[] #[ptrW gw])] rfl rfl 66 _ HZ.out (by kernel_rfl) rfl (by kernel_rfl) ?_)
  refine ret_cell1 rfl rfl rfl (blk_row_same HZ.out #[(.func (.func 61) #[] #[ptrW gs, ptrW ga, ptrW gw]), (.func (.func 63) #[] #[ptrW gs, ptrW ga, ptrW gw]), (.func (.func 65) #[] #[ptrW gx, ptrW gw]), (.func (.func 66) #[] #[ptrW gw])]) Try.underlying66 rfl (by kernel_rfl) ⟨gs, ga, gw, gx, rfl, ?_⟩
  have hr : w.heap.size ≤ gr := l1
  have q0 : gs ≠ gr := h0.ne_ h1 (by decide)
  have q2 : ga ≠ gr := h2.ne_ h1 (by decide)
  have q3 : gw ≠ gr := h3.ne_ h1 (by decide)
  have k0 : gs ≠ gx := h0.ne_ h4 (by decide)
  have k2 : ga ≠ gx := h2.ne_ h4 (by decide)
  have k3 : gw ≠ gx := h3.ne_ h4 (by decide)
  refine ⟨below_row ((((hb.setCell (p := ⟨gx, 0, none⟩) l4 _).setCell (p := ⟨gx, 1, none⟩) l4 _).setCell (p := ⟨gx, 2, none⟩) l4 _).setCell (p := ⟨gx, 3, none⟩) l4 _) hr _, ?_, ?_, ?_, blk_row_far B4 n1 _, l2, l3⟩
  · exact blk_row_far ((((h0.far (p := ⟨gx, 0, none⟩) k0 _).far (p := ⟨gx, 1, none⟩) k0 _).far (p := ⟨gx, 2, none⟩) k0 _).far (p := ⟨gx, 3, none⟩) k0 _) q0 _
  · exact blk_row_far ((((h2.far (p := ⟨gx, 0, none⟩) k2 _).far (p := ⟨gx, 1, none⟩) k2 _).far (p := ⟨gx, 2, none⟩) k2 _).far (p := ⟨gx, 3, none⟩) k2 _) q2 _
  · exact blk_row_far ((((h3.far (p := ⟨gx, 0, none⟩) k3 _).far (p := ⟨gx, 1, none⟩) k3 _).far (p := ⟨gx, 2, none⟩) k3 _).far (p := ⟨gx, 3, none⟩) k3 _) q3 _
end Go.Proofs.Ythgjmbcojbmlhaa
