/- Chapter 25: take of the program, walked. -/
import Derived.Test.YtkipmbnmmbeeaaaBunI
import Derived.OwnWalk
namespace Go.Proofs.Ytkipmbnmmbeeaaa
open Go.RowKit Zb

/-- what take carries along: its boxes, its rows -/
structure TkS (w W : World) (gs ga gw : Nat) (s : ByteArray) (a : Int) (wh : Bool) (v : Value) (L : List PartM) (u : Value) (S : List ByteArray) : Prop where
  bs : Blk W gs 9 #[.string s]
  ba : Blk W ga 3 #[.int .i64 a]
  bw : Blk W gw 4 #[.bool wh]
  lea : w.heap.size ≤ ga
  lew : w.heap.size ≤ gw
  lp : OwnP w W v L
  ls : OwnS w W u S
  us : u.ownBlock ≠ some gs
section
variable {w W W' : World} {gs ga gw gp : Nat} {s : ByteArray} {a a' : Int} {wh wh' : Bool} {v v' : Value} {L L' : List PartM} {u u' : Value} {S S' : List ByteArray}
set_option maxRecDepth 20000 in
theorem TkS.turned (h : TkS w W gs ga gw s a wh v L u S) (T : Turned (TkF ga gw) W W') (ba : Blk W' ga 3 #[.int .i64 a']) (bw : Blk W' gw 4 #[.bool wh']) : TkS w W' gs ga gw s a' wh' v L u S := by
  have hle : w.heap.size ≤ W.heap.size := h.lp.bel.size
  have hb : Below w.heap.size W W' := T.below hle (fun x hx => by rcases hx with rfl | rfl; exact h.lea; exact h.lew)
  refine ⟨h.bs.turned T ?_, ba, bw, h.lea, h.lew, ⟨h.lp.bel.trans hb, row_turned h.lp.row T ?_, h.lp.own⟩, ⟨h.ls.bel.trans hb, row_turned h.ls.row T ?_, h.ls.own⟩, h.us⟩
  · rintro (e | e)
    · exact h.bs.ne_ h.ba (by decide) e
    · exact h.bs.ne_ h.bw (by decide) e
  · rintro g hg (e | e)
    · exact row_blk_ne h.lp.row h.ba (by decide) (e ▸ hg)
    · exact row_blk_ne h.lp.row h.bw (by decide) (e ▸ hg)
  · rintro g hg (e | e)
    · exact row_blk_ne h.ls.row h.ba (by decide) (e ▸ hg)
    · exact row_blk_ne h.ls.row h.bw (by decide) (e ▸ hg)
set_option maxRecDepth 20000 in
theorem TkS.alloc (h : TkS w W gs ga gw s a wh v L u S) (o : Obj) : TkS w (W.alloc o) gs ga gw s a wh v L u S :=
  ⟨h.bs.alloc o, h.ba.alloc o, h.bw.alloc o, h.lea, h.lew, Own.alloc h.lp o, Own.alloc h.ls o, h.us⟩
set_option maxRecDepth 20000 in
theorem TkS.drew (h : TkS w W gs ga gw s a wh v L u S) : TkS w W.drew gs ga gw s a wh v L u S :=
  ⟨h.bs, h.ba, h.bw, h.lea, h.lew, Own.drew h.lp, Own.drew h.ls, h.us⟩
set_option maxRecDepth 20000 in
theorem TkS.setP (h : TkS w W gs ga gw s a wh v L u S) {cs : Array Value} (hp : Blk W gp 34 cs) (hle : w.heap.size ≤ gp) (hv : v.ownBlock ≠ some gp) (i : Nat) (x : Value) : TkS w (W.setCell ⟨gp, i, none⟩ x) gs ga gw s a wh v L u S :=
  ⟨h.bs.far (h.bs.ne_ hp (by decide)) _, h.ba.far (h.ba.ne_ hp (by decide)) _, h.bw.far (h.bw.ne_ hp (by decide)) _, h.lea, h.lew, ⟨h.lp.bel.setCell hle _, row_set h.lp.row hv _, h.lp.own⟩, ⟨h.ls.bel.setCell hle _, row_set h.ls.row (row_blk_ne h.ls.row hp (by decide)) _, h.ls.own⟩, h.us⟩
set_option maxRecDepth 20000 in
theorem TkS.setW (h : TkS w W gs ga gw s a wh v L u S) (b : Bool) : TkS w (W.setCell ⟨gw, 0, none⟩ (.bool b)) gs ga gw s a b v L u S :=
  h.turned ((Turned.refl _ _).setCell (p := ⟨gw, 0, none⟩) (.inl (.inr rfl)) _) (h.ba.far (p := ⟨gw, 0, none⟩) (h.ba.ne_ h.bw (by decide)) _) (h.bw.set_ 0 _)
set_option maxRecDepth 20000 in
theorem TkS.setA (h : TkS w W gs ga gw s a wh v L u S) (b : Int) : TkS w (W.setCell ⟨ga, 0, none⟩ (.int .i64 b)) gs ga gw s b wh v L u S :=
  h.turned ((Turned.refl _ _).setCell (p := ⟨ga, 0, none⟩) (.inl (.inl rfl)) _) (h.ba.set_ 0 _) (h.bw.far (p := ⟨ga, 0, none⟩) (h.bw.ne_ h.ba (by decide)) _)
set_option maxRecDepth 20000 in
theorem TkS.pushP (h : TkS w W gs ga gw s a wh v L u S) (hp : OwnP w W' v' L') (hg : W.grownBy W' v.ownBlock) : TkS w W' gs ga gw s a wh v' L' u S :=
  ⟨h.bs.grown hg (Ne.symm (row_blk_ne h.lp.row h.bs (by decide))), h.ba.grown hg (Ne.symm (row_blk_ne h.lp.row h.ba (by decide))), h.bw.grown hg (Ne.symm (row_blk_ne h.lp.row h.bw (by decide))), h.lea, h.lew, hp, OwnS.kept h.ls h.lp hg, h.us⟩
set_option maxRecDepth 20000 in
theorem TkS.pushS (h : TkS w W gs ga gw s a wh v L u S) (hp : OwnS w W' u' S') (hg : W.grownBy W' u.ownBlock) (ha : u'.ownBlock = u.ownBlock ∨ u'.ownBlock = some W.heap.size) : TkS w W' gs ga gw s a wh v L u' S' :=
  ⟨h.bs.grown hg (Ne.symm h.us), h.ba.grown hg (Ne.symm (row_blk_ne h.ls.row h.ba (by decide))), h.bw.grown hg (Ne.symm (row_blk_ne h.ls.row h.bw (by decide))), h.lea, h.lew, OwnP.kept h.lp h.ls hg, hp, by
    rcases ha with e | e
    · rw [e]; exact h.us
    · rw [e]; intro e2; have := h.bs.lt; simp only [Option.some.injEq] at e2; omega⟩
end
/-- what the region of two appends holds -/
def S16 (w' : World) (gp gs ga : Nat) (nm : ByteArray) (vr : Int) (tx s : ByteArray) (c : Nat) : Prop := Blk w' gp 34 #[.string nm, .int .i64 vr, .string tx, .string ⟨#[]⟩] ∧ Blk w' gs 9 #[.string s] ∧ Blk w' ga 3 #[.int .i64 (c : Int)]
section
variable {W W' : World} {gp gs ga : Nat} {nm tx s : ByteArray} {vr : Int} {c : Nat}
set_option maxRecDepth 20000 in
theorem s16_alloc (h : S16 W gp gs ga nm vr tx s c) (o : Obj) : S16 (W.alloc o) gp gs ga nm vr tx s c := ⟨h.1.alloc o, h.2.1.alloc o, h.2.2.alloc o⟩
set_option maxRecDepth 20000 in
theorem s16_grown (h : S16 W gp gs ga nm vr tx s c) {r : Option Nat} (hg : W.grownBy W' r) (h1 : r ≠ some gp) (h2 : r ≠ some gs) (h3 : r ≠ some ga) : S16 W' gp gs ga nm vr tx s c := ⟨h.1.grown hg (Ne.symm h1), h.2.1.grown hg (Ne.symm h2), h.2.2.grown hg (Ne.symm h3)⟩
end
set_option maxRecDepth 20000 in
theorem merge_five {M : Value → Value → Value → Value → World → Prop} {C : Value → Value → Value → Value → World → Prop} {G : Prop} (m : ∀ a b c d W, C a b c d W → M a b c d W) (g : Hid (∀ a b c d W, C a b c d W → M a b c d W) → G) : G := g (hide m)
set_option maxRecDepth 20000 in
theorem wpAnyH_at {P : Program} {md : Region.Mode} {ops : Array Oper} {Q : Exit → Act → World → Prop} {S : World → Prop} {n : Nat} {L' : Array Bool} {a : Act} {w : World} (L : Array Bool) (h : L' = L) (hW : wpAnyH P md ops Q S n L a w) : wpAnyH P md ops Q S n L' a w := h ▸ hW
section
variable {o : Oper} {a : Act} {Q : Exit → Act → World → Prop} {w0 W : World} {v : Value} {K : Act → World → Prop}
set_option maxRecDepth 20000 in
theorem owns_app_op {l : List ByteArray} (s x : Operand) (ho : o.op = .call { callee := .builtin .append, args := #[s, x], argTypes := #[41, 41] }) (hb : Hid (OwnS w0 W v l)) (g c : Nat) (t : ByteArray)
    (hs : a.eval s = v) (hx : a.eval x = .slice (some ⟨g, 0, none⟩) 1 c) (hcs : Blk W g 9 #[.string t]) (hlen : l.length ≤ 1000000)
    (h : ∀ v' w', Hid (OwnS w0 w' v' (l ++ [t])) → Hid (W.grownBy w' v.ownBlock) → Hid (v'.ownBlock = v.ownBlock ∨ v'.ownBlock = some W.heap.size) → K (a.put o.dst v') w') : Oper.wp Try.prog o a W K Q :=
  app_op s x 41 9 ho (.string ⟨#[]⟩) 1 16 Try.underlying41 info_str rfl (by decide) v l.length _ hs hb.out.row _ 1 [.string t] hx (Src.blk hcs) rfl (by intro u hu; simp only [List.mem_singleton] at hu; subst hu; rfl) (Nat.le_trans (show l.length + 1 ≤ 1000001 by omega) (by decide)) (by omega)
    fun v' w' h1 h2 h3 => h v' w' (hide (by
      have h1' : Row w' 9 1 v' (l ++ [t]).length ((l ++ [t]).flatMap sv) := by
        rw [flat_snoc, List.length_append]
        exact h1.out
      exact hb.out.grown h1' h2.out h3.out)) h2 h3
set_option maxRecDepth 20000 in
theorem ownp_app_op {l : List PartM} (s x : Operand) (ho : o.op = .call { callee := .builtin .append, args := #[s, x], argTypes := #[22, 22] }) (hb : Hid (OwnP w0 W v l)) (g c : Nat) (t : PartM)
    (hs : a.eval s = v) (hx : a.eval x = .slice (some ⟨g, 0, none⟩) 1 c) (hcs : Blk W g 34 t.cells.toArray) (hlen : l.length ≤ 1000000)
    (h : ∀ v' w', Hid (OwnP w0 w' v' (l ++ [t])) → Hid (W.grownBy w' v.ownBlock) → Hid (v'.ownBlock = v.ownBlock ∨ v'.ownBlock = some W.heap.size) → K (a.put o.dst v') w') : Oper.wp Try.prog o a W K Q :=
  app_op s x 22 34 ho _ 4 56 Try.underlying22 info_part rfl (by decide) v l.length _ hs hb.out.row _ 1 t.cells hx (Src.blk hcs) rfl (by intro u hu; simp only [PartM.cells, List.mem_cons, List.not_mem_nil, or_false] at hu; rcases hu with rfl | rfl | rfl | rfl <;> rfl) (Nat.le_trans (show l.length + 1 ≤ 1000001 by omega) (by decide)) (by omega)
    fun v' w' h1 h2 h3 => h v' w' (hide (by
      have h1' : Row w' 34 4 v' (l ++ [t]).length ((l ++ [t]).flatMap PartM.cells) := by
        rw [flat_snoc, List.length_append]
        exact h1.out
      exact hb.out.grown h1' h2.out h3.out)) h2 h3
end
set_option maxRecDepth 20000 in
theorem exec_load_row {P : Program} {o : Oper} {a : Act} {w : World} (ty : TypeId) (x : Operand) (ho : o.op = .load ty x)
    (g : Nat) (hx : a.eval x = .pointer (some ⟨g, 0, none⟩)) (t : TypeId) (cs : Array Value) (fr : Nat × Nat) (d : TypeDesc) (hg : w.heap[g]? = some (.cells cs t fr))
    (hu : P.underlying ty = some d) (hd : (match d with | .struct _ | .array _ _ => true | _ => false) = true) (hi : (P.info? ty).map (·.size) = some cs.size) :
    (execOp a.eval o).run P w = .ok (.value (.agg cs)) w := by
  unfold execOp
  simp only [ho, hx, Instr.loadAt, Instr.sureAddr, Sem.run_bind, Sem.run_pure, Result.andThen_ok, run_loadVar_row w g t ty cs fr d hg hu hd hi]
set_option maxRecDepth 20000 in
theorem btake2 {W : World} {gs ga gw : Nat} {s : ByteArray} (hs : s.size ≤ 1000000) (bs : Blk W gs 9 #[.string s]) (ba : Blk W ga 3 #[.int .i64 4]) (bw : Blk W gw 4 #[.bool true]) :
    Calls Try.prog 45 #[.int .i64 2, ptr0 gs, ptr0 ga, ptr0 gw] W fun e W' => e = .returned (.int .i64 (getN s 4 2)) ∧ Turned (TkF ga gw) W W' ∧ Blk W' ga 3 #[.int .i64 6] ∧ Blk W' gw 4 #[.bool (decide (getE s 4 2 = 0))] :=
  btakenum_calls (a := 4) hs bs ba bw (by omega) 2 (by omega)
set_option maxRecDepth 20000 in
theorem btake4 {W : World} {gs ga gw : Nat} {s : ByteArray} {a : Nat} (hs : s.size ≤ 1000000) (bs : Blk W gs 9 #[.string s]) (ba : Blk W ga 3 #[.int .i64 a]) (bw : Blk W gw 4 #[.bool true]) (ha : a ≤ 1000000) :
    Calls Try.prog 45 #[.int .i64 4, ptr0 gs, ptr0 ga, ptr0 gw] W fun e W' => e = .returned (.int .i64 (getN s a 4)) ∧ Turned (TkF ga gw) W W' ∧ Blk W' ga 3 #[.int .i64 ((a + 4 : Nat) : Int)] ∧ Blk W' gw 4 #[.bool (decide (getE s a 4 = 0))] := by
  rw [show ((a + 4 : Nat) : Int) = (a : Int) + ((4 : Nat) : Int) by omega]
  exact btakenum_calls hs bs ba bw (by omega) 4 (by omega)
abbrev TakePost (s : ByteArray) (w : World) (e : Ending) (w' : World) : Prop := Below w.heap.size w w' ∧ match readM s with
  | none => ∃ A n c B m d, e = .returned (.tuple #[.slice A n c, .slice B m d, .bool false])
  | some R => ∃ v u, e = .returned (.tuple #[v, u, .bool true]) ∧ OwnP w w' v (R.map (·.1)) ∧ OwnS w w' u (R.map (·.2))
set_option maxRecDepth 20000 in
theorem take_none {s : ByteArray} {w w' : World} {gs ga gw : Nat} {a : Int} {wh : Bool} {v u : Value} {L : List PartM} {S : List ByteArray} (h : readM s = none) (k : TkS w w' gs ga gw s a wh v L u S) : TakePost s w (.returned (.tuple #[v, u, .bool false])) w' := by
  refine ⟨k.lp.bel, ?_⟩
  rw [h]
  obtain ⟨A, c, rfl, _⟩ := row_slice k.lp.row
  obtain ⟨B, d, rfl, _⟩ := row_slice k.ls.row
  exact ⟨_, _, _, _, _, _, rfl⟩
set_option maxRecDepth 20000 in
theorem take_some {s : ByteArray} {w w' : World} {R : Sums} {v u : Value} (h : readM s = some R) (hp : OwnP w w' v (R.map (·.1))) (hs : OwnS w w' u (R.map (·.2))) : TakePost s w (.returned (.tuple #[v, u, .bool true])) w' := by
  refine ⟨hp.bel, ?_⟩
  rw [h]
  exact ⟨v, u, rfl, hp, hs⟩
set_option maxRecDepth 20000 in
set_option maxHeartbeats 8000000 in
theorem btake_calls (s : ByteArray) (hs : s.size ≤ 1000000) (w : World) : Calls Try.prog 29 #[.string s] w (TakePost s w) := by
  have HSZ := hide hs
  have HR0 : Hid (readM s = if getE s 4 2 ≠ 0 then none else readN s (getN s 4 2).toNat 6) := hide rfl
  have hgn : 0 ≤ getN s 4 2 ∧ getN s 4 2 ≤ 65535 := by
    unfold getN
    split
    · have h1 := leN_lt (cutL s (4 : Int).toNat (2 : Int).toNat)
      have h2 : (cutL s (4 : Int).toNat (2 : Int).toNat).length ≤ 2 := List.length_take_le _ _
      have h3 : leN (cutL s (4 : Int).toNat (2 : Int).toNat) < 65536 := Nat.lt_of_lt_of_le h1 (Nat.le_trans (Nat.pow_le_pow_right (by omega) h2) (by decide))
      unfold wrap64
      omega
    · omega
  have HEL : Hid (getE s 4 2 = 0 → 6 ≤ s.size) := hide fun h => getE_lim (s := s) (a := 4) (k := 2) h
  have HEN : Hid (getE s 4 2 ≠ 0 → getN s 4 2 = 0) := hide fun h => by unfold getN; rw [if_neg h]
  have HC2 := hide (fun W gs ga gw (bs : Blk W gs 9 #[.string s]) (ba : Blk W ga 3 #[.int .i64 4]) (bw : Blk W gw 4 #[.bool true]) => btake2 HSZ.out bs ba bw)
  obtain ⟨ge, hge⟩ : ∃ x, getE s 4 2 = x := ⟨_, rfl⟩
  obtain ⟨gn, hgn2⟩ : ∃ x, getN s 4 2 = x := ⟨_, rfl⟩
  rw [hge, hgn2] at HC2 HR0 HEN
  rw [hge] at HEL
  rw [hgn2] at hgn
  clear hge hgn2
  obtain ⟨hgn0, hgn1⟩ := hgn
  obtain ⟨n, rfl⟩ : ∃ n : Nat, gn = n := ⟨gn.toNat, by omega⟩
  clear hgn0
  have K0 : Hid (TkS w (((w.alloc (.cells #[.string s] 9)).alloc (.cells #[.int .i64 4] 3)).alloc (.cells #[.bool true] 4)) w.heap.size (w.heap.size + 1) (w.heap.size + 1 + 1) s 4 true (.slice none 0 0) [] (.slice none 0 0) []) := hide (by
    have h1 := Blk.new w 9 #[.string s]
    have h2 := Blk.new (w.alloc (.cells #[.string s] 9)) 3 #[.int .i64 4]
    have h3 := Blk.new ((w.alloc (.cells #[.string s] 9)).alloc (.cells #[.int .i64 4] 3)) 4 #[.bool true]
    have hb : Below w.heap.size w (((w.alloc (.cells #[.string s] 9)).alloc (.cells #[.int .i64 4] 3)).alloc (.cells #[.bool true] 4)) := ((((Below.refl w.heap.size w).alloc (Nat.le_refl _) _).alloc (by simp) _).alloc (by simp; omega) _)
    refine ⟨(h1.alloc _).alloc _, ?_, ?_, by omega, by omega, Own.nil hb, Own.nil hb, by simp [Value.ownBlock]⟩
    · have := h2.alloc (.cells #[.bool true] 4)
      simpa using this
    · simpa using h3)
  go_enter Try.func29, Try.ntmps29
  go_wp2_with fail
  generalize (((w.alloc (.cells #[.string s] 9)).alloc (.cells #[.int .i64 4] 3)).alloc (.cells #[.bool true] 4)) = W0 at *
  generalize w.heap.size + 1 + 1 = gw at *
  generalize w.heap.size + 1 = ga at *
  obtain ⟨gs, hgs⟩ : ∃ g, Hid (w.heap.size = g) := ⟨_, hide rfl⟩
  rw [hgs.out] at K0 ⊢
  refine (HC2.out W0 gs ga gw K0.out.bs K0.out.ba K0.out.bw).mono ?_
  rintro e W1 ⟨rfl, T1, A1, E1⟩
  have K1 := hide (K0.out.turned T1 A1 E1)
  clear T1 A1 E1 K0 HC2 hgs
  by_cases he : ge = 0
  case neg =>
    have HE : Hid (readM s = none) := hide (by rw [HR0.out, if_pos he])
    have hn0 : n = 0 := by have := HEN.out he; omega
    subst hn0
    rw [decide_eq_false he] at K1
    clear he HR0 HEL HEN
    go_wp2_with fail
    go_loopw [9, 10, 11] (fun v u m wr => v = .slice none 0 0 ∧ u = .slice none 0 0 ∧ m = .int .i64 0 ∧ wr = W1) (fun _ _ _ _ => 0)
    case atStart => exact ⟨rfl, rfl, rfl, rfl⟩
    case round =>
      obtain ⟨rfl, rfl, rfl, rfl⟩ := hrel
      go_wp2_with fail
      refine wp_region_heads [0, 1, 2, 3, 4, 5] 0 (fun w' => w'.cell? ⟨gw, 0, none⟩ = some (.bool false)) (by kernel_rfl) rfl (by kernel_rfl) (by kernel_rfl) (fun _ _ d _ _ h => by cases d <;> exact h) (K1.out.drew.bw.cell 0) ?_
      iterate 6
        refine' Heads.step rfl (by rfl) ?_ ?_
        rotate_left
        · intro w' hSw
          have q0 := hSw
          go_simp
          try with_reducible rfl
        simp only [Act.put, List.setIfInBounds_toArray, List.set_cons_zero, List.set_cons_succ]
      refine Heads.done ?_
      refine wpAnyH_done (by kernel_rfl) ?_ _
      go_wp2_with fail
      go_ret3
      exact take_none HE.out (K1.out.drew)
  rw [decide_eq_true he] at K1
  have HR : Hid (readM s = (readN s n 6).map (([] : Sums) ++ ·)) := hide (by rw [HR0.out, if_neg (fun h => h he)]; rw [show (n : Int).toNat = n by omega]; cases readN s n 6 <;> simp)
  have h6 := HEL.out he
  subst he
  clear HR0 HEL HEN
  go_wp2_with fail
  go_loopw [9, 10, 11] (fun v u m wr => ∃ (j a : Nat) (R : Sums), m = .int .i64 (j : Int) ∧ a ≤ s.size ∧ R.length + j = n ∧ Hid (TkS w wr gs ga gw s a true v (R.map (·.1)) u (R.map (·.2))) ∧ Hid (readM s = (readN s j a).map (R ++ ·))) (fun _ _ m _ => (intOf m).toNat)
  case atStart => exact ⟨n, 6, [], rfl, h6, by simp, K1, HR⟩
  case round =>
    clear K1 HR
    obtain ⟨j, a, R, rfl, ha, hRj, K, HM⟩ := hrel
    by_cases hj : 0 < j
    case neg =>
      obtain rfl : j = 0 := by omega
      have HE : Hid (readM s = some R) := hide (by rw [HM.out]; simp [readN])
      go_wp2_with fail
      refine wp_region_heads [0, 1, 2, 3, 4, 5] 0 (fun w' => w'.cell? ⟨gw, 0, none⟩ = some (.bool true)) (by kernel_rfl) rfl (by kernel_rfl) (by kernel_rfl) (fun _ _ d _ _ h => by cases d <;> exact h) (K.out.drew.bw.cell 0) ?_
      iterate 6
        refine' Heads.step rfl (by rfl) ?_ ?_
        rotate_left
        · intro w' hSw
          have q0 := hSw
          go_simp
          try with_reducible rfl
        simp only [Act.put, List.setIfInBounds_toArray, List.set_cons_zero, List.set_cons_succ]
      refine Heads.done ?_
      refine wpAnyH_done (by kernel_rfl) ?_ _
      go_wp2_with fail
      go_ret3
      exact take_some HE.out K.out.drew.lp K.out.drew.ls
    obtain ⟨i, rfl⟩ : ∃ i, j = i + 1 := ⟨j - 1, by omega⟩
    have hjI : (0 : Int) < ((i + 1 : Nat) : Int) := by omega
    have hjS : IntKind.i64.wrap (((i + 1 : Nat) : Int) - 1) = (i : Int) := by rw [IntWalk.i64_in _ (by omega)]; omega
    have HTX := hide (btaketext_calls (a := a) HSZ.out K.out.bs K.out.ba K.out.bw (by omega))
    obtain ⟨b, hb, hbs⟩ := next_to (s := s) (a := a)
    obtain ⟨c, hc, hcs⟩ : ∃ c : Nat, (nextM s ((b + 4 : Nat) : Int)).2.1 = c ∧ c ≤ s.size := next_to
    have HG4 := hide (fun W (bs : Blk W gs 9 #[.string s]) (ba : Blk W ga 3 #[.int .i64 b]) (bw : Blk W gw 4 #[.bool true]) => btake4 HSZ.out bs ba bw (by omega))
    have HTY := hide (fun W (bs : Blk W gs 9 #[.string s]) (ba : Blk W ga 3 #[.int .i64 ((b + 4 : Nat) : Int)]) (bw : Blk W gw 4 #[.bool true]) => btaketext_calls HSZ.out bs ba bw (by omega))
    have HSTEP : Hid (stepR s a = if (nextM s a).2.2 ≠ 0 then none else if getE s b 4 ≠ 0 then none else if (nextM s ((b + 4 : Nat) : Int)).2.2 ≠ 0 then none else if (s.size : Int) - (c : Int) < 32 then none else some (⟨(nextM s a).1, getN s b 4, (nextM s ((b + 4 : Nat) : Int)).1, ⟨#[]⟩⟩, s.extract c (c + 32), ((c + 32 : Nat) : Int))) := hide (by
      unfold stepR
      rw [hb, show ((b : Int) + 4) = ((b + 4 : Nat) : Int) by omega, hc]
      rw [show ((c : Int) + 32) = ((c + 32 : Nat) : Int) by omega]
      rfl)
    have HREAD : Hid (readN s (i + 1) a = match stepR s a with
      | none => none
      | some x => (readN s i x.2.2).map ((x.1, x.2.1) :: ·)) := hide rfl
    rw [hb] at HTX
    rw [hc] at HTY
    obtain ⟨f, hf⟩ : ∃ f, (nextM s a).2.2 = f := ⟨_, rfl⟩
    obtain ⟨nm, hnm2⟩ : ∃ f, (nextM s a).1 = f := ⟨_, rfl⟩
    obtain ⟨g, hg⟩ : ∃ f, getE s b 4 = f := ⟨_, rfl⟩
    obtain ⟨vr, hvr⟩ : ∃ f, getN s b 4 = f := ⟨_, rfl⟩
    obtain ⟨h, hh⟩ : ∃ f, (nextM s ((b + 4 : Nat) : Int)).2.2 = f := ⟨_, rfl⟩
    obtain ⟨tx, htx2⟩ : ∃ f, (nextM s ((b + 4 : Nat) : Int)).1 = f := ⟨_, rfl⟩
    rw [hf, hnm2] at HTX
    rw [hg, hvr] at HG4
    rw [hh, htx2] at HTY
    rw [hf, hnm2, hg, hvr, hh, htx2] at HSTEP
    clear hb hc hf hnm2 hg hvr hh htx2 hj
    have HX := hide (fun (h : stepR s a = none) => show readM s = none by rw [HM.out, HREAD.out, h]; rfl)
    have HY := hide (fun x (h : stepR s a = some x) => show readM s = (readN s i x.2.2).map ((R ++ [(x.1, x.2.1)]) ++ ·) by rw [HM.out, HREAD.out, h]; simp [Option.map_map, Function.comp_def])
    clear HREAD HM
    have z6 : wr.cell? ⟨gw, 0, none⟩ = some (.bool true) := K.out.bw.cell 0
    go_wp2_with fail
    clear z6
    refine HTX.out.mono ?_
    rintro e W2 ⟨rfl, T2, A2, E2⟩
    have K2 := hide (K.out.turned T2 A2 E2)
    clear T2 A2 E2 K HTX
    have K3 := hide (K2.out.alloc (.cells #[.string nm, .int .i64 0, .string ⟨#[]⟩, .string ⟨#[]⟩] 34))
    have BP3 := hide (Blk.new W2 34 #[.string nm, .int .i64 0, .string ⟨#[]⟩, .string ⟨#[]⟩])
    have hvp : u9.ownBlock ≠ some W2.heap.size := fun e => by have := row_lt K2.out.lp.row _ e; omega
    have hgp := K2.out.lp.bel.size
    clear K2
    by_cases hf : f = 0
    case neg =>
      have HE := hide (HX.out (by rw [HSTEP.out, if_pos hf]))
      rw [decide_eq_false hf] at K3
      have z6 : (W2.alloc (.cells #[.string nm, .int .i64 0, .string ⟨#[]⟩, .string ⟨#[]⟩] 34)).cell? ⟨gw, 0, none⟩ = some (.bool false) := K3.out.bw.cell 0
      go_wp2_with fail
      clear z6
      generalize (W2.alloc (.cells #[.string nm, .int .i64 0, .string ⟨#[]⟩, .string ⟨#[]⟩] 34)) = W3 at *
      refine wp_region_heads [0, 1, 2, 3, 4, 5] 0 (fun w' => w'.cell? ⟨gw, 0, none⟩ = some (.bool false)) (by kernel_rfl) rfl (by kernel_rfl) (by kernel_rfl) (fun _ _ d _ _ h => by cases d <;> exact h) (K3.out.drew.bw.cell 0) ?_
      iterate 6
        refine' Heads.step rfl (by rfl) ?_ ?_
        rotate_left
        · intro w' hSw
          have q0 := hSw
          go_simp
          try with_reducible rfl
        simp only [Act.put, List.setIfInBounds_toArray, List.set_cons_zero, List.set_cons_succ]
      refine Heads.done ?_
      refine wpAnyH_done (by kernel_rfl) ?_ _
      go_wp2_with fail
      go_ret3
      exact take_none HE.out (K3.out.drew)
    rw [decide_eq_true hf] at K3
    subst hf
    have z6 : (W2.alloc (.cells #[.string nm, .int .i64 0, .string ⟨#[]⟩, .string ⟨#[]⟩] 34)).cell? ⟨gw, 0, none⟩ = some (.bool true) := K3.out.bw.cell 0
    go_wp2_with fail
    clear z6
    generalize (W2.alloc (.cells #[.string nm, .int .i64 0, .string ⟨#[]⟩, .string ⟨#[]⟩] 34)) = W3 at *
    generalize W2.heap.size = gp at *
    have z0 : W3.frozen? ⟨gp, 1, none⟩ = false := BP3.out.frozen 1
    refine (HG4.out W3 K3.out.bs K3.out.ba K3.out.bw).mono ?_
    rintro e W4 ⟨rfl, T4, A4, E4⟩
    have BP4 := hide (BP3.out.turned T4 (by rintro (e | e); exact BP3.out.ne_ K3.out.ba (by decide) e; exact BP3.out.ne_ K3.out.bw (by decide) e))
    have K4 := hide (K3.out.turned T4 A4 E4)
    clear T4 A4 E4 K3 HG4 BP3 z0
    have z1 : W4.frozen? ⟨gp, 1, none⟩ = false := BP4.out.frozen 1
    have z2 : W4.cell? ⟨gp, 1, none⟩ = some (.int .i64 0) := BP4.out.cell 1
    have K5 := hide (K4.out.setP BP4.out hgp hvp 1 (.int .i64 vr))
    have BP5 : Hid (Blk (W4.setCell ⟨gp, 1, none⟩ (.int .i64 vr)) gp 34 #[.string nm, .int .i64 vr, .string ⟨#[]⟩, .string ⟨#[]⟩]) := hide (BP4.out.set_ 1 (.int .i64 vr))
    clear K4 BP4
    by_cases hg : g = 0
    case neg =>
      have HE := hide (HX.out (by rw [HSTEP.out, if_neg (by simp), if_pos hg]))
      rw [decide_eq_false hg] at K5
      have z6 : (W4.setCell ⟨gp, 1, none⟩ (.int .i64 vr)).cell? ⟨gw, 0, none⟩ = some (.bool false) := K5.out.bw.cell 0
      go_wp2_with fail
      clear z6
      generalize (W4.setCell ⟨gp, 1, none⟩ (.int .i64 vr)) = W5 at *
      refine wp_region_heads [0, 1, 2, 3, 4, 5] 0 (fun w' => w'.cell? ⟨gw, 0, none⟩ = some (.bool false)) (by kernel_rfl) rfl (by kernel_rfl) (by kernel_rfl) (fun _ _ d _ _ h => by cases d <;> exact h) (K5.out.drew.bw.cell 0) ?_
      iterate 6
        refine' Heads.step rfl (by rfl) ?_ ?_
        rotate_left
        · intro w' hSw
          have q0 := hSw
          go_simp
          try with_reducible rfl
        simp only [Act.put, List.setIfInBounds_toArray, List.set_cons_zero, List.set_cons_succ]
      refine Heads.done ?_
      refine wpAnyH_done (by kernel_rfl) ?_ _
      go_wp2_with fail
      go_ret3
      exact take_none HE.out (K5.out.drew)
    rw [decide_eq_true hg] at K5
    subst hg
    have z6 : (W4.setCell ⟨gp, 1, none⟩ (.int .i64 vr)).cell? ⟨gw, 0, none⟩ = some (.bool true) := K5.out.bw.cell 0
    go_wp2_with fail
    clear z6 z1 z2
    generalize (W4.setCell ⟨gp, 1, none⟩ (.int .i64 vr)) = W5 at *
    refine (HTY.out W5 K5.out.bs K5.out.ba K5.out.bw).mono ?_
    rintro e W6 ⟨rfl, T6, A6, E6⟩
    have BP6 := hide (BP5.out.turned T6 (by rintro (e | e); exact BP5.out.ne_ K5.out.ba (by decide) e; exact BP5.out.ne_ K5.out.bw (by decide) e))
    have K6 := hide (K5.out.turned T6 A6 E6)
    clear T6 A6 E6 K5 HTY BP5
    have z1 : W6.frozen? ⟨gp, 2, none⟩ = false := BP6.out.frozen 2
    have z2 : W6.cell? ⟨gp, 2, none⟩ = some (.string ⟨#[]⟩) := BP6.out.cell 2
    have K7 := hide (K6.out.setP BP6.out hgp hvp 2 (.string tx))
    have BP7 : Hid (Blk (W6.setCell ⟨gp, 2, none⟩ (.string tx)) gp 34 #[.string nm, .int .i64 vr, .string tx, .string ⟨#[]⟩]) := hide (BP6.out.set_ 2 (.string tx))
    clear K6 BP6
    have y0 : (W6.setCell ⟨gp, 2, none⟩ (.string tx)).cell? ⟨gs, 0, none⟩ = some (.string s) := K7.out.bs.cell 0
    have y1 : (W6.setCell ⟨gp, 2, none⟩ (.string tx)).cell? ⟨ga, 0, none⟩ = some (.int .i64 c) := K7.out.ba.cell 0
    have y3 : (W6.setCell ⟨gp, 2, none⟩ (.string tx)).frozen? ⟨gw, 0, none⟩ = false := K7.out.bw.frozen 0
    by_cases hh : h = 0
    case neg =>
      have HE := hide (HX.out (by rw [HSTEP.out, if_neg (by simp), if_neg (by simp), if_pos hh]))
      rw [decide_eq_false hh] at K7
      have y2 : (W6.setCell ⟨gp, 2, none⟩ (.string tx)).cell? ⟨gw, 0, none⟩ = some (.bool false) := K7.out.bw.cell 0
      have K8 := hide (K7.out.setW false)
      have z6 : ((W6.setCell ⟨gp, 2, none⟩ (.string tx)).setCell ⟨gw, 0, none⟩ (.bool false)).cell? ⟨gw, 0, none⟩ = some (.bool false) := K8.out.bw.cell 0
      go_wp2_with fail
      generalize ((W6.setCell ⟨gp, 2, none⟩ (.string tx)).setCell ⟨gw, 0, none⟩ (.bool false)) = W8 at *
      clear z6 y0 y1 y2 y3 z1 z2 K7
      refine wp_region_heads [0, 1, 2, 3, 4, 5] 0 (fun w' => w'.cell? ⟨gw, 0, none⟩ = some (.bool false)) (by kernel_rfl) rfl (by kernel_rfl) (by kernel_rfl) (fun _ _ d _ _ h => by cases d <;> exact h) (K8.out.drew.bw.cell 0) ?_
      iterate 6
        refine' Heads.step rfl (by rfl) ?_ ?_
        rotate_left
        · intro w' hSw
          have q0 := hSw
          go_simp
          try with_reducible rfl
        simp only [Act.put, List.setIfInBounds_toArray, List.set_cons_zero, List.set_cons_succ]
      refine Heads.done ?_
      refine wpAnyH_done (by kernel_rfl) ?_ _
      go_wp2_with fail
      go_ret3
      exact take_none HE.out (K8.out.drew)
    rw [decide_eq_true hh] at K7
    subst hh
    have y2 : (W6.setCell ⟨gp, 2, none⟩ (.string tx)).cell? ⟨gw, 0, none⟩ = some (.bool true) := K7.out.bw.cell 0
    have hsI : (s.size : Int) ≤ 1000000 := by have := HSZ.out; omega
    by_cases hz : (s.size : Int) - (c : Int) < 32
    · have HE := hide (HX.out (by rw [HSTEP.out, if_neg (by simp), if_neg (by simp), if_neg (by simp), if_pos hz]))
      have K8 := hide (K7.out.setW false)
      have z6 : ((W6.setCell ⟨gp, 2, none⟩ (.string tx)).setCell ⟨gw, 0, none⟩ (.bool false)).cell? ⟨gw, 0, none⟩ = some (.bool false) := K8.out.bw.cell 0
      have hzb : decide (32 ≤ (s.size : Int) - (c : Int)) = false := decide_eq_false (by omega)
      go_wp2_with fail
      generalize ((W6.setCell ⟨gp, 2, none⟩ (.string tx)).setCell ⟨gw, 0, none⟩ (.bool false)) = W8 at *
      clear z6 y0 y1 y2 y3 z1 z2 K7
      refine wp_region_heads [0, 1, 2, 3, 4, 5] 0 (fun w' => w'.cell? ⟨gw, 0, none⟩ = some (.bool false)) (by kernel_rfl) rfl (by kernel_rfl) (by kernel_rfl) (fun _ _ d _ _ h => by cases d <;> exact h) (K8.out.drew.bw.cell 0) ?_
      iterate 6
        refine' Heads.step rfl (by rfl) ?_ ?_
        rotate_left
        · intro w' hSw
          have q0 := hSw
          go_simp
          try with_reducible rfl
        simp only [Act.put, List.setIfInBounds_toArray, List.set_cons_zero, List.set_cons_succ]
      refine Heads.done ?_
      refine wpAnyH_done (by kernel_rfl) ?_ _
      go_wp2_with fail
      go_ret3
      exact take_none HE.out (K8.out.drew)
    have HN := hide (HY.out _ (by rw [HSTEP.out, if_neg (by simp), if_neg (by simp), if_neg (by simp), if_neg hz]))
    clear HX HY HSTEP
    dsimp only at HN
    have hcs2 : c + 32 ≤ s.size := by omega
    have hzb : decide (32 ≤ (s.size : Int) - (c : Int)) = true := decide_eq_true (by omega)
    have BP8 : Hid (Blk ((W6.setCell ⟨gp, 2, none⟩ (.string tx)).setCell ⟨gw, 0, none⟩ (.bool true)) gp 34 #[.string nm, .int .i64 vr, .string tx, .string ⟨#[]⟩]) := hide (BP7.out.far (p := ⟨gw, 0, none⟩) (BP7.out.ne_ K7.out.bw (by decide)) _)
    have K8 := hide (K7.out.setW true)
    have z6 : ((W6.setCell ⟨gp, 2, none⟩ (.string tx)).setCell ⟨gw, 0, none⟩ (.bool true)).cell? ⟨gw, 0, none⟩ = some (.bool true) := K8.out.bw.cell 0
    go_wp2_with fail
    generalize ((W6.setCell ⟨gp, 2, none⟩ (.string tx)).setCell ⟨gw, 0, none⟩ (.bool true)) = w7 at *
    clear z6 y0 y1 y2 y3 z1 z2 K7 BP7 hz hzb
    have HK7 := K8
    obtain ⟨sm, hsm⟩ : ∃ sm, s.extract c (c + 32) = sm := ⟨_, rfl⟩
    have HSM := hide hsm
    rw [hsm] at HN
    clear hsm K8
    have HL1 : Hid ((R.map (·.1)).length ≤ 1000000) := hide (by rw [List.length_map]; omega)
    have HL2 : Hid ((R.map (·.2)).length ≤ 1000000) := hide (by rw [List.length_map]; omega)
    have hSD : S16 w7.drew gp gs ga nm vr tx s c := ⟨BP8.out, HK7.out.bs, HK7.out.ba⟩
    have hc0 : (0 : Int) ≤ (c : Int) := by omega
    have hcI : (c : Int) + 32 ≤ (s.size : Int) := by omega
    have hc1 : (0 : Int) ≤ (c : Int) + 32 := by omega
    have hc2 : (c : Int) ≤ (c : Int) + 32 := by omega
    have hct : ((c : Int) + 32).toNat = c + 32 := by omega
    have hcw : IntKind.i64.wrap ((c : Int) + 32) = (c : Int) + 32 := IntWalk.i64_in _ (by omega)
    refine wp_region_heads [0, 1, 4, 5, 6, 7, 8, 9] 6 (fun w' => Blk w' gp 34 #[.string nm, .int .i64 vr, .string tx, .string ⟨#[]⟩] ∧ Blk w' gs 9 #[.string s] ∧ Blk w' ga 3 #[.int .i64 (c : Int)]) (by kernel_rfl) rfl (by kernel_rfl) (by kernel_rfl) (fun _ _ d _ _ h => by cases d <;> exact h) hSD ?_
    first
    | (refine' Heads.skip rfl (by rfl) ?_
       simp only [Act.put, List.setIfInBounds_toArray, List.set_cons_zero, List.set_cons_succ])
    | (refine' Heads.step rfl (by rfl) ?_ ?_
       rotate_left
       · intro w' hSw
         have q0 : w'.cell? ⟨gs, 0, none⟩ = some (.string s) := hSw.2.1.cell 0; have q1 : w'.cell? ⟨ga, 0, none⟩ = some (.int .i64 (c : Int)) := hSw.2.2.cell 0
         go_simp
         try with_reducible rfl
       simp only [Act.put, List.setIfInBounds_toArray, List.set_cons_zero, List.set_cons_succ])
    refine' Heads.step rfl (by rfl) ?_ ?_
    rotate_left
    · intro w' hSw
      exact exec_load_row _ _ rfl gp rfl 34 _ (0, 0) _ hSw.1 Try.underlying34 rfl (by kernel_rfl)
    simp only [Act.put, List.setIfInBounds_toArray, List.set_cons_zero, List.set_cons_succ]
    first
    | (refine' Heads.skip rfl (by rfl) ?_
       simp only [Act.put, List.setIfInBounds_toArray, List.set_cons_zero, List.set_cons_succ])
    | (refine' Heads.step rfl (by rfl) ?_ ?_
       rotate_left
       · intro w' hSw
         have q0 : w'.cell? ⟨gs, 0, none⟩ = some (.string s) := hSw.2.1.cell 0; have q1 : w'.cell? ⟨ga, 0, none⟩ = some (.int .i64 (c : Int)) := hSw.2.2.cell 0
         go_simp
         try with_reducible rfl
       simp only [Act.put, List.setIfInBounds_toArray, List.set_cons_zero, List.set_cons_succ])
    first
    | (refine' Heads.skip rfl (by rfl) ?_
       simp only [Act.put, List.setIfInBounds_toArray, List.set_cons_zero, List.set_cons_succ])
    | (refine' Heads.step rfl (by rfl) ?_ ?_
       rotate_left
       · intro w' hSw
         have q0 : w'.cell? ⟨gs, 0, none⟩ = some (.string s) := hSw.2.1.cell 0; have q1 : w'.cell? ⟨ga, 0, none⟩ = some (.int .i64 (c : Int)) := hSw.2.2.cell 0
         go_simp
         try with_reducible rfl
       simp only [Act.put, List.setIfInBounds_toArray, List.set_cons_zero, List.set_cons_succ])
    first
    | (refine' Heads.skip rfl (by rfl) ?_
       simp only [Act.put, List.setIfInBounds_toArray, List.set_cons_zero, List.set_cons_succ])
    | (refine' Heads.step rfl (by rfl) ?_ ?_
       rotate_left
       · intro w' hSw
         have q0 : w'.cell? ⟨gs, 0, none⟩ = some (.string s) := hSw.2.1.cell 0; have q1 : w'.cell? ⟨ga, 0, none⟩ = some (.int .i64 (c : Int)) := hSw.2.2.cell 0
         go_simp
         try with_reducible rfl
       simp only [Act.put, List.setIfInBounds_toArray, List.set_cons_zero, List.set_cons_succ])
    first
    | (refine' Heads.skip rfl (by rfl) ?_
       simp only [Act.put, List.setIfInBounds_toArray, List.set_cons_zero, List.set_cons_succ])
    | (refine' Heads.step rfl (by rfl) ?_ ?_
       rotate_left
       · intro w' hSw
         have q0 : w'.cell? ⟨gs, 0, none⟩ = some (.string s) := hSw.2.1.cell 0; have q1 : w'.cell? ⟨ga, 0, none⟩ = some (.int .i64 (c : Int)) := hSw.2.2.cell 0
         go_simp
         try with_reducible rfl
       simp only [Act.put, List.setIfInBounds_toArray, List.set_cons_zero, List.set_cons_succ])
    first
    | (refine' Heads.skip rfl (by rfl) ?_
       simp only [Act.put, List.setIfInBounds_toArray, List.set_cons_zero, List.set_cons_succ])
    | (refine' Heads.step rfl (by rfl) ?_ ?_
       rotate_left
       · intro w' hSw
         have q0 : w'.cell? ⟨gs, 0, none⟩ = some (.string s) := hSw.2.1.cell 0; have q1 : w'.cell? ⟨ga, 0, none⟩ = some (.int .i64 (c : Int)) := hSw.2.2.cell 0
         go_simp
         try with_reducible rfl
       simp only [Act.put, List.setIfInBounds_toArray, List.set_cons_zero, List.set_cons_succ])
    first
    | (refine' Heads.skip rfl (by rfl) ?_
       simp only [Act.put, List.setIfInBounds_toArray, List.set_cons_zero, List.set_cons_succ])
    | (refine' Heads.step rfl (by rfl) ?_ ?_
       rotate_left
       · intro w' hSw
         have q0 : w'.cell? ⟨gs, 0, none⟩ = some (.string s) := hSw.2.1.cell 0; have q1 : w'.cell? ⟨ga, 0, none⟩ = some (.int .i64 (c : Int)) := hSw.2.2.cell 0
         go_simp
         try with_reducible rfl
       simp only [Act.put, List.setIfInBounds_toArray, List.set_cons_zero, List.set_cons_succ])
    refine Heads.done ?_
    obtain ⟨W0, hW0⟩ : ∃ W', Hid (w7.drew = W') := ⟨_, hide rfl⟩
    have HK0 := hide (HK7.out.drew)
    have hS0 := hSD
    rw [hW0.out] at HK0 hS0 ⊢
    clear hW0 hSD
    refine' merge_five (C := fun u49 v2 u57 v4 W => Hid (TkS w W gs ga gw s (c : Int) true v2 (R.map (·.1) ++ [⟨nm, vr, tx, ⟨#[]⟩⟩]) v4 (R.map (·.2) ++ [sm])) ∧ Hid (S16 W gp gs ga nm vr tx s c)) ?_ ?_
    rotate_left 2
    · intro HM
      refine wpAnyH_ready (rs := [2, 10]) (by kernel_rfl) (by simp) (AllReadyH.cons rfl (fun K hK => ?_) (AllReadyH.cons rfl (fun K hK => ?_) AllReadyH.nil))
      · go_simp
        have hS1 := s16_alloc hS0 (.cells #[.string nm, .int .i64 vr, .string tx, .string ⟨#[]⟩] 34)
        have HK1 := hide (HK0.out.alloc (.cells #[.string nm, .int .i64 vr, .string tx, .string ⟨#[]⟩] 34))
        have HB1 := hide (Blk.new W0 34 #[.string nm, .int .i64 vr, .string tx, .string ⟨#[]⟩])
        refine hK.out _ _ hS1 (fun _ => ?_)
        clear hK K
        obtain ⟨g49, hg49⟩ : ∃ g, Hid (W0.heap.size = g) := ⟨_, hide rfl⟩
        rw [hg49.out] at HB1 ⊢
        obtain ⟨W1, hW1⟩ : ∃ W', Hid ((W0.alloc (.cells #[.string nm, .int .i64 vr, .string tx, .string ⟨#[]⟩] 34)) = W') := ⟨_, hide rfl⟩
        rw [hW1.out] at hS1 HK1 HB1 ⊢
        clear hg49
        clear hW1
        refine wpAnyH_ready (rs := [3, 10]) (by kernel_rfl) (by simp) (AllReadyH.cons rfl (fun K hK => ?_) (AllReadyH.cons rfl (fun K hK => ?_) AllReadyH.nil))
        · rw [if_pos (by rfl)]
          refine ownp_app_op _ _ rfl (hide HK1.out.lp) _ _ ⟨nm, vr, tx, ⟨#[]⟩⟩ rfl rfl HB1.out HL1.out ?_
          intro v2 W2 HP2 HG2 HA2
          have hS2 := s16_grown hS1 HG2.out hvp (row_blk_ne HK1.out.lp.row hS1.2.1 (by decide)) (row_blk_ne HK1.out.lp.row hS1.2.2 (by decide))
          have HK2 := hide (HK1.out.pushP HP2.out HG2.out)
          refine hK.out _ _ hS2 (fun _ => ?_)
          clear hK K
          refine wpAnyH_ready (rs := [10]) (by kernel_rfl) (by simp) (AllReadyH.cons rfl (fun K hK => ?_) AllReadyH.nil)
          go_simp
          rw [HSM.out]
          have hS3 := s16_alloc hS2 (.cells #[.string sm] 9)
          have HK3 := hide (HK2.out.alloc (.cells #[.string sm] 9))
          have HC3 := hide (Blk.new W2 9 #[.string sm])
          refine hK.out _ _ hS3 (fun _ => ?_)
          clear hK K
          obtain ⟨g57, hg57⟩ : ∃ g, Hid (W2.heap.size = g) := ⟨_, hide rfl⟩
          rw [hg57.out] at HC3 ⊢
          obtain ⟨W3, hW3⟩ : ∃ W', Hid ((W2.alloc (.cells #[.string sm] 9)) = W') := ⟨_, hide rfl⟩
          rw [hW3.out] at hS3 HK3 HC3 ⊢
          clear hg57
          clear hW3
          refine wpAnyH_ready (rs := [11]) (by kernel_rfl) (by simp) (AllReadyH.cons rfl (fun K hK => ?_) AllReadyH.nil)
          rw [if_pos (by rfl)]
          refine owns_app_op _ _ rfl (hide HK3.out.ls) _ _ sm rfl rfl HC3.out HL2.out ?_
          intro v4 W4 HP4 HG4 HA4
          have hS4 := s16_grown hS3 HG4.out (row_blk_ne HK3.out.ls.row hS3.1 (by decide)) HK3.out.us (row_blk_ne HK3.out.ls.row hS3.2.2 (by decide))
          have HK4 := hide (HK3.out.pushS HP4.out HG4.out HA4.out)
          refine hK.out _ _ hS4 (fun _ => ?_)
          clear hK K
          simp only [Act.put, List.setIfInBounds_toArray]
          generalize (Value.slice (some ⟨g49, 0, none⟩) 1 1) = u49
          generalize (Value.slice (some ⟨g57, 0, none⟩) 1 1) = u57
          refine wpAnyH_at #[true, true, true, true, true, true, true, true, true, true, true, true, false, false] (by kernel_rfl) ?_
          exact HM.out u49 _ u57 _ _ ⟨HK4, hide hS4⟩
        · go_simp
          rw [HSM.out]
          have hS5 := s16_alloc hS1 (.cells #[.string sm] 9)
          have HK5 := hide (HK1.out.alloc (.cells #[.string sm] 9))
          have HC5 := hide (Blk.new W1 9 #[.string sm])
          have HB5 := hide (HB1.out.alloc (.cells #[.string sm] 9))
          refine hK.out _ _ hS5 (fun _ => ?_)
          clear hK K
          obtain ⟨g57, hg57⟩ : ∃ g, Hid (W1.heap.size = g) := ⟨_, hide rfl⟩
          rw [hg57.out] at HC5 ⊢
          obtain ⟨W5, hW5⟩ : ∃ W', Hid ((W1.alloc (.cells #[.string sm] 9)) = W') := ⟨_, hide rfl⟩
          rw [hW5.out] at hS5 HK5 HC5 HB5 ⊢
          clear hg57
          clear hW5
          refine wpAnyH_ready (rs := [3]) (by kernel_rfl) (by simp) (AllReadyH.cons rfl (fun K hK => ?_) AllReadyH.nil)
          rw [if_pos (by rfl)]
          refine ownp_app_op _ _ rfl (hide HK5.out.lp) _ _ ⟨nm, vr, tx, ⟨#[]⟩⟩ rfl rfl HB5.out HL1.out ?_
          intro v6 W6 HP6 HG6 HA6
          have hS6 := s16_grown hS5 HG6.out hvp (row_blk_ne HK5.out.lp.row hS5.2.1 (by decide)) (row_blk_ne HK5.out.lp.row hS5.2.2 (by decide))
          have HC6 := hide (HC5.out.grown HG6.out (Ne.symm (row_blk_ne HK5.out.lp.row HC5.out (by decide))))
          have HK6 := hide (HK5.out.pushP HP6.out HG6.out)
          refine hK.out _ _ hS6 (fun _ => ?_)
          clear hK K
          refine wpAnyH_ready (rs := [11]) (by kernel_rfl) (by simp) (AllReadyH.cons rfl (fun K hK => ?_) AllReadyH.nil)
          rw [if_pos (by rfl)]
          refine owns_app_op _ _ rfl (hide HK6.out.ls) _ _ sm rfl rfl HC6.out HL2.out ?_
          intro v7 W7 HP7 HG7 HA7
          have hS7 := s16_grown hS6 HG7.out (row_blk_ne HK6.out.ls.row hS6.1 (by decide)) HK6.out.us (row_blk_ne HK6.out.ls.row hS6.2.2 (by decide))
          have HK7 := hide (HK6.out.pushS HP7.out HG7.out HA7.out)
          refine hK.out _ _ hS7 (fun _ => ?_)
          clear hK K
          simp only [Act.put, List.setIfInBounds_toArray]
          generalize (Value.slice (some ⟨g49, 0, none⟩) 1 1) = u49
          generalize (Value.slice (some ⟨g57, 0, none⟩) 1 1) = u57
          refine wpAnyH_at #[true, true, true, true, true, true, true, true, true, true, true, true, false, false] (by kernel_rfl) ?_
          exact HM.out u49 _ u57 _ _ ⟨HK7, hide hS7⟩
      · go_simp
        rw [HSM.out]
        have hS8 := s16_alloc hS0 (.cells #[.string sm] 9)
        have HK8 := hide (HK0.out.alloc (.cells #[.string sm] 9))
        have HC8 := hide (Blk.new W0 9 #[.string sm])
        refine hK.out _ _ hS8 (fun _ => ?_)
        clear hK K
        obtain ⟨g57, hg57⟩ : ∃ g, Hid (W0.heap.size = g) := ⟨_, hide rfl⟩
        rw [hg57.out] at HC8 ⊢
        obtain ⟨W8, hW8⟩ : ∃ W', Hid ((W0.alloc (.cells #[.string sm] 9)) = W') := ⟨_, hide rfl⟩
        rw [hW8.out] at hS8 HK8 HC8 ⊢
        clear hg57
        clear hW8
        refine wpAnyH_ready (rs := [2]) (by kernel_rfl) (by simp) (AllReadyH.cons rfl (fun K hK => ?_) AllReadyH.nil)
        go_simp
        have hS9 := s16_alloc hS8 (.cells #[.string nm, .int .i64 vr, .string tx, .string ⟨#[]⟩] 34)
        have HK9 := hide (HK8.out.alloc (.cells #[.string nm, .int .i64 vr, .string tx, .string ⟨#[]⟩] 34))
        have HB9 := hide (Blk.new W8 34 #[.string nm, .int .i64 vr, .string tx, .string ⟨#[]⟩])
        have HC9 := hide (HC8.out.alloc (.cells #[.string nm, .int .i64 vr, .string tx, .string ⟨#[]⟩] 34))
        refine hK.out _ _ hS9 (fun _ => ?_)
        clear hK K
        obtain ⟨g49, hg49⟩ : ∃ g, Hid (W8.heap.size = g) := ⟨_, hide rfl⟩
        rw [hg49.out] at HB9 ⊢
        obtain ⟨W9, hW9⟩ : ∃ W', Hid ((W8.alloc (.cells #[.string nm, .int .i64 vr, .string tx, .string ⟨#[]⟩] 34)) = W') := ⟨_, hide rfl⟩
        rw [hW9.out] at hS9 HK9 HB9 HC9 ⊢
        clear hg49
        clear hW9
        refine wpAnyH_ready (rs := [3]) (by kernel_rfl) (by simp) (AllReadyH.cons rfl (fun K hK => ?_) AllReadyH.nil)
        rw [if_pos (by rfl)]
        refine ownp_app_op _ _ rfl (hide HK9.out.lp) _ _ ⟨nm, vr, tx, ⟨#[]⟩⟩ rfl rfl HB9.out HL1.out ?_
        intro v10 W10 HP10 HG10 HA10
        have hS10 := s16_grown hS9 HG10.out hvp (row_blk_ne HK9.out.lp.row hS9.2.1 (by decide)) (row_blk_ne HK9.out.lp.row hS9.2.2 (by decide))
        have HC10 := hide (HC9.out.grown HG10.out (Ne.symm (row_blk_ne HK9.out.lp.row HC9.out (by decide))))
        have HK10 := hide (HK9.out.pushP HP10.out HG10.out)
        refine hK.out _ _ hS10 (fun _ => ?_)
        clear hK K
        refine wpAnyH_ready (rs := [11]) (by kernel_rfl) (by simp) (AllReadyH.cons rfl (fun K hK => ?_) AllReadyH.nil)
        rw [if_pos (by rfl)]
        refine owns_app_op _ _ rfl (hide HK10.out.ls) _ _ sm rfl rfl HC10.out HL2.out ?_
        intro v11 W11 HP11 HG11 HA11
        have hS11 := s16_grown hS10 HG11.out (row_blk_ne HK10.out.ls.row hS10.1 (by decide)) HK10.out.us (row_blk_ne HK10.out.ls.row hS10.2.2 (by decide))
        have HK11 := hide (HK10.out.pushS HP11.out HG11.out HA11.out)
        refine hK.out _ _ hS11 (fun _ => ?_)
        clear hK K
        simp only [Act.put, List.setIfInBounds_toArray]
        generalize (Value.slice (some ⟨g49, 0, none⟩) 1 1) = u49
        generalize (Value.slice (some ⟨g57, 0, none⟩) 1 1) = u57
        refine wpAnyH_at #[true, true, true, true, true, true, true, true, true, true, true, true, false, false] (by kernel_rfl) ?_
        exact HM.out u49 _ u57 _ _ ⟨HK11, hide hS11⟩
    intro u49 v2 u57 v4 W HM
    obtain ⟨HKW, HSW⟩ := HM
    refine wpAnyH_more [12, 13] 0 rfl (by kernel_rfl) (by kernel_rfl) (fun _ _ d _ _ h => by cases d <;> exact h) HSW.out ?_
    iterate 2
      refine' Heads.step rfl (by rfl) ?_ ?_
      rotate_left
      · intro w' hSw
        go_simp
        try with_reducible rfl
      simp only [Act.put]
    refine Heads.done ?_
    refine wpAnyH_done (by kernel_rfl) ?_ _
    obtain ⟨R2, hR2⟩ : ∃ R2 : Sums, R ++ [(⟨nm, vr, tx, ⟨#[]⟩⟩, sm)] = R2 := ⟨_, rfl⟩
    have HNE : Hid (readM s = (readN s i ((c + 32 : Nat) : Int)).map (R2 ++ ·)) := hide (by rw [← hR2]; exact HN.out)
    have KW : Hid (TkS w W gs ga gw s (c : Int) true v2 (R2.map (·.1)) v4 (R2.map (·.2))) := hide (by
      rw [← hR2, List.map_append, List.map_append]
      exact HKW.out)
    have hRk2 : R2.length + i = n := by rw [← hR2, List.length_append]; simp only [List.length_singleton]; omega
    have KX := hide (KW.out.setA ((c + 32 : Nat) : Int))
    rw [show ((c + 32 : Nat) : Int) = (c : Int) + 32 by omega] at KX
    have z1 : W.cell? ⟨ga, 0, none⟩ = some (.int .i64 c) := KW.out.ba.cell 0
    have z2 : W.frozen? ⟨ga, 0, none⟩ = false := KW.out.ba.frozen 0
    clear HKW HN hR2 HSW
    go_wp2_with fail
    refine ⟨⟨i, c + 32, R2, by go_num, hcs2, hRk2, by rw [show ((c + 32 : Nat) : Int) = (c : Int) + 32 by omega]; exact KX, HNE⟩, ?_⟩
    simp [intOf]
end Go.Proofs.Ytkipmbnmmbeeaaa
