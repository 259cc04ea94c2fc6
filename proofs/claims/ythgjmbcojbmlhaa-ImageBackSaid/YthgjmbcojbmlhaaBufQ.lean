/- A slice of bytes of a call's own, whose row may bear the mark of a conversion behind its last cell ([]byte(s)); carried from append to append. No program's text but types' numbers. -/
import Derived.Test.YthgjmbcojbmlhaaBuf
import Derived.Deep.AppendSrc
import Derived.Laws.IdiomStrings
namespace Go.Proofs.Ythgjmbcojbmlhaa
open Go.RowKit Zb

set_option maxRecDepth 20000 in
theorem setCells_heap (g : Nat) (e : TypeId) (fz : Nat × Nat) : ∀ (vs : List Value) (o : Nat) (w : World) (cur : Array Value), w.heap[g]? = some (.cells cur e fz) →
    ∃ cur', (w.setCells g o vs).heap[g]? = some (.cells cur' e fz) ∧ cur'.size = cur.size ∧ (∀ j, j < o → cur'[j]? = cur[j]?) ∧ ∀ j, j < vs.length → o + j < cur.size → cur'[o + j]? = vs[j]?
  | [], o, w, cur, h => ⟨cur, h, rfl, fun _ _ => rfl, fun j hj => by simp at hj⟩
  | v :: vs, o, w, cur, h => by
    have h1 : (w.setCell ⟨g, o, none⟩ v).heap[g]? = some (.cells (cur.setIfInBounds o v) e fz) := by
      simp [World.setCell, Array.getElem?_modify, h]
    obtain ⟨cur', h2, h3, h4, h5⟩ := setCells_heap g e fz vs (o + 1) _ _ h1
    refine ⟨cur', h2, by simpa using h3, fun j hj => ?_, fun j hj hlt => ?_⟩
    · rw [h4 j (by omega), Array.getElem?_setIfInBounds]
      rw [if_neg (by omega)]
    · cases j with
      | zero =>
        rw [Nat.add_zero, h4 o (by omega), Array.getElem?_setIfInBounds]
        simp
        omega
      | succ j =>
        have := h5 j (by simpa using hj) (by simp; omega)
        rw [show o + (j + 1) = o + 1 + j by omega, this]
        rfl

structure BufQ (w0 w : World) (v : Value) (l : List UInt8) : Prop where
  bel : Below w0.heap.size w0 w
  row : (v = .slice none 0 0 ∧ l = []) ∨ ∃ g cap cur fz, v = .slice (some ⟨g, 0, none⟩) l.length cap ∧ w.heap[g]? = some (.cells cur 5 fz) ∧ l.length ≤ cap ∧ cap ≤ maxLen ∧ cur.size = cap ∧ (fz = (0, 0) ∨ cap ≤ fz.1) ∧ ∀ j, j < l.length → cur[j]? = (bytesVals l)[j]?
  own : ∀ g, v.ownBlock = some g → w0.heap.size ≤ g ∧ g < w.heap.size

section
variable {w0 w w' : World} {v : Value} {l : List UInt8}
set_option maxRecDepth 20000 in
theorem BufQ.of (h : Buf w0 w v l) : BufQ w0 w v l := by
  refine ⟨h.bel, ?_, fun g hg => ⟨h.own g hg, row_lt h.row g hg⟩⟩
  rcases h.row.2 with ⟨rfl, hn⟩ | ⟨g, cap, cur, rfl, _, hg, hc, hm, hcs, ht⟩
  · exact .inl ⟨rfl, List.eq_nil_of_length_eq_zero hn⟩
  · refine .inr ⟨g, cap, cur, (0, 0), rfl, hg, hc, hm, by omega, .inl rfl, fun j hj => ?_⟩
    have := World.ownsRow.cellAt h.row j (by omega)
    rw [cell_of_row w g j cur 5 (0, 0) hg] at this
    exact this
set_option maxRecDepth 20000 in
theorem BufQ.of_block (h : BufQ w0 w v l) (hb : Below w0.heap.size w0 w') (hs : w.heap.size ≤ w'.heap.size) (hk : ∀ g, v.ownBlock = some g → w'.heap[g]? = w.heap[g]?) : BufQ w0 w' v l := by
  refine ⟨hb, ?_, fun g hg => ⟨(h.own g hg).1, by have := (h.own g hg).2; omega⟩⟩
  rcases h.row with hn | ⟨g, cap, cur, fz, rfl, hg, rest⟩
  · exact .inl hn
  · exact .inr ⟨g, cap, cur, fz, rfl, (hk g rfl).trans hg, rest⟩
set_option maxRecDepth 20000 in
theorem BufQ.below (h : BufQ w0 w v l) (k : Below w.heap.size w w') : BufQ w0 w' v l :=
  h.of_block (h.bel.trans (k.mono h.bel.size)) k.size fun g hg => k.block g (h.own g hg).2
set_option maxRecDepth 20000 in
theorem BufQ.alloc (h : BufQ w0 w v l) (o : Obj) : BufQ w0 (w.alloc o) v l := h.below ((Below.refl _ _).alloc (Nat.le_refl _) o)
set_option maxRecDepth 20000 in
theorem BufQ.drew (h : BufQ w0 w v l) : BufQ w0 w.drew v l := h.below (Below.refl _ _).drew
set_option maxRecDepth 20000 in
theorem BufQ.drewN (h : BufQ w0 w v l) (n : Nat) : BufQ w0 (w.drewN n) v l := h.below ⟨rfl, rfl, rfl, Nat.le_refl _, fun _ _ => rfl⟩
set_option maxRecDepth 20000 in
theorem BufQ.slice (h : BufQ w0 w v l) : ∃ A c, v = .slice A l.length c ∧ l.length ≤ c := by
  rcases h.row with ⟨rfl, rfl⟩ | ⟨g, cap, cur, fz, rfl, _, h1, _⟩
  · exact ⟨_, _, rfl, Nat.le_refl _⟩
  · exact ⟨_, _, rfl, h1⟩
set_option maxRecDepth 20000 in
theorem BufQ.cell {g n c : Nat} (h : BufQ w0 w (.slice (some ⟨g, 0, none⟩) n c) l) (j : Nat) (hj : j < l.length) : w.cell? ⟨g, j, none⟩ = some (.int .u8 (l[j].toNat : Int)) := by
  rcases h.row with ⟨hv, _⟩ | ⟨g', cap, cur, fz, hv, hg, h1, h2, h3, h4, h5⟩
  · simp at hv
  · obtain ⟨rfl, _⟩ : g = g' ∧ _ := by simpa using hv
    rw [cell_of_row w g j cur 5 fz hg, h5 j hj, bytesVals_get l j hj]
/-- string(b) -/
theorem BufQ.conv (h : BufQ w0 w v l) : (convert 47 9 v).run Try.prog w = .ok (.string ⟨l.toArray⟩) w := by
  rcases h.row with ⟨rfl, rfl⟩ | ⟨g, cap, cur, fz, rfl, hg, h1, h2, h3, h4, h5⟩
  · rw [run_convert_bytes_string w 47 9 5 none 0 0 Try.underlying47 Try.underlying5 Try.underlying9]; rfl
  · refine conv_bytes w 47 9 5 _ cap l Try.underlying47 Try.underlying5 Try.underlying9 fun j hj => ?_
    rw [add_plain, cell_of_row w g j cur 5 fz hg]
    exact h5 j hj
/-- []byte(s) -/
theorem run_bytesQ (h : Below w0.heap.size w0 w) (s : ByteArray) (hs : s.size ≤ 1000000000000) : ∃ v' w', (convert 9 47 (.string s)).run Try.prog w = .ok v' w' ∧ BufQ w0 w' v' s.data.toList ∧ Below w.heap.size w w' := by
  have hr := run_bytes_of_string (P := Try.prog) w 9 47 5 s Try.underlying9 Try.underlying47 Try.underlying5
  have hge := grownCap_ge w s.size 0 5
  have hle := grownCap_le_maxLen w s.size 0 5 (by unfold maxLen; omega)
  have hb : Below w.heap.size w (w.drew.alloc (.cells (bytesRow s (grownCap w s.size 0 5)) 5 ((bytesRow s (grownCap w s.size 0 5)).size, (bytesRow s (grownCap w s.size 0 5)).size + 1))) := ((Below.refl _ _).drew).alloc (Nat.le_refl _) _
  have hsz : (bytesRow s (grownCap w s.size 0 5)).size = grownCap w s.size 0 5 := by
    unfold bytesRow
    simp only [Array.size_append, Array.size_map, Array.size_replicate]
    have : s.data.size = s.size := rfl
    omega
  refine ⟨_, _, hr, ⟨h.trans (hb.mono h.size), .inr ⟨w.heap.size, _, _, _, rfl, heap_alloc_new w.drew _, hge, hle, hsz, .inr (by rw [hsz]; exact Nat.le_refl _), fun j hj => ?_⟩, fun g hg => ?_⟩, hb⟩
  · have hj' : j < s.data.size := by simpa using hj
    unfold bytesRow bytesVals
    rw [Array.getElem?_append_left (by simpa using hj')]
    simp
  · simp [Value.ownBlock] at hg
    subst hg
    exact ⟨h.size, by simp⟩
set_option maxRecDepth 20000 in
theorem frozen_of {g j : Nat} {cur : Array Value} {fz : Nat × Nat} {e : TypeId} {cap : Nat} (hg : w.heap[g]? = some (.cells cur e fz)) (hf : fz = (0, 0) ∨ cap ≤ fz.1) (hj : j < cap) : w.frozen? ⟨g, j, none⟩ = false := by
  obtain ⟨lo, hi⟩ := fz
  simp only [World.frozen?, hg]
  rcases hf with hf | hf
  · cases hf; simp
  · have : ¬ lo ≤ j := by have : cap ≤ lo := hf; omega
    simp [this]
/-- append, of whatever yields the bytes news -/
theorem run_bufq_app (tx ty : TypeId) (x : Value) (news : List UInt8) (h : BufQ w0 w v l) (hs : Src Try.prog 1 tx x news.length (bytesVals news) w) (hlen : l.length + news.length ≤ 1000000000000) :
    ∃ v' w', (Builtin.append_ #[47, tx] ty #[v, x]).run Try.prog w = .ok v' w' ∧ BufQ w0 w' v' (l ++ news) ∧ w.grownBy w' v.ownBlock := by
  obtain ⟨i, hi, hz0, hz1, hz2⟩ := info_parts binfo_u8
  have hs' : Src Try.prog i.size tx x news.length (bytesVals news) w := by rw [hz1]; exact hs
  have hll : (l ++ news).length = l.length + news.length := List.length_append
  rcases h.row with ⟨rfl, rfl⟩ | ⟨g, cap, cur, fz, rfl, hg, h1, h2, h3, h4, h5⟩
  · rcases Nat.eq_zero_or_pos news.length with h0 | h0
    · obtain rfl : news = [] := List.eq_nil_of_length_eq_zero h0
      refine ⟨.slice none 0 0, w, ?_, h, ⟨rfl, rfl, rfl, Nat.le_refl _, fun _ _ _ => rfl⟩⟩
      have hc0 : (Builtin.firstCells i.size 0 x).run Try.prog w = .ok (bytesVals []).toArray w := hs'.cells
      rcases hs.kind with ⟨e', hk⟩ | hk <;> simp [Builtin.append_, run_underlying Try.underlying47, run_underlying hk, sizeOf, typeInfo, hi, hs'.len, hc0]
    · have hr := run_append_grow_src (P := Try.prog) w 47 tx ty 5 i (.int .u8 0) Try.underlying47 hi hz0 none 0 0 [] (run_firstCells_none w.drew i.size 0 0 0) x news.length (bytesVals news) hs' (by omega) (by simp at hlen; omega) (growslice_fits (by omega) (by rw [hz2]; simp at hlen; omega))
      have hb : Below w.heap.size w (w.drew.alloc (.cells (([] ++ bytesVals news).toArray ++ Builtin.zeroCells (Value.int .u8 0).cells (grownCap w (0 + news.length) 0 5 - (0 + news.length))) 5)) := ((Below.refl _ _).drew).alloc (Nat.le_refl _) _
      have hge := grownCap_ge w (0 + news.length) 0 5
      refine ⟨_, _, hr, ⟨h.bel.trans (hb.mono h.bel.size), .inr ⟨w.heap.size, _, _, (0, 0), by rw [hll]; rfl, heap_alloc_new w.drew _, by rw [hll]; exact hge, grownCap_le_maxLen w _ _ _ (by unfold maxLen; simp at hlen; omega), ?_, .inl rfl, fun j hj => ?_⟩, fun g hg => ?_⟩, ⟨hb.os, hb.tape, hb.output, hb.size, fun k hk _ => hb.block k hk⟩⟩
      · have hz9 : (Value.int IntKind.u8 0).cells.size = 1 := rfl
        simp only [Array.size_append, List.size_toArray, List.nil_append, bytesVals_length, size_zeroCells, hz9]
        omega
      · simp only [List.nil_append] at hj ⊢
        rw [Array.getElem?_append_left (by simpa [bytesVals_length] using hj)]
        simp
      · simp [Value.ownBlock] at hg
        subst hg
        exact ⟨h.bel.size, by simp⟩
  · by_cases hroom : l.length + news.length ≤ cap
    · have hr := run_append_room_src (P := Try.prog) w 47 tx ty 5 i Try.underlying47 hi g 0 l.length cap x news.length (bytesVals news) hs' hroom (fun j hj => by
        rw [bytesVals_length] at hj
        rw [hz1, cell_of_row w g _ cur 5 fz hg, Array.getElem?_eq_getElem (by omega)]
        rfl) (fun j hj => by
        rw [bytesVals_length] at hj
        exact frozen_of hg h4 (by rw [hz1]; omega))
      rw [hz1] at hr
      obtain ⟨cur', e1, e2, e3, e4⟩ := setCells_heap g 5 fz (bytesVals news) (0 + l.length * 1) w cur hg
      have hk := World.keptBut_setCells g (may := fun p => ∃ j, p = .cell g j) (bytesVals news) (0 + l.length * 1) w (fun j _ => ⟨_, rfl⟩)
      have hgr : w.grownBy (w.setCells g (0 + l.length * 1) (bytesVals news)) (some g) := by
        have hsz : ∀ (vs : List Value) (o : Nat) (w : World), (w.setCells g o vs).heap.size = w.heap.size ∧ (w.setCells g o vs).os = w.os ∧ (w.setCells g o vs).tape = w.tape ∧ (w.setCells g o vs).output = w.output ∧ ∀ k, k ≠ g → (w.setCells g o vs).heap[k]? = w.heap[k]? := by
          intro vs
          induction vs with
          | nil => exact fun o w => ⟨rfl, rfl, rfl, rfl, fun _ _ => rfl⟩
          | cons a vs ih =>
            intro o w
            obtain ⟨i1, i2, i3, i4, i5⟩ := ih (o + 1) (w.setCell ⟨g, o, none⟩ a)
            refine ⟨i1.trans (by simp [World.setCell]), i2, i3, i4, fun k hk => (i5 k hk).trans (Below.heap_setCell _ _ _ _ hk)⟩
        obtain ⟨i1, i2, i3, i4, i5⟩ := hsz (bytesVals news) (0 + l.length * 1) w
        exact ⟨i2, i3, i4, by rw [i1]; exact Nat.le_refl _, fun k _ hk => i5 k (fun e => hk (by rw [e]))⟩
      refine ⟨_, _, hr, ⟨h.bel.grown hgr h.bel.size (fun k hk => (h.own k hk).1), .inr ⟨g, cap, cur', fz, by rw [hll], e1, by omega, h2, by omega, h4, fun j hj => ?_⟩, fun k hk => ?_⟩, hgr⟩
      · rw [hll] at hj
        rw [bytesVals_append]
        by_cases hjl : j < l.length
        · rw [e3 j (by omega), h5 j hjl, List.getElem?_append_left (by rw [bytesVals_length]; exact hjl)]
        · have := e4 (j - l.length) (by rw [bytesVals_length]; omega) (by omega)
          rw [show 0 + l.length * 1 + (j - l.length) = j by omega] at this
          rw [this, List.getElem?_append_right (by rw [bytesVals_length]; omega), bytesVals_length]
      · have : g = k := by simpa [Value.ownBlock] using hk
        subst this
        exact ⟨(h.own g rfl).1, (Array.getElem?_eq_some_iff.1 e1).1⟩
    · have hf := run_firstCells_some (P := Try.prog) w.drew i.size l.length ⟨g, 0, none⟩ l.length cap (bytesVals l) (by rw [bytesVals_length, hz1, Nat.mul_one]) (fun j u hu => by
        have hj : j < l.length := by
          rcases Nat.lt_or_ge j l.length with h | h
          · exact h
          · rw [List.getElem?_eq_none (by rw [bytesVals_length]; exact h)] at hu; cases hu
        rw [add_plain]
        exact (cell_of_row w g j cur 5 fz hg).trans ((h5 j hj).trans hu))
      have hr := run_append_grow_src (P := Try.prog) w 47 tx ty 5 i (.int .u8 0) Try.underlying47 hi hz0 (some ⟨g, 0, none⟩) l.length cap (bytesVals l) hf x news.length (bytesVals news) hs' (by omega) (by omega) (growslice_fits (by omega) (by rw [hz2]; omega))
      have hb : Below w.heap.size w (w.drew.alloc (.cells ((bytesVals l ++ bytesVals news).toArray ++ Builtin.zeroCells (Value.int .u8 0).cells (grownCap w (l.length + news.length) cap 5 - (l.length + news.length))) 5)) := ((Below.refl _ _).drew).alloc (Nat.le_refl _) _
      have hge := grownCap_ge w (l.length + news.length) cap 5
      refine ⟨_, _, hr, ⟨h.bel.trans (hb.mono h.bel.size), .inr ⟨w.heap.size, _, _, (0, 0), by rw [hll], heap_alloc_new w.drew _, by rw [hll]; exact hge, grownCap_le_maxLen w _ _ _ (by unfold maxLen; omega), ?_, .inl rfl, fun j hj => ?_⟩, fun g' hg' => ?_⟩, ⟨hb.os, hb.tape, hb.output, hb.size, fun k hk _ => hb.block k hk⟩⟩
      · have hz9 : (Value.int IntKind.u8 0).cells.size = 1 := rfl
        simp only [Array.size_append, List.size_toArray, List.length_append, bytesVals_length, size_zeroCells, hz9]
        omega
      · rw [hll] at hj
        rw [bytesVals_append, Array.getElem?_append_left (by simp only [List.size_toArray, List.length_append, bytesVals_length]; exact hj)]
        simp
      · simp [Value.ownBlock] at hg'
        subst hg'
        exact ⟨h.bel.size, by simp⟩
end
section
variable {ops : Array Oper} {rest : List Oper} {o : Oper} {a : Act} {Q : Exit → Act → World → Prop} {w0 W : World} {v : Value} {l : List UInt8}
/-- append(b, x, ..): the new bytes lie in the block that the statement has just laid. -/
theorem bufq_app_op (s x : Operand) (ho : o.op = .call { callee := .builtin .append, args := #[s, x], argTypes := #[47, 47] }) (hb : Hid (BufQ w0 W v l)) (cs : Array Value) (news : List UInt8) (c : Nat)
    (hs : a.eval s = v) (hx : a.eval x = .slice (some ⟨W.heap.size, 0, none⟩) news.length c) (hcs : cs.toList = bytesVals news) (hlen : l.length + news.length ≤ 1000000000000) {K : Act → World → Prop}
    (h : ∀ v' w', Hid (BufQ w0 w' v' (l ++ news)) → Hid (W.grownBy w' v.ownBlock) → K (a.put o.dst v') w') : Oper.wp Try.prog o a (W.alloc (.cells cs 5)) K Q := by
  have hB := hb.out.alloc (.cells cs 5)
  have hsrc : Src Try.prog 1 47 (.slice (some ⟨W.heap.size, 0, none⟩) news.length c) news.length (bytesVals news) (W.alloc (.cells cs 5)) :=
    Src.ofSlice _ Try.underlying47 _ _ _ _ (by rw [bytesVals_length, Nat.mul_one]) (fun j u hu => Blk.news (Blk.new W 5 cs) j u (by rw [hcs]; exact hu)) (bytesVals_one news)
  obtain ⟨v', w', hr, h2, hg⟩ := run_bufq_app 47 o.type _ news hB hsrc hlen
  unfold Oper.wp execOp
  simp only [ho, resolve, invoke, builtin, Sem.run_bind, Sem.run_pure, Result.andThen_ok, List.map_toArray, List.map_cons, List.map_nil, hs, hx, hr]
  exact h v' w' (hide h2) (hide ⟨hg.os, hg.tape, hg.output, Nat.le_trans (by simp) hg.size, fun k hk hkn => (hg.block k (by simp; omega) hkn).trans (Below.heap_alloc W _ k hk)⟩)
set_option maxRecDepth 20000 in
theorem bufq_app (hgd : o.guard = none) (s x : Operand) (ho : o.op = .call { callee := .builtin .append, args := #[s, x], argTypes := #[47, 47] }) (hb : Hid (BufQ w0 W v l)) (cs : Array Value) (news : List UInt8) (c : Nat)
    (hs : a.eval s = v) (hx : a.eval x = .slice (some ⟨W.heap.size, 0, none⟩) news.length c) (hcs : cs.toList = bytesVals news) (hlen : l.length + news.length ≤ 1000000000000)
    (h : ∀ v' w', Hid (BufQ w0 w' v' (l ++ news)) → Hid (W.grownBy w' v.ownBlock) → wpList Try.prog ops Q rest (a.put o.dst v') w') : wpList Try.prog ops Q (o :: rest) a (W.alloc (.cells cs 5)) :=
  wpList_plain hgd fun _ hK => bufq_app_op s x ho hb cs news c hs hx hcs hlen fun v' w' h1 h2 => hK _ _ (h v' w' h1 h2)
/-- append(b, s...) of a string -/
theorem bufq_apps_op (s x : Operand) (ho : o.op = .call { callee := .builtin .append, args := #[s, x], argTypes := #[47, 9] }) (hb : Hid (BufQ w0 W v l)) (t : ByteArray)
    (hs : a.eval s = v) (hx : a.eval x = .string t) (hlen : l.length + t.size ≤ 1000000000000) {K : Act → World → Prop}
    (h : ∀ v' w', Hid (BufQ w0 w' v' (l ++ t.data.toList)) → Hid (W.grownBy w' v.ownBlock) → K (a.put o.dst v') w') : Oper.wp Try.prog o a W K Q := by
  obtain ⟨v', w', hr, h2, hg⟩ := run_bufq_app 9 o.type (.string t) t.data.toList hb.out (Src.ofString W Try.underlying9 t) hlen
  unfold Oper.wp execOp
  simp only [ho, resolve, invoke, builtin, Sem.run_bind, Sem.run_pure, Result.andThen_ok, List.map_toArray, List.map_cons, List.map_nil, hs, hx, hr]
  exact h v' w' (hide h2) (hide hg)
set_option maxRecDepth 20000 in
theorem bufq_apps (hgd : o.guard = none) (s x : Operand) (ho : o.op = .call { callee := .builtin .append, args := #[s, x], argTypes := #[47, 9] }) (hb : Hid (BufQ w0 W v l)) (t : ByteArray)
    (hs : a.eval s = v) (hx : a.eval x = .string t) (hlen : l.length + t.size ≤ 1000000000000)
    (h : ∀ v' w', Hid (BufQ w0 w' v' (l ++ t.data.toList)) → Hid (W.grownBy w' v.ownBlock) → wpList Try.prog ops Q rest (a.put o.dst v') w') : wpList Try.prog ops Q (o :: rest) a W :=
  wpList_plain hgd fun _ hK => bufq_apps_op s x ho hb t hs hx hlen fun v' w' h1 h2 => hK _ _ (h v' w' h1 h2)
/-- []byte(s) -/
theorem bufq_conv_op (x : Operand) (ho : o.op = .convert 9 47 x) (hb : Below w0.heap.size w0 W) (t : ByteArray) (hx : a.eval x = .string t) (hlen : t.size ≤ 1000000000000) {K : Act → World → Prop}
    (h : ∀ v' w', Hid (BufQ w0 w' v' t.data.toList) → Hid (Below W.heap.size W w') → K (a.put o.dst v') w') : Oper.wp Try.prog o a W K Q := by
  obtain ⟨v', w', hr, h2, hg⟩ := run_bytesQ hb t hlen
  unfold Oper.wp execOp
  simp only [ho, hx, Sem.run_bind, Sem.run_pure, Result.andThen_ok, hr]
  exact h v' w' (hide h2) (hide hg)
set_option maxRecDepth 20000 in
theorem bufq_conv (hgd : o.guard = none) (x : Operand) (ho : o.op = .convert 9 47 x) (hb : Below w0.heap.size w0 W) (t : ByteArray) (hx : a.eval x = .string t) (hlen : t.size ≤ 1000000000000)
    (h : ∀ v' w', Hid (BufQ w0 w' v' t.data.toList) → Hid (Below W.heap.size W w') → wpList Try.prog ops Q rest (a.put o.dst v') w') : wpList Try.prog ops Q (o :: rest) a W :=
  wpList_plain hgd fun _ hK => bufq_conv_op x ho hb t hx hlen fun v' w' h1 h2 => hK _ _ (h v' w' h1 h2)
end
end Go.Proofs.Ythgjmbcojbmlhaa
