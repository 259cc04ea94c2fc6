/- Several texts in one: BufQ, DigO, DigQ, DigR, DigS, DigT. -/
import Derived.Test.YtkipmbnmmbeeaaaBuf
import Derived.Deep.AppendSrc
import Derived.Laws.IdiomStrings
import Derived.Test.YtkipmbnmmbeeaaaDg2
import Derived.Test.YtkipmbnmmbeeaaaApp
/- A slice of bytes of a call's own, whose row may bear the mark of a conversion behind its last cell ([]byte(s)); carried from append to append. No program's text but types' numbers. -/
namespace Go.Proofs.Ytkipmbnmmbeeaaa
open Go.RowKit Zb

set_option maxRecDepth 20000 in
theorem setCells_heap (g : Nat) (e : TypeId) (fz : Nat × Nat) : ∀ (vs : List Value) (o : Nat) (w : World) (cur : Array Value), w.heap[g]? = some (.cells cur e fz) →
    ∃ cur', (w.setCells g o vs).heap[g]? = some (.cells cur' e fz) ∧ cur'.size = cur.size ∧ (∀ j, j < o → cur'[j]? = cur[j]?) ∧ ∀ j, j < vs.length → o + j < cur.size → cur'[o + j]? = vs[j]?
  | [], o, w, cur, h => ⟨cur, h, rfl, fun _ _ => rfl, fun j hj => by simp at hj⟩
  | v :: vs, o, w, cur, h => by
    have h1 : (w.setCell ⟨g, o, none⟩ v).heap[g]? = some (.cells (cur.setIfInBounds o v) e fz) := by
      simp [World.setCell, Array.getElem?_modify, h]
    obtain ⟨cur', h2, h3, h4, h5⟩ := setCells_heap g e fz vs (o + 1) _ _ h1
    refine ⟨cur', h2, by simpa using h3, fun j hj => ?_, fun j hj hlt => ?_⟩
    · rw [h4 j (by omega), Array.getElem?_setIfInBounds]
      rw [if_neg (by omega)]
    · cases j with
      | zero =>
        rw [Nat.add_zero, h4 o (by omega), Array.getElem?_setIfInBounds]
        simp
        omega
      | succ j =>
        have := h5 j (by simpa using hj) (by simp; omega)
        rw [show o + (j + 1) = o + 1 + j by omega, this]
        rfl

structure BufQ (w0 w : World) (v : Value) (l : List UInt8) : Prop where
  bel : Below w0.heap.size w0 w
  row : (v = .slice none 0 0 ∧ l = []) ∨ ∃ g cap cur fz, v = .slice (some ⟨g, 0, none⟩) l.length cap ∧ w.heap[g]? = some (.cells cur 5 fz) ∧ l.length ≤ cap ∧ cap ≤ maxLen ∧ cur.size = cap ∧ (fz = (0, 0) ∨ cap ≤ fz.1) ∧ ∀ j, j < l.length → cur[j]? = (bytesVals l)[j]?
  own : ∀ g, v.ownBlock = some g → w0.heap.size ≤ g ∧ g < w.heap.size

section
variable {w0 w w' : World} {v : Value} {l : List UInt8}
set_option maxRecDepth 20000 in
theorem BufQ.of (h : Buf w0 w v l) : BufQ w0 w v l := by
  refine ⟨h.bel, ?_, fun g hg => ⟨h.own g hg, row_lt h.row g hg⟩⟩
  rcases h.row.2 with ⟨rfl, hn⟩ | ⟨g, cap, cur, rfl, _, hg, hc, hm, hcs, ht⟩
  · exact .inl ⟨rfl, List.eq_nil_of_length_eq_zero hn⟩
  · refine .inr ⟨g, cap, cur, (0, 0), rfl, hg, hc, hm, by omega, .inl rfl, fun j hj => ?_⟩
    have := World.ownsRow.cellAt h.row j (by omega)
    rw [cell_of_row w g j cur 5 (0, 0) hg] at this
    exact this
set_option maxRecDepth 20000 in
theorem BufQ.of_block (h : BufQ w0 w v l) (hb : Below w0.heap.size w0 w') (hs : w.heap.size ≤ w'.heap.size) (hk : ∀ g, v.ownBlock = some g → w'.heap[g]? = w.heap[g]?) : BufQ w0 w' v l := by
  refine ⟨hb, ?_, fun g hg => ⟨(h.own g hg).1, by have := (h.own g hg).2; omega⟩⟩
  rcases h.row with hn | ⟨g, cap, cur, fz, rfl, hg, rest⟩
  · exact .inl hn
  · exact .inr ⟨g, cap, cur, fz, rfl, (hk g rfl).trans hg, rest⟩
set_option maxRecDepth 20000 in
theorem BufQ.below (h : BufQ w0 w v l) (k : Below w.heap.size w w') : BufQ w0 w' v l :=
  h.of_block (h.bel.trans (k.mono h.bel.size)) k.size fun g hg => k.block g (h.own g hg).2
set_option maxRecDepth 20000 in
theorem BufQ.alloc (h : BufQ w0 w v l) (o : Obj) : BufQ w0 (w.alloc o) v l := h.below ((Below.refl _ _).alloc (Nat.le_refl _) o)
set_option maxRecDepth 20000 in
theorem BufQ.drew (h : BufQ w0 w v l) : BufQ w0 w.drew v l := h.below (Below.refl _ _).drew
set_option maxRecDepth 20000 in
theorem BufQ.drewN (h : BufQ w0 w v l) (n : Nat) : BufQ w0 (w.drewN n) v l := h.below ⟨rfl, rfl, rfl, Nat.le_refl _, fun _ _ => rfl⟩
set_option maxRecDepth 20000 in
theorem BufQ.slice (h : BufQ w0 w v l) : ∃ A c, v = .slice A l.length c ∧ l.length ≤ c := by
  rcases h.row with ⟨rfl, rfl⟩ | ⟨g, cap, cur, fz, rfl, _, h1, _⟩
  · exact ⟨_, _, rfl, Nat.le_refl _⟩
  · exact ⟨_, _, rfl, h1⟩
set_option maxRecDepth 20000 in
theorem BufQ.cell {g n c : Nat} (h : BufQ w0 w (.slice (some ⟨g, 0, none⟩) n c) l) (j : Nat) (hj : j < l.length) : w.cell? ⟨g, j, none⟩ = some (.int .u8 (l[j].toNat : Int)) := by
  rcases h.row with ⟨hv, _⟩ | ⟨g', cap, cur, fz, hv, hg, h1, h2, h3, h4, h5⟩
  · simp at hv
  · obtain ⟨rfl, _⟩ : g = g' ∧ _ := by simpa using hv
    rw [cell_of_row w g j cur 5 fz hg, h5 j hj, bytesVals_get l j hj]
/-- string(b) -/
theorem BufQ.conv (h : BufQ w0 w v l) : (convert 40 9 v).run Try.prog w = .ok (.string ⟨l.toArray⟩) w := by
  rcases h.row with ⟨rfl, rfl⟩ | ⟨g, cap, cur, fz, rfl, hg, h1, h2, h3, h4, h5⟩
  · rw [run_convert_bytes_string w 40 9 5 none 0 0 Try.underlying40 Try.underlying5 Try.underlying9]; rfl
  · refine conv_bytes w 40 9 5 _ cap l Try.underlying40 Try.underlying5 Try.underlying9 fun j hj => ?_
    rw [add_plain, cell_of_row w g j cur 5 fz hg]
    exact h5 j hj
/-- []byte(s) -/
theorem run_bytesQ (h : Below w0.heap.size w0 w) (s : ByteArray) (hs : s.size ≤ 1000000000000) : ∃ v' w', (convert 9 40 (.string s)).run Try.prog w = .ok v' w' ∧ BufQ w0 w' v' s.data.toList ∧ Below w.heap.size w w' := by
  have hr := run_bytes_of_string (P := Try.prog) w 9 40 5 s Try.underlying9 Try.underlying40 Try.underlying5
  have hge := grownCap_ge w s.size 0 5
  have hle := grownCap_le_maxLen w s.size 0 5 (by unfold maxLen; omega)
  have hb : Below w.heap.size w (w.drew.alloc (.cells (bytesRow s (grownCap w s.size 0 5)) 5 ((bytesRow s (grownCap w s.size 0 5)).size, (bytesRow s (grownCap w s.size 0 5)).size + 1))) := ((Below.refl _ _).drew).alloc (Nat.le_refl _) _
  have hsz : (bytesRow s (grownCap w s.size 0 5)).size = grownCap w s.size 0 5 := by
    unfold bytesRow
    simp only [Array.size_append, Array.size_map, Array.size_replicate]
    have : s.data.size = s.size := rfl
    omega
  refine ⟨_, _, hr, ⟨h.trans (hb.mono h.size), .inr ⟨w.heap.size, _, _, _, rfl, heap_alloc_new w.drew _, hge, hle, hsz, .inr (by rw [hsz]; exact Nat.le_refl _), fun j hj => ?_⟩, fun g hg => ?_⟩, hb⟩
  · have hj' : j < s.data.size := by simpa using hj
    unfold bytesRow bytesVals
    rw [Array.getElem?_append_left (by simpa using hj')]
    simp
  · simp [Value.ownBlock] at hg
    subst hg
    exact ⟨h.size, by simp⟩
set_option maxRecDepth 20000 in
theorem frozen_of {g j : Nat} {cur : Array Value} {fz : Nat × Nat} {e : TypeId} {cap : Nat} (hg : w.heap[g]? = some (.cells cur e fz)) (hf : fz = (0, 0) ∨ cap ≤ fz.1) (hj : j < cap) : w.frozen? ⟨g, j, none⟩ = false := by
  obtain ⟨lo, hi⟩ := fz
  simp only [World.frozen?, hg]
  rcases hf with hf | hf
  · cases hf; simp
  · have : ¬ lo ≤ j := by have : cap ≤ lo := hf; omega
    simp [this]
/-- append, of whatever yields the bytes news -/
theorem run_bufq_app (tx ty : TypeId) (x : Value) (news : List UInt8) (h : BufQ w0 w v l) (hs : Src Try.prog 1 tx x news.length (bytesVals news) w) (hlen : l.length + news.length ≤ 1000000000000) :
    ∃ v' w', (Builtin.append_ #[40, tx] ty #[v, x]).run Try.prog w = .ok v' w' ∧ BufQ w0 w' v' (l ++ news) ∧ w.grownBy w' v.ownBlock := by
  obtain ⟨i, hi, hz0, hz1, hz2⟩ := info_parts binfo_u8
  have hs' : Src Try.prog i.size tx x news.length (bytesVals news) w := by rw [hz1]; exact hs
  have hll : (l ++ news).length = l.length + news.length := List.length_append
  rcases h.row with ⟨rfl, rfl⟩ | ⟨g, cap, cur, fz, rfl, hg, h1, h2, h3, h4, h5⟩
  · rcases Nat.eq_zero_or_pos news.length with h0 | h0
    · obtain rfl : news = [] := List.eq_nil_of_length_eq_zero h0
      refine ⟨.slice none 0 0, w, ?_, h, ⟨rfl, rfl, rfl, Nat.le_refl _, fun _ _ _ => rfl⟩⟩
      have hc0 : (Builtin.firstCells i.size 0 x).run Try.prog w = .ok (bytesVals []).toArray w := hs'.cells
      rcases hs.kind with ⟨e', hk⟩ | hk <;> simp [Builtin.append_, run_underlying Try.underlying40, run_underlying hk, sizeOf, typeInfo, hi, hs'.len, hc0]
    · have hr := run_append_grow_src (P := Try.prog) w 40 tx ty 5 i (.int .u8 0) Try.underlying40 hi hz0 none 0 0 [] (run_firstCells_none w.drew i.size 0 0 0) x news.length (bytesVals news) hs' (by omega) (by simp at hlen; omega) (growslice_fits (by omega) (by rw [hz2]; simp at hlen; omega))
      have hb : Below w.heap.size w (w.drew.alloc (.cells (([] ++ bytesVals news).toArray ++ Builtin.zeroCells (Value.int .u8 0).cells (grownCap w (0 + news.length) 0 5 - (0 + news.length))) 5)) := ((Below.refl _ _).drew).alloc (Nat.le_refl _) _
      have hge := grownCap_ge w (0 + news.length) 0 5
      refine ⟨_, _, hr, ⟨h.bel.trans (hb.mono h.bel.size), .inr ⟨w.heap.size, _, _, (0, 0), by rw [hll]; rfl, heap_alloc_new w.drew _, by rw [hll]; exact hge, grownCap_le_maxLen w _ _ _ (by unfold maxLen; simp at hlen; omega), ?_, .inl rfl, fun j hj => ?_⟩, fun g hg => ?_⟩, ⟨hb.os, hb.tape, hb.output, hb.size, fun k hk _ => hb.block k hk⟩⟩
      · have hz9 : (Value.int IntKind.u8 0).cells.size = 1 := rfl
        simp only [Array.size_append, List.size_toArray, List.nil_append, bytesVals_length, size_zeroCells, hz9]
        omega
      · simp only [List.nil_append] at hj ⊢
        rw [Array.getElem?_append_left (by simpa [bytesVals_length] using hj)]
        simp
      · simp [Value.ownBlock] at hg
        subst hg
        exact ⟨h.bel.size, by simp⟩
  · by_cases hroom : l.length + news.length ≤ cap
    · have hr := run_append_room_src (P := Try.prog) w 40 tx ty 5 i Try.underlying40 hi g 0 l.length cap x news.length (bytesVals news) hs' hroom (fun j hj => by
        rw [bytesVals_length] at hj
        rw [hz1, cell_of_row w g _ cur 5 fz hg, Array.getElem?_eq_getElem (by omega)]
        rfl) (fun j hj => by
        rw [bytesVals_length] at hj
        exact frozen_of hg h4 (by rw [hz1]; omega))
      rw [hz1] at hr
      obtain ⟨cur', e1, e2, e3, e4⟩ := setCells_heap g 5 fz (bytesVals news) (0 + l.length * 1) w cur hg
      have hk := World.keptBut_setCells g (may := fun p => ∃ j, p = .cell g j) (bytesVals news) (0 + l.length * 1) w (fun j _ => ⟨_, rfl⟩)
      have hgr : w.grownBy (w.setCells g (0 + l.length * 1) (bytesVals news)) (some g) := by
        have hsz : ∀ (vs : List Value) (o : Nat) (w : World), (w.setCells g o vs).heap.size = w.heap.size ∧ (w.setCells g o vs).os = w.os ∧ (w.setCells g o vs).tape = w.tape ∧ (w.setCells g o vs).output = w.output ∧ ∀ k, k ≠ g → (w.setCells g o vs).heap[k]? = w.heap[k]? := by
          intro vs
          induction vs with
          | nil => exact fun o w => ⟨rfl, rfl, rfl, rfl, fun _ _ => rfl⟩
          | cons a vs ih =>
            intro o w
            obtain ⟨i1, i2, i3, i4, i5⟩ := ih (o + 1) (w.setCell ⟨g, o, none⟩ a)
            refine ⟨i1.trans (by simp [World.setCell]), i2, i3, i4, fun k hk => (i5 k hk).trans (Below.heap_setCell _ _ _ _ hk)⟩
        obtain ⟨i1, i2, i3, i4, i5⟩ := hsz (bytesVals news) (0 + l.length * 1) w
        exact ⟨i2, i3, i4, by rw [i1]; exact Nat.le_refl _, fun k _ hk => i5 k (fun e => hk (by rw [e]))⟩
      refine ⟨_, _, hr, ⟨h.bel.grown hgr h.bel.size (fun k hk => (h.own k hk).1), .inr ⟨g, cap, cur', fz, by rw [hll], e1, by omega, h2, by omega, h4, fun j hj => ?_⟩, fun k hk => ?_⟩, hgr⟩
      · rw [hll] at hj
        rw [bytesVals_append]
        by_cases hjl : j < l.length
        · rw [e3 j (by omega), h5 j hjl, List.getElem?_append_left (by rw [bytesVals_length]; exact hjl)]
        · have := e4 (j - l.length) (by rw [bytesVals_length]; omega) (by omega)
          rw [show 0 + l.length * 1 + (j - l.length) = j by omega] at this
          rw [this, List.getElem?_append_right (by rw [bytesVals_length]; omega), bytesVals_length]
      · have : g = k := by simpa [Value.ownBlock] using hk
        subst this
        exact ⟨(h.own g rfl).1, (Array.getElem?_eq_some_iff.1 e1).1⟩
    · have hf := run_firstCells_some (P := Try.prog) w.drew i.size l.length ⟨g, 0, none⟩ l.length cap (bytesVals l) (by rw [bytesVals_length, hz1, Nat.mul_one]) (fun j u hu => by
        have hj : j < l.length := by
          rcases Nat.lt_or_ge j l.length with h | h
          · exact h
          · rw [List.getElem?_eq_none (by rw [bytesVals_length]; exact h)] at hu; cases hu
        rw [add_plain]
        exact (cell_of_row w g j cur 5 fz hg).trans ((h5 j hj).trans hu))
      have hr := run_append_grow_src (P := Try.prog) w 40 tx ty 5 i (.int .u8 0) Try.underlying40 hi hz0 (some ⟨g, 0, none⟩) l.length cap (bytesVals l) hf x news.length (bytesVals news) hs' (by omega) (by omega) (growslice_fits (by omega) (by rw [hz2]; omega))
      have hb : Below w.heap.size w (w.drew.alloc (.cells ((bytesVals l ++ bytesVals news).toArray ++ Builtin.zeroCells (Value.int .u8 0).cells (grownCap w (l.length + news.length) cap 5 - (l.length + news.length))) 5)) := ((Below.refl _ _).drew).alloc (Nat.le_refl _) _
      have hge := grownCap_ge w (l.length + news.length) cap 5
      refine ⟨_, _, hr, ⟨h.bel.trans (hb.mono h.bel.size), .inr ⟨w.heap.size, _, _, (0, 0), by rw [hll], heap_alloc_new w.drew _, by rw [hll]; exact hge, grownCap_le_maxLen w _ _ _ (by unfold maxLen; omega), ?_, .inl rfl, fun j hj => ?_⟩, fun g' hg' => ?_⟩, ⟨hb.os, hb.tape, hb.output, hb.size, fun k hk _ => hb.block k hk⟩⟩
      · have hz9 : (Value.int IntKind.u8 0).cells.size = 1 := rfl
        simp only [Array.size_append, List.size_toArray, List.length_append, bytesVals_length, size_zeroCells, hz9]
        omega
      · rw [hll] at hj
        rw [bytesVals_append, Array.getElem?_append_left (by simp only [List.size_toArray, List.length_append, bytesVals_length]; exact hj)]
        simp
      · simp [Value.ownBlock] at hg'
        subst hg'
        exact ⟨h.bel.size, by simp⟩
end
section
variable {ops : Array Oper} {rest : List Oper} {o : Oper} {a : Act} {Q : Exit → Act → World → Prop} {w0 W : World} {v : Value} {l : List UInt8}
/-- append(b, x, ..): the new bytes lie in the block that the statement has just laid. -/
theorem bufq_app_op (s x : Operand) (ho : o.op = .call { callee := .builtin .append, args := #[s, x], argTypes := #[40, 40] }) (hb : Hid (BufQ w0 W v l)) (cs : Array Value) (news : List UInt8) (c : Nat)
    (hs : a.eval s = v) (hx : a.eval x = .slice (some ⟨W.heap.size, 0, none⟩) news.length c) (hcs : cs.toList = bytesVals news) (hlen : l.length + news.length ≤ 1000000000000) {K : Act → World → Prop}
    (h : ∀ v' w', Hid (BufQ w0 w' v' (l ++ news)) → Hid (W.grownBy w' v.ownBlock) → K (a.put o.dst v') w') : Oper.wp Try.prog o a (W.alloc (.cells cs 5)) K Q := by
  have hB := hb.out.alloc (.cells cs 5)
  have hsrc : Src Try.prog 1 40 (.slice (some ⟨W.heap.size, 0, none⟩) news.length c) news.length (bytesVals news) (W.alloc (.cells cs 5)) :=
    Src.ofSlice _ Try.underlying40 _ _ _ _ (by rw [bytesVals_length, Nat.mul_one]) (fun j u hu => Blk.news (Blk.new W 5 cs) j u (by rw [hcs]; exact hu)) (bytesVals_one news)
  obtain ⟨v', w', hr, h2, hg⟩ := run_bufq_app 40 o.type _ news hB hsrc hlen
  unfold Oper.wp execOp
  simp only [ho, resolve, invoke, builtin, Sem.run_bind, Sem.run_pure, Result.andThen_ok, List.map_toArray, List.map_cons, List.map_nil, hs, hx, hr]
  exact h v' w' (hide h2) (hide ⟨hg.os, hg.tape, hg.output, Nat.le_trans (by simp) hg.size, fun k hk hkn => (hg.block k (by simp; omega) hkn).trans (Below.heap_alloc W _ k hk)⟩)
set_option maxRecDepth 20000 in
theorem bufq_app (hgd : o.guard = none) (s x : Operand) (ho : o.op = .call { callee := .builtin .append, args := #[s, x], argTypes := #[40, 40] }) (hb : Hid (BufQ w0 W v l)) (cs : Array Value) (news : List UInt8) (c : Nat)
    (hs : a.eval s = v) (hx : a.eval x = .slice (some ⟨W.heap.size, 0, none⟩) news.length c) (hcs : cs.toList = bytesVals news) (hlen : l.length + news.length ≤ 1000000000000)
    (h : ∀ v' w', Hid (BufQ w0 w' v' (l ++ news)) → Hid (W.grownBy w' v.ownBlock) → wpList Try.prog ops Q rest (a.put o.dst v') w') : wpList Try.prog ops Q (o :: rest) a (W.alloc (.cells cs 5)) :=
  wpList_plain hgd fun _ hK => bufq_app_op s x ho hb cs news c hs hx hcs hlen fun v' w' h1 h2 => hK _ _ (h v' w' h1 h2)
/-- append(b, s...) of a string -/
theorem bufq_apps_op (s x : Operand) (ho : o.op = .call { callee := .builtin .append, args := #[s, x], argTypes := #[40, 9] }) (hb : Hid (BufQ w0 W v l)) (t : ByteArray)
    (hs : a.eval s = v) (hx : a.eval x = .string t) (hlen : l.length + t.size ≤ 1000000000000) {K : Act → World → Prop}
    (h : ∀ v' w', Hid (BufQ w0 w' v' (l ++ t.data.toList)) → Hid (W.grownBy w' v.ownBlock) → K (a.put o.dst v') w') : Oper.wp Try.prog o a W K Q := by
  obtain ⟨v', w', hr, h2, hg⟩ := run_bufq_app 9 o.type (.string t) t.data.toList hb.out (Src.ofString W Try.underlying9 t) hlen
  unfold Oper.wp execOp
  simp only [ho, resolve, invoke, builtin, Sem.run_bind, Sem.run_pure, Result.andThen_ok, List.map_toArray, List.map_cons, List.map_nil, hs, hx, hr]
  exact h v' w' (hide h2) (hide hg)
set_option maxRecDepth 20000 in
theorem bufq_apps (hgd : o.guard = none) (s x : Operand) (ho : o.op = .call { callee := .builtin .append, args := #[s, x], argTypes := #[40, 9] }) (hb : Hid (BufQ w0 W v l)) (t : ByteArray)
    (hs : a.eval s = v) (hx : a.eval x = .string t) (hlen : l.length + t.size ≤ 1000000000000)
    (h : ∀ v' w', Hid (BufQ w0 w' v' (l ++ t.data.toList)) → Hid (W.grownBy w' v.ownBlock) → wpList Try.prog ops Q rest (a.put o.dst v') w') : wpList Try.prog ops Q (o :: rest) a W :=
  wpList_plain hgd fun _ hK => bufq_apps_op s x ho hb t hs hx hlen fun v' w' h1 h2 => hK _ _ (h v' w' h1 h2)
/-- []byte(s) -/
theorem bufq_conv_op (x : Operand) (ho : o.op = .convert 9 40 x) (hb : Below w0.heap.size w0 W) (t : ByteArray) (hx : a.eval x = .string t) (hlen : t.size ≤ 1000000000000) {K : Act → World → Prop}
    (h : ∀ v' w', Hid (BufQ w0 w' v' t.data.toList) → Hid (Below W.heap.size W w') → K (a.put o.dst v') w') : Oper.wp Try.prog o a W K Q := by
  obtain ⟨v', w', hr, h2, hg⟩ := run_bytesQ hb t hlen
  unfold Oper.wp execOp
  simp only [ho, hx, Sem.run_bind, Sem.run_pure, Result.andThen_ok, hr]
  exact h v' w' (hide h2) (hide hg)
set_option maxRecDepth 20000 in
theorem bufq_conv (hgd : o.guard = none) (x : Operand) (ho : o.op = .convert 9 40 x) (hb : Below w0.heap.size w0 W) (t : ByteArray) (hx : a.eval x = .string t) (hlen : t.size ≤ 1000000000000)
    (h : ∀ v' w', Hid (BufQ w0 w' v' t.data.toList) → Hid (Below W.heap.size W w') → wpList Try.prog ops Q rest (a.put o.dst v') w') : wpList Try.prog ops Q (o :: rest) a W :=
  wpList_plain hgd fun _ hK => bufq_conv_op x ho hb t hx hlen fun v' w' h1 h2 => hK _ _ (h v' w' h1 h2)
end
end Go.Proofs.Ytkipmbnmmbeeaaa

/- Chapter 2: the document's tables: a slice of words of a call's own; constants, padded. -/
namespace Go.Proofs.Ytkipmbnmmbeeaaa
open Go.RowKit Zb

set_option maxRecDepth 20000 in
theorem info_u32 : (Try.prog.info? 69).map (fun i => (i.zero, i.size, i.bytes)) = some (some (.int .u32 0), 1, 4) := by kernel_rfl
/-- Below w0's heap nothing has turned since w0; v is a slice of the words l, in a block that is newer. -/
structure WBuf (w0 w : World) (v : Value) (l : List Int) : Prop where
  bel : Below w0.heap.size w0 w
  row : Row w 69 1 v l.length (wcs l)
  own : ∀ g, v.ownBlock = some g → w0.heap.size ≤ g
section
variable {w0 w : World} {v : Value} {l : List Int}
set_option maxRecDepth 20000 in
theorem WBuf.nil (h : Below w0.heap.size w0 w) : WBuf w0 w (.slice none 0 0) [] := ⟨h, row_nil _ _ _, fun g hg => by simp [Value.ownBlock] at hg⟩
set_option maxRecDepth 20000 in
theorem WBuf.below {w' : World} (h : WBuf w0 w v l) (k : Below w.heap.size w w') : WBuf w0 w' v l :=
  ⟨h.bel.trans (k.mono h.bel.size), row_of h.row fun g hg => k.block g (row_lt h.row g hg), h.own⟩
set_option maxRecDepth 20000 in
theorem WBuf.alloc (h : WBuf w0 w v l) (o : Obj) : WBuf w0 (w.alloc o) v l := h.below ((Below.refl _ _).alloc (Nat.le_refl _) o)
set_option maxRecDepth 20000 in
theorem WBuf.drew (h : WBuf w0 w v l) : WBuf w0 w.drew v l := h.below (Below.refl _ _).drew
set_option maxRecDepth 20000 in
theorem WBuf.grown {w' : World} {v' : Value} {l' : List Int} (h : WBuf w0 w v l) (hr : Row w' 69 1 v' l'.length (wcs l')) (hg : w.grownBy w' v.ownBlock) (ha : v'.ownBlock = v.ownBlock ∨ v'.ownBlock = some w.heap.size) : WBuf w0 w' v' l' :=
  ⟨h.bel.grown hg h.bel.size (fun k hk => h.own k hk), hr, fun g hg' => by
    rcases ha with e | e
    · exact h.own g (e.symm.trans hg')
    · rw [e] at hg'
      have := h.bel.size
      cases hg'
      omega⟩
set_option maxRecDepth 20000 in
theorem WBuf.slice (h : WBuf w0 w v l) : ∃ A c, v = .slice A l.length c ∧ l.length ≤ c := row_slice h.row
set_option maxRecDepth 20000 in
theorem WBuf.form (h : WBuf w0 w v l) (hn : 0 < l.length) : ∃ g c, v = .slice (some ⟨g, 0, none⟩) l.length c ∧ g < w.heap.size ∧ ∀ j, j < l.length → w.cell? ⟨g, j, none⟩ = some (.int .u32 (at0 l j)) := by
  obtain ⟨g, c, hv, _, hg, _, hc⟩ := row_form h.row hn
  refine ⟨g, c, hv, hg, fun j hj => ?_⟩
  rw [hc j (by omega)]
  have := wcs_get l j hj
  simpa using this
set_option maxRecDepth 20000 in
theorem WBuf.lit (w : World) (cs : Array Value) (l : List Int) (hc : cs.toList = wcs l) (hl : l.length ≤ 1000000) : WBuf w (w.alloc (.cells cs 69)) (.slice (some ⟨w.heap.size, 0, none⟩) l.length l.length) l := by
  have hs : cs.size = l.length * 1 := by rw [← Array.length_toList, hc, wcs_length, Nat.mul_one]
  refine ⟨(Below.refl _ _).alloc (Nat.le_refl _) _, ?_, fun g hg => ?_⟩
  · have := World.ownsRow_lit (base := 0) (e := 69) (size := 1) w cs l.length (Nat.zero_le _) (by unfold maxLen; omega) hs
    rw [hc] at this
    exact this
  · simp [Value.ownBlock] at hg; omega
set_option maxRecDepth 20000 in
theorem BytesAt.bufq {w0 w : World} {v : Value} {b : List UInt8} (h : BufQ w0 w v b) : BytesAt w v b := by
  rcases h.row with h | ⟨g, cap, cur, fz, rfl, hg, h1, h2, h3, h4, h5⟩
  · exact .inl h
  · exact .inr ⟨g, 0, cap, cur, rfl, h1, h2, ⟨fz, hg⟩, by omega, fun j hj => by rw [Nat.zero_add]; exact h5 j hj⟩
/-- bytes beside words stay -/
theorem BytesAt.beside {w' : World} {u : Value} {b : List UInt8} (h : BytesAt w u b) (hr : WBuf w0 w v l) (hg : w.grownBy w' v.ownBlock) : BytesAt w' u b :=
  h.of_block fun g hgu => hg.block g (h.lt g hgu) (fun e => by
    rcases hr.row.2 with ⟨rfl, _⟩ | ⟨g', cap, cur, rfl, _, hh, _⟩
    · simp [Value.ownBlock] at e
    · have : g = g' := by simpa [Value.ownBlock] using e
      subst this
      exact h.ne (t := 69) hh (by decide) hgu)
end
section
variable {o : Oper} {a : Act} {Q : Exit → Act → World → Prop} {w0 W : World} {v : Value} {l : List Int}
set_option maxRecDepth 20000 in
theorem wbuf_app_op (s x : Operand) (ho : o.op = .call { callee := .builtin .append, args := #[s, x], argTypes := #[70, 70] }) (hb : Hid (WBuf w0 W v l)) (y : Int)
    (hs : a.eval s = v) (hx : a.eval x = .slice (some ⟨W.heap.size, 0, none⟩) 1 1) (hlen : l.length ≤ 100000) {K : Act → World → Prop}
    (h : ∀ v' w', Hid (WBuf w0 w' v' (l ++ [y])) → Hid (W.grownBy w' v.ownBlock) → K (a.put o.dst v') w') : Oper.wp Try.prog o a (W.alloc (.cells #[.int .u32 y] 69)) K Q := by
  have hB := hb.out.alloc (.cells #[.int .u32 y] 69)
  refine app_op s x 70 69 ho (.int .u32 0) 1 4 Try.underlying70 info_u32 rfl (by decide) v l.length (wcs l) hs hB.row _ 1 [.int .u32 y] hx (Src.blk (Blk.new W 69 #[.int .u32 y])) rfl (by simp [Value.oneCell']) (by unfold maxLen; omega) (by omega) ?_
  intro v' w' h2 hg hat
  have hg' : W.grownBy w' v.ownBlock := ⟨hg.out.os, hg.out.tape, hg.out.output, Nat.le_trans (by simp) hg.out.size, fun k hk hkn => (hg.out.block k (by simp; omega) hkn).trans (Below.heap_alloc W _ k hk)⟩
  refine h v' w' (hide ?_) (hide hg')
  refine hB.grown ?_ hg.out hat.out
  rw [List.length_append]
  have e : wcs (l ++ [y]) = wcs l ++ [.int .u32 y] := by simp [wcs]
  rw [e]
  exact h2.out
set_option maxRecDepth 20000 in
theorem wbuf_app {ops : Array Oper} {rest : List Oper} (hgd : o.guard = none) (s x : Operand) (ho : o.op = .call { callee := .builtin .append, args := #[s, x], argTypes := #[70, 70] }) (hb : Hid (WBuf w0 W v l)) (y : Int)
    (hs : a.eval s = v) (hx : a.eval x = .slice (some ⟨W.heap.size, 0, none⟩) 1 1) (hlen : l.length ≤ 100000)
    (h : ∀ v' w', Hid (WBuf w0 w' v' (l ++ [y])) → Hid (W.grownBy w' v.ownBlock) → wpList Try.prog ops Q rest (a.put o.dst v') w') : wpList Try.prog ops Q (o :: rest) a (W.alloc (.cells #[.int .u32 y] 69)) :=
  wpList_plain hgd fun _ hK => wbuf_app_op s x ho hb y hs hx hlen fun v' w' h1 h2 => hK _ _ (h v' w' h1 h2)
end
set_option maxRecDepth 20000 in
set_option maxHeartbeats 2000000 in
theorem rgconst_calls (w : World) : Calls Try.prog 51 #[] w fun e w' => ∃ v, e = .returned v ∧ WBuf w w' v kW := by
  have HB := hide (WBuf.lit w (wcs kW).toArray kW rfl (by decide))
  go_enter Try.func51, Try.ntmps51
  go_wp2_with fail
  go_ret
  exact ⟨_, rfl, HB.out⟩
set_option maxRecDepth 20000 in
theorem pad_byte2 (n i : Nat) (hi : i < 8) (s : Nat) (hs : s = 56 - 8 * i) : ((UInt8.ofNat (8 * n / 256 ^ (7 - i) % 256)).toNat : Int) = 8 * (n : Int) / 2 ^ s % 256 := by rw [pad_byte n i hi s hs, Int.mul_comm]
set_option maxRecDepth 20000 in
set_option maxHeartbeats 2000000 in
theorem rgpadded_calls (s : ByteArray) (hn : s.size ≤ 100000000000) (w : World) : Calls Try.prog 52 #[.string s] w fun e w' => ∃ v, e = .returned v ∧ BufQ w w' v (s.data.toList ++ padW s.size) := by
  have HZ := zerosN_le s.size
  have hsl : s.data.toList.length = s.size := rfl
  have HSL := hide hsl
  clear hsl
  generalize hn0 : s.size = n at *
  have HN := hide hn0
  clear hn0
  go_enter Try.func52, Try.ntmps52
  go_wp2_with (first | ((with_reducible show wpList _ _ _ (⟨some 7, _, _, _, _, _⟩ :: _) _ _); refine bufq_conv rfl (.tmp 6) rfl (Below.refl w.heap.size w) s rfl (by rw [HN.out]; omega) ?_; intro v1 w1 hb1 _) | (at_builtin; refine bufq_app rfl (.tmp 7) (.tmp 8) rfl hb1 #[.int .u8 128] [128] 1 rfl rfl rfl (by rw [HSL.out]; simp; omega) ?_; intro v2 w2 hb2 _; clear hb1))
  have HB0 : Hid (BufQ w w2 v2 (s.data.toList ++ padZ n 0)) := hb2
  go_loopw [3] (fun b wr => ∃ j : Nat, j ≤ zerosN n ∧ Hid (BufQ w wr b (s.data.toList ++ padZ n j))) (fun b _ => n + 100 - (match b with | .slice _ l _ => l | _ => 0))
  case atStart => exact ⟨0, Nat.zero_le _, HB0⟩
  case round =>
  clear HB0 hb2
  obtain ⟨j, hj, hinv⟩ := hrel
  obtain ⟨A, c, rfl, hc⟩ := hinv.out.slice
  have hL : (s.data.toList ++ padZ n j).length = n + (1 + j) := by rw [List.length_append, HSL.out, padZ_length]
  have hz := zerosN_is n j hj
  by_cases hlt : j < zerosN n
  · have hq : (((s.data.toList ++ padZ n j).length : Int) % 64 == 56) = false := by
      rw [beq_eq_false_iff_ne]
      intro e
      have : (n + (1 + j)) % 64 = 56 := by omega
      omega
    have HS : Hid (s.data.toList ++ padZ n (j + 1) = s.data.toList ++ padZ n j ++ [0]) := hide (by rw [padZ_succ, List.append_assoc])
    have HL := hide hL
    have hl9 : (s.data.toList ++ padZ n j).length ≤ 200000000000 := by omega
    have hl8 : ((s.data.toList ++ padZ n j).length : Int) ≤ 200000000000 := by omega
    clear hL hz hj
    generalize hp : (s.data.toList ++ padZ n j).length = L at *
    have HP := hide hp
    clear hp
    go_wp2_with (at_builtin; refine bufq_app rfl (.tmp 14) (.tmp 15) rfl hinv #[.int .u8 0] [0] 1 rfl rfl rfl (by rw [HP.out]; simp; omega) ?_; intro v' w' hb' hg'; rw [← HS.out] at hb'; clear hg')
    obtain ⟨A', c', rfl, _⟩ := hb'.out.slice
    have hL2 : (s.data.toList ++ padZ n (j + 1)).length = n + (1 + (j + 1)) := by rw [List.length_append, HSL.out, padZ_length]
    have HL3 := HL.out
    go_roundw
    case rel => exact ⟨j + 1, by omega, hb'⟩
    case measure => simp only; omega
  · obtain rfl : j = zerosN n := by omega
    have hz := hz.2 rfl
    have hq : (((s.data.toList ++ padZ n (zerosN n)).length : Int) % 64 == 56) = true := by
      rw [beq_iff_eq]
      omega
    have hl8 : ((s.data.toList ++ padZ n (zerosN n)).length : Int) ≤ 200000000000 := by omega
    have hi : Hid (BufQ w wr (.slice A (s.data.toList ++ padZ n (zerosN n)).length c) (s.data.toList ++ padS n 0)) := hide (by
      have := hinv.out
      simp only [padS, List.range_zero, List.map_nil, List.append_nil]
      exact this)
    clear hL hz hj hlt hinv hc
    have hn0 : IntKind.u64.wrap (8 * (n : Int)) = 8 * (n : Int) := by show 8 * (n : Int) % 18446744073709551616 = _; omega
    have hn2 : 0 ≤ 8 * (n : Int) := by omega
    have hn3 : 8 * (n : Int) ≤ 800000000000 := by omega
    have hns : (s.size : Int) = (n : Int) := by rw [HN.out]
    generalize (s.data.toList ++ padZ n (zerosN n)).length = L at *
    go_wp2_with fail
    clear hq hl8 hns hn0
    go_loopw [3, 5] (fun b s' wr => ∃ i : Nat, i ≤ 8 ∧ s' = .int .i64 (7 - (i : Int)) ∧ Hid (BufQ w wr b (s.data.toList ++ padS n i))) (fun _ s _ => (intOf s + 1).toNat)
    case atStart => exact ⟨0, Nat.zero_le _, rfl, hi⟩
    case round =>
    clear hi
    obtain ⟨i, hi, rfl, hinv⟩ := hrel
    by_cases hlt : i < 8
    · have HS : Hid (s.data.toList ++ padS n (i + 1) = s.data.toList ++ padS n i ++ [UInt8.ofNat (8 * n / 256 ^ (7 - i) % 256)]) := hide (by rw [padS_succ, List.append_assoc])
      have HL : Hid ((s.data.toList ++ padS n i).length = n + (1 + zerosN n + i)) := hide (by rw [List.length_append, HSL.out, padS_length])
      obtain ⟨sh, hsh⟩ : ∃ sh : Nat, sh = 56 - 8 * i := ⟨_, rfl⟩
      obtain ⟨m, hm⟩ : ∃ m : Nat, m = 7 - i := ⟨_, rfl⟩
      have HPB := hide (pad_byte2 n i hlt sh hsh)
      have e : (7 : Int) - (i : Int) = (m : Int) := by omega
      have e8 : 8 * (m : Int) = (sh : Int) := by omega
      have hs9 : sh ≤ 56 := by omega
      have hsI : (sh : Int) ≤ 56 := by omega
      have hmI : (m : Int) ≤ 7 := by omega
      have hw0 : IntKind.u64.wrap (sh : Int) = (sh : Int) := by show (sh : Int) % 18446744073709551616 = _; omega
      rw [e]
      have HSH := hide hsh
      have HM := hide hm
      have HE := hide e
      clear hsh e hm
      generalize UInt8.ofNat (8 * n / 256 ^ (7 - i) % 256) = x at *
      go_wp2_with (at_builtin; refine bufq_app rfl (.tmp 25) (.tmp 32) rfl hinv #[.int .u8 (8 * (n : Int) / 2 ^ sh % 256)] [x] 1 rfl rfl (by rw [← HPB.out]; rfl) (by rw [HL.out]; simp; omega) ?_; intro v' w' hb' hg'; rw [← HS.out] at hb'; clear hg')
      have hsh := HSH.out
      have hm := HM.out
      clear e8
      go_roundw
      case rel => exact ⟨i + 1, by omega, by go_num, ‹_›⟩
      case measure => simp [intOf]
    · obtain rfl : i = 8 := by omega
      go_wp2_with fail
      go_ret
      exact ⟨_, rfl, hinv.out⟩
end Go.Proofs.Ytkipmbnmmbeeaaa

/- Chapter 2: the document's words of a block, walked. -/
namespace Go.Proofs.Ytkipmbnmmbeeaaa
open Go.RowKit Zb

set_option maxRecDepth 20000 in
theorem rr7 (x : Int) (w : World) : Calls Try.prog 69 #[.int .u32 x, .int .i64 7] w fun e w' => e = .returned (.int .u32 (rotW x 7)) ∧ w = w' := rrotr_calls x 7 (by omega) (by omega) w
set_option maxRecDepth 20000 in
theorem rr18 (x : Int) (w : World) : Calls Try.prog 69 #[.int .u32 x, .int .i64 18] w fun e w' => e = .returned (.int .u32 (rotW x 18)) ∧ w = w' := rrotr_calls x 18 (by omega) (by omega) w
set_option maxRecDepth 20000 in
theorem rr17 (x : Int) (w : World) : Calls Try.prog 69 #[.int .u32 x, .int .i64 17] w fun e w' => e = .returned (.int .u32 (rotW x 17)) ∧ w = w' := rrotr_calls x 17 (by omega) (by omega) w
set_option maxRecDepth 20000 in
theorem rr19 (x : Int) (w : World) : Calls Try.prog 69 #[.int .u32 x, .int .i64 19] w fun e w' => e = .returned (.int .u32 (rotW x 19)) ∧ w = w' := rrotr_calls x 19 (by omega) (by omega) w

/-- a byte of a slice that is read -/
theorem BytesAt.at {w : World} {g off c n : Nat} {l : List UInt8} (h : BytesAt w (.slice (some ⟨g, off, none⟩) n c) l) (j : Nat) (hj : j < l.length) : w.cell? ⟨g, off + j, none⟩ = some (.int .u8 (byteI l j)) := by
  rcases h with ⟨hv, _⟩ | ⟨g', off', cap, cs, hv, h1, h2, h3, h4, h5⟩
  · simp at hv
  · obtain ⟨⟨rfl, rfl⟩, _⟩ : (g = g' ∧ off = off') ∧ _ := by simpa using hv
    rw [h3.cell, h5 j hj, bytesVals_get l j hj]
    unfold byteI
    rw [List.getD, List.getElem?_eq_getElem hj]
    rfl
structure Cells4 (l : List UInt8) (k q0 q1 q2 q3 : Nat) (b0 b1 b2 b3 : Int) : Prop where
  hl : l.length = 64
  hk : k < 16
  e0 : 4 * k = q0
  e1 : 4 * k + 1 = q1
  e2 : 4 * k + 2 = q2
  e3 : 4 * k + 3 = q3
  h0 : byteI l (4 * k) = b0
  h1 : byteI l (4 * k + 1) = b1
  h2 : byteI l (4 * k + 2) = b2
  h3 : byteI l (4 * k + 3) = b3
set_option maxRecDepth 20000 in
theorem cells4 {w : World} {g off c : Nat} {l : List UInt8} {k q0 q1 q2 q3 : Nat} {b0 b1 b2 b3 : Int} (h : BytesAt w (.slice (some ⟨g, off, none⟩) 64 c) l) (C : Hid (Cells4 l k q0 q1 q2 q3 b0 b1 b2 b3)) :
    w.cell? ⟨g, off + q0, none⟩ = some (.int .u8 b0) ∧ w.cell? ⟨g, off + q1, none⟩ = some (.int .u8 b1) ∧ w.cell? ⟨g, off + q2, none⟩ = some (.int .u8 b2) ∧ w.cell? ⟨g, off + q3, none⟩ = some (.int .u8 b3) := by
  obtain ⟨hl, hk, rfl, rfl, rfl, rfl, rfl, rfl, rfl, rfl⟩ := C.out
  exact ⟨h.at _ (by omega), h.at _ (by omega), h.at _ (by omega), h.at _ (by omega)⟩
set_option maxRecDepth 20000 in
theorem byteI_lt (l : List UInt8) (j : Nat) : 0 ≤ byteI l j ∧ byteI l j < 256 := by
  unfold byteI
  have := (l.getD j 0).toNat_lt
  omega
def WdR (w wr : World) (v : Value) (u : Value) (l : List UInt8) (k : Nat) : Prop := WBuf w wr v (wordsW l k) ∧ BytesAt wr u l
set_option maxRecDepth 20000 in
theorem word_of4 {l : List UInt8} {k q0 q1 q2 q3 : Nat} {b0 b1 b2 b3 : Int} (C : Hid (Cells4 l k q0 q1 q2 q3 b0 b1 b2 b3)) :
    wordW l k = orW (orW (orW (b0 * 16777216 % 4294967296) (b1 * 65536 % 4294967296)) (b2 * 256 % 4294967296)) b3 := by
  obtain ⟨hl, hk, rfl, rfl, rfl, rfl, rfl, rfl, rfl, rfl⟩ := C.out
  rfl

set_option maxRecDepth 100000 in
set_option maxHeartbeats 8000000 in
theorem rgwords_calls {w : World} {u : Value} {l : List UInt8} (h : BytesAt w u l) (hl : l.length = 64) : Calls Try.prog 53 #[u] w fun e w' => ∃ v, e = .returned v ∧ WBuf w w' v (wordsW l 64) := by
  obtain ⟨A, c, rfl, hc, hA⟩ := h.at_form
  obtain ⟨g, off, rfl⟩ : ∃ g off, A = some ⟨g, off, none⟩ := by
    rcases h with ⟨hv, rfl⟩ | ⟨g, off, cap, cs, hv, _⟩
    · simp at hl
    · exact ⟨g, off, by simpa using (by simpa using hv : A = some ⟨g, off, none⟩ ∧ c = cap).1⟩
  rw [hl] at h ⊢
  have HLL := hide hl
  have HI0 : Hid (WdR w w (.slice none 0 0) (.slice (some ⟨g, off, none⟩) 64 c) l 0) := hide ⟨WBuf.nil (Below.refl _ _), h⟩
  clear hl h hc hA
  go_enter Try.func53, Try.ntmps53
  go_wp2_with fail
  go_loopw [3, 4] (fun v i wr => ∃ k : Nat, k ≤ 16 ∧ i = .int .i64 k ∧ Hid (WdR w wr v (.slice (some ⟨g, off, none⟩) 64 c) l k)) (fun _ i _ => 16 - (intOf i).toNat)
  case atStart => exact ⟨0, Nat.zero_le _, rfl, HI0⟩
  case round =>
  clear HI0
  obtain ⟨k, hk, rfl, hinv⟩ := hrel
  by_cases hlo : k < 16
  · obtain ⟨q0, hq0⟩ : ∃ q, 4 * k = q := ⟨_, rfl⟩
    obtain ⟨q1, hq1⟩ : ∃ q, 4 * k + 1 = q := ⟨_, rfl⟩
    obtain ⟨q2, hq2⟩ : ∃ q, 4 * k + 2 = q := ⟨_, rfl⟩
    obtain ⟨q3, hq3⟩ : ∃ q, 4 * k + 3 = q := ⟨_, rfl⟩
    obtain ⟨b0, hb0⟩ : ∃ b, byteI l (4 * k) = b := ⟨_, rfl⟩
    obtain ⟨b1, hb1⟩ : ∃ b, byteI l (4 * k + 1) = b := ⟨_, rfl⟩
    obtain ⟨b2, hb2⟩ : ∃ b, byteI l (4 * k + 2) = b := ⟨_, rfl⟩
    obtain ⟨b3, hb3⟩ : ∃ b, byteI l (4 * k + 3) = b := ⟨_, rfl⟩
    have HC4 : Hid (Cells4 l k q0 q1 q2 q3 b0 b1 b2 b3) := hide ⟨HLL.out, hlo, hq0, hq1, hq2, hq3, hb0, hb1, hb2, hb3⟩
    have d0 := byteI_lt l (4 * k)
    have d1 := byteI_lt l (4 * k + 1)
    have d2 := byteI_lt l (4 * k + 2)
    have d3 := byteI_lt l (4 * k + 3)
    rw [hb0] at d0
    rw [hb1] at d1
    rw [hb2] at d2
    rw [hb3] at d3
    have t0 : IntKind.u32.wrap b0 = b0 := by show b0 % 4294967296 = _; omega
    have t1 : IntKind.u32.wrap b1 = b1 := by show b1 % 4294967296 = _; omega
    have t2 : IntKind.u32.wrap b2 = b2 := by show b2 % 4294967296 = _; omega
    have t3 : IntKind.u32.wrap b3 = b3 := by show b3 % 4294967296 = _; omega
    have s0 : IntKind.i64.wrap (4 * (k : Int)) = (q0 : Int) := by rw [IntWalk.i64_in _ (by omega)]; omega
    have s1 : IntKind.i64.wrap ((q0 : Int) + 1) = (q1 : Int) := by rw [IntWalk.i64_in _ (by omega)]; omega
    have s2 : IntKind.i64.wrap ((q0 : Int) + 2) = (q2 : Int) := by rw [IntWalk.i64_in _ (by omega)]; omega
    have s3 : IntKind.i64.wrap ((q0 : Int) + 3) = (q3 : Int) := by rw [IntWalk.i64_in _ (by omega)]; omega
    have i0 : q0 < 64 := by omega
    have i1 : q1 < 64 := by omega
    have i2 : q2 < 64 := by omega
    have i3 : q3 < 64 := by omega
    have j0 : (q0 : Int) < 64 := by omega
    have j1 : (q1 : Int) < 64 := by omega
    have j2 : (q2 : Int) < 64 := by omega
    have j3 : (q3 : Int) < 64 := by omega
    have hkI : (k : Int) < 16 := by omega
    have HBA := hide hinv.out.2
    have HWL := hide (wordsW_length l k)
    clear hq0 hq1 hq2 hq3 hb0 hb1 hb2 hb3 d0 d1 d2 d3
    go_wp2_with fail
    refine wp_region_heads [0, 1, 2, 3, 4, 5, 6, 7, 8, 9, 10, 11, 12, 13, 14, 15, 16, 17, 18, 19, 20, 21, 22, 23, 24, 25, 26, 27, 28, 29, 30, 31, 32, 33] 3 (fun w' => BytesAt w' (.slice (some ⟨g, off, none⟩) 64 c) l) (by kernel_rfl) rfl (by kernel_rfl) (by kernel_rfl) (fun _ _ d _ _ h => by cases d <;> exact h) (HBA.out.of_block fun _ _ => rfl) ?_
    iterate 34
      refine' Heads.step rfl (by rfl) ?_ ?_
      rotate_left
      · intro w' hSw
        obtain ⟨z0, z1, z2, z3⟩ := cells4 hSw HC4
        go_simp
        try with_reducible rfl
      simp only [Act.put, List.setIfInBounds_toArray, List.set_cons_zero, List.set_cons_succ]
    refine Heads.done ?_
    refine wpAnyH_ready (rs := [34]) (by kernel_rfl) (by simp) (AllReadyH.cons rfl (fun K hK => ?_) AllReadyH.nil)
    go_simp
    refine hK.out _ _ ((HBA.out.of_block fun _ _ => rfl : BytesAt wr.drew _ l).below ((Below.refl _ _).alloc (Nat.le_refl _) _)) (fun hHeld1 => ?_)
    clear hK K
    refine wpAnyH_ready (rs := [35]) (by kernel_rfl) (by simp) (AllReadyH.cons rfl (fun K hK => ?_) AllReadyH.nil)
    rw [if_pos (by rfl)]
    refine wbuf_app_op (.tmp 14) (.tmp 48) rfl (hide hinv.out.1.drew) _ rfl rfl (by rw [HWL.out]; omega) ?_
    intro v' w' hb' hg'
    refine hK.out _ _ ((HBA.out.of_block fun _ _ => rfl : BytesAt wr.drew _ l).beside hinv.out.1.drew hg'.out) (fun hHeld2 => ?_)
    clear hK K
    refine wpAnyH_ready (rs := [36]) (by kernel_rfl) (by simp) (AllReadyH.cons rfl (fun K hK => ?_) AllReadyH.nil)
    go_simp
    refine hK.out _ _ hHeld2 (fun hHeld3 => ?_)
    clear hK K
    refine wpAnyH_done (by kernel_rfl) ?_ _
    have HN : Hid (WdR w w' v' (.slice (some ⟨g, off, none⟩) 64 c) l (k + 1)) := hide ⟨by rw [wordsW_lo _ _ hlo, word_of4 HC4]; exact hb'.out, hHeld3⟩
    clear hHeld1 hHeld2 hHeld3 hb' hg' s0 s1 s2 s3 t0 t1 t2 t3 i0 i1 i2 i3 j0 j1 j2 j3
    go_wp2_with fail
    go_roundw
    case rel => exact ⟨k + 1, by omega, by go_num, HN⟩
    case measure => simp [intOf]; omega
  · rw [show ((k : Nat) : Int) = 16 by omega]
    obtain rfl : k = 16 := by omega
    go_wp2_with fail
    clear hk hlo
    go_loopw [3, 5] (fun v i wr => ∃ k : Nat, 16 ≤ k ∧ k ≤ 64 ∧ i = .int .i64 k ∧ Hid (WdR w wr v (.slice (some ⟨g, off, none⟩) 64 c) l k)) (fun _ i _ => 64 - (intOf i).toNat)
    case atStart => exact ⟨16, Nat.le_refl _, by omega, rfl, hinv⟩
    case round =>
    clear hinv
    obtain ⟨k, hk16, hk, rfl, hinv⟩ := hrel
    by_cases hlt : k < 64
    · have hl := wordsW_length l k
      obtain ⟨gw, cw, rfl, hgw, hcw⟩ := hinv.out.1.form (by omega)
      obtain ⟨p15, hp15⟩ : ∃ p, p + 15 = k := ⟨k - 15, by omega⟩
      obtain ⟨p2, hp2⟩ : ∃ p, p + 2 = k := ⟨k - 2, by omega⟩
      obtain ⟨p16, hp16⟩ : ∃ p, p + 16 = k := ⟨k - 16, by omega⟩
      obtain ⟨p7, hp7⟩ : ∃ p, p + 7 = k := ⟨k - 7, by omega⟩
      have y15 := hcw p15 (by omega)
      have y2 := hcw p2 (by omega)
      have y16 := hcw p16 (by omega)
      have y7 := hcw p7 (by omega)
      have hw := wordsW_hi l k (by omega)
      unfold nextW at hw
      rw [hl, show k - 15 = p15 by omega, show k - 2 = p2 by omega, show k - 16 = p16 by omega, show k - 7 = p7 by omega] at hw
      rw [hl] at hinv ⊢
      have i15 : p15 < k := by omega
      have i2 : p2 < k := by omega
      have i16 : p16 < k := by omega
      have i7 : p7 < k := by omega
      have j15 : (p15 : Int) < k := by omega
      have j2 : (p2 : Int) < k := by omega
      have j16 : (p16 : Int) < k := by omega
      have j7 : (p7 : Int) < k := by omega
      have s15 : (k : Int) - 15 = (p15 : Int) := by omega
      have s2 : (k : Int) - 2 = (p2 : Int) := by omega
      have s16 : IntKind.i64.wrap ((k : Int) - 16) = (p16 : Int) := by rw [IntWalk.i64_in _ (by omega)]; omega
      have s7 : IntKind.i64.wrap ((k : Int) - 7) = (p7 : Int) := by rw [IntWalk.i64_in _ (by omega)]; omega
      generalize at0 (wordsW l k) p15 = x15 at *
      generalize at0 (wordsW l k) p2 = x2 at *
      generalize at0 (wordsW l k) p16 = x16 at *
      generalize at0 (wordsW l k) p7 = x7 at *
      have HW := hide hw
      have HL := hide hl
      have HCW := hide hcw
      clear hw hl hp15 hp2 hp16 hp7 hcw
      go_wp2_with fail
      refine (rr7 x15 _).mono ?_
      rintro e w' ⟨rfl, rfl⟩
      go_wp2_with fail
      refine (rr18 x15 _).mono ?_
      rintro e w' ⟨rfl, rfl⟩
      go_wp2_with fail
      refine (rr17 x2 _).mono ?_
      rintro e w' ⟨rfl, rfl⟩
      go_wp2_with fail
      refine (rr19 x2 _).mono ?_
      rintro e w' ⟨rfl, rfl⟩
      go_wp2_with fail
      rw [s0_of, s1_of]
      clear s15 s2
      have HBA := hide hinv.out.2
      have hHeld0 : BytesAt wr.drew (.slice (some ⟨g, off, none⟩) 64 c) l := HBA.out.of_block fun _ _ => rfl
      refine wp_region_heads [0, 1, 2, 3, 4, 6, 8, 9, 10, 11, 14] 8 (fun w' => BytesAt w' (.slice (some ⟨g, off, none⟩) 64 c) l) (by kernel_rfl) rfl (by kernel_rfl) (by kernel_rfl) (fun _ _ d _ _ h => by cases d <;> exact h) (HBA.out.of_block fun _ _ => rfl) ?_
      iterate 11
        refine' Heads.step rfl (by rfl) ?_ ?_
        rotate_left
        · intro w' hSw
          go_simp
          try with_reducible rfl
        simp only [Act.put, List.setIfInBounds_toArray, List.set_cons_zero, List.set_cons_succ]
      refine Heads.done ?_
      refine wpAnyH_ready (rs := [5, 12]) (by kernel_rfl) (by simp) (AllReadyH.cons rfl (fun K hK => ?_) (AllReadyH.cons rfl (fun K hK => ?_) AllReadyH.nil))
      · go_simp
        refine hK.out _ _ hHeld0 (fun hq1 => ?_)
        clear hK K
        refine wpAnyH_more [7] 6 rfl (by kernel_rfl) (by kernel_rfl) (fun _ _ d _ _ h => by cases d <;> exact h) hq1 ?_
        iterate 1
          refine' Heads.step rfl (by rfl) ?_ ?_
          rotate_left
          · intro w' hSw
            go_simp
            try with_reducible rfl
          simp only [Act.put, List.setIfInBounds_toArray, List.set_cons_zero, List.set_cons_succ]
        refine Heads.done ?_
        refine wpAnyH_ready (rs := [12]) (by kernel_rfl) (by simp) (AllReadyH.cons rfl (fun K hK => ?_) AllReadyH.nil)
        go_simp
        refine hK.out _ _ hq1 (fun hHeld1 => ?_)
        clear hK K
        refine wpAnyH_more [13, 15] 3 rfl (by kernel_rfl) (by kernel_rfl) (fun _ _ d _ _ h => by cases d <;> exact h) hHeld1 ?_
        iterate 2
          refine' Heads.step rfl (by rfl) ?_ ?_
          rotate_left
          · intro w' hSw
            go_simp
            try with_reducible rfl
          simp only [Act.put, List.setIfInBounds_toArray, List.set_cons_zero, List.set_cons_succ]
        refine Heads.done ?_
        refine wpAnyH_ready (rs := [16]) (by kernel_rfl) (by simp) (AllReadyH.cons rfl (fun K hK => ?_) AllReadyH.nil)
        go_simp
        refine hK.out _ _ (BytesAt.below (w := wr.drew) hq1 ((Below.refl _ _).alloc (Nat.le_refl _) _)) (fun hHeld2 => ?_)
        clear hK K
        refine wpAnyH_ready (rs := [17]) (by kernel_rfl) (by simp) (AllReadyH.cons rfl (fun K hK => ?_) AllReadyH.nil)
        rw [if_pos (by rfl)]
        refine wbuf_app_op (.tmp 80) (.tmp 96) rfl (hide hinv.out.1.drew) _ rfl rfl (by rw [HL.out]; omega) ?_
        intro v' w' hb' hg'
        refine hK.out _ _ (BytesAt.beside (w := wr.drew) hq1 hinv.out.1.drew hg'.out) (fun hHeld3 => ?_)
        clear hK K
        refine wpAnyH_ready (rs := [18]) (by kernel_rfl) (by simp) (AllReadyH.cons rfl (fun K hK => ?_) AllReadyH.nil)
        go_simp
        refine hK.out _ _ hHeld3 (fun hHeld4 => ?_)
        clear hK K
        refine wpAnyH_done (by kernel_rfl) ?_ _
        have HN : Hid (WdR w w' v' (.slice (some ⟨g, off, none⟩) 64 c) l (k + 1)) := hide ⟨by rw [HW.out]; exact hb'.out, hHeld4⟩
        clear hq1 hb' hg' s16 s7 HCW
        go_wp2_with fail
        go_roundw
        case rel => exact ⟨k + 1, by omega, by omega, by go_num, HN⟩
        case measure => simp [intOf]; omega
      · go_simp
        refine hK.out _ _ hHeld0 (fun hq1 => ?_)
        clear hK K
        refine wpAnyH_ready (rs := [5]) (by kernel_rfl) (by simp) (AllReadyH.cons rfl (fun K hK => ?_) AllReadyH.nil)
        go_simp
        refine hK.out _ _ hq1 (fun hHeld1 => ?_)
        clear hK K
        refine wpAnyH_more [7, 13, 15] 3 rfl (by kernel_rfl) (by kernel_rfl) (fun _ _ d _ _ h => by cases d <;> exact h) hHeld1 ?_
        iterate 3
          refine' Heads.step rfl (by rfl) ?_ ?_
          rotate_left
          · intro w' hSw
            go_simp
            try with_reducible rfl
          simp only [Act.put, List.setIfInBounds_toArray, List.set_cons_zero, List.set_cons_succ]
        refine Heads.done ?_
        refine wpAnyH_ready (rs := [16]) (by kernel_rfl) (by simp) (AllReadyH.cons rfl (fun K hK => ?_) AllReadyH.nil)
        go_simp
        refine hK.out _ _ (BytesAt.below (w := wr.drew) hq1 ((Below.refl _ _).alloc (Nat.le_refl _) _)) (fun hHeld2 => ?_)
        clear hK K
        refine wpAnyH_ready (rs := [17]) (by kernel_rfl) (by simp) (AllReadyH.cons rfl (fun K hK => ?_) AllReadyH.nil)
        rw [if_pos (by rfl)]
        refine wbuf_app_op (.tmp 80) (.tmp 96) rfl (hide hinv.out.1.drew) _ rfl rfl (by rw [HL.out]; omega) ?_
        intro v' w' hb' hg'
        refine hK.out _ _ (BytesAt.beside (w := wr.drew) hq1 hinv.out.1.drew hg'.out) (fun hHeld3 => ?_)
        clear hK K
        refine wpAnyH_ready (rs := [18]) (by kernel_rfl) (by simp) (AllReadyH.cons rfl (fun K hK => ?_) AllReadyH.nil)
        go_simp
        refine hK.out _ _ hHeld3 (fun hHeld4 => ?_)
        clear hK K
        refine wpAnyH_done (by kernel_rfl) ?_ _
        have HN : Hid (WdR w w' v' (.slice (some ⟨g, off, none⟩) 64 c) l (k + 1)) := hide ⟨by rw [HW.out]; exact hb'.out, hHeld4⟩
        clear hq1 hb' hg' s16 s7 HCW
        go_wp2_with fail
        go_roundw
        case rel => exact ⟨k + 1, by omega, by omega, by go_num, HN⟩
        case measure => simp [intOf]; omega
    · obtain rfl : k = 64 := by omega
      go_wp2_with fail
      go_ret
      exact ⟨_, rfl, hinv.out.1⟩
end Go.Proofs.Ytkipmbnmmbeeaaa

/- Chapter 2: the document's step, walked. -/
namespace Go.Proofs.Ytkipmbnmmbeeaaa
open Go.RowKit Zb

set_option maxRecDepth 20000 in
theorem rr2 (x : Int) (w : World) : Calls Try.prog 69 #[.int .u32 x, .int .i64 2] w fun e w' => e = .returned (.int .u32 (rotW x 2)) ∧ w = w' := rrotr_calls x 2 (by omega) (by omega) w
set_option maxRecDepth 20000 in
theorem rr6 (x : Int) (w : World) : Calls Try.prog 69 #[.int .u32 x, .int .i64 6] w fun e w' => e = .returned (.int .u32 (rotW x 6)) ∧ w = w' := rrotr_calls x 6 (by omega) (by omega) w
set_option maxRecDepth 20000 in
theorem rr11 (x : Int) (w : World) : Calls Try.prog 69 #[.int .u32 x, .int .i64 11] w fun e w' => e = .returned (.int .u32 (rotW x 11)) ∧ w = w' := rrotr_calls x 11 (by omega) (by omega) w
set_option maxRecDepth 20000 in
theorem rr13 (x : Int) (w : World) : Calls Try.prog 69 #[.int .u32 x, .int .i64 13] w fun e w' => e = .returned (.int .u32 (rotW x 13)) ∧ w = w' := rrotr_calls x 13 (by omega) (by omega) w
set_option maxRecDepth 20000 in
theorem rr22 (x : Int) (w : World) : Calls Try.prog 69 #[.int .u32 x, .int .i64 22] w fun e w' => e = .returned (.int .u32 (rotW x 22)) ∧ w = w' := rrotr_calls x 22 (by omega) (by omega) w
set_option maxRecDepth 20000 in
theorem rr25 (x : Int) (w : World) : Calls Try.prog 69 #[.int .u32 x, .int .i64 25] w fun e w' => e = .returned (.int .u32 (rotW x 25)) ∧ w = w' := rrotr_calls x 25 (by omega) (by omega) w
set_option maxRecDepth 20000 in
theorem nch_bits (e f g : Int) : bits .xor .u32 (bits .and .u32 e f) (bits .and .u32 (bits .xor .u32 (if IntKind.u32.signed = true then -1 else IntKind.u32.max) e) g) = chW e f g := by
  have hm : (if IntKind.u32.signed = true then -1 else IntKind.u32.max : Int) = 4294967295 := rfl
  rw [hm]
  have e1 : bits .xor .u32 4294967295 e = ((~~~ (BV e)).toNat : Int) := by
    have := xor_bv 4294967295 e
    unfold xorW at this
    rw [this]
    congr 2
  unfold chW
  rw [e1]
  have e2 : bits .and .u32 ((~~~ (BV e)).toNat : Int) g = andW (notW e) g := by
    rw [and_bv, bv_not]
    have := and_bv ((~~~ (BV e)).toNat : Int) g
    unfold andW at this
    rw [this, bv_nat]
  rw [e2]
set_option maxRecDepth 20000 in
theorem nmaj_bits (a b c : Int) : bits .xor .u32 (bits .xor .u32 (bits .and .u32 a b) (bits .and .u32 a c)) (bits .and .u32 b c) = majW a b c := rfl

set_option maxRecDepth 20000 in
theorem WBuf.from_ {w w0 w' : World} {v : Value} {l : List Int} (h : WBuf w0 w' v l) (hb : Below w.heap.size w w0) : WBuf w w' v l := ⟨hb.trans (h.bel.mono hb.size), h.row, fun g hg => Nat.le_trans hb.size (h.own g hg)⟩
def Eight (w : World) (g : Nat) (v0 v1 v2 v3 v4 v5 v6 v7 : Int) : Prop :=
  w.cell? ⟨g, 0, none⟩ = some (.int .u32 v0) ∧ w.cell? ⟨g, 1, none⟩ = some (.int .u32 v1) ∧ w.cell? ⟨g, 2, none⟩ = some (.int .u32 v2) ∧ w.cell? ⟨g, 3, none⟩ = some (.int .u32 v3) ∧
  w.cell? ⟨g, 4, none⟩ = some (.int .u32 v4) ∧ w.cell? ⟨g, 5, none⟩ = some (.int .u32 v5) ∧ w.cell? ⟨g, 6, none⟩ = some (.int .u32 v6) ∧ w.cell? ⟨g, 7, none⟩ = some (.int .u32 v7)
set_option maxRecDepth 20000 in
theorem lt_of_cell {w : World} {g j : Nat} {v : Value} (h : w.cell? ⟨g, j, none⟩ = some v) : g < w.heap.size := by
  rcases Nat.lt_or_ge g w.heap.size with h1 | h1
  · exact h1
  · simp [World.cell?, Array.getElem?_eq_none h1] at h
set_option maxRecDepth 20000 in
theorem Eight.below {w w' : World} {g : Nat} {v0 v1 v2 v3 v4 v5 v6 v7 : Int} (h : Eight w g v0 v1 v2 v3 v4 v5 v6 v7) (hb : Below w.heap.size w w') : Eight w' g v0 v1 v2 v3 v4 v5 v6 v7 := by
  have hg := lt_of_cell h.1
  have e : ∀ j, w'.cell? ⟨g, j, none⟩ = w.cell? ⟨g, j, none⟩ := fun j => hb.cell (p := ⟨g, j, none⟩) hg
  unfold Eight
  simp only [e]
  exact h

set_option maxRecDepth 100000 in
set_option maxHeartbeats 8000000 in
theorem rgstep_calls {w : World} {g c : Nat} {v0 v1 v2 v3 v4 v5 v6 v7 : Int} (h : Eight w g v0 v1 v2 v3 v4 v5 v6 v7) (kk ww : Int) : Calls Try.prog 54 #[.slice (some ⟨g, 0, none⟩) 8 c, .int .u32 kk, .int .u32 ww] w fun e w' => ∃ v, e = .returned v ∧ WBuf w w' v (stepW [v0, v1, v2, v3, v4, v5, v6, v7] kk ww) := by
  obtain ⟨z0, z1, z2, z3, z4, z5, z6, z7⟩ := h
  have HE : Hid (Eight w g v0 v1 v2 v3 v4 v5 v6 v7) := hide ⟨z0, z1, z2, z3, z4, z5, z6, z7⟩
  go_enter Try.func54, Try.ntmps54
  go_wp2_with fail
  clear z0 z1 z2 z3 z4 z5 z6 z7
  refine wp_region_heads [0, 1, 2, 3, 5, 8, 12, 13, 14, 15, 16, 17, 18, 19, 20, 21, 22, 23, 25, 27] 10 (fun w' => Eight w' g v0 v1 v2 v3 v4 v5 v6 v7) (by kernel_rfl) rfl (by kernel_rfl) (by kernel_rfl) (fun _ _ d _ _ h => by cases d <;> exact h) HE.out ?_
  iterate 20
    refine' Heads.step rfl (by rfl) ?_ ?_
    rotate_left
    · intro w' hSw
      obtain ⟨z0, z1, z2, z3, z4, z5, z6, z7⟩ := hSw
      go_simp
      try with_reducible rfl
    simp only [Act.put, List.setIfInBounds_toArray, List.set_cons_zero, List.set_cons_succ]
  refine Heads.done ?_
  refine wpAnyH_ready (rs := [4]) (by kernel_rfl) (by simp) (AllReadyH.cons rfl (fun K hK => ?_) AllReadyH.nil)
  go_simp
  refine (rr6 v4 _).mono ?_
  rintro e w' ⟨rfl, rfl⟩
  refine hK.out _ _ HE.out (fun hHeld1 => ?_)
  clear hK K
  refine wpAnyH_ready (rs := [6]) (by kernel_rfl) (by simp) (AllReadyH.cons rfl (fun K hK => ?_) AllReadyH.nil)
  go_simp
  refine (rr11 v4 _).mono ?_
  rintro e w' ⟨rfl, rfl⟩
  refine hK.out _ _ HE.out (fun hHeld2 => ?_)
  clear hK K
  refine wpAnyH_more [7] 7 rfl (by kernel_rfl) (by kernel_rfl) (fun _ _ d _ _ h => by cases d <;> exact h) hHeld2 ?_
  iterate 1
    refine' Heads.step rfl (by rfl) ?_ ?_
    rotate_left
    · intro w' hSw
      obtain ⟨z0, z1, z2, z3, z4, z5, z6, z7⟩ := hSw
      go_simp
      try with_reducible rfl
    simp only [Act.put, List.setIfInBounds_toArray, List.set_cons_zero, List.set_cons_succ]
  refine Heads.done ?_
  refine wpAnyH_ready (rs := [9]) (by kernel_rfl) (by simp) (AllReadyH.cons rfl (fun K hK => ?_) AllReadyH.nil)
  go_simp
  refine (rr25 v4 _).mono ?_
  rintro e w' ⟨rfl, rfl⟩
  refine hK.out _ _ HE.out (fun hHeld3 => ?_)
  clear hK K
  refine wpAnyH_more [10, 11, 24, 26, 28, 29] 0 rfl (by kernel_rfl) (by kernel_rfl) (fun _ _ d _ _ h => by cases d <;> exact h) hHeld3 ?_
  iterate 6
    refine' Heads.step rfl (by rfl) ?_ ?_
    rotate_left
    · intro w' hSw
      obtain ⟨z0, z1, z2, z3, z4, z5, z6, z7⟩ := hSw
      go_simp
      try with_reducible rfl
    simp only [Act.put, List.setIfInBounds_toArray, List.set_cons_zero, List.set_cons_succ]
  refine Heads.done ?_
  refine wpAnyH_done (by kernel_rfl) ?_ _
  rw [nch_bits, S1_bits]
  have hsg : IntKind.u32.signed = false := rfl
  simp only [wrap_u32, hsg, Bool.false_eq_true, if_false]
  clear hsg
  have ex : t1W [v0, v1, v2, v3, v4, v5, v6, v7] kk ww = ((((v7 + S1W v4) % 4294967296 + chW v4 v5 v6) % 4294967296 + kk) % 4294967296 + ww) % 4294967296 := rfl
  rw [← ex]
  clear ex hHeld1 hHeld2 hHeld3
  have HEd : Hid (Eight w.drew g v0 v1 v2 v3 v4 v5 v6 v7) := hide HE.out
  have HBd := hide ((Below.refl w.heap.size w).drew)
  have HW : Hid (stepW [v0, v1, v2, v3, v4, v5, v6, v7] kk ww = [addW (t1W [v0, v1, v2, v3, v4, v5, v6, v7] kk ww) (t2W [v0, v1, v2, v3, v4, v5, v6, v7]), v0, v1, v2, addW v3 (t1W [v0, v1, v2, v3, v4, v5, v6, v7] kk ww), v4, v5, v6]) := hide rfl
  have ex2 : t2W [v0, v1, v2, v3, v4, v5, v6, v7] = (bits .xor .u32 (bits .xor .u32 (rotW v0 2) (rotW v0 13)) (rotW v0 22) + majW v0 v1 v2) % 4294967296 := rfl
  have HX2 := hide ex2
  clear ex2 HE
  generalize t1W [v0, v1, v2, v3, v4, v5, v6, v7] kk ww = t1 at *
  generalize t2W [v0, v1, v2, v3, v4, v5, v6, v7] = t2 at *
  generalize w.drew = w1 at *
  have HE := HEd
  clear HEd
  go_wp2_with fail
  refine wp_region_heads [0, 2, 5, 8, 9, 10, 11, 12, 13, 14, 15, 16, 17, 18, 19, 20, 21, 22, 23, 24, 25, 26] 7 (fun w' => Eight w' g v0 v1 v2 v3 v4 v5 v6 v7) (by kernel_rfl) rfl (by kernel_rfl) (by kernel_rfl) (fun _ _ d _ _ h => by cases d <;> exact h) HE.out ?_
  iterate 22
    refine' Heads.step rfl (by rfl) ?_ ?_
    rotate_left
    · intro w' hSw
      obtain ⟨z0, z1, z2, z3, z4, z5, z6, z7⟩ := hSw
      go_simp
      try with_reducible rfl
    simp only [Act.put, List.setIfInBounds_toArray, List.set_cons_zero, List.set_cons_succ]
  refine Heads.done ?_
  refine wpAnyH_ready (rs := [1]) (by kernel_rfl) (by simp) (AllReadyH.cons rfl (fun K hK => ?_) AllReadyH.nil)
  go_simp
  refine (rr2 v0 _).mono ?_
  rintro e w' ⟨rfl, rfl⟩
  refine hK.out _ _ HE.out (fun hHeld1 => ?_)
  clear hK K
  refine wpAnyH_ready (rs := [3]) (by kernel_rfl) (by simp) (AllReadyH.cons rfl (fun K hK => ?_) AllReadyH.nil)
  go_simp
  refine (rr13 v0 _).mono ?_
  rintro e w' ⟨rfl, rfl⟩
  refine hK.out _ _ HE.out (fun hHeld2 => ?_)
  clear hK K
  refine wpAnyH_more [4] 4 rfl (by kernel_rfl) (by kernel_rfl) (fun _ _ d _ _ h => by cases d <;> exact h) hHeld2 ?_
  iterate 1
    refine' Heads.step rfl (by rfl) ?_ ?_
    rotate_left
    · intro w' hSw
      obtain ⟨z0, z1, z2, z3, z4, z5, z6, z7⟩ := hSw
      go_simp
      try with_reducible rfl
    simp only [Act.put, List.setIfInBounds_toArray, List.set_cons_zero, List.set_cons_succ]
  refine Heads.done ?_
  refine wpAnyH_ready (rs := [6]) (by kernel_rfl) (by simp) (AllReadyH.cons rfl (fun K hK => ?_) AllReadyH.nil)
  go_simp
  refine (rr22 v0 _).mono ?_
  rintro e w' ⟨rfl, rfl⟩
  refine hK.out _ _ HE.out (fun hHeld3 => ?_)
  clear hK K
  refine wpAnyH_more [7, 27, 28] 0 rfl (by kernel_rfl) (by kernel_rfl) (fun _ _ d _ _ h => by cases d <;> exact h) hHeld3 ?_
  iterate 3
    refine' Heads.step rfl (by rfl) ?_ ?_
    rotate_left
    · intro w' hSw
      obtain ⟨z0, z1, z2, z3, z4, z5, z6, z7⟩ := hSw
      go_simp
      try with_reducible rfl
    simp only [Act.put, List.setIfInBounds_toArray, List.set_cons_zero, List.set_cons_succ]
  refine Heads.done ?_
  refine wpAnyH_done (by kernel_rfl) ?_ _
  rw [nmaj_bits]
  simp only [wrap_u32]
  rw [← HX2.out]
  clear hHeld1 hHeld2 hHeld3
  have HEd : Hid (Eight w1.drew g v0 v1 v2 v3 v4 v5 v6 v7) := hide HE.out
  have HBd2 := hide (HBd.out.trans ((Below.refl w1.heap.size w1).drew.mono HBd.out.size))
  clear HX2 HE HBd
  generalize w1.drew = w0 at *
  have HE := HEd
  clear HEd
  go_wp2_with fail
  refine wp_region_heads [0, 1, 2, 3, 4, 5, 6, 7, 8, 9, 10, 11, 12, 13, 14, 15, 16, 17, 18, 19, 20, 21, 22, 23, 24, 25] 2 (fun w' => Eight w' g v0 v1 v2 v3 v4 v5 v6 v7) (by kernel_rfl) rfl (by kernel_rfl) (by kernel_rfl) (fun _ _ d _ _ h => by cases d <;> exact h) HE.out ?_
  iterate 26
    refine' Heads.step rfl (by rfl) ?_ ?_
    rotate_left
    · intro w' hSw
      obtain ⟨z0, z1, z2, z3, z4, z5, z6, z7⟩ := hSw
      go_simp
      try with_reducible rfl
    simp only [Act.put, List.setIfInBounds_toArray, List.set_cons_zero, List.set_cons_succ]
  refine Heads.done ?_
  refine wpAnyH_ready (rs := [26]) (by kernel_rfl) (by simp) (AllReadyH.cons rfl (fun K hK => ?_) AllReadyH.nil)
  go_simp
  refine hK.out _ _ (Eight.below (w := w0.drew) HE.out ((Below.refl _ _).alloc (Nat.le_refl _) _)) (fun hHeld1 => ?_)
  clear hK K
  refine wpAnyH_ready (rs := [27]) (by kernel_rfl) (by simp) (AllReadyH.cons rfl (fun K hK => ?_) AllReadyH.nil)
  go_simp
  refine hK.out _ _ hHeld1 (fun hHeld2 => ?_)
  clear hK K
  refine wpAnyH_done (by kernel_rfl) ?_ _
  have HN := hide (((WBuf.lit w0 #[.int .u32 (IntKind.u32.wrap (t1 + t2)), .int .u32 v0, .int .u32 v1, .int .u32 v2, .int .u32 (IntKind.u32.wrap (v3 + t1)), .int .u32 v4, .int .u32 v5, .int .u32 v6] [addW t1 t2, v0, v1, v2, addW v3 t1, v4, v5, v6] rfl (by simp)).drew).from_ HBd2.out)
  clear hHeld1 hHeld2 HE HBd2
  generalize World.drew _ = wz at *
  go_wp2_with fail
  go_ret
  rw [HW.out]
  exact ⟨_, rfl, HN.out⟩
end Go.Proofs.Ytkipmbnmmbeeaaa

/- Chapter 2: the document's Of, walked. -/
namespace Go.Proofs.Ytkipmbnmmbeeaaa
open Go.RowKit Zb

/-- a slice of words that is read -/
def Wds (w : World) (v : Value) (l : List Int) : Prop := ∃ g c, v = .slice (some ⟨g, 0, none⟩) l.length c ∧ l.length ≤ c ∧ g < w.heap.size ∧ ∀ j, j < l.length → w.cell? ⟨g, j, none⟩ = some (.int .u32 (at0 l j))
set_option maxRecDepth 20000 in
theorem Wds.below {w w' : World} {v : Value} {l : List Int} (h : Wds w v l) (hb : Below w.heap.size w w') : Wds w' v l := by
  obtain ⟨g, c, hv, hc, hg, hj⟩ := h
  exact ⟨g, c, hv, hc, Nat.lt_of_lt_of_le hg hb.size, fun j hjl => (hb.cell (p := ⟨g, j, none⟩) hg).trans (hj j hjl)⟩
set_option maxRecDepth 20000 in
theorem WBuf.wds {w0 w : World} {v : Value} {l : List Int} (h : WBuf w0 w v l) (hl : 0 < l.length) : Wds w v l := by
  obtain ⟨g, c, hv, hg, hj⟩ := h.form hl
  obtain ⟨A, c', hv', hc⟩ := h.slice
  rw [hv] at hv'
  obtain ⟨_, rfl⟩ : some (⟨g, 0, none⟩ : Addr) = A ∧ c = c' := by simpa using hv'
  exact ⟨g, c, hv, hc, hg, hj⟩
set_option maxRecDepth 20000 in
theorem eight_of {w : World} {g : Nat} {l : List Int} (hl : l.length = 8) (h : ∀ j, j < l.length → w.cell? ⟨g, j, none⟩ = some (.int .u32 (at0 l j))) : Eight w g (at0 l 0) (at0 l 1) (at0 l 2) (at0 l 3) (at0 l 4) (at0 l 5) (at0 l 6) (at0 l 7) :=
  ⟨h 0 (by omega), h 1 (by omega), h 2 (by omega), h 3 (by omega), h 4 (by omega), h 5 (by omega), h 6 (by omega), h 7 (by omega)⟩
set_option maxRecDepth 20000 in
theorem list8 {l : List Int} (hl : l.length = 8) : [at0 l 0, at0 l 1, at0 l 2, at0 l 3, at0 l 4, at0 l 5, at0 l 6, at0 l 7] = l := by
  obtain ⟨v0, v1, v2, v3, v4, v5, v6, v7, rfl⟩ := len8 hl
  rfl
/-- the words behind k blocks -/
def blksW (b : List UInt8) : Nat → List Int
  | 0 => firstW
  | k + 1 => mixW (blksW b k) ((b.drop (64 * k)).take 64)
set_option maxRecDepth 20000 in
theorem blksW_length (b : List UInt8) : ∀ k, (blksW b k).length = 8
  | 0 => rfl
  | _ + 1 => mixW_length _ _
set_option maxRecDepth 20000 in
theorem eat_blks (b : List UInt8) : ∀ (k : Nat), 64 * k ≤ b.length → eatA firstW b = eatA (blksW b k) (b.drop (64 * k))
  | 0, _ => rfl
  | k + 1, h => by
    rw [eat_blks b k (by omega), eatA_step (by rw [List.length_drop]; omega), List.drop_drop]
    rfl
set_option maxRecDepth 20000 in
theorem eat_all (b : List UInt8) (n : Nat) (h : b.length = 64 * n) : (eatA firstW b).1 = blksW b n := by
  rw [eat_blks b n (by omega), eatA_stop (by rw [List.length_drop]; omega)]
set_option maxRecDepth 20000 in
theorem runW_length (v ws : List Int) (hv : v.length = 8) : ∀ n, (runW v ws n).length = 8
  | 0 => hv
  | _ + 1 => rfl
def sumN (h v : List Int) (i : Nat) : List Int := (List.range i).map fun i => addW (at0 h i) (at0 v i)
set_option maxRecDepth 20000 in
theorem sumN_length (h v : List Int) (i : Nat) : (sumN h v i).length = i := by simp [sumN]
set_option maxRecDepth 20000 in
theorem sumN_succ (h v : List Int) (i : Nat) : sumN h v (i + 1) = sumN h v i ++ [addW (at0 h i) (at0 v i)] := by simp [sumN, List.range_succ]
set_option maxRecDepth 20000 in
theorem pad_whole (s : List UInt8) : ∃ n, (s ++ padW s.length).length = 64 * n ∧ n ≤ s.length + 2 := by
  refine ⟨(s ++ padW s.length).length / 64, ?_, ?_⟩ <;> rw [List.length_append, padW_length] <;> unfold zerosN <;> omega
/-- b[i:i+64] -/
theorem BytesAt.mid {w : World} {l : List UInt8} {A : Option Addr} {cap : Nat} (h : BytesAt w (.slice A l.length cap) l) (i : Nat) (hn : i + 64 ≤ l.length) :
    ∀ A', A' = (if cap = i then A else A.map (·.add i)) → BytesAt w (.slice A' 64 (cap - i)) ((l.drop i).take 64) := by
  rintro A' rfl
  rcases h with ⟨_, rfl⟩ | ⟨g, off, cap', cs, hv, h1, h2, h3, h4, h5⟩
  · simp at hn
  · obtain ⟨rfl, rfl⟩ : A = some ⟨g, off, none⟩ ∧ cap = cap' := by simpa using hv
    have hl : ((l.drop i).take 64).length = 64 := by rw [List.length_take, List.length_drop]; omega
    rw [if_neg (by omega)]
    refine .inr ⟨g, off + i, cap - i, cs, by rw [hl, Option.map_some, add_off], by omega, by omega, h3, by omega, fun j hj => ?_⟩
    rw [Nat.add_assoc, h5 (i + j) (by omega)]
    simp only [bytesVals, List.getElem?_map, List.getElem?_take, List.getElem?_drop]
    rw [if_pos (by omega)]
set_option maxRecDepth 20000 in
theorem wpList_mid64 {ops : Array Oper} {rest : List Oper} {o : Oper} {a : Act} {Q : Exit → Act → World → Prop} {w : World} (hgd : o.guard = none) (x lo hi : Operand) (ho : o.op = .slice 40 x (some lo) (some hi) none)
    {A : Option Addr} {n cap : Nat} (hx : a.eval x = .slice A n cap) (i : Nat) (hlo : a.eval lo = .int .i64 (i : Int)) (hhi : a.eval hi = .int .i64 ((i : Int) + 64)) (hn : i + 64 ≤ cap)
    (h : ∀ A', A' = (if cap = i then A else A.map (·.add i)) → wpList Try.prog ops Q rest (a.put o.dst (.slice A' 64 (cap - i))) w) : wpList Try.prog ops Q (o :: rest) a w := by
  refine wpList_plain hgd fun K hK => ?_
  have hr : (Instr.sliceAt 40 (.slice A n cap) (some (.int .i64 (i : Int))) (some (.int .i64 ((i : Int) + 64))) none).run Try.prog w = .ok (.slice (if cap = i then A else A.map (·.add i)) 64 (cap - i)) w := by
    obtain ⟨inf, hi, _, hz1, _⟩ := info_parts binfo_u8
    rw [Instr.sliceAt, Sem.run_bind, run_underlying Try.underlying40, Result.andThen_ok]
    have e1 : (i : Int) + 64 ≤ (cap : Int) := by omega
    have e2 : (0 : Int) ≤ (i : Int) + 64 := by omega
    have e4 : ((i : Int) + 64).toNat = i + 64 := by omega
    simp [Instr.slice, run_underlying Try.underlying40, Instr.sliceBounds, Instr.sliceBound, asIntOf, e1, e2, e4, sizeOf, typeInfo, hi, hz1, go_sem]
  unfold Oper.wp execOp
  simp only [ho, hx, Option.map_some, Option.map_none, hlo, hhi, hr, Sem.run_bind, Sem.run_pure, Result.andThen_ok]
  exact hK _ _ (h _ rfl)
end Go.Proofs.Ytkipmbnmmbeeaaa

/- Chapter 2: the document's Of, walked: the whole. -/
namespace Go.Proofs.Ytkipmbnmmbeeaaa
open Go.RowKit Zb

/-- at the loop over blocks -/
def OfR (w wr : World) (hv kv bv : Value) (b : List UInt8) (k : Nat) : Prop :=
  Below w.heap.size w wr ∧ Wds wr hv (blksW b k) ∧ Wds wr kv kW ∧ BytesAt wr bv b

set_option maxRecDepth 100000 in
set_option maxHeartbeats 16000000 in
theorem rgOf_calls (s : ByteArray) (hlen : s.size ≤ 50000000000) (w : World) : Calls Try.prog 32 #[.string s] w (SumPost w s.data.toList) := by
  have HLEN := hide hlen
  have HB0 := hide (WBuf.lit w (wcs firstW).toArray firstW rfl (by decide))
  obtain ⟨N, hN, hN2⟩ := pad_whole s.data.toList
  obtain ⟨b, hb⟩ : ∃ b, s.data.toList ++ padW s.data.toList.length = b := ⟨_, rfl⟩
  have HDG : Hid (digW s.data.toList = outW (blksW b N)) := hide (by rw [digW_eq, hb, eat_all b N (by rw [← hb]; exact hN)])
  rw [hb] at hN
  have HBL := hide hN
  have hsl : s.data.toList.length = s.size := rfl
  rw [hsl] at hN2 hb
  have HBE := hide hb
  clear hb hN hlen hsl
  go_enter Try.func32, Try.ntmps32
  go_wp2_with fail
  refine (rgconst_calls _).mono ?_
  rintro e w1 ⟨kv, rfl, hk1⟩
  have HK1 := hide hk1
  clear hk1
  go_wp2_with fail
  refine (rgpadded_calls s (by have := HLEN.out; omega) _).mono ?_
  rintro e w2 ⟨bv, rfl, hb2⟩
  have HI0 : Hid (OfR w w2 (.slice (some ⟨w.heap.size, 0, none⟩) 8 8) kv bv b 0) := hide (by
    have s0 := HB0.out.bel.size
    have s1 := HK1.out.bel.size
    refine ⟨(HB0.out.bel.trans (HK1.out.bel.mono s0)).trans (hb2.bel.mono (Nat.le_trans s0 s1)), ((HB0.out.wds (by decide)).below HK1.out.bel).below hb2.bel, (HK1.out.wds (by decide)).below hb2.bel, ?_⟩
    rw [HBE.out] at hb2
    exact BytesAt.bufq hb2)
  clear hb2 HK1 HB0
  obtain ⟨Ab, cb, hbv, hcb⟩ := HI0.out.2.2.2.form
  have hbN := HBL.out
  rw [hbN] at hbv hcb
  have hcbI : (64 : Int) * (N : Int) ≤ (cb : Int) := by omega
  have hNI : (N : Int) ≤ 60000000000 := by have h1 : s.size ≤ 50000000000 := HLEN.out; omega
  subst hbv
  clear hbN
  have hN2I : (N : Int) ≤ (s.size : Int) + 2 := by omega
  clear hN2
  go_wp2_with fail
  go_loopw [3, 6] (fun hv at_ wr => ∃ k : Nat, k ≤ N ∧ at_ = .int .i64 (64 * (k : Int)) ∧ Hid (OfR w wr hv kv (.slice Ab (64 * N) cb) b k)) (fun _ at_ _ => 64 * N - (intOf at_).toNat)
  case atStart => exact ⟨0, Nat.zero_le _, rfl, HI0⟩
  case round =>
  clear HI0
  obtain ⟨k, hk, rfl, hinv⟩ := hrel
  by_cases hlt : k < N
  · have hkI : 64 * (k : Int) < 64 * (N : Int) := by omega
    obtain ⟨gh, ch, hhv, hch, hgh, hhc⟩ := hinv.out.2.1
    obtain ⟨gk, ck, hkv, hck, hgk, hkc⟩ := hinv.out.2.2.1
    have hhl := blksW_length b k
    rw [hhl] at hhv hch hhc
    rw [show kW.length = 64 from rfl] at hkv hck hkc
    subst hhv
    subst hkv
    have h64 : 64 * k + 64 ≤ cb := by omega
    have hbb := hinv.out.2.2.2
    rw [← HBL.out] at hbb
    have HMID := hide (hbb.mid (64 * k) (by rw [HBL.out]; omega))
    have hml : ((b.drop (64 * k)).take 64).length = 64 := by rw [List.length_take, List.length_drop, HBL.out]; omega
    have HML := hide hml
    have HBLK : Hid (blksW b (k + 1) = mixW (blksW b k) ((b.drop (64 * k)).take 64)) := hide rfl
    generalize (b.drop (64 * k)).take 64 = blk at *
    have HINV := hinv
    have HHL := hide hhl
    have HHC := hide hhc
    have HKC := hide hkc
    have hch8 := hch
    have hck64 := hck
    clear hbb hml hinv hhl hhc hkc hch hck
    have e64 : ((64 * k : Nat) : Int) = 64 * (k : Int) := by omega
    have HE64 := hide e64
    clear e64
    go_wp2_with ((with_reducible show wpList _ _ _ (⟨some 28, _, _, _, _, _⟩ :: _) _ _); refine wpList_mid64 rfl _ _ _ rfl rfl (64 * k) (by rw [HE64.out]; rfl) (by rw [HE64.out]; rfl) h64 ?_; intro A2 hA2; have HBA := hide (HMID.out A2 hA2); clear hA2)
    refine (rgwords_calls HBA.out HML.out).mono ?_
    rintro e w3 ⟨wv, rfl, hw3⟩
    obtain ⟨gw, cw, hwv, hcw, hgw, hwc⟩ := hw3.wds (by rw [wordsW_length]; omega)
    rw [wordsW_length] at hwv hwc
    subst hwv
    have HBW : Hid (Below w.heap.size w w3) := hide (HINV.out.1.trans (hw3.bel.mono HINV.out.1.size))
    have HBB := hide (HINV.out.2.2.2.below hw3.bel)
    have HHC3 : Hid (∀ j, j < 8 → w3.cell? ⟨gh, j, none⟩ = some (.int .u32 (at0 (blksW b k) j))) := hide fun j hj => (hw3.bel.cell (p := ⟨gh, j, none⟩) hgh).trans (HHC.out j hj)
    have HKC3 : Hid (∀ j, j < 64 → w3.cell? ⟨gk, j, none⟩ = some (.int .u32 (at0 kW j))) := hide fun j hj => (hw3.bel.cell (p := ⟨gk, j, none⟩) hgk).trans (HKC.out j hj)
    have HWC3 := hide hwc
    have hgh3 : gh < w3.heap.size := Nat.lt_of_lt_of_le hgh hw3.bel.size
    have hgk3 : gk < w3.heap.size := Nat.lt_of_lt_of_le hgk hw3.bel.size
    have HI2 : Hid (Below w3.heap.size w3 w3 ∧ Wds w3 (.slice (some ⟨gh, 0, none⟩) 8 ch) (runW (blksW b k) (wordsW blk 64) 0)) := hide ⟨Below.refl _ _, gh, ch, by show _ = Value.slice _ (blksW b k).length _; rw [HHL.out], by show (blksW b k).length ≤ _; rw [HHL.out]; exact hch8, hgh3, fun j hj => HHC3.out j (by have h1 : (blksW b k).length = 8 := HHL.out; have h2 : j < (blksW b k).length := hj; omega)⟩
    clear hw3 HBA HMID HHC HKC hwc hcw HINV
    go_wp2_with fail
    go_loopw [8, 9] (fun vv i9 wr2 => ∃ i : Nat, i ≤ 64 ∧ i9 = .int .i64 i ∧ Hid (Below w3.heap.size w3 wr2 ∧ Wds wr2 vv (runW (blksW b k) (wordsW blk 64) i))) (fun _ i9 _ => 64 - (intOf i9).toNat)
    case atStart => exact ⟨0, Nat.zero_le _, rfl, HI2⟩
    case round =>
    clear HI2
    obtain ⟨i, hi, rfl, hinv2⟩ := hrel
    by_cases hlt2 : i < 64
    · obtain ⟨gv, cv, hvv, hcv, hgv, hvc⟩ := hinv2.out.2
      have hrl := runW_length (blksW b k) (wordsW blk 64) HHL.out i
      rw [hrl] at hvv hcv hvc
      subst hvv
      have hiI : (i : Int) < 64 := by omega
      have yk : wr.cell? ⟨gk, i, none⟩ = some (.int .u32 (at0 kW i)) := (hinv2.out.1.cell (p := ⟨gk, i, none⟩) hgk3).trans (HKC3.out i hlt2)
      have yw : wr.cell? ⟨gw, i, none⟩ = some (.int .u32 (at0 (wordsW blk 64) i)) := (hinv2.out.1.cell (p := ⟨gw, i, none⟩) hgw).trans (HWC3.out i hlt2)
      have HRUN : Hid (runW (blksW b k) (wordsW blk 64) (i + 1) = stepW (runW (blksW b k) (wordsW blk 64) i) (at0 kW i) (at0 (wordsW blk 64) i)) := hide rfl
      have HE8 : Hid (Eight wr.drew gv _ _ _ _ _ _ _ _) := hide (show Eight wr.drew gv _ _ _ _ _ _ _ _ from eight_of (w := wr) hrl (fun j hj => hvc j (by omega)))
      have HL8 := hide (list8 hrl)
      have HRL := hide hrl
      clear hrl hvc
      generalize at0 kW i = xk at *
      generalize at0 (wordsW blk 64) i = xw at *
      generalize runW (blksW b k) (wordsW blk 64) i = R at *
      go_wp2_with fail
      refine wp_region_heads [0, 1, 2, 3, 4, 5, 6, 7, 8] 2 (fun w' => w'.cell? ⟨gk, i, none⟩ = some (.int .u32 xk) ∧ w'.cell? ⟨gw, i, none⟩ = some (.int .u32 xw)) (by kernel_rfl) rfl (by kernel_rfl) (by kernel_rfl) (fun _ _ d _ _ h => by cases d <;> exact h) ⟨yk, yw⟩ ?_
      iterate 9
        refine' Heads.step rfl (by rfl) ?_ ?_
        rotate_left
        · intro w' hSw
          obtain ⟨z0, z1⟩ := hSw
          go_simp
          try with_reducible rfl
        simp only [Act.put, List.setIfInBounds_toArray, List.set_cons_zero, List.set_cons_succ]
      refine Heads.done ?_
      refine wpAnyH_ready (rs := [9]) (by kernel_rfl) (by simp) (AllReadyH.cons rfl (fun K hK => ?_) AllReadyH.nil)
      go_simp
      refine (rgstep_calls (c := cv) (w := wr.drew) HE8.out xk xw).mono ?_
      rintro e w' ⟨v', rfl, hb'⟩
      refine hK.out _ _ ⟨(hb'.bel.cell (p := ⟨gk, i, none⟩) (lt_of_cell yk)).trans yk, (hb'.bel.cell (p := ⟨gw, i, none⟩) (lt_of_cell yw)).trans yw⟩ (fun hHeld1 => ?_)
      clear hK K
      refine wpAnyH_ready (rs := [10]) (by kernel_rfl) (by simp) (AllReadyH.cons rfl (fun K hK => ?_) AllReadyH.nil)
      go_simp
      refine hK.out _ _ hHeld1 (fun hHeld2 => ?_)
      clear hK K
      refine wpAnyH_done (by kernel_rfl) ?_ _
      have HN : Hid (Below w3.heap.size w3 w' ∧ Wds w' v' (runW (blksW b k) (wordsW blk 64) (i + 1))) := hide (by
        refine ⟨(hinv2.out.1.drew).trans (hb'.bel.mono hinv2.out.1.size), ?_⟩
        rw [HRUN.out, ← HL8.out]
        exact hb'.wds (by simp [stepW]))
      clear hb' hHeld1 hHeld2 yk yw HE8 hinv2
      go_wp2_with fail
      go_roundw
      case rel => exact ⟨i + 1, by omega, by go_num, HN⟩
      case measure => simp [intOf]; omega
    · rw [show ((i : Nat) : Int) = 64 by omega]
      obtain rfl : i = 64 := by omega
      obtain ⟨gv, cv, hvv, hcv, hgv, hvc⟩ := hinv2.out.2
      have hrl := runW_length (blksW b k) (wordsW blk 64) HHL.out 64
      rw [hrl] at hvv hcv hvc
      subst hvv
      have HMIX : Hid (blksW b (k + 1) = sumN (blksW b k) (runW (blksW b k) (wordsW blk 64) 64) 8) := hide (by rw [HBLK.out]; rfl)
      have HBW4 := hide (HBW.out.trans (hinv2.out.1.mono HBW.out.size))
      have HBB4 := hide (HBB.out.below hinv2.out.1)
      have HHC4 : Hid (∀ j, j < 8 → wr.cell? ⟨gh, j, none⟩ = some (.int .u32 (at0 (blksW b k) j))) := hide fun j hj => (hinv2.out.1.cell (p := ⟨gh, j, none⟩) hgh3).trans (HHC3.out j hj)
      have HKW4 : Hid (Wds wr (.slice (some ⟨gk, 0, none⟩) 64 ck) kW) := hide ⟨gk, ck, rfl, hck64, Nat.lt_of_lt_of_le hgk3 hinv2.out.1.size, fun j hj => (hinv2.out.1.cell (p := ⟨gk, j, none⟩) hgk3).trans (HKC3.out j hj)⟩
      have HVC4 := hide hvc
      have hgh4 : gh < wr.heap.size := Nat.lt_of_lt_of_le hgh3 hinv2.out.1.size
      clear hvc hrl HHC3 HKC3 HWC3 HBW HBB hcv
      have HI3 : Hid (WBuf wr wr (.slice none 0 0) (sumN (blksW b k) (runW (blksW b k) (wordsW blk 64) 64) 0)) := hide (WBuf.nil (Below.refl _ _))
      clear hinv2
      generalize runW (blksW b k) (wordsW blk 64) 64 = R at *
      generalize wr = w4 at *
      go_wp2_with fail
      go_loopw [10, 11] (fun nx i9 wr3 => ∃ i : Nat, i ≤ 8 ∧ i9 = .int .i64 i ∧ Hid (WBuf w4 wr3 nx (sumN (blksW b k) R i))) (fun _ i9 _ => 8 - (intOf i9).toNat)
      case atStart => exact ⟨0, Nat.zero_le _, rfl, HI3⟩
      case round =>
      clear HI3
      obtain ⟨i, hi, rfl, hinv3⟩ := hrel
      by_cases hlt3 : i < 8
      · have hiI : (i : Int) < 8 := by omega
        have yh : wr.cell? ⟨gh, i, none⟩ = some (.int .u32 (at0 (blksW b k) i)) := (hinv3.out.bel.cell (p := ⟨gh, i, none⟩) hgh4).trans (HHC4.out i hlt3)
        have yv : wr.cell? ⟨gv, i, none⟩ = some (.int .u32 (at0 R i)) := (hinv3.out.bel.cell (p := ⟨gv, i, none⟩) hgv).trans (HVC4.out i hlt3)
        have HSUM := hide (sumN_succ (blksW b k) R i)
        have HSL := hide (sumN_length (blksW b k) R i)
        have HOLD : Hid (∀ w', Below w4.heap.size w4 w' → w'.cell? ⟨gh, i, none⟩ = some (.int .u32 (at0 (blksW b k) i)) ∧ w'.cell? ⟨gv, i, none⟩ = some (.int .u32 (at0 R i))) := hide fun w' hb' => ⟨(hb'.cell (p := ⟨gh, i, none⟩) hgh4).trans (HHC4.out i hlt3), (hb'.cell (p := ⟨gv, i, none⟩) hgv).trans (HVC4.out i hlt3)⟩
        generalize at0 (blksW b k) i = xh at *
        generalize at0 R i = xv at *
        go_wp2_with fail
        refine wp_region_heads [0, 1, 2, 3, 4, 5, 6, 7, 8, 9] 3 (fun w' => w'.cell? ⟨gh, i, none⟩ = some (.int .u32 xh) ∧ w'.cell? ⟨gv, i, none⟩ = some (.int .u32 xv)) (by kernel_rfl) rfl (by kernel_rfl) (by kernel_rfl) (fun _ _ d _ _ h => by cases d <;> exact h) ⟨yh, yv⟩ ?_
        iterate 10
          refine' Heads.step rfl (by rfl) ?_ ?_
          rotate_left
          · intro w' hSw
            obtain ⟨z0, z1⟩ := hSw
            go_simp
            try with_reducible rfl
          simp only [Act.put, List.setIfInBounds_toArray, List.set_cons_zero, List.set_cons_succ]
        refine Heads.done ?_
        refine wpAnyH_ready (rs := [10]) (by kernel_rfl) (by simp) (AllReadyH.cons rfl (fun K hK => ?_) AllReadyH.nil)
        go_simp
        refine hK.out _ _ ⟨(((Below.refl wr.drew.heap.size wr.drew).alloc (Nat.le_refl _) _).cell (p := ⟨gh, i, none⟩) (lt_of_cell yh)).trans yh, (((Below.refl wr.drew.heap.size wr.drew).alloc (Nat.le_refl _) _).cell (p := ⟨gv, i, none⟩) (lt_of_cell yv)).trans yv⟩ (fun hHeld1 => ?_)
        clear hK K
        refine wpAnyH_ready (rs := [11]) (by kernel_rfl) (by simp) (AllReadyH.cons rfl (fun K hK => ?_) AllReadyH.nil)
        rw [if_pos (by rfl)]
        refine wbuf_app_op (.tmp 49) (.tmp 59) rfl (hide hinv3.out.drew) (addW xh xv) rfl rfl (by rw [HSL.out]; omega) ?_
        intro v' w' hb' hg'
        refine hK.out _ _ (HOLD.out w' hb'.out.bel) (fun hHeld2 => ?_)
        clear hK K
        refine wpAnyH_ready (rs := [12]) (by kernel_rfl) (by simp) (AllReadyH.cons rfl (fun K hK => ?_) AllReadyH.nil)
        go_simp
        refine hK.out _ _ hHeld2 (fun hHeld3 => ?_)
        clear hK K
        refine wpAnyH_done (by kernel_rfl) ?_ _
        have HN : Hid (WBuf w4 w' v' (sumN (blksW b k) R (i + 1))) := hide (by rw [HSUM.out]; exact hb'.out)
        clear hb' hg' hHeld1 hHeld2 yh yv hinv3 HOLD
        go_wp2_with fail
        go_roundw
        case rel => exact ⟨i + 1, by omega, by go_num, HN⟩
        case measure => simp [intOf]; omega
      · rw [show ((i : Nat) : Int) = 8 by omega]
        obtain rfl : i = 8 := by omega
        have HN : Hid (OfR w wr _ (.slice (some ⟨gk, 0, none⟩) 64 ck) (.slice Ab (64 * N) cb) b (k + 1)) := hide
          ⟨HBW4.out.trans (hinv3.out.bel.mono HBW4.out.size), by rw [HMIX.out]; exact hinv3.out.wds (by rw [sumN_length]; omega), HKW4.out.below hinv3.out.bel, HBB4.out.below hinv3.out.bel⟩
        clear HBW4 HBB4 HHC4 HKW4 HVC4 hinv3
        go_wp2_with fail
        go_roundw
        case rel => exact ⟨k + 1, by omega, by go_num, HN⟩
        case measure => simp [intOf]; omega
  · obtain rfl : k = N := by omega
    obtain ⟨gh, ch, hhv, hch, hgh, hhc⟩ := hinv.out.2.1
    have hhl := blksW_length b k
    rw [hhl] at hhv hch hhc
    subst hhv
    have HW := hide hinv.out.1
    have HHC := hide hhc
    clear hhc hinv hlt
    have HI4 : Hid (Buf wr wr (.slice none 0 0) (outN (blksW b k) 0)) := hide (Buf.nil (Below.refl _ _))
    generalize wr = w5 at *
    go_wp2_with fail
    go_loopw [12, 13] (fun ov i9 wr6 => ∃ i : Nat, i ≤ 8 ∧ i9 = .int .i64 i ∧ Hid (Buf w5 wr6 ov (outN (blksW b k) i))) (fun _ i9 _ => 8 - (intOf i9).toNat)
    case atStart => exact ⟨0, Nat.zero_le _, rfl, HI4⟩
    case round =>
    clear HI4
    obtain ⟨i, hi, rfl, hinv⟩ := hrel
    by_cases hlt : i < 8
    · have hiI : (i : Int) < 8 := by omega
      have HOLD : Hid (∀ w', Below w5.heap.size w5 w' → w'.cell? ⟨gh, i, none⟩ = some (.int .u32 (at0 (blksW b k) i))) := hide fun w' hb' => (hb'.cell (p := ⟨gh, i, none⟩) hgh).trans (HHC.out i hlt)
      have HOUT := hide (outN_succ (blksW b k) i)
      have HLN := hide (outN_length (blksW b k) i)
      generalize at0 (blksW b k) i = x at *
      have y0 := HOLD.out _ hinv.out.bel
      have hC0 := byte_of (x / 16777216)
      have hC1 := byte_of (x / 65536)
      have hC2 := byte_of (x / 256)
      have hC3 := byte_of x
      have HO1 : Hid (out1 x = [UInt8.ofNat (x / 16777216 % 256).toNat, UInt8.ofNat (x / 65536 % 256).toNat, UInt8.ofNat (x / 256 % 256).toNat, UInt8.ofNat (x % 256).toNat]) := hide rfl
      generalize UInt8.ofNat (x / 16777216 % 256).toNat = c0 at *
      generalize UInt8.ofNat (x / 65536 % 256).toNat = c1 at *
      generalize UInt8.ofNat (x / 256 % 256).toNat = c2 at *
      generalize UInt8.ofNat (x % 256).toNat = c3 at *
      have HC0 := hide hC0
      have HC1 := hide hC1
      have HC2 := hide hC2
      have HC3 := hide hC3
      clear hC0 hC1 hC2 hC3
      go_wp2_with (at_builtin; first
        | (refine buf_app rfl (.tmp 66) (.tmp 73) rfl hinv #[.int .u8 (x / 16777216 % 256)] [c0] 1 rfl rfl (by rw [← HC0.out]; rfl) (by rw [HLN.out]; simp; omega) ?_; intro v1 w1 hb1 _; have y1 := HOLD.out _ hb1.out.bel; clear y0)
        | (refine buf_app rfl (.tmp 75) (.tmp 82) rfl hb1 #[.int .u8 (x / 65536 % 256)] [c1] 1 rfl rfl (by rw [← HC1.out]; rfl) (by simp [HLN.out]; omega) ?_; intro v2 w2 hb2 _; have y2 := HOLD.out _ hb2.out.bel; clear y1)
        | (refine buf_app rfl (.tmp 84) (.tmp 91) rfl hb2 #[.int .u8 (x / 256 % 256)] [c2] 1 rfl rfl (by rw [← HC2.out]; rfl) (by simp [HLN.out]; omega) ?_; intro v3 w3 hb3 _; have y3 := HOLD.out _ hb3.out.bel; clear y2)
        | (refine buf_app rfl (.tmp 93) (.tmp 99) rfl hb3 #[.int .u8 (x % 256)] [c3] 1 rfl rfl (by rw [← HC3.out]; rfl) (by simp [HLN.out]; omega) ?_; intro v4 w4 hb4 _; clear y3))
      have HN : Hid (Buf w5 w4 v4 (outN (blksW b k) (i + 1))) := hide (by
        rw [HOUT.out, HO1.out]
        have := hb4.out
        simp only [List.append_assoc, List.cons_append, List.nil_append] at this
        exact this)
      clear hb1 hb2 hb3 hb4
      go_roundw
      case rel => exact ⟨i + 1, by omega, by go_num, HN⟩
      case measure => simp [intOf]; omega
    · rw [show ((i : Nat) : Int) = 8 by omega]
      obtain rfl : i = 8 := by omega
      have hcv := hinv.out.conv
      go_wp2_with fail
      go_ret
      refine ⟨?_, HW.out.trans (hinv.out.bel.mono HW.out.size)⟩
      rw [HDG.out]
      rfl
end Go.Proofs.Ytkipmbnmmbeeaaa
