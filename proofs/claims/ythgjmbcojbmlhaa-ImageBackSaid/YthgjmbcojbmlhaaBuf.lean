/- A slice of bytes of a call's own, carried from append to append. No program's text but types' numbers. -/
import Derived.Test.YthgjmbcojbmlhaaRows
import Derived.Test.YthgjmbcojbmlhaaBase
import Derived.Lib.AppendStr
namespace Go.Proofs.Ythgjmbcojbmlhaa
open Go.RowKit Zb

set_option maxRecDepth 20000 in
theorem binfo_u8 : (Try.prog.info? 5).map (fun i => (i.zero, i.size, i.bytes)) = some (some (.int .u8 0), 1, 1) := by kernel_rfl

/-- Below w0's heap nothing has turned since w0; v is a slice of the bytes l, in a block that is newer. -/
structure Buf (w0 w : World) (v : Value) (l : List UInt8) : Prop where
  bel : Below w0.heap.size w0 w
  row : Row w 5 1 v l.length (bytesVals l)
  own : ∀ g, v.ownBlock = some g → w0.heap.size ≤ g

section
variable {w0 w : World} {v : Value} {l : List UInt8}
set_option maxRecDepth 20000 in
theorem Buf.nil (h : Below w0.heap.size w0 w) : Buf w0 w (.slice none 0 0) [] := ⟨h, row_nil _ _ _, fun g hg => by simp [Value.ownBlock] at hg⟩
set_option maxRecDepth 20000 in
theorem Buf.below {w' : World} (h : Buf w0 w v l) (k : Below w.heap.size w w') : Buf w0 w' v l :=
  ⟨h.bel.trans (k.mono h.bel.size), row_of h.row fun g hg => k.block g (row_lt h.row g hg), h.own⟩
set_option maxRecDepth 20000 in
theorem Buf.alloc (h : Buf w0 w v l) (o : Obj) : Buf w0 (w.alloc o) v l := h.below ((Below.refl _ _).alloc (Nat.le_refl _) o)
set_option maxRecDepth 20000 in
theorem Buf.drew (h : Buf w0 w v l) : Buf w0 w.drew v l := h.below (Below.refl _ _).drew
set_option maxRecDepth 20000 in
theorem Buf.drewN (h : Buf w0 w v l) (n : Nat) : Buf w0 (w.drewN n) v l := h.below ⟨rfl, rfl, rfl, Nat.le_refl _, fun _ _ => rfl⟩
set_option maxRecDepth 20000 in
theorem Buf.grown {w' : World} {v' : Value} {l' : List UInt8} (h : Buf w0 w v l) (hr : Row w' 5 1 v' l'.length (bytesVals l')) (hg : w.grownBy w' v.ownBlock) (ha : v'.ownBlock = v.ownBlock ∨ v'.ownBlock = some w.heap.size) : Buf w0 w' v' l' :=
  ⟨h.bel.grown hg h.bel.size (fun k hk => h.own k hk), hr, fun g hg' => by
    rcases ha with e | e
    · exact h.own g (e.symm.trans hg')
    · rw [e] at hg'
      have := h.bel.size
      cases hg'
      omega⟩
set_option maxRecDepth 20000 in
theorem Buf.set {g c : Nat} (h : Buf w0 w (.slice (some ⟨g, 0, none⟩) l.length c) l) (j : Nat) (b : UInt8) :
    Buf w0 (w.setCell ⟨g, j, none⟩ (.int .u8 (b.toNat : Int))) (.slice (some ⟨g, 0, none⟩) l.length c) (l.set j b) := by
  have hs := World.ownsRow.stored h.row j (.int .u8 (b.toNat : Int))
  refine ⟨h.bel.setCell (h.own g rfl) _, ?_, h.own⟩
  have e : bytesVals (l.set j b) = (bytesVals l).set j (.int .u8 (b.toNat : Int)) := by simp [bytesVals, List.map_set]
  rw [e, List.length_set]
  exact hs.1
set_option maxRecDepth 20000 in
theorem Buf.cell {g c : Nat} (h : Buf w0 w (.slice (some ⟨g, 0, none⟩) l.length c) l) (j : Nat) (hj : j < l.length) : w.cell? ⟨g, j, none⟩ = some (.int .u8 (l[j].toNat : Int)) :=
  (World.ownsRow.cellAt h.row j (by omega)).trans (bytesVals_get l j hj)
set_option maxRecDepth 20000 in
theorem Buf.frozen {n g c : Nat} (h : Buf w0 w (.slice (some ⟨g, 0, none⟩) n c) l) (j : Nat) (hn : n = l.length) : w.frozen? ⟨g, j, none⟩ = false := by
  subst hn
  exact World.ownsRow.frozenAt h.row j
set_option maxRecDepth 20000 in
theorem Buf.made (h : Below w0.heap.size w0 w) (n : Nat) (hn : n ≤ maxLen) : Buf w0 (w.alloc (.cells (madeCells #[.int .u8 0] n) 5)) (.slice (some ⟨w.heap.size, 0, none⟩) n n) (List.replicate n 0) := by
  refine ⟨h.alloc h.size _, ?_, fun g hg => ?_⟩
  · have := row_made w 5 (.int .u8 0) n hn
    simpa [bytesVals] using this
  · simp [Value.ownBlock] at hg
    have := h.size
    omega
set_option maxRecDepth 20000 in
theorem Buf.made0 (h : Below w0.heap.size w0 w) (n : Nat) (hn : n ≤ maxLen) : Buf w0 (w.alloc (.cells (madeCells #[.int .u8 0] n) 5)) (.slice (some ⟨w.heap.size, 0, none⟩) 0 n) [] := by
  refine ⟨h.alloc h.size _, World.ownsRow_made w _ n (Nat.zero_le _) hn (by simp [madeCells]), fun g hg => ?_⟩
  simp [Value.ownBlock] at hg
  have := h.size
  omega
set_option maxRecDepth 20000 in
theorem Buf.slice (h : Buf w0 w v l) : ∃ A c, v = .slice A l.length c ∧ l.length ≤ c := row_slice h.row
/-- string(b) -/
theorem Buf.conv (h : Buf w0 w v l) : (convert 47 9 v).run Try.prog w = .ok (.string ⟨l.toArray⟩) w := by
  rcases Nat.eq_zero_or_pos l.length with h0 | h0
  · obtain rfl : l = [] := List.eq_nil_of_length_eq_zero h0
    obtain ⟨A, c, rfl, _⟩ := h.slice
    cases A with
    | none => rw [List.length_nil, run_convert_bytes_string w 47 9 5 none 0 c Try.underlying47 Try.underlying5 Try.underlying9]; rfl
    | some a => exact conv_bytes w 47 9 5 a c [] Try.underlying47 Try.underlying5 Try.underlying9 (fun j hj => by simp at hj)
  · obtain ⟨g, c, rfl, _, _, _, hc⟩ := row_form h.row h0
    refine conv_bytes w 47 9 5 _ c l Try.underlying47 Try.underlying5 Try.underlying9 fun j hj => ?_
    rw [add_plain]
    exact hc j (by omega)
end

section
variable {ops : Array Oper} {rest : List Oper} {o : Oper} {a : Act} {Q : Exit → Act → World → Prop} {w0 W : World} {v : Value} {l : List UInt8}
/-- append(b, x, ..): the new bytes lie in the block that the statement has just laid. At the operation itself. -/
theorem buf_app_op (s x : Operand) (ho : o.op = .call { callee := .builtin .append, args := #[s, x], argTypes := #[47, 47] }) (hb : Hid (Buf w0 W v l)) (cs : Array Value) (news : List UInt8) (c : Nat)
    (hs : a.eval s = v) (hx : a.eval x = .slice (some ⟨W.heap.size, 0, none⟩) news.length c) (hcs : cs.toList = bytesVals news) (hlen : l.length + news.length ≤ 1000000000000) {K : Act → World → Prop}
    (h : ∀ v' w', Hid (Buf w0 w' v' (l ++ news)) → Hid (W.grownBy w' v.ownBlock) → K (a.put o.dst v') w') : Oper.wp Try.prog o a (W.alloc (.cells cs 5)) K Q := by
  have hB := hb.out.alloc (.cells cs 5)
  obtain ⟨i, hi, hz0, hz1, hz2⟩ := info_parts binfo_u8
  obtain ⟨v', w', hr, h2, hg, h4, hat⟩ := run_append_own_at (P := Try.prog) (W.alloc (.cells cs 5)) 0 47 o.type 5 i (.int .u8 0) 1 1 Try.underlying47 hi hz0 hz1 hz2 rfl (by decide) v l.length (bytesVals l) hB.row ⟨W.heap.size, 0, none⟩ news.length c (bytesVals news) (by rw [bytesVals_length, Nat.mul_one]) (fun j u hu => Blk.news (Blk.new W 5 cs) j u (by rw [hcs]; exact hu)) (bytesVals_one news) (by unfold maxLen; omega) (by omega) (Nat.zero_le _)
  unfold Oper.wp execOp
  simp only [ho, resolve, invoke, builtin, Sem.run_bind, Sem.run_pure, Result.andThen_ok, List.map_toArray, List.map_cons, List.map_nil, hs, hx, hr]
  refine h v' w' (hide ?_) (hide ⟨hg.os, hg.tape, hg.output, Nat.le_trans (by simp) hg.size, fun k hk hkn => (hg.block k (by simp; omega) hkn).trans (Below.heap_alloc W _ k hk)⟩)
  refine hB.grown ?_ hg hat
  rw [List.length_append, bytesVals_append]
  exact h2
set_option maxRecDepth 20000 in
theorem buf_app (hgd : o.guard = none) (s x : Operand) (ho : o.op = .call { callee := .builtin .append, args := #[s, x], argTypes := #[47, 47] }) (hb : Hid (Buf w0 W v l)) (cs : Array Value) (news : List UInt8) (c : Nat)
    (hs : a.eval s = v) (hx : a.eval x = .slice (some ⟨W.heap.size, 0, none⟩) news.length c) (hcs : cs.toList = bytesVals news) (hlen : l.length + news.length ≤ 1000000000000)
    (h : ∀ v' w', Hid (Buf w0 w' v' (l ++ news)) → Hid (W.grownBy w' v.ownBlock) → wpList Try.prog ops Q rest (a.put o.dst v') w') : wpList Try.prog ops Q (o :: rest) a (W.alloc (.cells cs 5)) :=
  wpList_plain hgd fun _ hK => buf_app_op s x ho hb cs news c hs hx hcs hlen fun v' w' h1 h2 => hK _ _ (h v' w' h1 h2)
/-- append(b, s...) of a string -/
theorem buf_apps (hgd : o.guard = none) (s x : Operand) (ho : o.op = .call { callee := .builtin .append, args := #[s, x], argTypes := #[47, 9] }) (hb : Hid (Buf w0 W v l)) (t : ByteArray)
    (hs : a.eval s = v) (hx : a.eval x = .string t) (hlen : l.length + t.size ≤ 1000000000000)
    (h : ∀ v' w', Hid (Buf w0 w' v' (l ++ t.data.toList)) → Hid (W.grownBy w' v.ownBlock) → wpList Try.prog ops Q rest (a.put o.dst v') w') : wpList Try.prog ops Q (o :: rest) a W := by
  obtain ⟨i, hi, hz0, hz1, hz2⟩ := info_parts binfo_u8
  obtain ⟨h1, h2, h3⟩ := hb.out
  refine Lib.wpList_append_own_string (P := Try.prog) W hgd s x 47 9 ho w0.heap.size 5 i Try.underlying47 Try.underlying9 hi hz0 hz1 hz2 v l.length (bytesVals l) hs ?_ t hx (by unfold maxLen; omega) (by omega) h1.size ?_
  · refine ⟨h2.1, ?_⟩
    rcases h2.2 with hn | ⟨g, cap, cur, rfl, _, rest⟩
    · exact .inl hn
    · exact .inr ⟨g, cap, cur, rfl, h3 g rfl, rest⟩
  · intro v' w' hr hg _
    refine h v' w' (hide ⟨h1.grown hg h1.size (fun k hk => h3 k hk), ?_, fun g hg' => (World.ownsRow.lt hr g hg').1⟩) (hide hg)
    have e : (l ++ t.data.toList).length = l.length + t.size := by rw [List.length_append]; rfl
    rw [e, bytesVals_append]
    refine ⟨hr.1, ?_⟩
    rcases hr.2 with hn | ⟨g, cap, cur, rfl, _, rest⟩
    · exact .inl hn
    · exact .inr ⟨g, cap, cur, rfl, Nat.zero_le _, rest⟩
end
end Go.Proofs.Ythgjmbcojbmlhaa
