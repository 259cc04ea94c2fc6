/- Chapter 2: operations on a Hash's memory. -/
import Derived.Test.YtjjpekgkaahpbaaDigJ
namespace Go.Proofs.Ytjjpekgkaahpbaa
open Go.RowKit Zb

section
variable {W : World} {l : List UInt8}
/-- append(b[:len(b):len(b)], s...) -/
theorem run_bytes_app (ty : TypeId) {A : Option Addr} (h : BytesAt W (.slice A l.length l.length) l) (t : ByteArray) (hlen : l.length + t.size ≤ 1000000000000) :
    ∃ v' w', (Builtin.append_ #[30, 9] ty #[.slice A l.length l.length, .string t]).run Try.prog W = .ok v' w' ∧ BytesAt w' v' (l ++ t.data.toList) ∧ Below W.heap.size W w' := by
  obtain ⟨i, hi, hz0, hz1, hz2⟩ := info_parts binfo_u8
  have htl : t.data.toList.length = t.size := rfl
  rcases h with ⟨hv, rfl⟩ | ⟨g, off, cap, cs, hv, h1, h2, h3, h4, h5⟩
  · have hB := Buf.nil (Below.refl W.heap.size W)
    obtain ⟨h1, h2, h3⟩ := hB
    obtain ⟨v', w', hr, hrow, hg, _⟩ := Lib.run_append_own_string (P := Try.prog) W W.heap.size 30 9 ty 5 i Try.underlying30 Try.underlying9 hi hz0 hz1 hz2 (.slice none 0 0) 0 [] ⟨rfl, .inl ⟨rfl, rfl⟩⟩ t (by unfold maxLen; omega) (by omega) (Nat.le_refl _)
    obtain ⟨rfl, _⟩ : A = none ∧ True := by simpa using hv
    refine ⟨v', w', hr, ?_, (Below.refl _ _).grown hg (Nat.le_refl _) (fun k hk => by simp [Value.ownBlock] at hk)⟩
    have hb : Buf { W with heap := #[] } w' v' ([] ++ t.data.toList) := by
      refine ⟨⟨hg.os, hg.tape, hg.output, by simp, fun i hi => by simp at hi⟩, ?_, fun x _ => by simp⟩
      have e : ([] ++ t.data.toList : List UInt8).length = 0 + t.size := by simp
      rw [e]
      refine ⟨by simp [bytesVals], ?_⟩
      rcases hrow.2 with hn | ⟨g, cap, cur, rfl, _, rest⟩
      · exact .inl hn
      · exact .inr ⟨g, cap, cur, rfl, Nat.zero_le _, rest⟩
    exact BytesAt.buf hb
  · obtain ⟨rfl, hcap⟩ : A = some ⟨g, off, none⟩ ∧ l.length = cap := by simpa using hv
    rcases Nat.eq_zero_or_pos t.size with h0 | h0
    · have hnil : t.data.toList = [] := List.eq_nil_of_length_eq_zero h0
      refine ⟨.slice (some ⟨g, off, none⟩) l.length l.length, W, ?_, ?_, Below.refl _ _⟩
      · have hf := Lib.run_firstCells_string (P := Try.prog) W 1 t
        rw [h0] at hf
        have hsc : Lib.strCells t = [] := List.eq_nil_of_length_eq_zero (by rw [Lib.strCells_length, h0])
        rw [hsc] at hf
        simp [Builtin.append_, run_underlying Try.underlying30, run_underlying Try.underlying9, sizeOf, typeInfo, hi, hz1, Builtin.lenOf, h0, hf, storeCells]
      · rw [hnil, List.append_nil]
        exact .inr ⟨g, off, l.length, cs, rfl, Nat.le_refl _, by omega, h3, h4, h5⟩
    · have hr := Lib.run_append_grow_string (P := Try.prog) W 30 9 ty 5 i (.int .u8 0) Try.underlying30 Try.underlying9 hi hz0 ⟨g, off, none⟩ l.length l.length (bytesVals l) (by rw [bytesVals_length, hz1, Nat.mul_one]) (fun j u hu => by
          rw [add_off, h3.cell]
          have hj : j < l.length := by
            rcases Nat.lt_or_ge j l.length with h | h
            · exact h
            · rw [List.getElem?_eq_none (by rw [bytesVals_length]; exact h)] at hu; cases hu
          rw [h5 j hj, hu]) t (by omega) (by omega) (growslice_fits (by omega) (by rw [hz2]; omega))
      refine ⟨_, _, hr, ?_, ?_⟩
      · have hll : (l ++ t.data.toList).length = l.length + t.size := by rw [List.length_append]; rfl
        have hge := grownCap_ge W (l.length + t.size) l.length 5
        refine .inr ⟨W.heap.size, 0, _, _, by rw [hll], by rw [hll]; exact hge, grownCap_le_maxLen W _ _ _ (by unfold maxLen; omega), ⟨_, heap_alloc_new W.drew _⟩, ?_, fun j hj => ?_⟩
        · simp only [Array.size_append, List.size_toArray, bytesVals_length, Lib.strCells_length, hll]
          omega
        · rw [hll] at hj
          have hbv : bytesVals (l ++ t.data.toList) = bytesVals l ++ Lib.strCells t := by rw [bytesVals_append]; rfl
          rw [Nat.zero_add, hbv, Array.getElem?_append_left (by simp only [Array.size_append, List.size_toArray, bytesVals_length, Lib.strCells_length]; omega)]
          simp
      · exact ((Below.refl _ _).drew).alloc (Nat.le_refl _) _
end

def hcells (m : Bool) (v : List Int) (rs : Value) (n : Int) : Array Value := (.bool m :: (wcs v ++ [rs, .int .i64 n])).toArray
theorem hcells_size (m : Bool) {v : List Int} (hv : v.length = 8) (rs : Value) (n : Int) : (hcells m v rs n).size = 11 := by
  unfold hcells
  simp [wcs_length, hv]
theorem hcells_0 (m : Bool) (v : List Int) (rs : Value) (n : Int) : (hcells m v rs n)[0]? = some (.bool m) := rfl
theorem hcells_9 (m : Bool) {v : List Int} (hv : v.length = 8) (rs : Value) (n : Int) : (hcells m v rs n)[9]? = some rs := by
  obtain ⟨v0, v1, v2, v3, v4, v5, v6, v7, rfl⟩ := len8 hv
  rfl
theorem hcells_10 (m : Bool) {v : List Int} (hv : v.length = 8) (rs : Value) (n : Int) : (hcells m v rs n)[10]? = some (.int .i64 n) := by
  obtain ⟨v0, v1, v2, v3, v4, v5, v6, v7, rfl⟩ := len8 hv
  rfl
theorem hcells_set10 (m : Bool) {v : List Int} (hv : v.length = 8) (rs : Value) (n k : Int) : (hcells m v rs n).setIfInBounds 10 (.int .i64 k) = hcells m v rs k := by
  obtain ⟨v0, v1, v2, v3, v4, v5, v6, v7, rfl⟩ := len8 hv
  rfl
theorem hcells_set9 (m : Bool) {v : List Int} (hv : v.length = 8) (rs r2 : Value) (n : Int) : (hcells m v rs n).setIfInBounds 9 r2 = hcells m v r2 n := by
  obtain ⟨v0, v1, v2, v3, v4, v5, v6, v7, rfl⟩ := len8 hv
  rfl
theorem wcs_one (v : List Int) : ∀ u ∈ wcs v, u.oneCell' = true := by
  intro u hu
  obtain ⟨x, _, rfl⟩ := List.mem_map.1 hu
  rfl
theorem run_load_state {w : World} {b : Nat} {m : Bool} {v : List Int} {rs : Value} {n : Int} (hb : Blk w b 46 (hcells m v rs n)) (hv : v.length = 8) : (loadVar 43 ⟨b, 1, none⟩).run Try.prog w = .ok (.agg (wcs v).toArray) w := by
  have hl := run_loadCells_list (P := Try.prog) w ⟨b, 1, none⟩ (wcs v) (fun j u hu => by
    rw [add_off, hb.cell]
    obtain ⟨v0, v1, v2, v3, v4, v5, v6, v7, rfl⟩ := len8 hv
    have hj : j < 8 := by
      rcases Nat.lt_or_ge j 8 with h | h
      · exact h
      · rw [List.getElem?_eq_none (by simpa [wcs] using h)] at hu; cases hu
    have : j = 0 ∨ j = 1 ∨ j = 2 ∨ j = 3 ∨ j = 4 ∨ j = 5 ∨ j = 6 ∨ j = 7 := by omega
    rcases this with rfl | rfl | rfl | rfl | rfl | rfl | rfl | rfl <;> exact hu)
  rw [wcs_length, hv] at hl
  have hagg : (isAgg 43).run Try.prog w = .ok true w := by
    unfold isAgg
    rw [Sem.run_bind, run_underlying Try.underlying43 w]
    rfl
  obtain ⟨i, hi, hz1⟩ : ∃ i, Try.prog.info? 43 = some i ∧ i.size = 8 := by
    have : (Try.prog.info? 43).map (·.size) = some 8 := by kernel_rfl
    cases hq : Try.prog.info? 43 with
    | none => rw [hq] at this; cases this
    | some i => rw [hq] at this; exact ⟨i, rfl, by simpa using this⟩
  simp [loadVar, Sem.run_bind, hagg, sizeOf, typeInfo, hi, hz1, hl]
theorem wp_load_state {o : Oper} {a : Act} {w : World} {K : Act → World → Prop} {Q : Exit → Act → World → Prop} (x : Operand) (ho : o.op = .load 43 x) {b : Nat} (hx : a.eval x = .pointer (some ⟨b, 1, none⟩))
    {m : Bool} {v : List Int} {rs : Value} {n : Int} (hb : Blk w b 46 (hcells m v rs n)) (hv : v.length = 8) (h : K (a.put o.dst (.agg (wcs v).toArray)) w) : o.wp Try.prog a w K Q := by
  unfold Oper.wp execOp
  simp only [ho, hx, Instr.loadAt, Instr.sureAddr, Sem.run_bind, Sem.run_pure, Result.andThen_ok, run_load_state hb hv]
  exact h
theorem run_store_state {w : World} {b : Nat} {m : Bool} {v v2 : List Int} {rs : Value} {n : Int} (hb : Blk w b 46 (hcells m v rs n)) (hv : v.length = 8) (hv2 : v2.length = 8) :
    (storeVar 43 ⟨b, 1, none⟩ (.agg (wcs v2).toArray)).run Try.prog w = .ok () (w.setRow b (hcells m v2 rs n)) := by
  have hst := run_storeCells_at Try.prog b 1 46 (wcs v2) 0 _ w hb (by rw [hcells_size m hv, wcs_length, hv2]; omega) (wcs_one v2)
  have e : ((hcells m v rs n).toList.take (1 + 0) ++ wcs v2 ++ (hcells m v rs n).toList.drop (1 + 0 + (wcs v2).length)).toArray = hcells m v2 rs n := by
    obtain ⟨a0, a1, a2, a3, a4, a5, a6, a7, rfl⟩ := len8 hv
    obtain ⟨b0, b1, b2, b3, b4, b5, b6, b7, rfl⟩ := len8 hv2
    rfl
  rw [e] at hst
  obtain ⟨i, hi, hz1⟩ : ∃ i, Try.prog.info? 43 = some i ∧ i.size = 8 := by
    have : (Try.prog.info? 43).map (·.size) = some 8 := by kernel_rfl
    cases hq : Try.prog.info? 43 with
    | none => rw [hq] at this; cases this
    | some i => rw [hq] at this; exact ⟨i, rfl, by simpa using this⟩
  have hs : (wcs v2).toArray.size = i.size := by rw [hz1, List.size_toArray, wcs_length, hv2]
  simp [storeVar, sizeOf, typeInfo, hi, Value.cells, hs, hst, hz1]
theorem wp_store_state {o : Oper} {a : Act} {w : World} {K : Act → World → Prop} {Q : Exit → Act → World → Prop} (x y : Operand) (ho : o.op = .store 43 x y) {b : Nat} (hx : a.eval x = .pointer (some ⟨b, 1, none⟩))
    {m : Bool} {v v2 : List Int} {rs : Value} {n : Int} (hy : a.eval y = .agg (wcs v2).toArray) (hb : Blk w b 46 (hcells m v rs n)) (hv : v.length = 8) (hv2 : v2.length = 8) (h : K (a.put o.dst undef) (w.setRow b (hcells m v2 rs n))) : o.wp Try.prog a w K Q := by
  unfold Oper.wp execOp
  simp only [ho, hx, hy, Instr.storeAt, Instr.sureAddr, Sem.run_bind, Sem.run_pure, Result.andThen_ok, run_store_state hb hv hv2]
  exact h
/-- append at the operation -/
theorem bytes_app_op {o : Oper} {a : Act} {w : World} {l : List UInt8} {K : Act → World → Prop} {Q : Exit → Act → World → Prop} (s x : Operand) (ho : o.op = .call { callee := .builtin .append, args := #[s, x], argTypes := #[30, 9] })
    {A : Option Addr} (hb : BytesAt w (.slice A l.length l.length) l) (hs : a.eval s = .slice A l.length l.length) (t : ByteArray) (hx : a.eval x = .string t) (hlen : l.length + t.size ≤ 1000000000000)
    (h : ∀ v' w', Hid (BytesAt w' v' (l ++ t.data.toList)) → Hid (Below w.heap.size w w') → K (a.put o.dst v') w') : o.wp Try.prog a w K Q := by
  obtain ⟨v', w', hr, h1, h2⟩ := run_bytes_app o.type hb t hlen
  unfold Oper.wp execOp
  simp only [ho, resolve, invoke, builtin, Sem.run_bind, Sem.run_pure, Result.andThen_ok, List.map_toArray, List.map_cons, List.map_nil, hs, hx, hr]
  exact h v' w' (hide h1) (hide h2)
/-- b[:len(b):len(b)] -/
theorem slice_shut {A : Option Addr} {n cap : Nat} (h : n ≤ cap) (w : World) : (Instr.slice 30 (.slice A n cap) none (some (.int .i64 (n : Int))) (some (.int .i64 (n : Int)))).run Try.prog w = .ok (.slice A n n) w := by
  obtain ⟨i, hi, _, _, _⟩ := info_parts binfo_u8
  simp [Instr.slice, run_underlying Try.underlying30, Instr.sliceBounds, Instr.sliceBound, asIntOf, h, sizeOf, typeInfo, hi, go_sem]
/-- b[:n] -/
theorem slice_take {A : Option Addr} {n cap k : Nat} (h : k ≤ cap) (w : World) : (Instr.slice 30 (.slice A n cap) none (some (.int .i64 (k : Int))) none).run Try.prog w = .ok (.slice A k cap) w := by
  obtain ⟨i, hi, _, _, _⟩ := info_parts binfo_u8
  simp [Instr.slice, run_underlying Try.underlying30, Instr.sliceBounds, Instr.sliceBound, asIntOf, h, sizeOf, typeInfo, hi, go_sem]
/-- b[n:] -/
theorem slice_drop {A : Option Addr} {n cap k : Nat} (h : k ≤ n) (w : World) : (Instr.slice 30 (.slice A n cap) (some (.int .i64 (k : Int))) none none).run Try.prog w = .ok (.slice (if cap = k then A else A.map (·.add k)) (n - k) (cap - k)) w := by
  obtain ⟨i, hi, hz0, hz1, hz2⟩ := info_parts binfo_u8
  simp [Instr.slice, run_underlying Try.underlying30, Instr.sliceBounds, Instr.sliceBound, asIntOf, h, sizeOf, typeInfo, hi, hz1, go_sem]

/-- Block b is a Hash that New gave: its words, what stands behind whole blocks, how many bytes. -/
structure HashIn (w : World) (b : Nat) (v : List Int) (l : List UInt8) (n : Int) (rs : Value) : Prop where
  hb : Blk w b 46 (hcells true v rs n)
  hv : v.length = 8
  hs : BytesAt w rs l
section
variable {w w' : World} {b : Nat} {v : List Int} {l : List UInt8} {n : Int} {rs : Value}
theorem HashIn.below (h : HashIn w b v l n rs) (k : Below w.heap.size w w') : HashIn w' b v l n rs := ⟨h.hb.below k h.hb.lt, h.hv, h.hs.below k⟩
theorem HashIn.turned {F : Nat → Prop} (h : HashIn w b v l n rs) (k : Turned F w w') (hF : ¬ F b) (hG : ∀ g, rs.ownBlock = some g → ¬ F g) : HashIn w' b v l n rs :=
  ⟨h.hb.turned k hF, h.hv, h.hs.of_block fun g hg => k.block g (h.hs.lt g hg) (hG g hg)⟩
theorem BytesAt.at_form (h : BytesAt w rs l) : ∃ A cap, rs = .slice A l.length cap ∧ l.length ≤ cap ∧ (A = none ∨ ∃ g off, A = some ⟨g, off, none⟩) := by
  rcases h with ⟨rfl, rfl⟩ | ⟨g, off, cap, cs, rfl, h1, _⟩
  · exact ⟨_, _, rfl, Nat.le_refl _, .inl rfl⟩
  · exact ⟨_, _, rfl, h1, .inr ⟨_, _, rfl⟩⟩
end
end Go.Proofs.Ytjjpekgkaahpbaa
