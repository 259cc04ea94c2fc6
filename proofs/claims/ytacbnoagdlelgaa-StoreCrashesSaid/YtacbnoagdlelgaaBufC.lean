/- copy(b, s) of a string into a call's own bytes. -/
import Derived.Test.YtacbnoagdlelgaaBuf
import Derived.Laws.CopyRow
namespace Go.Proofs.Ytacbnoagdlelgaa
open Go.RowKit Zb

section
variable {ops : Array Oper} {rest : List Oper} {o : Oper} {a : Act} {Q : Exit → Act → World → Prop} {w0 W : World} {l : List UInt8}
def copied (l t : List UInt8) : List UInt8 := t.take l.length ++ l.drop (t.take l.length).length
set_option maxRecDepth 20000 in
theorem copied_length (l t : List UInt8) : (copied l t).length = l.length := by
  unfold copied
  simp only [List.length_append, List.length_take, List.length_drop]
  omega
set_option maxRecDepth 20000 in
theorem buf_copys (hgd : o.guard = none) (d x : Operand) (ho : o.op = .call { callee := .builtin .copy, args := #[d, x], argTypes := #[32, 9] }) (g c : Nat) (hb : Hid (Buf w0 W (.slice (some ⟨g, 0, none⟩) l.length c) l)) (t : ByteArray)
    (hd : a.eval d = .slice (some ⟨g, 0, none⟩) l.length c) (hx : a.eval x = .string t)
    (h : ∀ (m : Int) w', Hid (Buf w0 w' (.slice (some ⟨g, 0, none⟩) l.length c) (copied l t.data.toList)) → Hid (W.grownBy w' (some g)) → wpList Try.prog ops Q rest (a.put o.dst (.int .i64 m)) w') : wpList Try.prog ops Q (o :: rest) a W := by
  refine wpList_plain hgd fun K hK => ?_
  obtain ⟨i, hi, hz0, hz1, hz2⟩ := info_parts binfo_u8
  obtain ⟨h1, h2, h3⟩ := hb.out
  rcases h2.2 with ⟨hn, _⟩ | ⟨g', cap, cur, hv, _, hg, hnc, hcm, hcs, htake⟩
  · simp at hn
  · obtain ⟨rfl, rfl⟩ : g = g' ∧ c = cap := by simpa using hv
    have htl : t.data.toList.length = t.size := rfl
    have hlen : (bytesVals (t.data.toList.take l.length)).length = Nat.min t.size l.length := by rw [bytesVals_length, List.length_take, htl]; exact Nat.min_comm _ _
    have hst := run_storeCells_at Try.prog g 0 5 (bytesVals (t.data.toList.take l.length)) 0 cur W hg (by
      rw [hlen]
      have : Nat.min t.size l.length ≤ l.length := Nat.min_le_right _ _
      omega) (bytesVals_one _)
    rw [hlen] at hst
    simp only [Nat.add_zero, Nat.zero_add, List.take_zero, List.nil_append] at hst
    have htk : List.take (Nat.min t.size l.length) (List.map (fun b : UInt8 => Value.int IntKind.u8 (b.toNat : Int)) t.data.toList) = bytesVals (t.data.toList.take l.length) := by
      unfold bytesVals
      rw [← List.map_take]
      congr 1
      rcases Nat.le_total t.size l.length with hle | hle
      · rw [List.take_of_length_le (by rw [htl]; exact Nat.le_min.2 ⟨Nat.le_refl _, hle⟩), List.take_of_length_le (by omega)]
      · rw [show Nat.min t.size l.length = l.length from Nat.min_eq_right hle]
    have hrun : (Builtin.copy_ #[32, 9] o.type #[.slice (some ⟨g, 0, none⟩) l.length c, .string t]).run Try.prog W = .ok (goInt (Nat.min t.size l.length)) (W.setRow g (bytesVals (t.data.toList.take l.length) ++ cur.toList.drop (Nat.min t.size l.length)).toArray) := by
      simp [Builtin.copy_, run_underlying Try.underlying32, Builtin.lenOf, Builtin.firstCells, sizeOf, typeInfo, hi]
      rw [htk, hst]
      simp [Result.andThen]
    have hgr : W.grownBy (W.setRow g (bytesVals (t.data.toList.take l.length) ++ cur.toList.drop (Nat.min t.size l.length)).toArray) (some g) :=
      ⟨rfl, rfl, rfl, by simp, fun k _ hk => setRow_other W g k _ (fun e => hk (by rw [e]))⟩
    have hbuf : Buf w0 (W.setRow g (bytesVals (t.data.toList.take l.length) ++ cur.toList.drop (Nat.min t.size l.length)).toArray) (.slice (some ⟨g, 0, none⟩) l.length c) (copied l t.data.toList) := by
      refine ⟨h1.grown hgr h1.size (fun k hk => by cases hk; exact h3 g rfl), ?_, h3⟩
      rw [copied_length]
      refine ⟨by rw [bytesVals_length, copied_length, Nat.mul_one], .inr ⟨g, c, _, rfl, Nat.zero_le _, setRow_heap W g cur _ 5 _ hg, hnc, hcm, ?_, ?_⟩⟩
      · simp only [List.size_toArray, List.length_append, hlen, List.length_drop, Array.length_toList, hcs]
        have : Nat.min t.size l.length ≤ l.length := Nat.min_le_right _ _
        omega
      · have hdrop : (cur.toList.drop (Nat.min t.size l.length)).take (l.length - Nat.min t.size l.length) = bytesVals (l.drop (Nat.min t.size l.length)) := by
          rw [← List.drop_take, ← Nat.mul_one l.length, htake]
          simp [bytesVals, List.map_drop]
        have hll : (t.data.toList.take l.length).length = Nat.min t.size l.length := by rw [List.length_take, htl]; exact Nat.min_comm _ _
        rw [Nat.mul_one, copied, bytesVals_append, hll, ← hdrop, List.take_append, hlen]
        congr 1
        exact List.take_of_length_le (by rw [hlen]; exact Nat.min_le_right _ _)
    unfold Oper.wp execOp
    simp only [ho, resolve, invoke, builtin, Sem.run_bind, Sem.run_pure, Result.andThen_ok, List.map_toArray, List.map_cons, List.map_nil, hd, hx, hrun]
    exact hK _ _ (h _ _ (hide hbuf) (hide hgr))
end
end Go.Proofs.Ytacbnoagdlelgaa
