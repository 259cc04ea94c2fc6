/- Chapter 2: the document's Of, walked. -/
import Derived.Test.YtjjpekgkaahpbaaDigR
namespace Go.Proofs.Ytjjpekgkaahpbaa
open Go.RowKit Zb

/-- a slice of words that is read -/
def Wds (w : World) (v : Value) (l : List Int) : Prop := ∃ g c, v = .slice (some ⟨g, 0, none⟩) l.length c ∧ l.length ≤ c ∧ g < w.heap.size ∧ ∀ j, j < l.length → w.cell? ⟨g, j, none⟩ = some (.int .u32 (at0 l j))
theorem Wds.below {w w' : World} {v : Value} {l : List Int} (h : Wds w v l) (hb : Below w.heap.size w w') : Wds w' v l := by
  obtain ⟨g, c, hv, hc, hg, hj⟩ := h
  exact ⟨g, c, hv, hc, Nat.lt_of_lt_of_le hg hb.size, fun j hjl => (hb.cell (p := ⟨g, j, none⟩) hg).trans (hj j hjl)⟩
theorem WBuf.wds {w0 w : World} {v : Value} {l : List Int} (h : WBuf w0 w v l) (hl : 0 < l.length) : Wds w v l := by
  obtain ⟨g, c, hv, hg, hj⟩ := h.form hl
  obtain ⟨A, c', hv', hc⟩ := h.slice
  rw [hv] at hv'
  obtain ⟨_, rfl⟩ : some (⟨g, 0, none⟩ : Addr) = A ∧ c = c' := by simpa using hv'
  exact ⟨g, c, hv, hc, hg, hj⟩
theorem eight_of {w : World} {g : Nat} {l : List Int} (hl : l.length = 8) (h : ∀ j, j < l.length → w.cell? ⟨g, j, none⟩ = some (.int .u32 (at0 l j))) : Eight w g (at0 l 0) (at0 l 1) (at0 l 2) (at0 l 3) (at0 l 4) (at0 l 5) (at0 l 6) (at0 l 7) :=
  ⟨h 0 (by omega), h 1 (by omega), h 2 (by omega), h 3 (by omega), h 4 (by omega), h 5 (by omega), h 6 (by omega), h 7 (by omega)⟩
theorem list8 {l : List Int} (hl : l.length = 8) : [at0 l 0, at0 l 1, at0 l 2, at0 l 3, at0 l 4, at0 l 5, at0 l 6, at0 l 7] = l := by
  obtain ⟨v0, v1, v2, v3, v4, v5, v6, v7, rfl⟩ := len8 hl
  rfl
/-- the words behind k blocks -/
def blksW (b : List UInt8) : Nat → List Int
  | 0 => firstW
  | k + 1 => mixW (blksW b k) ((b.drop (64 * k)).take 64)
theorem blksW_length (b : List UInt8) : ∀ k, (blksW b k).length = 8
  | 0 => rfl
  | _ + 1 => mixW_length _ _
theorem eat_blks (b : List UInt8) : ∀ (k : Nat), 64 * k ≤ b.length → eatA firstW b = eatA (blksW b k) (b.drop (64 * k))
  | 0, _ => rfl
  | k + 1, h => by
    rw [eat_blks b k (by omega), eatA_step (by rw [List.length_drop]; omega), List.drop_drop]
    rfl
theorem eat_all (b : List UInt8) (n : Nat) (h : b.length = 64 * n) : (eatA firstW b).1 = blksW b n := by
  rw [eat_blks b n (by omega), eatA_stop (by rw [List.length_drop]; omega)]
theorem runW_length (v ws : List Int) (hv : v.length = 8) : ∀ n, (runW v ws n).length = 8
  | 0 => hv
  | _ + 1 => rfl
def sumN (h v : List Int) (i : Nat) : List Int := (List.range i).map fun i => addW (at0 h i) (at0 v i)
theorem sumN_length (h v : List Int) (i : Nat) : (sumN h v i).length = i := by simp [sumN]
theorem sumN_succ (h v : List Int) (i : Nat) : sumN h v (i + 1) = sumN h v i ++ [addW (at0 h i) (at0 v i)] := by simp [sumN, List.range_succ]
theorem pad_whole (s : List UInt8) : ∃ n, (s ++ padW s.length).length = 64 * n ∧ n ≤ s.length + 2 := by
  refine ⟨(s ++ padW s.length).length / 64, ?_, ?_⟩ <;> rw [List.length_append, padW_length] <;> unfold zerosN <;> omega
/-- b[i:i+64] -/
theorem BytesAt.mid {w : World} {l : List UInt8} {A : Option Addr} {cap : Nat} (h : BytesAt w (.slice A l.length cap) l) (i : Nat) (hn : i + 64 ≤ l.length) :
    ∀ A', A' = (if cap = i then A else A.map (·.add i)) → BytesAt w (.slice A' 64 (cap - i)) ((l.drop i).take 64) := by
  rintro A' rfl
  rcases h with ⟨_, rfl⟩ | ⟨g, off, cap', cs, hv, h1, h2, h3, h4, h5⟩
  · simp at hn
  · obtain ⟨rfl, rfl⟩ : A = some ⟨g, off, none⟩ ∧ cap = cap' := by simpa using hv
    have hl : ((l.drop i).take 64).length = 64 := by rw [List.length_take, List.length_drop]; omega
    rw [if_neg (by omega)]
    refine .inr ⟨g, off + i, cap - i, cs, by rw [hl, Option.map_some, add_off], by omega, by omega, h3, by omega, fun j hj => ?_⟩
    rw [Nat.add_assoc, h5 (i + j) (by omega)]
    simp only [bytesVals, List.getElem?_map, List.getElem?_take, List.getElem?_drop]
    rw [if_pos (by omega)]
theorem wpList_mid64 {ops : Array Oper} {rest : List Oper} {o : Oper} {a : Act} {Q : Exit → Act → World → Prop} {w : World} (hgd : o.guard = none) (x lo hi : Operand) (ho : o.op = .slice 30 x (some lo) (some hi) none)
    {A : Option Addr} {n cap : Nat} (hx : a.eval x = .slice A n cap) (i : Nat) (hlo : a.eval lo = .int .i64 (i : Int)) (hhi : a.eval hi = .int .i64 ((i : Int) + 64)) (hn : i + 64 ≤ cap)
    (h : ∀ A', A' = (if cap = i then A else A.map (·.add i)) → wpList Try.prog ops Q rest (a.put o.dst (.slice A' 64 (cap - i))) w) : wpList Try.prog ops Q (o :: rest) a w := by
  refine wpList_plain hgd fun K hK => ?_
  have hr : (Instr.sliceAt 30 (.slice A n cap) (some (.int .i64 (i : Int))) (some (.int .i64 ((i : Int) + 64))) none).run Try.prog w = .ok (.slice (if cap = i then A else A.map (·.add i)) 64 (cap - i)) w := by
    obtain ⟨inf, hi, _, hz1, _⟩ := info_parts binfo_u8
    rw [Instr.sliceAt, Sem.run_bind, run_underlying Try.underlying30, Result.andThen_ok]
    have e1 : (i : Int) + 64 ≤ (cap : Int) := by omega
    have e2 : (0 : Int) ≤ (i : Int) + 64 := by omega
    have e4 : ((i : Int) + 64).toNat = i + 64 := by omega
    simp [Instr.slice, run_underlying Try.underlying30, Instr.sliceBounds, Instr.sliceBound, asIntOf, e1, e2, e4, sizeOf, typeInfo, hi, hz1, go_sem]
  unfold Oper.wp execOp
  simp only [ho, hx, Option.map_some, Option.map_none, hlo, hhi, hr, Sem.run_bind, Sem.run_pure, Result.andThen_ok]
  exact hK _ _ (h _ rfl)
end Go.Proofs.Ytjjpekgkaahpbaa
