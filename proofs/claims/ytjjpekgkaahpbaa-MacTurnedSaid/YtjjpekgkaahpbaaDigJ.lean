/- Chapter 2: whole blocks eaten, one part behind the other: plain facts; a slice of bytes that is only read. -/
import Derived.Test.YtjjpekgkaahpbaaDigI
namespace Go.Proofs.Ytjjpekgkaahpbaa
open Go.RowKit Zb

def eatA (v : List Int) (l : List UInt8) : List Int × List UInt8 := eatW (l.length / 64) v l
theorem eatW_enough : ∀ (n m : Nat) (v : List Int) (l : List UInt8), l.length / 64 ≤ n → l.length / 64 ≤ m → eatW n v l = eatW m v l
  | 0, 0, _, _, _, _ => rfl
  | 0, m + 1, v, l, h, _ => by
    have hl : l.length < 64 := by omega
    simp only [eatW, if_pos hl]
  | n + 1, 0, v, l, _, h => by
    have hl : l.length < 64 := by omega
    simp only [eatW, if_pos hl]
  | n + 1, m + 1, v, l, h, k => by
    simp only [eatW]
    by_cases hl : l.length < 64
    · rw [if_pos hl, if_pos hl]
    · rw [if_neg hl, if_neg hl]
      exact eatW_enough n m _ _ (by rw [List.length_drop]; omega) (by rw [List.length_drop]; omega)
theorem eatA_stop {v : List Int} {l : List UInt8} (h : l.length < 64) : eatA v l = (v, l) := by
  unfold eatA
  rw [show l.length / 64 = 0 by omega]
  rfl
theorem eatA_step {v : List Int} {l : List UInt8} (h : 64 ≤ l.length) : eatA v l = eatA (mixW v (l.take 64)) (l.drop 64) := by
  unfold eatA
  obtain ⟨n, hn⟩ : ∃ n, l.length / 64 = n + 1 := ⟨l.length / 64 - 1, by omega⟩
  rw [hn, eatW, if_neg (by omega)]
  exact eatW_enough _ _ _ _ (by rw [List.length_drop]; omega) (by rw [List.length_drop]; omega)
theorem eatA_join (c : List UInt8) : ∀ (k : Nat) (v : List Int) (l : List UInt8), l.length / 64 ≤ k → eatA (eatA v l).1 ((eatA v l).2 ++ c) = eatA v (l ++ c)
  | 0, v, l, h => by rw [eatA_stop (by omega : l.length < 64)]
  | k + 1, v, l, h => by
    by_cases hl : l.length < 64
    · rw [eatA_stop hl]
    · have h1 : 64 ≤ l.length := by omega
      rw [eatA_step h1, eatA_join c k _ _ (by rw [List.length_drop]; omega), eatA_step (l := l ++ c) (by rw [List.length_append]; omega)]
      rw [List.take_append_of_le_length h1, List.drop_append_of_le_length h1]
theorem eatA_join' (c : List UInt8) (v : List Int) (l : List UInt8) : eatA (eatA v l).1 ((eatA v l).2 ++ c) = eatA v (l ++ c) := eatA_join c _ v l (Nat.le_refl _)
theorem mixW_length (v : List Int) (b : List UInt8) : (mixW v b).length = 8 := by simp [mixW, sumW]
theorem eatA_facts : ∀ (k : Nat) (v : List Int) (l : List UInt8), l.length / 64 ≤ k → v.length = 8 → (eatA v l).1.length = 8 ∧ (eatA v l).2.length < 64
  | 0, v, l, h, hv => by rw [eatA_stop (by omega : l.length < 64)]; exact ⟨hv, by show l.length < 64; omega⟩
  | k + 1, v, l, h, hv => by
    by_cases hl : l.length < 64
    · rw [eatA_stop hl]; exact ⟨hv, hl⟩
    · rw [eatA_step (by omega)]
      exact eatA_facts k _ _ (by rw [List.length_drop]; omega) (mixW_length _ _)
theorem eatA_len (v : List Int) (l : List UInt8) (hv : v.length = 8) : (eatA v l).1.length = 8 := (eatA_facts _ v l (Nat.le_refl _) hv).1
theorem eatA_rest (v : List Int) (l : List UInt8) (hv : v.length = 8) : (eatA v l).2.length < 64 := (eatA_facts _ v l (Nat.le_refl _) hv).2
theorem padW_length (n : Nat) : (padW n).length = 9 + zerosN n := by rw [padW_eq, padS_length]; omega
theorem digW_eq (s : List UInt8) : digW s = outW (eatA firstW (s ++ padW s.length)).1 := by
  unfold digW eatA
  congr 2
  have := padW_length s.length
  have := zerosN_le s.length
  exact eatW_enough _ _ _ _ (by rw [List.length_append]; omega) (by rw [List.length_append]; omega)
theorem len8 {v : List Int} (h : v.length = 8) : ∃ v0 v1 v2 v3 v4 v5 v6 v7, v = [v0, v1, v2, v3, v4, v5, v6, v7] := by
  match v, h with
  | [v0, v1, v2, v3, v4, v5, v6, v7], _ => exact ⟨v0, v1, v2, v3, v4, v5, v6, v7, rfl⟩
theorem gmix8 {v : List Int} (hv : v.length = 8) (l : List UInt8) (h : l.length = 64) (w : World) : Calls Try.prog 27 #[.agg (wcs v).toArray, .string ⟨l.toArray⟩] w fun e w' => e = .returned (.agg (wcs (mixW v l)).toArray) ∧ Below w.heap.size w w' := by
  obtain ⟨v0, v1, v2, v3, v4, v5, v6, v7, rfl⟩ := len8 hv
  exact gmix_calls v0 v1 v2 v3 v4 v5 v6 v7 ⟨l.toArray⟩ (by show l.toArray.size = 64; simpa using h) w

/-- Block g is these cells, whatever of them a string shares. -/
def BlkF (w : World) (g : Nat) (t : TypeId) (cs : Array Value) : Prop := ∃ fz, w.heap[g]? = some (.cells cs t fz)
theorem BlkF.lt {w : World} {g : Nat} {t : TypeId} {cs : Array Value} (h : BlkF w g t cs) : g < w.heap.size := by
  obtain ⟨fz, h⟩ := h
  exact (Array.getElem?_eq_some_iff.1 h).1
theorem BlkF.cell {w : World} {g : Nat} {t : TypeId} {cs : Array Value} (h : BlkF w g t cs) (i : Nat) : w.cell? ⟨g, i, none⟩ = cs[i]? := by
  obtain ⟨fz, h⟩ := h
  exact cell_of_row w g i cs t fz h
theorem BlkF.of {w : World} {g : Nat} {t : TypeId} {cs : Array Value} (h : Blk w g t cs) : BlkF w g t cs := ⟨_, h⟩
theorem BlkF.of_block {w w' : World} {g : Nat} {t : TypeId} {cs : Array Value} (h : BlkF w g t cs) (hk : w'.heap[g]? = w.heap[g]?) : BlkF w' g t cs := by
  obtain ⟨fz, h⟩ := h
  exact ⟨fz, hk.trans h⟩
theorem BlkF.ne_ {w : World} {g g' : Nat} {t t' : TypeId} {cs cs' : Array Value} (h : BlkF w g t cs) (h' : Blk w g' t' cs') (hne : t ≠ t') : g ≠ g' := by
  rintro rfl
  obtain ⟨fz, h⟩ := h
  unfold Blk at h'
  rw [h] at h'
  injection h' with h'
  injection h' with _ ht
  exact hne ht
/-- v is a slice whose bytes are l: it is only read. -/
def BytesAt (w : World) (v : Value) (l : List UInt8) : Prop :=
  (v = .slice none 0 0 ∧ l = []) ∨
    ∃ g off cap cs, v = .slice (some ⟨g, off, none⟩) l.length cap ∧ l.length ≤ cap ∧ cap ≤ maxLen ∧ BlkF w g 5 cs ∧ off + l.length ≤ cs.size ∧ ∀ j, j < l.length → cs[off + j]? = (bytesVals l)[j]?
section
variable {w w' : World} {v : Value} {l : List UInt8}
theorem BytesAt.of_block (h : BytesAt w v l) (hk : ∀ g, v.ownBlock = some g → w'.heap[g]? = w.heap[g]?) : BytesAt w' v l := by
  rcases h with h | ⟨g, off, cap, cs, rfl, h1, h2, h3, h4⟩
  · exact .inl h
  · exact .inr ⟨g, off, cap, cs, rfl, h1, h2, h3.of_block (hk g rfl), h4⟩
theorem BytesAt.lt (h : BytesAt w v l) (g : Nat) (hg : v.ownBlock = some g) : g < w.heap.size := by
  rcases h with ⟨rfl, _⟩ | ⟨g', off, cap, cs, rfl, h1, h2, h3, h4⟩
  · simp [Value.ownBlock] at hg
  · have : g' = g := by simpa [Value.ownBlock] using hg
    subst this
    exact h3.lt
theorem BytesAt.below (h : BytesAt w v l) (hb : Below w.heap.size w w') : BytesAt w' v l := h.of_block fun g hg => hb.block g (h.lt g hg)
theorem BytesAt.ne (h : BytesAt w v l) {b : Nat} {t : TypeId} {cs : Array Value} (hb : Blk w b t cs) (ht : 5 ≠ t) : v.ownBlock ≠ some b := by
  rcases h with ⟨rfl, _⟩ | ⟨g', off, cap, cs', rfl, h1, h2, h3, h4⟩
  · simp [Value.ownBlock]
  · intro he
    have : g' = b := by simpa [Value.ownBlock] using he
    subst this
    exact BlkF.ne_ (t := 5) h3 hb ht rfl
theorem BytesAt.buf {w0 : World} (h : Buf w0 w v l) : BytesAt w v l := by
  rcases h.row.2 with ⟨rfl, hn⟩ | ⟨g, cap, cur, rfl, _, hg, hc, hm, hcs, ht⟩
  · exact .inl ⟨rfl, List.eq_nil_of_length_eq_zero hn⟩
  · refine .inr ⟨g, 0, cap, cur, rfl, hc, hm, ⟨_, hg⟩, by omega, fun j hj => ?_⟩
    have := World.ownsRow.cellAt h.row j (by omega)
    rw [cell_of_row w g j cur 5 (0, 0) hg] at this
    simpa using this
theorem add_off (g off j : Nat) : (⟨g, off, none⟩ : Addr).add j = ⟨g, off + j, none⟩ := by unfold Addr.add; split <;> simp_all
theorem BytesAt.form (h : BytesAt w v l) : ∃ A cap, v = .slice A l.length cap ∧ l.length ≤ cap := by
  rcases h with ⟨rfl, rfl⟩ | ⟨g, off, cap, cs, rfl, h1, _⟩
  · exact ⟨_, _, rfl, Nat.le_refl _⟩
  · exact ⟨_, _, rfl, h1⟩
theorem BytesAt.conv (h : BytesAt w v l) : (convert 30 9 v).run Try.prog w = .ok (.string ⟨l.toArray⟩) w := by
  rcases h with ⟨rfl, rfl⟩ | ⟨g, off, cap, cs, rfl, h1, h2, h3, h4, h5⟩
  · rw [run_convert_bytes_string w 30 9 5 none 0 0 Try.underlying30 Try.underlying5 Try.underlying9]; rfl
  · refine conv_bytes w 30 9 5 _ cap l Try.underlying30 Try.underlying5 Try.underlying9 fun j hj => ?_
    rw [add_off, h3.cell]
    exact h5 j hj
/-- b[:n] -/
theorem BytesAt.take {A : Option Addr} {cap : Nat} (h : BytesAt w (.slice A l.length cap) l) (n : Nat) (h0 : 0 < n) (hn : n ≤ l.length) : BytesAt w (.slice A n cap) (l.take n) := by
  rcases h with ⟨_, rfl⟩ | ⟨g, off, cap', cs, hv, h1, h2, h3, h4, h5⟩
  · simp at hn; omega
  · obtain ⟨rfl, rfl⟩ : A = some ⟨g, off, none⟩ ∧ cap = cap' := by simpa using hv
    have hl : (l.take n).length = n := by rw [List.length_take]; omega
    refine .inr ⟨g, off, cap, cs, by rw [hl], by omega, h2, h3, by omega, fun j hj => ?_⟩
    rw [h5 j (by omega)]
    simp only [bytesVals, List.getElem?_map, List.getElem?_take]
    rw [if_pos (by omega)]
/-- b[n:] -/
theorem BytesAt.drop {A : Option Addr} {cap : Nat} (h : BytesAt w (.slice A l.length cap) l) (n : Nat) (h0 : 0 < n) (hn : n ≤ l.length) :
    ∀ A', A' = (if cap = n then A else A.map (·.add n)) → BytesAt w (.slice A' (l.length - n) (cap - n)) (l.drop n) := by
  rintro A' rfl
  rcases h with ⟨_, rfl⟩ | ⟨g, off, cap', cs, hv, h1, h2, h3, h4, h5⟩
  · simp at hn; omega
  · obtain ⟨rfl, rfl⟩ : A = some ⟨g, off, none⟩ ∧ cap = cap' := by simpa using hv
    have hl : (l.drop n).length = l.length - n := List.length_drop
    by_cases hc : cap = n
    · rw [if_pos hc]
      have h0 : l.drop n = [] := List.drop_of_length_le (by omega)
      refine .inr ⟨g, off, cap - n, cs, by rw [hl], by omega, by omega, h3, by rw [h0]; simp; omega, fun j hj => ?_⟩
      rw [h0] at hj
      simp at hj
    · rw [if_neg hc]
      refine .inr ⟨g, off + n, cap - n, cs, by rw [hl, Option.map_some, add_off], by omega, by omega, h3, by omega, fun j hj => ?_⟩
      rw [Nat.add_assoc, h5 (n + j) (by omega)]
      simp only [bytesVals, List.getElem?_map, List.getElem?_drop]
/-- b[:len(b):len(b)] -/
theorem BytesAt.shut {A : Option Addr} {cap : Nat} (h : BytesAt w (.slice A l.length cap) l) : BytesAt w (.slice A l.length l.length) l := by
  rcases h with ⟨hv, rfl⟩ | ⟨g, off, cap', cs, hv, h1, h2, h3, h4, h5⟩
  · obtain ⟨rfl, _⟩ : A = none ∧ cap = 0 := by simpa using hv
    exact .inl ⟨rfl, rfl⟩
  · obtain ⟨rfl, rfl⟩ : A = some ⟨g, off, none⟩ ∧ cap = cap' := by simpa using hv
    exact .inr ⟨g, off, _, cs, rfl, Nat.le_refl _, by omega, h3, h4, h5⟩
end
end Go.Proofs.Ytjjpekgkaahpbaa
