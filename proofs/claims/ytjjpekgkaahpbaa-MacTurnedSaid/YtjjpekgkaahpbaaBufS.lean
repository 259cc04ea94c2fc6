/- A slice of bytes of a call's own that came of a conversion: its cells are written one by one. No program's text but types' numbers. -/
import Derived.Test.YtjjpekgkaahpbaaBufQ
namespace Go.Proofs.Ytjjpekgkaahpbaa
open Go.RowKit Zb

section
variable {w0 w w' : World} {v : Value} {l : List UInt8}
theorem BufQ.form (h : BufQ w0 w v l) (hl : 0 < l.length) : ∃ g c, v = .slice (some ⟨g, 0, none⟩) l.length c := by
  rcases h.row with ⟨_, rfl⟩ | ⟨g, cap, cur, fz, rfl, _⟩
  · simp at hl
  · exact ⟨g, cap, rfl⟩
theorem BufQ.formN {n : Nat} (h : BufQ w0 w v l) (hn : l.length = n) (h0 : 0 < n) : ∃ g c, v = .slice (some ⟨g, 0, none⟩) n c := by
  subst hn
  exact h.form h0
theorem BufQ.frozen {g n c : Nat} (h : BufQ w0 w (.slice (some ⟨g, 0, none⟩) n c) l) (j : Nat) (hj : j < l.length) : w.frozen? ⟨g, j, none⟩ = false := by
  rcases h.row with ⟨hv, _⟩ | ⟨g', cap, cur, fz, hv, hg, h1, h2, h3, h4, h5⟩
  · simp at hv
  · obtain ⟨rfl, _⟩ : g = g' ∧ _ := by simpa using hv
    obtain ⟨lo, hi⟩ := fz
    simp only [World.frozen?, hg]
    rcases h4 with hf | hf
    · cases hf; simp
    · have : ¬ lo ≤ j := by have : cap ≤ lo := hf; omega
      simp [this]
theorem BufQ.set {g n c : Nat} (h : BufQ w0 w (.slice (some ⟨g, 0, none⟩) n c) l) (j : Nat) (b : UInt8) : BufQ w0 (w.setCell ⟨g, j, none⟩ (.int .u8 (b.toNat : Int))) (.slice (some ⟨g, 0, none⟩) n c) (l.set j b) := by
  refine ⟨h.bel.setCell (h.own g rfl).1 _, ?_, fun g' hg' => ⟨(h.own g' hg').1, by have := (h.own g' hg').2; simpa [World.setCell] using this⟩⟩
  rcases h.row with ⟨hv, _⟩ | ⟨g', cap, cur, fz, hv, hg, h1, h2, h3, h4, h5⟩
  · simp at hv
  · obtain ⟨rfl, hn, rfl⟩ : g = g' ∧ n = l.length ∧ c = cap := by simpa using hv
    refine .inr ⟨g, c, cur.setIfInBounds j (.int .u8 (b.toNat : Int)), fz, by rw [hn, List.length_set], by simp [World.setCell, Array.getElem?_modify, hg], by rw [List.length_set]; exact h1, h2, by simpa using h3, h4, fun i hi => ?_⟩
    rw [List.length_set] at hi
    have e : bytesVals (l.set j b) = (bytesVals l).set j (.int .u8 (b.toNat : Int)) := by simp [bytesVals, List.map_set]
    rw [e, Array.getElem?_setIfInBounds, List.getElem?_set, h5 i hi]
    have hlen : (bytesVals l).length = l.length := bytesVals_length l
    by_cases hij : j = i
    · subst hij
      rw [if_pos rfl, if_pos rfl, if_pos (by omega), if_pos (by omega)]
    · rw [if_neg hij, if_neg hij]
end
end Go.Proofs.Ytjjpekgkaahpbaa
