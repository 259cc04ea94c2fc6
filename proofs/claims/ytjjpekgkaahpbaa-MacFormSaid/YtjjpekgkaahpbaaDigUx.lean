/- Chapter 2: words that the laws of several chapters use: two Hashes beside each other; a digest's length; its digits. -/
import Derived.Test.YtjjpekgkaahpbaaDigT
import Derived.Test.YtjjpekgkaahpbaaOctE
namespace Go.Proofs.Ytjjpekgkaahpbaa
open Go.RowKit Zb

theorem HashOf.beside {w w' : World} {b c : Nat} {s t : List UInt8} (hc : HashOf w c t) (hb : HashOf w b s) (hne : c ≠ b) (k : Turned (· = b) w w') : HashOf w' c t :=
  hc.turned k hne fun x hx => by
    subst hx
    obtain ⟨rs, h⟩ := hb
    exact ⟨_, _, h.hb, by decide⟩
theorem outW_length (v : List Int) : (outW v).length = 32 := by rw [outW_eq, outN_length]
theorem digW_length (s : List UInt8) : (digW s).length = 32 := outW_length _
theorem hexOf_calls (l : List UInt8) (h : l.length = 32) (w : World) : Calls Try.prog 17 #[.string ⟨l.toArray⟩] w fun e w' => e = .returned (.string ⟨(hexL l).toArray⟩) ∧ Below w.heap.size w w' :=
  oHex_calls ⟨l.toArray⟩ (by show l.toArray.size ≤ _; rw [List.size_toArray]; omega) w
end Go.Proofs.Ytjjpekgkaahpbaa
