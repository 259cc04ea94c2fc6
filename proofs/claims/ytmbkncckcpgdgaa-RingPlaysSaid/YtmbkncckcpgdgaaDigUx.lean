/- Chapter 2: words that the laws of several chapters use: two Hashes beside each other; a digest's length; its digits. -/
import Derived.Test.YtmbkncckcpgdgaaDg3
import Derived.Test.YtmbkncckcpgdgaaOc1
namespace Go.Proofs.Ytmbkncckcpgdgaa
open Go.RowKit Zb

set_option maxRecDepth 20000 in
theorem HashOf.beside {w w' : World} {b c : Nat} {s t : List UInt8} (hc : HashOf w c t) (hb : HashOf w b s) (hne : c ≠ b) (k : Turned (· = b) w w') : HashOf w' c t :=
  hc.turned k hne fun x hx => by
    subst hx
    obtain ⟨rs, h⟩ := hb
    exact ⟨_, _, h.hb, by decide⟩
set_option maxRecDepth 20000 in
theorem outW_length (v : List Int) : (outW v).length = 32 := by rw [outW_eq, outN_length]
set_option maxRecDepth 20000 in
theorem digW_length (s : List UInt8) : (digW s).length = 32 := outW_length _
end Go.Proofs.Ytmbkncckcpgdgaa
