/- Small words that stand in texts which this seat does not reach. -/
import Derived.Test.YtacbnoagdlelgaaBase
import Derived.Test.YtacbnoagdlelgaaDk1
namespace Go.Proofs.Ytacbnoagdlelgaa
open Go.RowKit Zb

set_option maxRecDepth 20000 in
theorem lt_of_cell {w : World} {g j : Nat} {v : Value} (h : w.cell? ⟨g, j, none⟩ = some v) : g < w.heap.size := by
  rcases Nat.lt_or_ge g w.heap.size with h1 | h1
  · exact h1
  · simp [World.cell?, Array.getElem?_eq_none h1] at h
def restB (s : ByteArray) (k : Nat) : ByteArray := s.extract (64 * k) s.size
set_option maxRecDepth 20000 in
theorem restB_list (s : ByteArray) (k : Nat) : (restB s k).data.toList = s.data.toList.drop (64 * k) := by
  unfold restB
  simp only [ByteArray.data_extract, Array.toList_extract, List.extract_eq_take_drop]
  exact List.take_of_length_le (by simp)
set_option maxRecDepth 20000 in
theorem restB_size (s : ByteArray) (k : Nat) : (restB s k).size = s.size - 64 * k := by
  have h : (restB s k).data.toList.length = (s.data.toList.drop (64 * k)).length := by rw [restB_list]
  rw [List.length_drop] at h
  exact h
set_option maxRecDepth 20000 in
theorem bext {a b : ByteArray} (h : a.data.toList = b.data.toList) : a = b := ByteArray.ext (Array.ext' h)
set_option maxRecDepth 20000 in
theorem zeros_list (n : Nat) : (zeros n).data.toList = List.replicate n 0 := by simp [zeros]
set_option maxRecDepth 20000 in
theorem zeros_size (n : Nat) : (zeros n).size = n := by
  show (Array.replicate n (0 : UInt8)).size = n
  simp
set_option maxRecDepth 20000 in
theorem ext_list (s : ByteArray) (a b : Nat) : (s.extract a b).data.toList = (s.data.toList.drop a).take (b - a) := by
  simp only [ByteArray.data_extract, Array.toList_extract, List.extract_eq_take_drop]
end Go.Proofs.Ytacbnoagdlelgaa
