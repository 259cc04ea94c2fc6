/- Chapter 3: the tag as a model in plain Lean. No program's text. -/
import Derived.Test.YtjjpekgkaahpbaaDigP
namespace Go.Proofs.Ytjjpekgkaahpbaa
open Go.RowKit Zb

def longK (k : List UInt8) : List UInt8 := if 64 < k.length then digW k else k
def padK (k : List UInt8) : List UInt8 := k ++ List.replicate (64 - k.length) 0
/-- a key as it is used -/
def keyM (k : List UInt8) : List UInt8 := padK (longK k)
def mixL (k : List UInt8) (c : UInt8) : List UInt8 := k.map (· ^^^ c)
/-- a text's tag under a key -/
def macM (k s : List UInt8) : List UInt8 := digW (mixL (keyM k) 0x5c ++ digW (mixL (keyM k) 0x36 ++ s))
theorem mixL_length (k : List UInt8) (c : UInt8) : (mixL k c).length = k.length := by simp [mixL]
theorem padK_length (k : List UInt8) (h : k.length ≤ 64) : (padK k).length = 64 := by simp [padK]; omega
theorem wrap_u8 (z : Int) : IntKind.u8.wrap z = z % 256 := rfl
theorem wrap_bv8 (x : BitVec 8) : IntKind.u8.wrap (x.toNat : Int) = (x.toNat : Int) := by
  have := x.isLt
  show (x.toNat : Int) % 256 = _
  omega
theorem xor_bv8 (x y : Int) : bits .xor .u8 x y = ((BitVec.ofInt 8 x ^^^ BitVec.ofInt 8 y).toNat : Int) := wrap_bv8 _
theorem or_bv8 (x y : Int) : bits .or .u8 x y = ((BitVec.ofInt 8 x ||| BitVec.ofInt 8 y).toNat : Int) := wrap_bv8 _
theorem ofInt_u8 (a : UInt8) : BitVec.ofInt 8 (a.toNat : Int) = a.toBitVec := by
  apply BitVec.eq_of_toNat_eq
  have := a.toNat_lt
  rw [BitVec.toNat_ofInt]
  show ((a.toNat : Int) % 256).toNat = a.toNat
  omega
theorem xor_u8 (a c : UInt8) : bits .xor .u8 (a.toNat : Int) (c.toNat : Int) = ((a ^^^ c).toNat : Int) := by
  rw [xor_bv8, ofInt_u8, ofInt_u8]
  rfl
theorem or_u8 (a c : UInt8) : bits .or .u8 (a.toNat : Int) (c.toNat : Int) = ((a ||| c).toNat : Int) := by
  rw [or_bv8, ofInt_u8, ofInt_u8]
  rfl
theorem mixL_take_succ (k : List UInt8) (c : UInt8) (i : Nat) (h : i < k.length) : mixL (k.take (i + 1)) c = mixL (k.take i) c ++ [k[i] ^^^ c] := by
  rw [List.take_succ_eq_append_getElem h, mixL, List.map_append]
  rfl
/-- the bytes gone through so far are combined, the others not yet -/
def mixAt (k : List UInt8) (c : UInt8) (i : Nat) : List UInt8 := mixL (k.take i) c ++ k.drop i
theorem mixAt_length (k : List UInt8) (c : UInt8) (i : Nat) (h : i ≤ k.length) : (mixAt k c i).length = k.length := by
  simp [mixAt, mixL]
  omega
theorem mixAt_get (k : List UInt8) (c : UInt8) (i : Nat) (h : i < k.length) : (mixAt k c i)[i]? = some k[i] := by
  unfold mixAt
  rw [List.getElem?_append_right (by rw [mixL_length, List.length_take]; omega), mixL_length, List.length_take, List.getElem?_drop]
  rw [show i + (i - min i k.length) = i by omega]
  exact List.getElem?_eq_getElem h
theorem mixAt_set (k : List UInt8) (c : UInt8) (i : Nat) (h : i < k.length) : (mixAt k c i).set i (k[i] ^^^ c) = mixAt k c (i + 1) := by
  unfold mixAt
  have hl : (mixL (k.take i) c).length = i := by rw [mixL_length, List.length_take]; omega
  rw [List.set_append_right _ _ (by omega), hl, Nat.sub_self, mixL_take_succ k c i h, List.append_assoc]
  congr 1
  rw [List.drop_eq_getElem_cons h, List.set_cons_zero]
  rfl
theorem mixAt_end (k : List UInt8) (c : UInt8) : mixAt k c k.length = mixL k c := by simp [mixAt]
end Go.Proofs.Ytjjpekgkaahpbaa
