/- Chapter 2: the digest as a model in plain Lean: numbers and lists. No program's text. -/
import Derived.Test.YtjjpekgkaahpbaaBase
namespace Go.Proofs.Ytjjpekgkaahpbaa
open Go.RowKit Zb

abbrev xorW (a b : Int) : Int := bits .xor .u32 a b
abbrev andW (a b : Int) : Int := bits .and .u32 a b
abbrev orW (a b : Int) : Int := bits .or .u32 a b
def addW (a b : Int) : Int := (a + b) % 4294967296
def notW (a : Int) : Int := (-a - 1) % 4294967296
/-- a word turned to the right -/
def rotW (x : Int) (n : Nat) : Int := orW (x / 2 ^ n) (x * 2 ^ (32 - n) % 4294967296)
def chW (e f g : Int) : Int := xorW (andW e f) (andW (notW e) g)
def majW (a b c : Int) : Int := xorW (xorW (andW a b) (andW a c)) (andW b c)
def kW : List Int := [
  0x428a2f98, 0x71374491, 0xb5c0fbcf, 0xe9b5dba5, 0x3956c25b, 0x59f111f1, 0x923f82a4, 0xab1c5ed5,
  0xd807aa98, 0x12835b01, 0x243185be, 0x550c7dc3, 0x72be5d74, 0x80deb1fe, 0x9bdc06a7, 0xc19bf174,
  0xe49b69c1, 0xefbe4786, 0x0fc19dc6, 0x240ca1cc, 0x2de92c6f, 0x4a7484aa, 0x5cb0a9dc, 0x76f988da,
  0x983e5152, 0xa831c66d, 0xb00327c8, 0xbf597fc7, 0xc6e00bf3, 0xd5a79147, 0x06ca6351, 0x14292967,
  0x27b70a85, 0x2e1b2138, 0x4d2c6dfc, 0x53380d13, 0x650a7354, 0x766a0abb, 0x81c2c92e, 0x92722c85,
  0xa2bfe8a1, 0xa81a664b, 0xc24b8b70, 0xc76c51a3, 0xd192e819, 0xd6990624, 0xf40e3585, 0x106aa070,
  0x19a4c116, 0x1e376c08, 0x2748774c, 0x34b0bcb5, 0x391c0cb3, 0x4ed8aa4a, 0x5b9cca4f, 0x682e6ff3,
  0x748f82ee, 0x78a5636f, 0x84c87814, 0x8cc70208, 0x90befffa, 0xa4506ceb, 0xbef9a3f7, 0xc67178f2]
def firstW : List Int := [0x6a09e667, 0xbb67ae85, 0x3c6ef372, 0xa54ff53a, 0x510e527f, 0x9b05688c, 0x1f83d9ab, 0x5be0cd19]
abbrev at0 (l : List Int) (i : Nat) : Int := l.getD i 0
def s0W (x : Int) : Int := xorW (xorW (rotW x 7) (rotW x 18)) (x / 2 ^ 3)
def s1W (x : Int) : Int := xorW (xorW (rotW x 17) (rotW x 19)) (x / 2 ^ 10)
def nextW (w : List Int) : Int := addW (addW (addW (at0 w (w.length - 16)) (s0W (at0 w (w.length - 15)))) (at0 w (w.length - 7))) (s1W (at0 w (w.length - 2)))
def byteI (b : List UInt8) (i : Nat) : Int := ((b.getD i 0).toNat : Int)
def wordW (b : List UInt8) (i : Nat) : Int := orW (orW (orW (byteI b (4 * i) * 2 ^ 24 % 4294967296) (byteI b (4 * i + 1) * 2 ^ 16 % 4294967296)) (byteI b (4 * i + 2) * 2 ^ 8 % 4294967296)) (byteI b (4 * i + 3))
/-- the first n words of a block's 64 -/
def wordsW (b : List UInt8) : Nat → List Int
  | 0 => []
  | n + 1 => if n < 16 then wordsW b n ++ [wordW b n] else wordsW b n ++ [nextW (wordsW b n)]
def t1W (v : List Int) (k w : Int) : Int := addW (addW (addW (addW (at0 v 7) (xorW (xorW (rotW (at0 v 4) 6) (rotW (at0 v 4) 11)) (rotW (at0 v 4) 25))) (chW (at0 v 4) (at0 v 5) (at0 v 6))) k) w
def t2W (v : List Int) : Int := addW (xorW (xorW (rotW (at0 v 0) 2) (rotW (at0 v 0) 13)) (rotW (at0 v 0) 22)) (majW (at0 v 0) (at0 v 1) (at0 v 2))
def stepW (v : List Int) (k w : Int) : List Int := [addW (t1W v k w) (t2W v), at0 v 0, at0 v 1, at0 v 2, addW (at0 v 3) (t1W v k w), at0 v 4, at0 v 5, at0 v 6]
def runW (v : List Int) (ws : List Int) : Nat → List Int
  | 0 => v
  | n + 1 => stepW (runW v ws n) (at0 kW n) (at0 ws n)
def sumW (h v : List Int) : List Int := (List.range 8).map fun i => addW (at0 h i) (at0 v i)
/-- a block taken in -/
def mixW (h : List Int) (b : List UInt8) : List Int := sumW h (runW h (wordsW b 64) 64)
def outW (h : List Int) : List UInt8 := (List.range 8).flatMap fun i => [UInt8.ofNat (at0 h i / 2 ^ 24 % 256).toNat, UInt8.ofNat (at0 h i / 2 ^ 16 % 256).toNat, UInt8.ofNat (at0 h i / 2 ^ 8 % 256).toNat, UInt8.ofNat (at0 h i % 256).toNat]
/-- what stands behind a text of so many bytes -/
def padW (n : Nat) : List UInt8 := 0x80 :: (List.replicate ((119 - n % 64) % 64) 0 ++ (List.range 8).map fun i => UInt8.ofNat (8 * n / 256 ^ (7 - i) % 256))
/-- all whole blocks taken in, and what is left -/
def eatW : Nat → List Int → List UInt8 → List Int × List UInt8
  | 0, h, b => (h, b)
  | n + 1, h, b => if b.length < 64 then (h, b) else eatW n (mixW h (b.take 64)) (b.drop 64)
def digW (s : List UInt8) : List UInt8 := outW (eatW ((s.length + 72) / 64) firstW (s ++ padW s.length)).1
end Go.Proofs.Ytjjpekgkaahpbaa
