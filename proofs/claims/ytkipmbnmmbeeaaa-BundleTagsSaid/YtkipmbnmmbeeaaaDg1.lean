/- Several texts in one: DigM, DigP, DigA, DigB, DigC, DigD, DigE, DigF, DigG. -/
import Derived.Test.YtkipmbnmmbeeaaaBase
import Derived.Test.YtkipmbnmmbeeaaaProg
import Derived.WalkLawsBesides
import Derived.Outline
import Derived.LoopTactic
import Derived.Deep.LoopGhost
import Derived.Test.YtkipmbnmmbeeaaaHeld
import Derived.Laws.Tables
import Derived.Laws.CopyOwn
import Derived.Deep.QuietTactic
import Derived.BigQuiet
import Derived.IntWalk
/- Chapter 2: the digest as a model in plain Lean: numbers and lists. No program's text. -/
namespace Go.Proofs.Ytkipmbnmmbeeaaa
open Go.RowKit Zb

abbrev xorW (a b : Int) : Int := bits .xor .u32 a b
abbrev andW (a b : Int) : Int := bits .and .u32 a b
abbrev orW (a b : Int) : Int := bits .or .u32 a b
def addW (a b : Int) : Int := (a + b) % 4294967296
def notW (a : Int) : Int := (-a - 1) % 4294967296
/-- a word turned to the right -/
def rotW (x : Int) (n : Nat) : Int := orW (x / 2 ^ n) (x * 2 ^ (32 - n) % 4294967296)
def chW (e f g : Int) : Int := xorW (andW e f) (andW (notW e) g)
def majW (a b c : Int) : Int := xorW (xorW (andW a b) (andW a c)) (andW b c)
def kW : List Int := [
  0x428a2f98, 0x71374491, 0xb5c0fbcf, 0xe9b5dba5, 0x3956c25b, 0x59f111f1, 0x923f82a4, 0xab1c5ed5,
  0xd807aa98, 0x12835b01, 0x243185be, 0x550c7dc3, 0x72be5d74, 0x80deb1fe, 0x9bdc06a7, 0xc19bf174,
  0xe49b69c1, 0xefbe4786, 0x0fc19dc6, 0x240ca1cc, 0x2de92c6f, 0x4a7484aa, 0x5cb0a9dc, 0x76f988da,
  0x983e5152, 0xa831c66d, 0xb00327c8, 0xbf597fc7, 0xc6e00bf3, 0xd5a79147, 0x06ca6351, 0x14292967,
  0x27b70a85, 0x2e1b2138, 0x4d2c6dfc, 0x53380d13, 0x650a7354, 0x766a0abb, 0x81c2c92e, 0x92722c85,
  0xa2bfe8a1, 0xa81a664b, 0xc24b8b70, 0xc76c51a3, 0xd192e819, 0xd6990624, 0xf40e3585, 0x106aa070,
  0x19a4c116, 0x1e376c08, 0x2748774c, 0x34b0bcb5, 0x391c0cb3, 0x4ed8aa4a, 0x5b9cca4f, 0x682e6ff3,
  0x748f82ee, 0x78a5636f, 0x84c87814, 0x8cc70208, 0x90befffa, 0xa4506ceb, 0xbef9a3f7, 0xc67178f2]
def firstW : List Int := [0x6a09e667, 0xbb67ae85, 0x3c6ef372, 0xa54ff53a, 0x510e527f, 0x9b05688c, 0x1f83d9ab, 0x5be0cd19]
abbrev at0 (l : List Int) (i : Nat) : Int := l.getD i 0
def s0W (x : Int) : Int := xorW (xorW (rotW x 7) (rotW x 18)) (x / 2 ^ 3)
def s1W (x : Int) : Int := xorW (xorW (rotW x 17) (rotW x 19)) (x / 2 ^ 10)
def nextW (w : List Int) : Int := addW (addW (addW (at0 w (w.length - 16)) (s0W (at0 w (w.length - 15)))) (at0 w (w.length - 7))) (s1W (at0 w (w.length - 2)))
def byteI (b : List UInt8) (i : Nat) : Int := ((b.getD i 0).toNat : Int)
def wordW (b : List UInt8) (i : Nat) : Int := orW (orW (orW (byteI b (4 * i) * 2 ^ 24 % 4294967296) (byteI b (4 * i + 1) * 2 ^ 16 % 4294967296)) (byteI b (4 * i + 2) * 2 ^ 8 % 4294967296)) (byteI b (4 * i + 3))
/-- the first n words of a block's 64 -/
def wordsW (b : List UInt8) : Nat → List Int
  | 0 => []
  | n + 1 => if n < 16 then wordsW b n ++ [wordW b n] else wordsW b n ++ [nextW (wordsW b n)]
def t1W (v : List Int) (k w : Int) : Int := addW (addW (addW (addW (at0 v 7) (xorW (xorW (rotW (at0 v 4) 6) (rotW (at0 v 4) 11)) (rotW (at0 v 4) 25))) (chW (at0 v 4) (at0 v 5) (at0 v 6))) k) w
def t2W (v : List Int) : Int := addW (xorW (xorW (rotW (at0 v 0) 2) (rotW (at0 v 0) 13)) (rotW (at0 v 0) 22)) (majW (at0 v 0) (at0 v 1) (at0 v 2))
def stepW (v : List Int) (k w : Int) : List Int := [addW (t1W v k w) (t2W v), at0 v 0, at0 v 1, at0 v 2, addW (at0 v 3) (t1W v k w), at0 v 4, at0 v 5, at0 v 6]
def runW (v : List Int) (ws : List Int) : Nat → List Int
  | 0 => v
  | n + 1 => stepW (runW v ws n) (at0 kW n) (at0 ws n)
def sumW (h v : List Int) : List Int := (List.range 8).map fun i => addW (at0 h i) (at0 v i)
/-- a block taken in -/
def mixW (h : List Int) (b : List UInt8) : List Int := sumW h (runW h (wordsW b 64) 64)
def outW (h : List Int) : List UInt8 := (List.range 8).flatMap fun i => [UInt8.ofNat (at0 h i / 2 ^ 24 % 256).toNat, UInt8.ofNat (at0 h i / 2 ^ 16 % 256).toNat, UInt8.ofNat (at0 h i / 2 ^ 8 % 256).toNat, UInt8.ofNat (at0 h i % 256).toNat]
/-- what stands behind a text of so many bytes -/
def padW (n : Nat) : List UInt8 := 0x80 :: (List.replicate ((119 - n % 64) % 64) 0 ++ (List.range 8).map fun i => UInt8.ofNat (8 * n / 256 ^ (7 - i) % 256))
/-- all whole blocks taken in, and what is left -/
def eatW : Nat → List Int → List UInt8 → List Int × List UInt8
  | 0, h, b => (h, b)
  | n + 1, h, b => if b.length < 64 then (h, b) else eatW n (mixW h (b.take 64)) (b.drop 64)
def digW (s : List UInt8) : List UInt8 := outW (eatW ((s.length + 72) / 64) firstW (s ++ padW s.length)).1
end Go.Proofs.Ytkipmbnmmbeeaaa

/- Chapter 2: plain facts of words. No program's text. -/
namespace Go.Proofs.Ytkipmbnmmbeeaaa
open Go.RowKit Zb

abbrev BV (x : Int) : BitVec 32 := BitVec.ofInt 32 x
set_option maxRecDepth 20000 in
theorem wrap_bv (x : BitVec 32) : IntKind.u32.wrap (x.toNat : Int) = (x.toNat : Int) := by
  have := x.isLt
  show (x.toNat : Int) % 4294967296 = _
  omega
set_option maxRecDepth 20000 in
theorem xor_bv (x y : Int) : xorW x y = ((BV x ^^^ BV y).toNat : Int) := wrap_bv _
set_option maxRecDepth 20000 in
theorem and_bv (x y : Int) : andW x y = ((BV x &&& BV y).toNat : Int) := wrap_bv _
set_option maxRecDepth 20000 in
theorem or_bv (x y : Int) : orW x y = ((BV x ||| BV y).toNat : Int) := wrap_bv _
set_option maxRecDepth 20000 in
theorem bv_nat (x : BitVec 32) : BV (x.toNat : Int) = x := by
  apply BitVec.eq_of_toNat_eq
  have := x.isLt
  simp [BV]
set_option maxRecDepth 20000 in
theorem bv_not (x : Int) : BV (notW x) = ~~~ (BV x) := by
  apply BitVec.eq_of_toNat_eq
  rw [BitVec.toNat_not, BitVec.toNat_ofInt, BitVec.toNat_ofInt]
  unfold notW
  show ((-x - 1) % 4294967296 % 4294967296).toNat = 4294967296 - 1 - (x % 4294967296).toNat
  omega
set_option maxRecDepth 20000 in
theorem or_comm_w (x y : Int) : orW x y = orW y x := by rw [or_bv, or_bv, BitVec.or_comm]
set_option maxRecDepth 20000 in
theorem ch_eq (e f g : Int) : xorW g (andW e (xorW f g)) = chW e f g := by
  unfold chW
  simp only [xor_bv, and_bv, bv_nat, bv_not]
  congr 2
  ext i
  simp only [BitVec.getElem_xor, BitVec.getElem_and, BitVec.getElem_not]
  cases (BV e)[i] <;> cases (BV f)[i] <;> cases (BV g)[i] <;> rfl
set_option maxRecDepth 20000 in
theorem maj_eq (a b c : Int) : orW (andW a b) (andW c (orW a b)) = majW a b c := by
  unfold majW
  simp only [xor_bv, and_bv, or_bv, bv_nat]
  congr 2
  ext i
  simp only [BitVec.getElem_xor, BitVec.getElem_and, BitVec.getElem_or]
  cases (BV a)[i] <;> cases (BV b)[i] <;> cases (BV c)[i] <;> rfl
end Go.Proofs.Ytkipmbnmmbeeaaa

/- Chapter 2: the digest's small functions, walked: words turned to the right. -/
namespace Go.Proofs.Ytkipmbnmmbeeaaa
open Go.RowKit Zb

set_option maxRecDepth 20000 in
theorem and31 : ∀ n : Nat, n < 32 → 1 ≤ n → bits .and .u64 (18446744073709551616 - (n : Int)) 31 = 32 - (n : Int) := by decide +kernel
set_option maxRecDepth 20000 in
theorem ret_u32 {a b : Int} (h : a = b) : Ending.returned (.int .u32 a) = Ending.returned (.int .u32 b) := by rw [h]
set_option maxRecDepth 20000 in
theorem rotl_calls (x : Int) (n : Nat) (h0 : 1 ≤ n) (h1 : n < 32) (w : World) : Calls Try.prog 78 #[.int .u32 x, .int .i64 (-(n : Int))] w fun e w' => e = .returned (.int .u32 (rotW x n)) ∧ w = w' := by
  have ha := and31 n h1 h0
  have hm : IntKind.u64.wrap (-(n : Int)) = 18446744073709551616 - (n : Int) := by
    show (-(n : Int)) % 18446744073709551616 = _
    omega
  rw [← hm] at ha
  clear hm
  have hs : ((32 : Int) - n).toNat = 32 - n := by omega
  have hs2 : ((32 : Int) - (32 - (n : Int))).toNat = n := by omega
  have hs3 : (32 : Int) - (32 - (n : Int)) = n := by omega
  go_enter Try.func78, Try.ntmps78
  go_wp2
  go_ret
  refine ⟨ret_u32 ?_, rfl⟩
  exact or_comm_w _ _
set_option maxRecDepth 20000 in
theorem rrotr_calls (x : Int) (n : Nat) (h0 : 1 ≤ n) (h1 : n < 32) (w : World) : Calls Try.prog 69 #[.int .u32 x, .int .i64 (n : Int)] w fun e w' => e = .returned (.int .u32 (rotW x n)) ∧ w = w' := by
  go_enter Try.func69, Try.ntmps69
  go_wp2
  go_ret
  exact ⟨rfl, rfl⟩
set_option maxRecDepth 20000 in
theorem gright_calls (x : Int) (n : Nat) (h0 : 1 ≤ n) (h1 : n < 32) (w : World) : Calls Try.prog 72 #[.int .u32 x, .int .i64 (n : Int)] w fun e w' => e = .returned (.int .u32 (rotW x n)) ∧ w = w' := by
  go_enter Try.func72, Try.ntmps72
  go_wp2_with fail
  refine (rotl_calls x n h0 h1 _).mono ?_
  rintro e w' ⟨rfl, rfl⟩
  go_wp2_with fail
  go_ret
  exact ⟨rfl, rfl⟩
end Go.Proofs.Ytkipmbnmmbeeaaa

/- Chapter 2: word, walked. -/
namespace Go.Proofs.Ytkipmbnmmbeeaaa
open Go.RowKit Zb

set_option maxRecDepth 20000 in
theorem wrap_u32 (z : Int) : IntKind.u32.wrap z = z % 4294967296 := rfl
set_option maxRecDepth 20000 in
theorem p24 : (2 : Int) ^ 24 = 16777216 := rfl
set_option maxRecDepth 20000 in
theorem p16 : (2 : Int) ^ 16 = 65536 := rfl
set_option maxRecDepth 20000 in
theorem p8 : (2 : Int) ^ 8 = 256 := rfl
set_option maxRecDepth 20000 in
theorem gword_calls (s : ByteArray) (a b c d : UInt8) (h : 4 ≤ s.size) (hs : s.size ≤ 140737488351232) (h0 : s[0]'(by omega) = a) (h1 : s[1]'(by omega) = b) (h2 : s[2]'(by omega) = c) (h3 : s[3]'(by omega) = d) (w : World) :
    Calls Try.prog 77 #[.string s] w fun e w' => e = .returned (.int .u32 (orW (orW (orW ((a.toNat : Int) * 2 ^ 24 % 4294967296) ((b.toNat : Int) * 2 ^ 16 % 4294967296)) ((c.toNat : Int) * 2 ^ 8 % 4294967296)) (d.toNat : Int))) ∧ Below w.heap.size w w' := by
  have l0 : 0 < s.size := by omega
  have l1 : 1 < s.size := by omega
  have l2 : 2 < s.size := by omega
  have l3 : 3 < s.size := by omega
  have m0 : (0 : Int) < s.size := by omega
  have m1 : (1 : Int) < s.size := by omega
  have m2 : (2 : Int) < s.size := by omega
  have m3 : (3 : Int) < s.size := by omega
  have ha : (a.toNat : Int) < 256 := by have := a.toNat_lt; omega
  have hb : (b.toNat : Int) < 256 := by have := b.toNat_lt; omega
  have hc : (c.toNat : Int) < 256 := by have := c.toNat_lt; omega
  have hd : (d.toNat : Int) < 256 := by have := d.toNat_lt; omega
  go_enter Try.func77, Try.ntmps77
  go_wp2_with fail
  refine wp_region_heads [0, 1, 2, 3, 4, 5, 6, 7, 8, 9, 10, 11, 12, 13, 14, 15, 16, 17] 1 (fun _ => True) (by kernel_rfl) rfl (by kernel_rfl) (by kernel_rfl) (fun _ _ d _ _ h => by cases d <;> exact h) trivial ?_
  iterate 18
    refine' Heads.step rfl (by rfl) ?_ ?_
    rotate_left
    · intro w' hSw
      go_simp
      try with_reducible rfl
    simp only [Act.put, List.setIfInBounds_toArray, List.set_cons_zero, List.set_cons_succ]
  refine Heads.done ?_
  refine wpAnyH_ready (rs := [18]) (by kernel_rfl) (by simp) (AllReadyH.cons rfl (fun K hK => ?_) AllReadyH.nil)
  go_simp
  refine hK.out _ _ trivial (fun hHeld1 => ?_)
  clear hK K
  refine wpAnyH_done (by kernel_rfl) ?_ _
  go_wp2_with fail
  go_ret
  refine ⟨ret_u32 ?_, ?_⟩
  · have e : ∀ z : Int, 0 ≤ z → z < 256 → z % 4294967296 = z := fun z _ _ => by omega
    simp only [wrap_u32, e _ (Int.natCast_nonneg _) ha, e _ (Int.natCast_nonneg _) hb, e _ (Int.natCast_nonneg _) hc, e _ (Int.natCast_nonneg _) hd, p24, p16, p8]
  exact (Below.refl _ _).drew
end Go.Proofs.Ytkipmbnmmbeeaaa

/- Chapter 2: the tables of constants, walked. -/
namespace Go.Proofs.Ytkipmbnmmbeeaaa
open Go.RowKit Zb

/-- words as cells -/
def wcs (l : List Int) : List Value := l.map fun x => .int .u32 x
/-- one result, which lies in a row of its own -/
theorem ret_cell1 {P : Program} {fn : Func} {p : Tmp} {ty t : TypeId} {R : Ending → World → Prop} {a : Act} {w : World} {g : Nat} {cs : Array Value} {d : TypeDesc} (h : fn.results = #[.cell p ty]) (hd : a.defers = [])
    (hp : a.tmps.getD p undef = .pointer (some ⟨g, 0, none⟩)) (hg : Blk w g t cs) (hu : P.underlying ty = some d) (hs : (match d with | .struct _ | .array _ _ => true | _ => false) = true) (hi : (P.info? ty).map (·.size) = some cs.size)
    (hR : R (.returned (.agg cs)) w) : bodyPost P fn R .ret a w :=
  bodyPost_ret (v := .agg cs) (results_cell_row h _ _ g t cs (0, 0) d hp hg hu hs hi) hd hR
set_option maxRecDepth 20000 in
theorem gfirst_calls (w : World) : Calls Try.prog 56 #[] w fun e w' => e = .returned (.agg (wcs firstW).toArray) ∧ Below w.heap.size w w' := by
  go_enter Try.func56, Try.ntmps56
  go_wp2_with fail
  exact ret_cell1 rfl rfl rfl (Blk.new w 79 _) Try.underlying79 rfl (by kernel_rfl) ⟨rfl, (Below.refl _ _).alloc (Nat.le_refl _) _⟩
end Go.Proofs.Ytkipmbnmmbeeaaa

/- Chapter 2: the table of 64 constants, walked. -/
namespace Go.Proofs.Ytkipmbnmmbeeaaa
open Go.RowKit Zb

set_option maxRecDepth 20000 in
set_option maxHeartbeats 4000000 in
theorem gconst_calls (w : World) : Calls Try.prog 70 #[] w fun e w' => e = .returned (.agg (wcs kW).toArray) ∧ Below w.heap.size w w' := by
  go_enter Try.func70, Try.ntmps70
  iterate 14
    first
    | (with_reducible show wpList _ _ _ (⟨some 1, _, _, _, _, _⟩ :: _) _ _)
    | go_step
  with_reducible show wpList _ _ _ (⟨some 1, _, _, _, _, _⟩ :: _) _ _
  refine wpList_build rfl _ _ rfl (by kernel_rfl) ?_
  refine wpList_store_row rfl _ _ _ rfl w.heap.size (wcs kW).toArray rfl (by kernel_rfl) 87 _ (Blk.new w 87 _) (by kernel_rfl) (by kernel_rfl) (by kernel_rfl) ?_
  have HK : ∀ o, Below w.heap.size w (w.alloc o) := fun o => (Below.refl _ _).alloc (Nat.le_refl _) _
  generalize hw1 : w.alloc _ = w1
  have hB : Below w.heap.size w w1 := by rw [← hw1]; exact HK _
  obtain ⟨old, hg⟩ : ∃ old, Blk w1 w.heap.size 87 old := ⟨_, by rw [← hw1]; exact Blk.new w 87 _⟩
  clear hw1 HK
  have hR : Blk (w1.setRow w.heap.size (wcs kW).toArray) w.heap.size 87 (wcs kW).toArray := setRow_heap w1 _ old _ _ _ hg
  have hB2 : Below w.heap.size w (w1.setRow w.heap.size (wcs kW).toArray) := below_setRow hB (Nat.le_refl _) _
  generalize w1.setRow w.heap.size (wcs kW).toArray = w2 at *
  repeat go_step
  exact ret_cell1 rfl rfl rfl hR Try.underlying87 rfl (by kernel_rfl) ⟨rfl, hB2⟩
end Go.Proofs.Ytkipmbnmmbeeaaa

/- Chapter 2: whether a Hash is there. -/
namespace Go.Proofs.Ytkipmbnmmbeeaaa
open Go.RowKit Zb

set_option maxRecDepth 20000 in
theorem gthere_nil (w : World) : Calls Try.prog 57 #[.pointer none] w fun e w' => e = .returned (.bool false) ∧ w = w' := by
  go_enter Try.func57, Try.ntmps57
  go_wp2_with fail
  go_ret
  exact ⟨rfl, rfl⟩
set_option maxRecDepth 20000 in
theorem gthere_calls (b : Nat) (made : Bool) (w : World) (h : w.cell? ⟨b, 0, none⟩ = some (.bool made)) : Calls Try.prog 57 #[.pointer (some ⟨b, 0, none⟩)] w fun e w' => e = .returned (.bool made) ∧ w = w' := by
  go_enter Try.func57, Try.ntmps57
  go_wp2_with fail
  go_ret
  exact ⟨rfl, rfl⟩
end Go.Proofs.Ytkipmbnmmbeeaaa

/- Chapter 2: spread (the 64 words of a block), walked. -/
namespace Go.Proofs.Ytkipmbnmmbeeaaa
open Go.RowKit Zb

def padTo (l : List Int) : List Int := l ++ List.replicate (64 - l.length) 0
set_option maxRecDepth 20000 in
theorem padTo_length (l : List Int) (h : l.length ≤ 64) : (padTo l).length = 64 := by unfold padTo; simp; omega
set_option maxRecDepth 20000 in
theorem padTo_set (l : List Int) (x : Int) (h : l.length < 64) : (padTo l).set l.length x = padTo (l ++ [x]) := by
  unfold padTo
  rw [List.set_append_right _ _ (Nat.le_refl _), Nat.sub_self, List.length_append, List.append_assoc]
  congr 1
  rw [show 64 - l.length = (64 - (l.length + [x].length)) + 1 by simp; omega, List.replicate_succ, List.set_cons_zero]
  rfl
set_option maxRecDepth 20000 in
theorem padTo_full (l : List Int) (h : l.length = 64) : padTo l = l := by unfold padTo; rw [h]; simp
set_option maxRecDepth 20000 in
theorem at0_padTo (l : List Int) (i : Nat) (h : i < l.length) : at0 (padTo l) i = at0 l i := by
  unfold padTo at0
  simp [List.getD, List.getElem?_append, h]
set_option maxRecDepth 20000 in
theorem wcs_length (l : List Int) : (wcs l).length = l.length := by simp [wcs]
set_option maxRecDepth 20000 in
theorem wcs_set (l : List Int) (i : Nat) (x : Int) : (wcs l).toArray.setIfInBounds i (.int .u32 x) = (wcs (l.set i x)).toArray := by simp [wcs, List.map_set]
set_option maxRecDepth 20000 in
theorem wcs_get (l : List Int) (i : Nat) (h : i < l.length) : (wcs l).toArray[i]? = some (.int .u32 (at0 l i)) := by
  simp [wcs, at0, h]
set_option maxRecDepth 20000 in
theorem wordsW_length (b : List UInt8) : ∀ n, (wordsW b n).length = n
  | 0 => rfl
  | n + 1 => by unfold wordsW; split <;> simp [wordsW_length b n]
set_option maxRecDepth 20000 in
theorem wordsW_lo (b : List UInt8) (n : Nat) (h : n < 16) : wordsW b (n + 1) = wordsW b n ++ [wordW b n] := by rw [wordsW, if_pos h]
set_option maxRecDepth 20000 in
theorem wordsW_hi (b : List UInt8) (n : Nat) (h : ¬ n < 16) : wordsW b (n + 1) = wordsW b n ++ [nextW (wordsW b n)] := by rw [wordsW, if_neg h]
set_option maxRecDepth 20000 in
theorem wordW_of (s : ByteArray) (k : Nat) (h : 4 * k + 4 ≤ s.size) :
    orW (orW (orW (((s[4 * k]'(by omega)).toNat : Int) * 2 ^ 24 % 4294967296) (((s[4 * k + 1]'(by omega)).toNat : Int) * 2 ^ 16 % 4294967296)) (((s[4 * k + 2]'(by omega)).toNat : Int) * 2 ^ 8 % 4294967296)) (((s[4 * k + 3]'(by omega)).toNat : Int)) = wordW s.data.toList k := by
  have e : ∀ j (hj : j < s.size), ((s[j]).toNat : Int) = byteI s.data.toList j := by
    intro j hj
    unfold byteI
    have hj' : j < s.data.toList.length := by simpa using hj
    rw [List.getD, List.getElem?_eq_getElem hj']
    rfl
  rw [e, e, e, e]
  rfl
set_option maxRecDepth 20000 in
theorem ext_get (s : ByteArray) (a b j : Nat) (h : a + j < b) (hb : b ≤ s.size) : (s.extract a b)[j]'(by rw [ByteArray.size_extract]; omega) = s[a + j]'(by omega) := by rw [ByteArray.getElem_extract]

set_option maxRecDepth 20000 in
theorem gword_at (s : ByteArray) (k : Nat) (h : 4 * k + 4 ≤ s.size) (hs : s.size ≤ 140737488351232) (w : World) :
    Calls Try.prog 77 #[.string (s.extract (4 * k) s.size)] w fun e w' => e = .returned (.int .u32 (wordW s.data.toList k)) ∧ Below w.heap.size w w' := by
  have hz : (s.extract (4 * k) s.size).size = s.size - 4 * k := by rw [ByteArray.size_extract]; omega
  have := gword_calls (s.extract (4 * k) s.size) _ _ _ _ (by omega) (by omega) (ext_get s (4 * k) s.size 0 (by omega) (Nat.le_refl _)) (ext_get s (4 * k) s.size 1 (by omega) (Nat.le_refl _)) (ext_get s (4 * k) s.size 2 (by omega) (Nat.le_refl _)) (ext_get s (4 * k) s.size 3 (by omega) (Nat.le_refl _)) w
  rw [← wordW_of s k h]
  exact this
set_option maxRecDepth 20000 in
theorem s0_of (x : Int) : bits .xor .u32 (bits .xor .u32 (rotW x 7) (rotW x 18)) (x / 8) = s0W x := rfl
set_option maxRecDepth 20000 in
theorem s1_of (x : Int) : bits .xor .u32 (bits .xor .u32 (rotW x 17) (rotW x 19)) (x / 1024) = s1W x := rfl

def SpR (w : World) (b : List UInt8) (k : Nat) (wr : World) : Prop :=
  Below w.heap.size w wr ∧ Blk wr w.heap.size 87 (wcs (padTo [])).toArray ∧ Blk wr (w.heap.size + 1) 87 (wcs (padTo (wordsW b k))).toArray

set_option maxRecDepth 20000 in
theorem SpR.start (w : World) (b : List UInt8) : SpR w b 0 ((w.alloc (.cells (wcs (padTo [])).toArray 87)).alloc (.cells (wcs (padTo [])).toArray 87)) :=
  ⟨((Below.refl _ _).alloc (Nat.le_refl _) _).alloc (by simp) _, (Blk.new w 87 _).alloc _, by
    have := Blk.new (w.alloc (.cells (wcs (padTo [])).toArray 87)) 87 (wcs (padTo [])).toArray
    have e : (w.alloc (.cells (wcs (padTo [])).toArray 87)).heap.size = w.heap.size + 1 := by simp
    rw [e] at this
    exact this⟩
set_option maxRecDepth 20000 in
theorem SpR.step {w : World} {b : List UInt8} {k : Nat} {wr : World} (h : SpR w b k wr) {w1 : World} (hb : Below wr.heap.size wr w1) (hk : k < 64) (x : Int) (hx : wordsW b (k + 1) = wordsW b k ++ [x]) : SpR w b (k + 1) (w1.setCell ⟨w.heap.size + 1, k, none⟩ (.int .u32 x)) := by
  obtain ⟨h1, h2, h3⟩ := h
  have s1 := h1.size
  refine ⟨(h1.trans (hb.mono s1)).setCell (by simp) _, (h2.below hb h2.lt).far (by simp) _, ?_⟩
  have := (h3.below hb h3.lt).set_ k (.int .u32 x)
  rw [wcs_set] at this
  have hl := wordsW_length b k
  have e := padTo_set (wordsW b k) x (by omega)
  rw [hl] at e
  rw [e, ← hx] at this
  exact this
set_option maxRecDepth 20000 in
theorem SpR.cell {w : World} {b : List UInt8} {k : Nat} {wr : World} (h : SpR w b k wr) (i : Nat) (hi : i < k) (hk : k ≤ 64) : wr.cell? ⟨w.heap.size + 1, i, none⟩ = some (.int .u32 (at0 (wordsW b k) i)) := by
  have hl := wordsW_length b k
  rw [h.2.2.cell, wcs_get _ _ (by rw [padTo_length _ (by omega)]; omega), at0_padTo _ _ (by omega)]
set_option maxRecDepth 20000 in
theorem SpR.any {w : World} {b : List UInt8} {k : Nat} {wr : World} (h : SpR w b k wr) (hk : k < 64) : ∃ x, wr.cell? ⟨w.heap.size + 1, k, none⟩ = some x := by
  have hl := wordsW_length b k
  exact ⟨_, by rw [h.2.2.cell, wcs_get _ _ (by rw [padTo_length _ (by omega)]; omega)]⟩

set_option maxRecDepth 20000 in
set_option maxHeartbeats 4000000 in
theorem gspread_calls (s : ByteArray) (h : s.size = 64) (w : World) : Calls Try.prog 71 #[.string s] w fun e w' => e = .returned (.agg (wcs (wordsW s.data.toList 64)).toArray) ∧ Below w.heap.size w w' := by
  have HI0 := hide (SpR.start w s.data.toList)
  have HS := hide h
  have hsz : s.size ≤ 64 := by omega
  have hsz2 : 64 ≤ s.size := by omega
  clear h
  go_enter Try.func71, Try.ntmps71
  go_wp2_with fail
  go_loopw [9] (fun i wr => ∃ k : Nat, k ≤ 64 ∧ i = .int .i64 k ∧ Hid (SpR w s.data.toList k wr)) (fun i _ => 64 - (intOf i).toNat)
  case atStart => exact ⟨0, Nat.zero_le _, rfl, HI0⟩
  case round =>
  clear HI0
  obtain ⟨k, hk, rfl, hinv⟩ := hrel
  by_cases hlt : k < 64
  · obtain ⟨xk, hxk⟩ := hinv.out.any hlt
    have hfz : wr.frozen? ⟨w.heap.size + 1, k, none⟩ = false := hinv.out.2.2.frozen k
    by_cases hlo : k < 16
    · have hkI : (k : Int) < 16 := by omega
      have h4 : (4 : Int) * k ≤ s.size := by omega
      go_wp2_with fail
      refine (gword_at s k (by have := HS.out; omega) (by omega) wr).mono ?_
      rintro e w2 ⟨rfl, hb2⟩
      have hx2 : w2.cell? ⟨w.heap.size + 1, k, none⟩ = some xk := (hb2.cell (p := ⟨w.heap.size + 1, k, none⟩) hinv.out.2.2.lt).trans hxk
      have hf2 : w2.frozen? ⟨w.heap.size + 1, k, none⟩ = false := (hb2.frozen (p := ⟨w.heap.size + 1, k, none⟩) hinv.out.2.2.lt).trans hfz
      have HN := hide (hinv.out.step hb2 hlt (wordW s.data.toList k) (wordsW_lo _ _ hlo))
      clear hb2 hxk hfz
      go_wp2_with fail
      go_roundw
      case rel => exact ⟨k + 1, by omega, by go_num, HN⟩
      case measure => simp [intOf]; omega
    · obtain ⟨p15, hp15⟩ : ∃ p, p + 15 = k := ⟨k - 15, by omega⟩
      obtain ⟨p2, hp2⟩ : ∃ p, p + 2 = k := ⟨k - 2, by omega⟩
      obtain ⟨p16, hp16⟩ : ∃ p, p + 16 = k := ⟨k - 16, by omega⟩
      obtain ⟨p7, hp7⟩ : ∃ p, p + 7 = k := ⟨k - 7, by omega⟩
      have hgt : decide ((k : Int) < 16) = false := by simp; omega
      have y15 := hinv.out.cell p15 (by omega) hk
      have y2 := hinv.out.cell p2 (by omega) hk
      have y16 := hinv.out.cell p16 (by omega) hk
      have y7 := hinv.out.cell p7 (by omega) hk
      have hw := wordsW_hi s.data.toList k hlo
      have hl := wordsW_length s.data.toList k
      unfold nextW at hw
      rw [hl, show k - 15 = p15 by omega, show k - 2 = p2 by omega, show k - 16 = p16 by omega, show k - 7 = p7 by omega] at hw
      have i15 : p15 < 64 := by omega
      have i2 : p2 < 64 := by omega
      have i16 : p16 < 64 := by omega
      have i7 : p7 < 64 := by omega
      have j15 : (p15 : Int) < 64 := by omega
      have j2 : (p2 : Int) < 64 := by omega
      have j16 : (p16 : Int) < 64 := by omega
      have j7 : (p7 : Int) < 64 := by omega
      have s15 : IntKind.i64.wrap ((k : Int) - 15) = (p15 : Int) := by rw [IntWalk.i64_in _ (by omega)]; omega
      have s2 : IntKind.i64.wrap ((k : Int) - 2) = (p2 : Int) := by rw [IntWalk.i64_in _ (by omega)]; omega
      have s16 : IntKind.i64.wrap ((k : Int) - 16) = (p16 : Int) := by rw [IntWalk.i64_in _ (by omega)]; omega
      have s7 : IntKind.i64.wrap ((k : Int) - 7) = (p7 : Int) := by rw [IntWalk.i64_in _ (by omega)]; omega
      generalize at0 (wordsW s.data.toList k) p15 = x15 at *
      generalize at0 (wordsW s.data.toList k) p2 = x2 at *
      generalize at0 (wordsW s.data.toList k) p16 = x16 at *
      generalize at0 (wordsW s.data.toList k) p7 = x7 at *
      have HW := hide hw
      clear hw hl hp15 hp2 hp16 hp7 hlo
      go_wp2_with fail
      go_quiet (fail)
      clear s15 s2
      go_wp2_with fail
      refine (gright_calls x15 7 (by omega) (by omega) _).mono ?_
      rintro e w' ⟨rfl, rfl⟩
      go_wp2_with fail
      refine (gright_calls x15 18 (by omega) (by omega) _).mono ?_
      rintro e w' ⟨rfl, rfl⟩
      go_wp2_with fail
      refine (gright_calls x2 17 (by omega) (by omega) _).mono ?_
      rintro e w' ⟨rfl, rfl⟩
      go_wp2_with fail
      refine (gright_calls x2 19 (by omega) (by omega) _).mono ?_
      rintro e w' ⟨rfl, rfl⟩
      go_wp2_with fail
      rw [s0_of, s1_of]
      refine wp_region_tail 15 rfl (by kernel_rfl) ?_
      repeat still_step
      refine wpStill_nil ?_
      have HN := fun x hx => hide (hinv.out.step (show Below wr.heap.size wr (wr.drewN nq).drew from ⟨rfl, rfl, rfl, Nat.le_refl _, fun _ _ => rfl⟩) hlt x hx)
      generalize s0W x15 = s0 at *
      generalize s1W x2 = s1 at *
      rw [show addW (addW (addW x16 s0) x7) s1 = (x16 + s0 + x7 + s1) % 4294967296 by unfold addW; omega] at HW
      go_wp2_with fail
      go_roundw
      case rel => exact ⟨k + 1, by omega, by go_num, HN _ HW.out⟩
      case measure => simp [intOf]; omega
  · obtain rfl : k = 64 := by omega
    have HF := hide (padTo_full _ (wordsW_length s.data.toList 64))
    obtain ⟨hb, h0, h1⟩ := hinv.out
    have h2 : Blk (wr.setRow w.heap.size (wcs (wordsW s.data.toList 64)).toArray) w.heap.size 87 (wcs (wordsW s.data.toList 64)).toArray := setRow_heap wr _ _ _ _ _ h0
    have HB2 : Hid (Below w.heap.size w (wr.setRow w.heap.size (wcs (wordsW s.data.toList 64)).toArray)) := hide (below_setRow hb (Nat.le_refl _) _)
    have HR2 := hide h2
    have H0 := hide h0
    have H1 := hide h1
    rw [HF.out] at H1
    clear hb h0 h1 h2
    have hln : (wcs (wordsW s.data.toList 64)).toArray.size = 64 := by rw [List.size_toArray, wcs_length, wordsW_length]
    have hone : (wcs (wordsW s.data.toList 64)).toArray.all (·.oneCell') = true := by simp [wcs]; intro _ _; rfl
    have HLN := hide hln
    have HONE := hide hone
    clear hln hone
    go_wp2_with ((with_reducible show wpList _ _ _ (⟨some 61, _, _, _, _, _⟩ :: _) _ _); refine wpList_load_row rfl _ _ rfl (w.heap.size + 1) rfl 87 _ (0, 0) _ H1.out Try.underlying87 rfl (by rw [HLN.out]; kernel_rfl) ?_; refine wpList_store_row rfl _ _ _ rfl w.heap.size _ rfl rfl 87 _ H0.out (by rw [HLN.out]; kernel_rfl) (by rw [HLN.out]; rfl) HONE.out ?_)
    generalize wr.setRow w.heap.size (wcs (wordsW s.data.toList 64)).toArray = w2 at *
    repeat go_step
    exact ret_cell1 rfl rfl rfl HR2.out Try.underlying87 rfl (by rw [HLN.out]; kernel_rfl) ⟨rfl, HB2.out⟩
end Go.Proofs.Ytkipmbnmmbeeaaa

/- Chapter 2: mix (a block taken in), walked. -/
namespace Go.Proofs.Ytkipmbnmmbeeaaa
open Go.RowKit Zb

set_option maxRecDepth 20000 in
theorem gr2 (x : Int) (w : World) : Calls Try.prog 72 #[.int .u32 x, .int .i64 2] w fun e w' => e = .returned (.int .u32 (rotW x 2)) ∧ w = w' := gright_calls x 2 (by omega) (by omega) w
set_option maxRecDepth 20000 in
theorem gr6 (x : Int) (w : World) : Calls Try.prog 72 #[.int .u32 x, .int .i64 6] w fun e w' => e = .returned (.int .u32 (rotW x 6)) ∧ w = w' := gright_calls x 6 (by omega) (by omega) w
set_option maxRecDepth 20000 in
theorem gr11 (x : Int) (w : World) : Calls Try.prog 72 #[.int .u32 x, .int .i64 11] w fun e w' => e = .returned (.int .u32 (rotW x 11)) ∧ w = w' := gright_calls x 11 (by omega) (by omega) w
set_option maxRecDepth 20000 in
theorem gr13 (x : Int) (w : World) : Calls Try.prog 72 #[.int .u32 x, .int .i64 13] w fun e w' => e = .returned (.int .u32 (rotW x 13)) ∧ w = w' := gright_calls x 13 (by omega) (by omega) w
set_option maxRecDepth 20000 in
theorem gr22 (x : Int) (w : World) : Calls Try.prog 72 #[.int .u32 x, .int .i64 22] w fun e w' => e = .returned (.int .u32 (rotW x 22)) ∧ w = w' := gright_calls x 22 (by omega) (by omega) w
set_option maxRecDepth 20000 in
theorem gr25 (x : Int) (w : World) : Calls Try.prog 72 #[.int .u32 x, .int .i64 25] w fun e w' => e = .returned (.int .u32 (rotW x 25)) ∧ w = w' := gright_calls x 25 (by omega) (by omega) w
set_option maxRecDepth 20000 in
theorem ch_bits (e f g : Int) : bits .xor .u32 g (bits .and .u32 e (bits .xor .u32 f g)) = chW e f g := ch_eq e f g
set_option maxRecDepth 20000 in
theorem maj_bits (a b c : Int) : bits .or .u32 (bits .and .u32 a b) (bits .and .u32 c (bits .or .u32 a b)) = majW a b c := maj_eq a b c
def S1W (e : Int) : Int := xorW (xorW (rotW e 6) (rotW e 11)) (rotW e 25)
def S0W (a : Int) : Int := xorW (xorW (rotW a 2) (rotW a 13)) (rotW a 22)
set_option maxRecDepth 20000 in
theorem S1_bits (e : Int) : bits .xor .u32 (bits .xor .u32 (rotW e 6) (rotW e 11)) (rotW e 25) = S1W e := rfl
set_option maxRecDepth 20000 in
theorem S0_bits (a : Int) : bits .xor .u32 (bits .xor .u32 (rotW a 2) (rotW a 13)) (rotW a 22) = S0W a := rfl

/-- mix at its loop: the state's row, the result's, the two tables. -/
structure MixAt (w wr : World) (v : List Int) (ws : List Int) (g5 g6 : Nat) : Prop where
  bel : Below w.heap.size w wr
  hv : Blk wr w.heap.size 79 (wcs v).toArray
  hr : Blk wr (w.heap.size + 1) 79 (wcs [0, 0, 0, 0, 0, 0, 0, 0]).toArray
  hk : Blk wr g5 87 (wcs kW).toArray
  hw : Blk wr g6 87 (wcs ws).toArray
set_option maxRecDepth 20000 in
theorem MixAt.below {w wr w2 : World} {v ws : List Int} {g5 g6 : Nat} (h : MixAt w wr v ws g5 g6) (hb : Below wr.heap.size wr w2) : MixAt w w2 v ws g5 g6 :=
  ⟨h.bel.trans (hb.mono h.bel.size), h.hv.below hb h.hv.lt, h.hr.below hb h.hr.lt, h.hk.below hb h.hk.lt, h.hw.below hb h.hw.lt⟩
set_option maxRecDepth 20000 in
theorem below_drewN (w : World) (n : Nat) : Below w.heap.size w (w.drewN n) := ⟨rfl, rfl, rfl, Nat.le_refl _, fun _ _ => rfl⟩
set_option maxRecDepth 20000 in
theorem kW_length : kW.length = 64 := rfl

/-- the two tables laid, their cells written -/
def mixW2 (w2 : World) (ws : List Int) : World := (((w2.alloc (.cells (wcs (padTo [])).toArray 87)).alloc (.cells (wcs (padTo [])).toArray 87)).setRow w2.heap.size (wcs kW).toArray).setRow (w2.heap.size + 1) (wcs ws).toArray
set_option maxRecDepth 20000 in
theorem mix_b5 (w2 : World) : Blk ((w2.alloc (.cells (wcs (padTo [])).toArray 87)).alloc (.cells (wcs (padTo [])).toArray 87)) w2.heap.size 87 (wcs (padTo [])).toArray := (Blk.new w2 87 _).alloc _
set_option maxRecDepth 20000 in
theorem mix_b6 (w2 : World) (cs : Array Value) : Blk (((w2.alloc (.cells (wcs (padTo [])).toArray 87)).alloc (.cells (wcs (padTo [])).toArray 87)).setRow w2.heap.size cs) (w2.heap.size + 1) 87 (wcs (padTo [])).toArray := by
  have := Blk.new (w2.alloc (.cells (wcs (padTo [])).toArray 87)) 87 (wcs (padTo [])).toArray
  have e : (w2.alloc (.cells (wcs (padTo [])).toArray 87)).heap.size = w2.heap.size + 1 := by simp
  rw [e] at this
  exact (setRow_other _ _ _ _ (by omega)).trans this
set_option maxRecDepth 20000 in
theorem MixAt.start {w w1 w2 : World} {v ws : List Int}
    (hb1 : Below ((w.alloc (.cells (wcs v).toArray 79)).alloc (.cells (wcs [0, 0, 0, 0, 0, 0, 0, 0]).toArray 79)).heap.size ((w.alloc (.cells (wcs v).toArray 79)).alloc (.cells (wcs [0, 0, 0, 0, 0, 0, 0, 0]).toArray 79)) w1) (hb2 : Below w1.heap.size w1 w2) :
    MixAt w (mixW2 w2 ws) v ws w2.heap.size (w2.heap.size + 1) := by
  have hb : Below w2.heap.size w2 (mixW2 w2 ws) := below_setRow (below_setRow (((Below.refl _ _).alloc (Nat.le_refl _) _).alloc (by simp) _) (Nat.le_refl _) _) (by simp) _
  have s1 := hb1.size
  have s2 := hb2.size
  simp only [World.size_alloc] at s1
  have b0 : Below w.heap.size w ((w.alloc (.cells (wcs v).toArray 79)).alloc (.cells (wcs [0, 0, 0, 0, 0, 0, 0, 0]).toArray 79)) := ((Below.refl _ _).alloc (Nat.le_refl _) _).alloc (by simp) _
  have hbb := ((hb1.trans (hb2.mono hb1.size)).trans (hb.mono (by have := hb1.size; omega)))
  have hn : Blk ((w.alloc (.cells (wcs v).toArray 79)).alloc (.cells (wcs [0, 0, 0, 0, 0, 0, 0, 0]).toArray 79)) (w.heap.size + 1) 79 (wcs [0, 0, 0, 0, 0, 0, 0, 0]).toArray := by
    have := Blk.new (w.alloc (.cells (wcs v).toArray 79)) 79 (wcs [0, 0, 0, 0, 0, 0, 0, 0]).toArray
    have e : (w.alloc (.cells (wcs v).toArray 79)).heap.size = w.heap.size + 1 := by simp
    rw [e] at this
    exact this
  have hv : Blk ((w.alloc (.cells (wcs v).toArray 79)).alloc (.cells (wcs [0, 0, 0, 0, 0, 0, 0, 0]).toArray 79)) w.heap.size 79 (wcs v).toArray := (Blk.new w 79 _).alloc _
  refine ⟨b0.trans (hbb.mono (by simp; omega)), hv.below hbb hv.lt, hn.below hbb hn.lt, ?_, setRow_heap _ _ _ _ _ _ (mix_b6 w2 (wcs kW).toArray)⟩
  exact (setRow_other _ _ _ _ (by omega)).trans (setRow_heap _ _ _ _ _ _ (mix_b5 w2))
set_option maxRecDepth 20000 in
theorem MixAt.vcells {w wr : World} {ws : List Int} {g5 g6 : Nat} {v0 v1 v2 v3 v4 v5 v6 v7 : Int} (h : MixAt w wr [v0, v1, v2, v3, v4, v5, v6, v7] ws g5 g6) :
    wr.cell? ⟨w.heap.size, 0, none⟩ = some (.int .u32 v0) ∧ wr.cell? ⟨w.heap.size, 1, none⟩ = some (.int .u32 v1) ∧ wr.cell? ⟨w.heap.size, 2, none⟩ = some (.int .u32 v2) ∧ wr.cell? ⟨w.heap.size, 3, none⟩ = some (.int .u32 v3) ∧
    wr.cell? ⟨w.heap.size, 4, none⟩ = some (.int .u32 v4) ∧ wr.cell? ⟨w.heap.size, 5, none⟩ = some (.int .u32 v5) ∧ wr.cell? ⟨w.heap.size, 6, none⟩ = some (.int .u32 v6) ∧ wr.cell? ⟨w.heap.size, 7, none⟩ = some (.int .u32 v7) :=
  ⟨h.hv.cell 0, h.hv.cell 1, h.hv.cell 2, h.hv.cell 3, h.hv.cell 4, h.hv.cell 5, h.hv.cell 6, h.hv.cell 7⟩

set_option maxRecDepth 100000 in
set_option maxHeartbeats 4000000 in
theorem gmix_calls (v0 v1 v2 v3 v4 v5 v6 v7 : Int) (s : ByteArray) (h : s.size = 64) (w : World) : Calls Try.prog 58 #[.agg (wcs [v0, v1, v2, v3, v4, v5, v6, v7]).toArray, .string s] w fun e w' => e = .returned (.agg (wcs (mixW [v0, v1, v2, v3, v4, v5, v6, v7] s.data.toList)).toArray) ∧ Below w.heap.size w w' := by
  have HS := hide h
  clear h
  obtain ⟨ws, hws⟩ : ∃ ws, wordsW s.data.toList 64 = ws := ⟨_, rfl⟩
  have hlw : ws.length = 64 := by rw [← hws, wordsW_length]
  have HLW := hide hlw
  have HWS := hide hws
  clear hlw hws
  go_enter Try.func58, Try.ntmps58
  go_wp2_with fail
  refine (gconst_calls _).mono ?_
  rintro e w1 ⟨rfl, hb1⟩
  go_wp2_with fail
  refine (gspread_calls s HS.out _).mono ?_
  rintro e w2 ⟨rfl, hb2⟩
  rw [HWS.out]
  have HM := hide (MixAt.start (ws := ws) hb1 hb2)
  have H5 := hide (mix_b5 w2)
  have H6 := hide (mix_b6 w2 (wcs kW).toArray)
  have HL1 : Hid ((wcs ws).toArray.size = 64) := hide (by rw [List.size_toArray, wcs_length, HLW.out])
  have HONE : Hid ((wcs ws).toArray.all (·.oneCell') = true) := hide (by simp [wcs]; intro _ _; rfl)
  clear hb1 hb2
  go_wp2_with ((with_reducible show wpList _ _ _ (⟨none, _, _, _, _, _⟩ :: _ :: _) _ _); refine wpList_store_row rfl _ _ _ rfl w2.heap.size (wcs kW).toArray rfl rfl 87 _ H5.out (by kernel_rfl) rfl (by kernel_rfl) ?_; refine wpList_store_row rfl _ _ _ rfl (w2.heap.size + 1) (wcs ws).toArray rfl rfl 87 _ H6.out (by rw [HL1.out]; kernel_rfl) (by rw [HL1.out]; rfl) HONE.out ?_)
  simp only [Act.put]
  change Code.wp _ _ _ _ (mixW2 w2 ws)
  generalize mixW2 w2 ws = wr at *
  generalize w2.heap.size + 1 = g6 at *
  generalize w2.heap.size = g5 at *
  clear H5 H6
  obtain ⟨c0, c1, c2, c3, c4, c5, c6, c7⟩ := HM.out.vcells
  go_quiet (fail)
  clear c0 c1 c2 c3 c4 c5 c6 c7
  have HI0 : Hid (MixAt w (wr.drewN nq) [v0, v1, v2, v3, v4, v5, v6, v7] ws g5 g6) := hide (HM.out.below (below_drewN wr nq))
  clear HM
  generalize wr.drewN nq = wr0 at *
  go_wp2_with fail
  go_loopw [7, 8, 9, 10, 11, 12, 13, 14, 39] (fun a b c d e f g h i wr => ∃ k : Nat, k ≤ 64 ∧ i = .int .i64 k ∧ Hid (MixAt w wr [v0, v1, v2, v3, v4, v5, v6, v7] ws g5 g6) ∧
    a = .int .u32 (at0 (runW [v0, v1, v2, v3, v4, v5, v6, v7] ws k) 0) ∧ b = .int .u32 (at0 (runW [v0, v1, v2, v3, v4, v5, v6, v7] ws k) 1) ∧ c = .int .u32 (at0 (runW [v0, v1, v2, v3, v4, v5, v6, v7] ws k) 2) ∧ d = .int .u32 (at0 (runW [v0, v1, v2, v3, v4, v5, v6, v7] ws k) 3) ∧
    e = .int .u32 (at0 (runW [v0, v1, v2, v3, v4, v5, v6, v7] ws k) 4) ∧ f = .int .u32 (at0 (runW [v0, v1, v2, v3, v4, v5, v6, v7] ws k) 5) ∧ g = .int .u32 (at0 (runW [v0, v1, v2, v3, v4, v5, v6, v7] ws k) 6) ∧ h = .int .u32 (at0 (runW [v0, v1, v2, v3, v4, v5, v6, v7] ws k) 7)) (fun _ _ _ _ _ _ _ _ i _ => 64 - (intOf i).toNat)
  case atStart => exact ⟨0, Nat.zero_le _, rfl, HI0, rfl, rfl, rfl, rfl, rfl, rfl, rfl, rfl⟩
  case round =>
  clear HI0
  obtain ⟨k, hk, rfl, hinv, rfl, rfl, rfl, rfl, rfl, rfl, rfl, rfl⟩ := hrel
  by_cases hlt : k < 64
  · have hs0 : ∀ kk ww, at0 (stepW (runW [v0, v1, v2, v3, v4, v5, v6, v7] ws k) kk ww) 0 = at0 (stepW (runW [v0, v1, v2, v3, v4, v5, v6, v7] ws k) kk ww) 0 := fun _ _ => rfl
    have hn : Hid (runW [v0, v1, v2, v3, v4, v5, v6, v7] ws (k + 1) = stepW (runW [v0, v1, v2, v3, v4, v5, v6, v7] ws k) (at0 kW k) (at0 ws k)) := hide rfl
    clear hs0
    have y5 : wr.cell? ⟨g5, k, none⟩ = some (.int .u32 (at0 kW k)) := by rw [hinv.out.hk.cell, wcs_get _ _ (by rw [kW_length]; omega)]
    have y6 : wr.cell? ⟨g6, k, none⟩ = some (.int .u32 (at0 ws k)) := by rw [hinv.out.hw.cell, wcs_get _ _ (by rw [HLW.out]; omega)]
    have hkI : (k : Int) < 64 := by omega
    generalize at0 kW k = kk at *
    generalize at0 ws k = ww at *
    obtain ⟨R, hR⟩ : ∃ R, runW [v0, v1, v2, v3, v4, v5, v6, v7] ws k = R := ⟨_, rfl⟩
    rw [hR] at hn
    simp only [hR]
    clear hR
    have e0 : at0 (runW [v0, v1, v2, v3, v4, v5, v6, v7] ws (k + 1)) 0 = addW (addW (addW (addW (addW (at0 R 7) (S1W (at0 R 4))) (chW (at0 R 4) (at0 R 5) (at0 R 6))) kk) ww) (addW (S0W (at0 R 0)) (majW (at0 R 0) (at0 R 1) (at0 R 2))) := by rw [hn.out]; rfl
    have e1 : at0 (runW [v0, v1, v2, v3, v4, v5, v6, v7] ws (k + 1)) 1 = at0 R 0 := by rw [hn.out]; rfl
    have e2 : at0 (runW [v0, v1, v2, v3, v4, v5, v6, v7] ws (k + 1)) 2 = at0 R 1 := by rw [hn.out]; rfl
    have e3 : at0 (runW [v0, v1, v2, v3, v4, v5, v6, v7] ws (k + 1)) 3 = at0 R 2 := by rw [hn.out]; rfl
    have e4 : at0 (runW [v0, v1, v2, v3, v4, v5, v6, v7] ws (k + 1)) 4 = addW (at0 R 3) (addW (addW (addW (addW (at0 R 7) (S1W (at0 R 4))) (chW (at0 R 4) (at0 R 5) (at0 R 6))) kk) ww) := by rw [hn.out]; rfl
    have e5 : at0 (runW [v0, v1, v2, v3, v4, v5, v6, v7] ws (k + 1)) 5 = at0 R 4 := by rw [hn.out]; rfl
    have e6 : at0 (runW [v0, v1, v2, v3, v4, v5, v6, v7] ws (k + 1)) 6 = at0 R 5 := by rw [hn.out]; rfl
    have e7 : at0 (runW [v0, v1, v2, v3, v4, v5, v6, v7] ws (k + 1)) 7 = at0 R 6 := by rw [hn.out]; rfl
    have HE := hide (And.intro e0 (And.intro e1 (And.intro e2 (And.intro e3 (And.intro e4 (And.intro e5 (And.intro e6 e7)))))))
    clear e0 e1 e2 e3 e4 e5 e6 e7 hn
    generalize at0 R 0 = a at *
    generalize at0 R 1 = b at *
    generalize at0 R 2 = c at *
    generalize at0 R 3 = d at *
    generalize at0 R 4 = e at *
    generalize at0 R 5 = f at *
    generalize at0 R 6 = g at *
    generalize at0 R 7 = h at *
    go_wp2_with fail
    rw [ch_bits, maj_bits]
    generalize chW e f g = pick at *
    generalize majW a b c = most at *
    refine wp_region_heads [0, 1, 3, 6, 10, 12, 13, 14, 16, 17, 18] 10 (fun w' => w'.cell? ⟨g5, k, none⟩ = some (.int .u32 kk) ∧ w'.cell? ⟨g6, k, none⟩ = some (.int .u32 ww)) (by kernel_rfl) rfl (by kernel_rfl) (by kernel_rfl) (fun _ _ d _ _ h => by cases d <;> exact h) ⟨y5, y6⟩ ?_
    iterate 11
      refine' Heads.step rfl (by rfl) ?_ ?_
      rotate_left
      · intro w' hSw
        obtain ⟨z5, z6⟩ := hSw
        go_simp
        try with_reducible rfl
      simp only [Act.put, List.setIfInBounds_toArray, List.set_cons_zero, List.set_cons_succ]
    refine Heads.done ?_
    refine wpAnyH_ready (rs := [2]) (by kernel_rfl) (by simp) (AllReadyH.cons rfl (fun K hK => ?_) AllReadyH.nil)
    go_simp
    refine (gr6 e _).mono ?_
    rintro e w' ⟨rfl, rfl⟩
    refine hK.out _ _ ⟨y5, y6⟩ (fun hHeld1 => ?_)
    clear hK K
    refine wpAnyH_ready (rs := [4]) (by kernel_rfl) (by simp) (AllReadyH.cons rfl (fun K hK => ?_) AllReadyH.nil)
    go_simp
    refine (gr11 e _).mono ?_
    rintro e w' ⟨rfl, rfl⟩
    refine hK.out _ _ ⟨y5, y6⟩ (fun hHeld2 => ?_)
    clear hK K
    refine wpAnyH_more [5] 7 rfl (by kernel_rfl) (by kernel_rfl) (fun _ _ d _ _ h => by cases d <;> exact h) hHeld2 ?_
    iterate 1
      refine' Heads.step rfl (by rfl) ?_ ?_
      rotate_left
      · intro w' hSw
        obtain ⟨z5, z6⟩ := hSw
        go_simp
        try with_reducible rfl
      simp only [Act.put, List.setIfInBounds_toArray, List.set_cons_zero, List.set_cons_succ]
    refine Heads.done ?_
    refine wpAnyH_ready (rs := [7]) (by kernel_rfl) (by simp) (AllReadyH.cons rfl (fun K hK => ?_) AllReadyH.nil)
    go_simp
    refine (gr25 e _).mono ?_
    rintro e w' ⟨rfl, rfl⟩
    refine hK.out _ _ ⟨y5, y6⟩ (fun hHeld3 => ?_)
    clear hK K
    refine wpAnyH_more [8, 9, 11, 15, 19, 20] 0 rfl (by kernel_rfl) (by kernel_rfl) (fun _ _ d _ _ h => by cases d <;> exact h) hHeld3 ?_
    iterate 6
      refine' Heads.step rfl (by rfl) ?_ ?_
      rotate_left
      · intro w' hSw
        obtain ⟨z5, z6⟩ := hSw
        go_simp
        try with_reducible rfl
      simp only [Act.put, List.setIfInBounds_toArray, List.set_cons_zero, List.set_cons_succ]
    refine Heads.done ?_
    refine wpAnyH_done (by kernel_rfl) ?_ _
    have HN := hide (hinv.out.below (below_drewN wr 1))
    have HN2 : Hid (MixAt w wr.drew [v0, v1, v2, v3, v4, v5, v6, v7] ws g5 g6) := hide (hinv.out.below (Below.refl _ _).drew)
    clear HN hHeld1 hHeld2 hHeld3 y5 y6 hinv
    generalize wr.drew = wd at *
    rw [S1_bits]
    simp only [wrap_u32]
    have ex : addW (addW (addW (addW h (S1W e)) pick) kk) ww = ((((h + S1W e) % 4294967296 + pick) % 4294967296 + kk) % 4294967296 + ww) % 4294967296 := rfl
    rw [← ex]
    clear ex
    generalize addW (addW (addW (addW h (S1W e)) pick) kk) ww = x at *
    go_wp2_with fail
    refine (gr2 a _).mono ?_
    rintro e' w' ⟨rfl, rfl⟩
    go_wp2_with fail
    refine (gr13 a _).mono ?_
    rintro e' w' ⟨rfl, rfl⟩
    go_wp2_with fail
    refine (gr22 a _).mono ?_
    rintro e' w' ⟨rfl, rfl⟩
    rw [show addW (S0W a) most = (bits .xor .u32 (bits .xor .u32 (rotW a 2) (rotW a 13)) (rotW a 22) + most) % 4294967296 from rfl] at HE
    generalize rotW a 2 = r2 at *
    generalize rotW a 13 = r13 at *
    generalize rotW a 22 = r22 at *
    go_wp2_with fail
    obtain ⟨e0, e1, e2, e3, e4, e5, e6, e7⟩ := HE.out
    go_roundw
    case rel => exact ⟨k + 1, by omega, by go_num, HN2, by rw [e0]; rfl, by rw [e1], by rw [e2], by rw [e3], by rw [e4]; rfl, by rw [e5], by rw [e6], by rw [e7]⟩
    case measure => simp [intOf]; omega
  · obtain rfl : k = 64 := by omega
    obtain ⟨c0, c1, c2, c3, c4, c5, c6, c7⟩ := hinv.out.vcells
    have HRES : Hid (mixW [v0, v1, v2, v3, v4, v5, v6, v7] s.data.toList = [addW v0 (at0 (runW [v0, v1, v2, v3, v4, v5, v6, v7] ws 64) 0), addW v1 (at0 (runW [v0, v1, v2, v3, v4, v5, v6, v7] ws 64) 1), addW v2 (at0 (runW [v0, v1, v2, v3, v4, v5, v6, v7] ws 64) 2), addW v3 (at0 (runW [v0, v1, v2, v3, v4, v5, v6, v7] ws 64) 3), addW v4 (at0 (runW [v0, v1, v2, v3, v4, v5, v6, v7] ws 64) 4), addW v5 (at0 (runW [v0, v1, v2, v3, v4, v5, v6, v7] ws 64) 5), addW v6 (at0 (runW [v0, v1, v2, v3, v4, v5, v6, v7] ws 64) 6), addW v7 (at0 (runW [v0, v1, v2, v3, v4, v5, v6, v7] ws 64) 7)]) := hide (by
      unfold mixW
      rw [HWS.out]
      rfl)
    generalize at0 (runW [v0, v1, v2, v3, v4, v5, v6, v7] ws 64) 0 = a at *
    generalize at0 (runW [v0, v1, v2, v3, v4, v5, v6, v7] ws 64) 1 = b at *
    generalize at0 (runW [v0, v1, v2, v3, v4, v5, v6, v7] ws 64) 2 = c at *
    generalize at0 (runW [v0, v1, v2, v3, v4, v5, v6, v7] ws 64) 3 = d at *
    generalize at0 (runW [v0, v1, v2, v3, v4, v5, v6, v7] ws 64) 4 = e at *
    generalize at0 (runW [v0, v1, v2, v3, v4, v5, v6, v7] ws 64) 5 = f at *
    generalize at0 (runW [v0, v1, v2, v3, v4, v5, v6, v7] ws 64) 6 = g at *
    generalize at0 (runW [v0, v1, v2, v3, v4, v5, v6, v7] ws 64) 7 = h at *
    have hr := hinv.out.hr
    have h2 : Blk (wr.setRow (w.heap.size + 1) (wcs [addW v0 a, addW v1 b, addW v2 c, addW v3 d, addW v4 e, addW v5 f, addW v6 g, addW v7 h]).toArray) (w.heap.size + 1) 79 (wcs [addW v0 a, addW v1 b, addW v2 c, addW v3 d, addW v4 e, addW v5 f, addW v6 g, addW v7 h]).toArray := setRow_heap wr _ _ _ _ _ hr
    have HB2 : Hid (Below w.heap.size w (wr.setRow (w.heap.size + 1) (wcs [addW v0 a, addW v1 b, addW v2 c, addW v3 d, addW v4 e, addW v5 f, addW v6 g, addW v7 h]).toArray)) := hide (below_setRow hinv.out.bel (Nat.le_succ _) _)
    have HR2 := hide h2
    have HR := hide hr
    clear h2 hr hinv
    go_wp2_with ((with_reducible show wpList _ _ _ (⟨some 133, _, _, _, _, _⟩ :: _) _ _); refine wpList_build rfl _ _ rfl (by kernel_rfl) ?_; refine wpList_store_row rfl _ _ _ rfl (w.heap.size + 1) (wcs [addW v0 a, addW v1 b, addW v2 c, addW v3 d, addW v4 e, addW v5 f, addW v6 g, addW v7 h]).toArray rfl (by kernel_rfl) 79 _ HR.out (by kernel_rfl) (by kernel_rfl) (by kernel_rfl) ?_)
    generalize wr.setRow (w.heap.size + 1) (wcs [addW v0 a, addW v1 b, addW v2 c, addW v3 d, addW v4 e, addW v5 f, addW v6 g, addW v7 h]).toArray = wz at *
    repeat go_step
    exact ret_cell1 rfl rfl rfl HR2.out Try.underlying79 rfl (by kernel_rfl) ⟨by rw [HRES.out], HB2.out⟩
end Go.Proofs.Ytkipmbnmmbeeaaa
