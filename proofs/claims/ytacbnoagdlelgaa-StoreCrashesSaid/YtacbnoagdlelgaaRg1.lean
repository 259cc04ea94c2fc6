/- Several texts in one: OctP, DigUx, RingM, RingP, RingA, RingB, RingD. -/
import Derived.Test.YtacbnoagdlelgaaOc1
import Derived.Test.YtacbnoagdlelgaaShim
import Derived.Test.YtacbnoagdlelgaaDg2
import Derived.Test.YtacbnoagdlelgaaApp
import Derived.Test.YtacbnoagdlelgaaBuf
import Derived.Deep.AppendSrc
import Derived.Laws.IdiomStrings
import Derived.Test.YtacbnoagdlelgaaDg1
import Derived.Test.YtacbnoagdlelgaaDk1
import Derived.Test.YtacbnoagdlelgaaHeld
import Derived.Laws.ResultCell
/- Numbers and texts laid down and read back: plain facts. No program's text. -/
namespace Go.Proofs.Ytacbnoagdlelgaa
open Go.RowKit Zb

set_option maxRecDepth 20000 in
theorem putB_ok {n width : Int} (h : putOk n width = true) : ∃ k : Nat, width = k ∧ 0 < k ∧ k ≤ 8 ∧ putB n width = ⟨(leL n k).toArray⟩ := by
  have hw : wideB width = true := by simp [putOk] at h; exact h.1
  obtain ⟨k, rfl, hk⟩ := wideB_nat hw
  exact ⟨k, rfl, by omega, by omega, by rw [putB, if_pos h]; rfl⟩
set_option maxRecDepth 20000 in
theorem leB_size (n : Int) (k : Nat) : (⟨(leL n k).toArray⟩ : ByteArray).size = k := by
  show (leL n k).toArray.size = k
  rw [List.size_toArray, leL_length]
set_option maxRecDepth 20000 in
theorem cutL_mid (a s c : ByteArray) : cutL (a ++ s ++ c) a.size s.size = s.data.toList := by
  unfold cutL
  have : (a ++ s ++ c).data.toList = a.data.toList ++ (s.data.toList ++ c.data.toList) := by
    simp [ByteArray.data_append, Array.toList_append]
  rw [this]
  have h1 : a.size = a.data.toList.length := rfl
  have h2 : s.size = s.data.toList.length := rfl
  rw [h1, List.drop_left, h2, List.take_left]
set_option maxRecDepth 20000 in
theorem num_back {n : Int} (h0 : -9223372036854775808 ≤ n) (h1 : n < 9223372036854775808) {k : Nat} (h : putOk n k = true) : wrap64 (leN (leL n k) : Int) = n := by
  rw [leN_leL]
  simp only [putOk, Bool.and_eq_true, Bool.or_eq_true, beq_iff_eq, decide_eq_true_eq, Int.toNat_natCast] at h
  rcases h.2 with e | ⟨h2, h3⟩
  · have : k = 8 := by omega
    subst this
    rw [show (256 : Int) ^ 8 = 18446744073709551616 from rfl]
    unfold wrap64
    omega
  · rw [Int.emod_eq_of_lt h2 h3]
    unfold wrap64
    omega
set_option maxRecDepth 20000 in
theorem get_back {n : Int} (h0 : -9223372036854775808 ≤ n) (h1 : n < 9223372036854775808) {k : Nat} (h : putOk n k = true) (a c : ByteArray) (hw : wideB k = true) : getE (a ++ ⟨(leL n k).toArray⟩ ++ c) a.size k = 0 ∧ getN (a ++ ⟨(leL n k).toArray⟩ ++ c) a.size k = n := by
  have hz := leB_size n k
  have he : getE (a ++ ⟨(leL n k).toArray⟩ ++ c) a.size k = 0 := by
    unfold getE
    rw [if_neg (by rw [hw]; simp), if_neg]
    rw [ByteArray.size_append, ByteArray.size_append, hz]
    omega
  refine ⟨he, ?_⟩
  rw [getN_of he]
  have hc := cutL_mid a ⟨(leL n k).toArray⟩ c
  rw [hz] at hc
  rw [hc]
  exact num_back h0 h1 h
set_option maxRecDepth 20000 in
theorem textB_eq (t : ByteArray) (h : t.size ≤ 4294967295) : textB t = ⟨(leL t.size 4).toArray⟩ ++ t := by
  have hok : putOk t.size 4 = true := by
    simp only [putOk, wideB]
    simp
    omega
  rw [textB, putB, if_pos hok]
  rfl
set_option maxRecDepth 20000 in
theorem textB_size (t : ByteArray) (h : t.size ≤ 4294967295) : (textB t).size = 4 + t.size := by
  rw [textB_eq t h, ByteArray.size_append, leB_size]
set_option maxRecDepth 20000 in
theorem next_mid (A t C : ByteArray) (h : t.size ≤ 4294967295) : nextM (A ++ textB t ++ C) A.size = (t, (A.size : Int) + 4 + t.size, 0) := by
  have hok : putOk t.size (4 : Nat) = true := by
    simp only [putOk, wideB]
    simp
    omega
  have hg := get_back (n := t.size) (by omega) (by omega) hok A (t ++ C) (by decide)
  have e : A ++ ⟨(leL t.size 4).toArray⟩ ++ (t ++ C) = A ++ textB t ++ C := by
    rw [textB_eq t h]
    simp only [ByteArray.append_assoc]
  rw [e] at hg
  have h1 : getE (A ++ textB t ++ C) A.size 4 = 0 := hg.1
  have h2 : getN (A ++ textB t ++ C) A.size 4 = t.size := hg.2
  have hz : (A ++ textB t ++ C).size = A.size + (4 + t.size) + C.size := by rw [ByteArray.size_append, ByteArray.size_append, textB_size t h]
  rw [nextM, if_pos h1, h2, if_pos (by omega)]
  have hc : (A ++ textB t ++ C).extract (A.size + 4) (A.size + 4 + t.size) = t := by
    rw [textB_eq t h]
    apply ByteArray.ext
    simp only [ByteArray.data_extract, ByteArray.data_append]
    apply Array.ext'
    have e1 : A.size = A.data.toList.length := rfl
    have e2 : t.size = t.data.toList.length := rfl
    have e3 : (leL (t.size : Int) 4).length = 4 := leL_length _ _
    simp only [Array.toList_extract, Array.toList_append, List.extract_eq_take_drop]
    rw [show A.size + 4 + t.size - (A.size + 4) = t.data.toList.length by omega, show A.data.toList ++ (leL (t.size : Int) 4 ++ t.data.toList) ++ C.data.toList = (A.data.toList ++ leL (t.size : Int) 4) ++ (t.data.toList ++ C.data.toList) by simp]
    rw [show A.size + 4 = (A.data.toList ++ leL (t.size : Int) 4).length by rw [List.length_append, e3]; omega, List.drop_left, List.take_left]
  rw [show ((A.size : Int) + 4).toNat = A.size + 4 by omega, show ((A.size : Int) + 4 + t.size).toNat = A.size + 4 + t.size by omega, hc]
end Go.Proofs.Ytacbnoagdlelgaa

/- Chapter 2: words that the laws of several chapters use: two Hashes beside each other; a digest's length; its digits. -/
namespace Go.Proofs.Ytacbnoagdlelgaa
open Go.RowKit Zb

set_option maxRecDepth 20000 in
theorem HashOf.beside {w w' : World} {b c : Nat} {s t : List UInt8} (hc : HashOf w c t) (hb : HashOf w b s) (hne : c ≠ b) (k : Turned (· = b) w w') : HashOf w' c t :=
  hc.turned k hne fun x hx => by
    subst hx
    obtain ⟨rs, h⟩ := hb
    exact ⟨_, _, h.hb, by decide⟩
set_option maxRecDepth 20000 in
theorem outW_length (v : List Int) : (outW v).length = 32 := by rw [outW_eq, outN_length]
set_option maxRecDepth 20000 in
theorem digW_length (s : List UInt8) : (digW s).length = 32 := outW_length _
end Go.Proofs.Ytacbnoagdlelgaa

/- Chapter 5: the journal as a model in plain Lean. No program's text. -/
namespace Go.Proofs.Ytacbnoagdlelgaa
open Go.RowKit Zb

structure EntM where
  kind : Int
  number : Int
  slot : Int
  size : Int
  sum : ByteArray
deriving DecidableEq
def EntM.zero : EntM := ⟨0, 0, 0, 0, ⟨#[]⟩⟩
def EntM.right (e : EntM) : Bool := decide (1 ≤ e.kind) && decide (e.kind ≤ 3) && decide (1 ≤ e.number) && decide (e.number ≤ 4294967295) && decide (0 ≤ e.slot) && decide (e.slot ≤ 2) && decide (0 ≤ e.size) && decide (e.size ≤ 4294967295) && decide (e.sum.size = 32)
def dig8 (s : ByteArray) : ByteArray := (⟨(digW s.data.toList).toArray⟩ : ByteArray).extract 0 8
/-- what stands in a block ahead of its mark -/
def EntM.body (e : EntM) : ByteArray := ⟨#[67, 74]⟩ ++ (putB e.kind 1 ++ putB e.slot 1 ++ putB e.number 4 ++ putB e.size 4) ++ e.sum
def EntM.block (e : EntM) : ByteArray := e.body ++ dig8 e.body ++ zeros 12
def buildB (e : EntM) : ByteArray := if e.right then e.block else ⟨#[]⟩
def buildE (e : EntM) : Int := if e.right then 0 else 1
/-- the entry that a block would say -/
def saidE (s : ByteArray) : EntM := ⟨getN s 2 1, getN s 4 4, getN s 3 1, getN s 8 4, s.extract 12 44⟩
def parseOk (s : ByteArray) : Bool := decide (s.size = 64) && (saidE s).right && decide ((saidE s).block = s)
def parseM (s : ByteArray) : EntM := if parseOk s then saidE s else EntM.zero
/-- an entry put ahead of the first that has a higher number -/
def insE : List EntM → EntM → List EntM
  | [], e => [e]
  | x :: l, e => if e.number < x.number then e :: x :: l else x :: insE l e
/-- one block gone through -/
def scanStep (D : DiskM) (out : List EntM) (i : Nat) : List EntM := if parseOk (D.read i).1 && decide ((parseM (D.read i).1).number % 8 = i) then insE out (parseM (D.read i).1) else out
def scanTo (D : DiskM) : Nat → List EntM
  | 0 => []
  | n + 1 => scanStep D (scanTo D n) n
def scanE (D : DiskM) : Int := (D.read 0).2
def scanL (D : DiskM) : List EntM := if scanE D = 0 then scanTo D 8 else []
def lastIs (D : DiskM) : Bool := !(scanL D).isEmpty
def lastM (D : DiskM) : EntM := (scanL D).getLastD EntM.zero
/-- Append: the disk, the entry, what is wrong -/
def appendM (D : DiskM) (e : EntM) : DiskM × EntM × Int :=
  if scanE D ≠ 0 then (D, EntM.zero, scanE D)
  else if (lastM D).number = 4294967295 then (D, EntM.zero, 6)
  else
    let e' := { e with number := (lastM D).number + 1 }
    if e'.right = false then (D, EntM.zero, 1)
    else
      let W := D.write (e'.number % 8) e'.block
      if W.2 ≠ 0 then (W.1, EntM.zero, W.2)
      else
        let S := W.1.sync
        if S.2 ≠ 0 then (S.1, EntM.zero, S.2) else (S.1, e', 0)
end Go.Proofs.Ytacbnoagdlelgaa

/- Chapter 5: plain facts of an entry's block. No program's text. -/
namespace Go.Proofs.Ytacbnoagdlelgaa
open Go.RowKit Zb

set_option maxRecDepth 20000 in
theorem ext_mid (a s c : ByteArray) : (a ++ s ++ c).extract a.size (a.size + s.size) = s := by
  apply ByteArray.ext
  simp only [ByteArray.data_extract, ByteArray.data_append]
  apply Array.ext'
  have e1 : a.size = a.data.toList.length := rfl
  have e2 : s.size = s.data.toList.length := rfl
  simp only [Array.toList_extract, Array.toList_append, List.extract_eq_take_drop]
  rw [Nat.add_sub_cancel_left, e1, e2, List.append_assoc, List.drop_left, List.take_left]
set_option maxRecDepth 20000 in
theorem zeros_sz (n : Nat) : (zeros n).size = n := by
  show (Array.replicate n 0).size = n
  simp
set_option maxRecDepth 20000 in
theorem dig8_size (s : ByteArray) : (dig8 s).size = 8 := by
  unfold dig8
  rw [ByteArray.size_extract]
  show min 8 (digW s.data.toList).toArray.size - 0 = 8
  rw [List.size_toArray, digW_length]
  rfl
structure RightE (e : EntM) : Prop where
  k0 : 1 ≤ e.kind
  k1 : e.kind ≤ 3
  n0 : 1 ≤ e.number
  n1 : e.number ≤ 4294967295
  s0 : 0 ≤ e.slot
  s1 : e.slot ≤ 2
  z0 : 0 ≤ e.size
  z1 : e.size ≤ 4294967295
  m : e.sum.size = 32
set_option maxRecDepth 20000 in
theorem rightE_iff (e : EntM) : e.right = true ↔ RightE e := by
  unfold EntM.right
  simp only [Bool.and_eq_true, decide_eq_true_eq]
  constructor
  · rintro ⟨⟨⟨⟨⟨⟨⟨⟨a, b⟩, c⟩, d⟩, f⟩, g⟩, h⟩, i⟩, j⟩
    exact ⟨a, b, c, d, f, g, h, i, j⟩
  · rintro ⟨a, b, c, d, f, g, h, i, j⟩
    exact ⟨⟨⟨⟨⟨⟨⟨⟨a, b⟩, c⟩, d⟩, f⟩, g⟩, h⟩, i⟩, j⟩
set_option maxRecDepth 20000 in
theorem put_1 {n : Int} (h0 : 0 ≤ n) (h1 : n < 256) : putOk n (1 : Nat) = true := by simp [putOk, wideB]; omega
set_option maxRecDepth 20000 in
theorem put_4 {n : Int} (h0 : 0 ≤ n) (h1 : n < 4294967296) : putOk n (4 : Nat) = true := by simp [putOk, wideB]; omega
set_option maxRecDepth 20000 in
theorem putB_1 {n : Int} (h0 : 0 ≤ n) (h1 : n < 256) : putB n 1 = ⟨(leL n 1).toArray⟩ := by
  have := put_1 h0 h1
  unfold putB
  exact if_pos this
set_option maxRecDepth 20000 in
theorem putB_4 {n : Int} (h0 : 0 ≤ n) (h1 : n < 4294967296) : putB n 4 = ⟨(leL n 4).toArray⟩ := by
  have := put_4 h0 h1
  unfold putB
  exact if_pos this
set_option maxRecDepth 20000 in
theorem body_size {e : EntM} (h : RightE e) : e.body.size = 44 := by
  unfold EntM.body
  rw [putB_1 (by have := h.k0; omega) (by have := h.k1; omega), putB_1 h.s0 (by have := h.s1; omega), putB_4 (by have := h.n0; omega) (by have := h.n1; omega), putB_4 h.z0 (by have := h.z1; omega)]
  simp only [ByteArray.size_append, leB_size, h.m]
  rfl
set_option maxRecDepth 20000 in
theorem block_size {e : EntM} (h : RightE e) : e.block.size = 64 := by
  unfold EntM.block
  rw [ByteArray.size_append, ByteArray.size_append, body_size h, dig8_size, zeros_sz]
set_option maxRecDepth 20000 in
theorem said_block {e : EntM} (h : RightE e) : saidE e.block = e := by
  obtain ⟨K, hK⟩ : ∃ K : ByteArray, (⟨(leL e.kind 1).toArray⟩ : ByteArray) = K := ⟨_, rfl⟩
  obtain ⟨S, hS⟩ : ∃ S : ByteArray, (⟨(leL e.slot 1).toArray⟩ : ByteArray) = S := ⟨_, rfl⟩
  obtain ⟨N, hN⟩ : ∃ N : ByteArray, (⟨(leL e.number 4).toArray⟩ : ByteArray) = N := ⟨_, rfl⟩
  obtain ⟨Z, hZ⟩ : ∃ Z : ByteArray, (⟨(leL e.size 4).toArray⟩ : ByteArray) = Z := ⟨_, rfl⟩
  obtain ⟨C, hC⟩ : ∃ C : ByteArray, (⟨#[67, 74]⟩ : ByteArray) = C := ⟨_, rfl⟩
  obtain ⟨T, hT⟩ : ∃ T : ByteArray, dig8 e.body ++ zeros 12 = T := ⟨_, rfl⟩
  have zK : K.size = 1 := by rw [← hK, leB_size]
  have zS : S.size = 1 := by rw [← hS, leB_size]
  have zN : N.size = 4 := by rw [← hN, leB_size]
  have zZ : Z.size = 4 := by rw [← hZ, leB_size]
  have zC : C.size = 2 := by rw [← hC]; rfl
  have hb : e.block = C ++ (K ++ S ++ N ++ Z) ++ e.sum ++ T := by
    have hbd : e.body = C ++ (K ++ S ++ N ++ Z) ++ e.sum := by
      unfold EntM.body
      rw [putB_1 (by have := h.k0; omega) (by have := h.k1; omega), putB_1 h.s0 (by have := h.s1; omega), putB_4 (by have := h.n0; omega) (by have := h.n1; omega), putB_4 h.z0 (by have := h.z1; omega), hK, hS, hN, hZ, hC]
    unfold EntM.block
    rw [ByteArray.append_assoc, hT, hbd]
  have g1 := (get_back (n := e.kind) (by have := h.k0; omega) (by have := h.k1; omega) (put_1 (by have := h.k0; omega) (by have := h.k1; omega)) C (S ++ N ++ Z ++ e.sum ++ T) (by decide)).2
  have g2 := (get_back (n := e.slot) (by have := h.s0; omega) (by have := h.s1; omega) (put_1 h.s0 (by have := h.s1; omega)) (C ++ K) (N ++ Z ++ e.sum ++ T) (by decide)).2
  have g3 := (get_back (n := e.number) (by have := h.n0; omega) (by have := h.n1; omega) (put_4 (by have := h.n0; omega) (by have := h.n1; omega)) (C ++ K ++ S) (Z ++ e.sum ++ T) (by decide)).2
  have g4 := (get_back (n := e.size) (by have := h.z0; omega) (by have := h.z1; omega) (put_4 h.z0 (by have := h.z1; omega)) (C ++ K ++ S ++ N) (e.sum ++ T) (by decide)).2
  have g5 := ext_mid (C ++ K ++ S ++ N ++ Z) e.sum T
  rw [hK] at g1
  rw [hS] at g2
  rw [hN] at g3
  rw [hZ] at g4
  simp only [ByteArray.size_append, zC, zK, zS, zN, zZ, h.m, ByteArray.append_assoc] at g1 g2 g3 g4 g5
  simp only [ByteArray.append_assoc] at hb
  unfold saidE
  rw [hb]
  have f1 : getN (C ++ (K ++ (S ++ (N ++ (Z ++ (e.sum ++ T)))))) 2 1 = e.kind := g1
  have f2 : getN (C ++ (K ++ (S ++ (N ++ (Z ++ (e.sum ++ T)))))) 3 1 = e.slot := g2
  have f3 : getN (C ++ (K ++ (S ++ (N ++ (Z ++ (e.sum ++ T)))))) 4 4 = e.number := g3
  have f4 : getN (C ++ (K ++ (S ++ (N ++ (Z ++ (e.sum ++ T)))))) 8 4 = e.size := g4
  rw [f1, f2, f3, f4, g5]
set_option maxRecDepth 20000 in
theorem parse_block {e : EntM} (h : RightE e) : parseOk e.block = true ∧ parseM e.block = e := by
  have h1 : parseOk e.block = true := by
    unfold parseOk
    rw [said_block h, (rightE_iff e).2 h, block_size h]
    simp
  exact ⟨h1, by rw [parseM, if_pos h1, said_block h]⟩
set_option maxRecDepth 20000 in
theorem parse_right {s : ByteArray} (h : parseOk s = true) : RightE (parseM s) ∧ (parseM s).block = s ∧ s.size = 64 := by
  have h0 := h
  unfold parseOk at h
  simp only [Bool.and_eq_true, decide_eq_true_eq] at h
  rw [parseM, if_pos h0]
  exact ⟨(rightE_iff _).1 h.1.2, h.2, h.1.1⟩
end Go.Proofs.Ytacbnoagdlelgaa

/- Chapter 5: right, put, get, walked. -/
namespace Go.Proofs.Ytacbnoagdlelgaa
open Go.RowKit Zb

set_option maxRecDepth 20000 in
theorem ebetween_yes (n low high : Int) (h0 : low ≤ n) (h1 : n ≤ high) (w : World) : Calls Try.prog 64 #[.int .i64 n, .int .i64 low, .int .i64 high] w fun e w' => e = .returned (.bool true) ∧ w = w' := by
  go_enter Try.func64, Try.ntmps64
  go_wp2_with fail
  go_ret
  exact ⟨rfl, rfl⟩
set_option maxRecDepth 20000 in
theorem ebetween_lo (n low high : Int) (h0 : n < low) (w : World) : Calls Try.prog 64 #[.int .i64 n, .int .i64 low, .int .i64 high] w fun e w' => e = .returned (.bool false) ∧ w = w' := by
  have hd : decide (low ≤ n) = false := by simp; omega
  go_enter Try.func64, Try.ntmps64
  go_wp2_with fail
  go_ret
  exact ⟨rfl, rfl⟩
set_option maxRecDepth 20000 in
theorem ebetween_hi (n low high : Int) (h0 : low ≤ n) (h1 : high < n) (w : World) : Calls Try.prog 64 #[.int .i64 n, .int .i64 low, .int .i64 high] w fun e w' => e = .returned (.bool false) ∧ w = w' := by
  have hd : decide (n ≤ high) = false := by simp; omega
  go_enter Try.func64, Try.ntmps64
  go_wp2_with fail
  go_ret
  exact ⟨rfl, rfl⟩
set_option maxRecDepth 20000 in
theorem ebetween_no (n low high : Int) (h : ¬ (low ≤ n ∧ n ≤ high)) (w : World) : Calls Try.prog 64 #[.int .i64 n, .int .i64 low, .int .i64 high] w fun e w' => e = .returned (.bool false) ∧ w = w' := by
  by_cases h0 : low ≤ n
  · exact ebetween_hi n low high h0 (by omega) w
  · exact ebetween_lo n low high (by omega) w

def EntM.cells (e : EntM) : List Value := [.int .i64 e.kind, .int .i64 e.number, .int .i64 e.slot, .int .i64 e.size, .string e.sum]
set_option maxRecDepth 20000 in
theorem ent_all {w : World} {g : Nat} {t : TypeId} {e : EntM} (h : Blk w g t e.cells.toArray) : w.cell? ⟨g, 0, none⟩ = some (.int .i64 e.kind) ∧ w.cell? ⟨g, 1, none⟩ = some (.int .i64 e.number) ∧ w.cell? ⟨g, 2, none⟩ = some (.int .i64 e.slot) ∧ w.cell? ⟨g, 3, none⟩ = some (.int .i64 e.size) ∧ w.cell? ⟨g, 4, none⟩ = some (.string e.sum) :=
  ⟨h.cell 0, h.cell 1, h.cell 2, h.cell 3, h.cell 4⟩
set_option maxRecDepth 20000 in
theorem eright_yes (e : EntM) (h0 : 1 ≤ e.kind ∧ e.kind ≤ 3) (h1 : 1 ≤ e.number ∧ e.number ≤ 4294967295) (h2 : 0 ≤ e.slot ∧ e.slot ≤ 2) (h3 : 0 ≤ e.size ∧ e.size ≤ 4294967295) (h4 : e.sum.size = 32) (w : World) : Calls Try.prog 58 #[.agg #[.int .i64 e.kind, .int .i64 e.number, .int .i64 e.slot, .int .i64 e.size, .string e.sum]] w fun r w' => r = .returned (.bool true) ∧ Below w.heap.size w w' := by
  have H0 := hide (ebetween_yes e.kind 1 3 (by omega) (by omega))
  have H1 := hide (ebetween_yes e.number 1 4294967295 (by omega) (by omega))
  have H2 := hide (ebetween_yes e.slot 0 2 (by omega) (by omega))
  have H3 := hide (ebetween_yes e.size 0 4294967295 (by omega) (by omega))
  have hs : (e.sum.size : Int) = 32 := by omega
  clear h0 h1 h2 h3 h4
  go_enter Try.func58, Try.ntmps58
  go_wp2_with fail
  refine (H0.out _).mono ?_
  rintro e' w' ⟨rfl, rfl⟩
  go_wp2_with fail
  refine (H1.out _).mono ?_
  rintro e' w' ⟨rfl, rfl⟩
  go_wp2_with fail
  refine (H2.out _).mono ?_
  rintro e' w' ⟨rfl, rfl⟩
  go_wp2_with fail
  refine (H3.out _).mono ?_
  rintro e' w' ⟨rfl, rfl⟩
  go_wp2_with fail
  go_ret
  exact ⟨rfl, (Below.refl _ _).alloc (Nat.le_refl _) _⟩
set_option maxRecDepth 20000 in
theorem eright_n4 (e : EntM) (h0 : 1 ≤ e.kind ∧ e.kind ≤ 3) (h1 : 1 ≤ e.number ∧ e.number ≤ 4294967295) (h2 : 0 ≤ e.slot ∧ e.slot ≤ 2) (h3 : 0 ≤ e.size ∧ e.size ≤ 4294967295) (h4 : ¬ e.sum.size = 32) (w : World) : Calls Try.prog 58 #[.agg #[.int .i64 e.kind, .int .i64 e.number, .int .i64 e.slot, .int .i64 e.size, .string e.sum]] w fun r w' => r = .returned (.bool false) ∧ Below w.heap.size w w' := by
  have H0 := hide (ebetween_yes e.kind 1 3 (by omega) (by omega))
  have H1 := hide (ebetween_yes e.number 1 4294967295 (by omega) (by omega))
  have H2 := hide (ebetween_yes e.slot 0 2 (by omega) (by omega))
  have H3 := hide (ebetween_yes e.size 0 4294967295 (by omega) (by omega))
  have hs : ((e.sum.size : Int) == 32) = false := by rw [beq_eq_false_iff_ne]; omega
  clear h0 h1 h2 h3 h4
  go_enter Try.func58, Try.ntmps58
  go_wp2_with fail
  refine (H0.out _).mono ?_
  rintro e' w' ⟨rfl, rfl⟩
  go_wp2_with fail
  refine (H1.out _).mono ?_
  rintro e' w' ⟨rfl, rfl⟩
  go_wp2_with fail
  refine (H2.out _).mono ?_
  rintro e' w' ⟨rfl, rfl⟩
  go_wp2_with fail
  refine (H3.out _).mono ?_
  rintro e' w' ⟨rfl, rfl⟩
  go_wp2_with fail
  go_ret
  exact ⟨rfl, (Below.refl _ _).alloc (Nat.le_refl _) _⟩
set_option maxRecDepth 20000 in
theorem eright_n0 (e : EntM)  (h0 : ¬ (1 ≤ e.kind ∧ e.kind ≤ 3)) (w : World) : Calls Try.prog 58 #[.agg #[.int .i64 e.kind, .int .i64 e.number, .int .i64 e.slot, .int .i64 e.size, .string e.sum]] w fun r w' => r = .returned (.bool false) ∧ Below w.heap.size w w' := by
  have H0 := hide (ebetween_no e.kind 1 3 h0)
  clear h0
  go_enter Try.func58, Try.ntmps58
  go_wp2_with fail
  refine (H0.out _).mono ?_
  rintro e' w' ⟨rfl, rfl⟩
  go_wp2_with fail
  go_ret
  exact ⟨rfl, (Below.refl _ _).alloc (Nat.le_refl _) _⟩
set_option maxRecDepth 20000 in
theorem eright_n1 (e : EntM) (h0 : 1 ≤ e.kind ∧ e.kind ≤ 3) (h1 : ¬ (1 ≤ e.number ∧ e.number ≤ 4294967295)) (w : World) : Calls Try.prog 58 #[.agg #[.int .i64 e.kind, .int .i64 e.number, .int .i64 e.slot, .int .i64 e.size, .string e.sum]] w fun r w' => r = .returned (.bool false) ∧ Below w.heap.size w w' := by
  have H0 := hide (ebetween_yes e.kind 1 3 (by omega) (by omega))
  have H1 := hide (ebetween_no e.number 1 4294967295 h1)
  clear h0 h1
  go_enter Try.func58, Try.ntmps58
  go_wp2_with fail
  refine (H0.out _).mono ?_
  rintro e' w' ⟨rfl, rfl⟩
  go_wp2_with fail
  refine (H1.out _).mono ?_
  rintro e' w' ⟨rfl, rfl⟩
  go_wp2_with fail
  go_ret
  exact ⟨rfl, (Below.refl _ _).alloc (Nat.le_refl _) _⟩
set_option maxRecDepth 20000 in
theorem eright_n2 (e : EntM) (h0 : 1 ≤ e.kind ∧ e.kind ≤ 3) (h1 : 1 ≤ e.number ∧ e.number ≤ 4294967295) (h2 : ¬ (0 ≤ e.slot ∧ e.slot ≤ 2)) (w : World) : Calls Try.prog 58 #[.agg #[.int .i64 e.kind, .int .i64 e.number, .int .i64 e.slot, .int .i64 e.size, .string e.sum]] w fun r w' => r = .returned (.bool false) ∧ Below w.heap.size w w' := by
  have H0 := hide (ebetween_yes e.kind 1 3 (by omega) (by omega))
  have H1 := hide (ebetween_yes e.number 1 4294967295 (by omega) (by omega))
  have H2 := hide (ebetween_no e.slot 0 2 h2)
  clear h0 h1 h2
  go_enter Try.func58, Try.ntmps58
  go_wp2_with fail
  refine (H0.out _).mono ?_
  rintro e' w' ⟨rfl, rfl⟩
  go_wp2_with fail
  refine (H1.out _).mono ?_
  rintro e' w' ⟨rfl, rfl⟩
  go_wp2_with fail
  refine (H2.out _).mono ?_
  rintro e' w' ⟨rfl, rfl⟩
  go_wp2_with fail
  go_ret
  exact ⟨rfl, (Below.refl _ _).alloc (Nat.le_refl _) _⟩
set_option maxRecDepth 20000 in
theorem eright_n3 (e : EntM) (h0 : 1 ≤ e.kind ∧ e.kind ≤ 3) (h1 : 1 ≤ e.number ∧ e.number ≤ 4294967295) (h2 : 0 ≤ e.slot ∧ e.slot ≤ 2) (h3 : ¬ (0 ≤ e.size ∧ e.size ≤ 4294967295)) (w : World) : Calls Try.prog 58 #[.agg #[.int .i64 e.kind, .int .i64 e.number, .int .i64 e.slot, .int .i64 e.size, .string e.sum]] w fun r w' => r = .returned (.bool false) ∧ Below w.heap.size w w' := by
  have H0 := hide (ebetween_yes e.kind 1 3 (by omega) (by omega))
  have H1 := hide (ebetween_yes e.number 1 4294967295 (by omega) (by omega))
  have H2 := hide (ebetween_yes e.slot 0 2 (by omega) (by omega))
  have H3 := hide (ebetween_no e.size 0 4294967295 h3)
  clear h0 h1 h2 h3
  go_enter Try.func58, Try.ntmps58
  go_wp2_with fail
  refine (H0.out _).mono ?_
  rintro e' w' ⟨rfl, rfl⟩
  go_wp2_with fail
  refine (H1.out _).mono ?_
  rintro e' w' ⟨rfl, rfl⟩
  go_wp2_with fail
  refine (H2.out _).mono ?_
  rintro e' w' ⟨rfl, rfl⟩
  go_wp2_with fail
  refine (H3.out _).mono ?_
  rintro e' w' ⟨rfl, rfl⟩
  go_wp2_with fail
  go_ret
  exact ⟨rfl, (Below.refl _ _).alloc (Nat.le_refl _) _⟩
set_option maxRecDepth 20000 in
theorem eright_calls (e : EntM) (w : World) : Calls Try.prog 58 #[.agg #[.int .i64 e.kind, .int .i64 e.number, .int .i64 e.slot, .int .i64 e.size, .string e.sum]] w fun r w' => r = .returned (.bool e.right) ∧ Below w.heap.size w w' := by
  by_cases hr : RightE e
  · rw [(rightE_iff e).2 hr]
    exact eright_yes e ⟨hr.k0, hr.k1⟩ ⟨hr.n0, hr.n1⟩ ⟨hr.s0, hr.s1⟩ ⟨hr.z0, hr.z1⟩ hr.m w
  · have hf : e.right = false := by
      cases h : e.right
      · rfl
      · exact absurd ((rightE_iff e).1 h) hr
    rw [hf]
    by_cases h0 : 1 ≤ e.kind ∧ e.kind ≤ 3
    · by_cases h1 : 1 ≤ e.number ∧ e.number ≤ 4294967295
      · by_cases h2 : 0 ≤ e.slot ∧ e.slot ≤ 2
        · by_cases h3 : 0 ≤ e.size ∧ e.size ≤ 4294967295
          · by_cases h4 : e.sum.size = 32
            · exact absurd ⟨h0.1, h0.2, h1.1, h1.2, h2.1, h2.2, h3.1, h3.2, h4⟩ hr
            · exact eright_n4 e h0 h1 h2 h3 h4 w
          · exact eright_n3 e h0 h1 h2 h3 w
        · exact eright_n2 e h0 h1 h2 w
      · exact eright_n1 e h0 h1 w
    · exact eright_n0 e h0 w
set_option maxRecDepth 20000 in
theorem eget_calls (s : ByteArray) (hs : s.size ≤ 140737488351232) (at_ width : Int) (h0 : -9223372036854775808 ≤ at_) (h1 : at_ < 9223372036854775808) (w : World) : Calls Try.prog 60 #[.string s, .int .i64 at_, .int .i64 width] w fun e w' => e = .returned (.int .i64 (getN s at_ width)) ∧ w = w' := by
  have HG := hide (oGet_calls s hs at_ width h0 h1)
  clear h0 h1 hs
  go_enter Try.func60, Try.ntmps60
  go_wp2_with fail
  refine (HG.out _).mono ?_
  rintro e w' ⟨rfl, rfl⟩
  go_wp2_with fail
  go_ret
  exact ⟨rfl, rfl⟩
end Go.Proofs.Ytacbnoagdlelgaa

/- Chapter 5: put and Build, walked. -/
namespace Go.Proofs.Ytacbnoagdlelgaa
open Go.RowKit Zb

set_option maxRecDepth 20000 in
theorem bytes_assoc (a b c : ByteArray) : a ++ b ++ c = a ++ (b ++ c) := ByteArray.append_assoc
def putsB : List (Int × Int) → ByteArray
  | [] => ⟨#[]⟩
  | p :: l => putB p.2 p.1 ++ putsB l
set_option maxRecDepth 20000 in
theorem putsB_snoc (p : Int × Int) : ∀ l, putsB (l ++ [p]) = putsB l ++ putB p.2 p.1
  | [] => by
    show putB p.2 p.1 ++ ⟨#[]⟩ = ⟨#[]⟩ ++ putB p.2 p.1
    rw [show (⟨#[]⟩ : ByteArray) = ByteArray.empty from rfl, ByteArray.append_empty, ByteArray.empty_append]
  | q :: l => by
    simp only [List.cons_append, putsB]
    rw [putsB_snoc p l, bytes_assoc]
set_option maxRecDepth 20000 in
theorem putB_le (n width : Int) : (putB n width).size ≤ 8 := by
  unfold putB
  by_cases h : putOk n width = true
  · rw [if_pos h]
    have hw : wideB width = true := by simp [putOk] at h; exact h.1
    obtain ⟨k, rfl, hk⟩ := wideB_nat hw
    show (leL n _).toArray.size ≤ 8
    rw [List.size_toArray, leL_length]
    omega
  · rw [if_neg h]
    exact Nat.zero_le _
set_option maxRecDepth 20000 in
theorem putsB_le : ∀ l, (putsB l).size ≤ 8 * l.length
  | [] => Nat.le_of_eq rfl
  | p :: l => by
    have h1 := putB_le p.2 p.1
    have h2 := putsB_le l
    simp only [putsB, ByteArray.size_append, List.length_cons]
    omega
def pcells (l : List (Int × Int)) : List Value := l.flatMap fun p => [.int .i64 p.1, .int .i64 p.2]
set_option maxRecDepth 20000 in
theorem pcells_get : ∀ (l : List (Int × Int)) (k : Nat) (p : Int × Int), l[k]? = some p → (pcells l)[2 * k]? = some (.int .i64 p.1) ∧ (pcells l)[2 * k + 1]? = some (.int .i64 p.2)
  | [], k, p, h => by simp at h
  | q :: r, 0, p, h => by simp at h; subst h; simp [pcells]
  | q :: r, k + 1, p, h => by
    have := pcells_get r k p (by simpa using h)
    have e1 : 2 * (k + 1) = 2 * k + 2 := by omega
    have e2 : 2 * (k + 1) + 1 = 2 * k + 1 + 2 := by omega
    rw [e2, e1]
    simpa [pcells] using this
set_option maxRecDepth 20000 in
set_option maxHeartbeats 2000000 in
theorem eput_calls (l : List (Int × Int)) (hl : ∀ p ∈ l, -9223372036854775808 ≤ p.2 ∧ p.2 < 9223372036854775808) (hn : l.length ≤ 100) {w : World} {g : Nat} (hb : Blk w g 3 (pcells l).toArray) : Calls Try.prog 59 #[.slice (some ⟨g, 0, none⟩) (2 * l.length) (2 * l.length)] w fun e w' => e = .returned (.string (putsB l)) ∧ Below w.heap.size w w' := by
  obtain ⟨n, hnn⟩ : ∃ n, l.length = n := ⟨_, rfl⟩
  have HL := hide hl
  have HN := hide hnn
  have HG := hide hb
  rw [hnn] at hn ⊢
  have hnI : (n : Int) ≤ 100 := by omega
  have hlt := hb.lt
  clear hl hnn hb hn
  go_enter Try.func59, Try.ntmps59
  go_wp2_with fail
  go_loopw [3, 4] (fun s i wr => ∃ (k : Nat) (T : ByteArray), k ≤ n ∧ i = .int .i64 (2 * (k : Int)) ∧ s = .string T ∧ Hid (T = putsB (l.take k)) ∧ Hid (Below w.heap.size w wr)) (fun _ i _ => 2 * n - (intOf i).toNat)
  case atStart => exact ⟨0, ⟨#[]⟩, Nat.zero_le _, rfl, rfl, hide rfl, hide (Below.refl _ _)⟩
  case round =>
  obtain ⟨k, T, hk, rfl, rfl, hT, HB⟩ := hrel
  by_cases hltk : k < n
  · have hkI : (k : Int) < (n : Int) := by omega
    have hkl : k < l.length := by rw [HN.out]; exact hltk
    obtain ⟨p, hp⟩ : ∃ p, l[k]? = some p := ⟨_, List.getElem?_eq_getElem hkl⟩
    obtain ⟨c0, c1⟩ := pcells_get l k p hp
    have HTK : Hid (putsB (l.take (k + 1)) = putsB (l.take k) ++ putB p.2 p.1) := hide (by rw [List.take_add_one, hp]; exact putsB_snoc p _)
    have HVB := hide (HL.out p (List.mem_of_getElem? hp))
    obtain ⟨wd, vl⟩ := p
    obtain ⟨p0, hp0⟩ : ∃ q, 2 * k = q := ⟨_, rfl⟩
    obtain ⟨p1, hp1⟩ : ∃ q, 2 * k + 1 = q := ⟨_, rfl⟩
    have hBw := HG.out.below HB.out HG.out.lt
    have y0 : wr.cell? ⟨g, p0, none⟩ = some (.int .i64 wd) := by rw [← hp0, hBw.cell]; simpa using c0
    have y1 : wr.cell? ⟨g, p1, none⟩ = some (.int .i64 vl) := by rw [← hp1, hBw.cell]; simpa using c1
    have e0 : 2 * (k : Int) = (p0 : Int) := by omega
    have e1 : IntKind.i64.wrap ((p0 : Int) + 1) = (p1 : Int) := by rw [IntWalk.i64_in _ (by omega)]; omega
    have l0 : p0 < 2 * n := by omega
    have l1 : p1 < 2 * n := by omega
    have m0 : (p0 : Int) < 2 * (n : Int) := by omega
    have m1 : (p1 : Int) < 2 * (n : Int) := by omega
    have m2 : (p0 : Int) + 1 < 2 * (n : Int) := by omega
    have hTs : T.size ≤ 800 := by
      have h1 := putsB_le (l.take k)
      have h2 : (l.take k).length ≤ k := List.length_take_le _ _
      rw [hT.out]
      omega
    have hQs := putB_le vl wd
    rw [e0]
    have HE0 := hide e0
    have HP0 := hide hp0
    clear c0 c1 hBw e0 hp0 hp1 hp
    go_wp2_with fail
    refine wp_region_heads [0, 1, 2, 3, 4, 5, 6, 7, 8] 6 (fun w' => w'.cell? ⟨g, p0, none⟩ = some (.int .i64 wd) ∧ w'.cell? ⟨g, p1, none⟩ = some (.int .i64 vl)) (by kernel_rfl) rfl (by kernel_rfl) (by kernel_rfl) (fun _ _ d _ _ h => by cases d <;> exact h) ⟨y0, y1⟩ ?_
    iterate 9
      refine' Heads.step rfl (by rfl) ?_ ?_
      rotate_left
      · intro w' hSw
        obtain ⟨z0, z1⟩ := hSw
        go_simp
        try with_reducible rfl
      simp only [Act.put, List.setIfInBounds_toArray, List.set_cons_zero, List.set_cons_succ]
    refine Heads.done ?_
    refine wpAnyH_ready (rs := [9]) (by kernel_rfl) (by simp) (AllReadyH.cons rfl (fun K hK => ?_) AllReadyH.nil)
    go_simp
    refine (oPut_calls vl HVB.out.1 HVB.out.2 wd _).mono ?_
    rintro e w' ⟨rfl, hb'⟩
    have HB2 := hide (HB.out.drew.trans (hb'.mono HB.out.size))
    refine hK.out _ _ ⟨(hb'.cell (p := ⟨g, p0, none⟩) (lt_of_cell y0)).trans y0, (hb'.cell (p := ⟨g, p1, none⟩) (lt_of_cell y1)).trans y1⟩ (fun hHeld1 => ?_)
    clear hK K
    refine wpAnyH_more [10, 11, 12, 13, 14] 0 rfl (by kernel_rfl) (by kernel_rfl) (fun _ _ d _ _ h => by cases d <;> exact h) hHeld1 ?_
    iterate 5
      refine' Heads.step rfl (by rfl) ?_ ?_
      rotate_left
      · intro w' hSw
        obtain ⟨z0, z1⟩ := hSw
        go_simp
        try with_reducible rfl
      simp only [Act.put, List.setIfInBounds_toArray, List.set_cons_zero, List.set_cons_succ]
    refine Heads.done ?_
    refine wpAnyH_done (by kernel_rfl) ?_ _
    have HX : Hid (T ++ putB vl wd = putsB (l.take (k + 1))) := hide (by rw [HTK.out, hT.out])
    clear hHeld1 hb' y0 y1 HB
    generalize putB vl wd = Q at *
    go_wp2_with fail
    have hp0 := HP0.out
    go_roundw
    case rel => exact ⟨k + 1, T ++ Q, by omega, by rw [← HE0.out]; go_num, rfl, HX, HB2⟩
    case measure => simp [intOf]; omega
  · obtain rfl : k = n := by omega
    have hTT : T = putsB l := by rw [hT.out, List.take_of_length_le (Nat.le_of_eq HN.out)]
    have HTT := hide hTT
    have hd : decide (2 * (k : Int) + 1 < 2 * (k : Int)) = false := by rw [decide_eq_false_iff_not]; omega
    clear hTT hltk
    go_wp2_with fail
    go_ret
    exact ⟨by rw [HTT.out]; rfl, HB.out⟩
set_option maxRecDepth 20000 in
theorem hputs (e : EntM) : putsB [(1, e.kind), (1, e.slot), (4, e.number), (4, e.size)] = putB e.kind 1 ++ putB e.slot 1 ++ putB e.number 4 ++ putB e.size 4 := by
  have hz : ∀ a : ByteArray, a ++ ⟨#[]⟩ = a := fun a => ByteArray.append_empty
  simp only [putsB, hz, bytes_assoc]
def BuildPost (w : World) (e : EntM) (r : Ending) (w' : World) : Prop := r = .returned (.tuple #[.string (buildB e), .int .i64 (buildE e)]) ∧ Below w.heap.size w w'
set_option maxRecDepth 20000 in
set_option maxHeartbeats 2000000 in
theorem eBuild_calls (e : EntM) (w : World) : Calls Try.prog 46 #[.agg #[.int .i64 e.kind, .int .i64 e.number, .int .i64 e.slot, .int .i64 e.size, .string e.sum]] w (BuildPost w e) := by
  have HR := hide (eright_calls e)
  have HBLK : Hid (Blk (w.alloc (.cells #[.int .i64 e.kind, .int .i64 e.number, .int .i64 e.slot, .int .i64 e.size, .string e.sum] 59)) w.heap.size 59 e.cells.toArray) := hide (Blk.new w 59 e.cells.toArray)
  have HB0 := hide ((Below.refl w.heap.size w).alloc (Nat.le_refl _) (.cells #[.int .i64 e.kind, .int .i64 e.number, .int .i64 e.slot, .int .i64 e.size, .string e.sum] 59))
  by_cases hr : RightE e
  · have hrt := (rightE_iff e).2 hr
    rw [hrt] at HR
    have HPOST : Hid (buildB e = e.block ∧ buildE e = 0) := hide ⟨by unfold buildB; rw [hrt]; rfl, by unfold buildE; rw [hrt]; rfl⟩
    have HPUT := hide (hputs e)
    have hqs : (putsB [(1, e.kind), (1, e.slot), (4, e.number), (4, e.size)]).size ≤ 32 := putsB_le _
    have HBDS : Hid (∀ p ∈ [((1 : Int), e.kind), (1, e.slot), (4, e.number), (4, e.size)], -9223372036854775808 ≤ p.2 ∧ p.2 < 9223372036854775808) := hide (by
      intro p hp
      have h1 := hr.k0; have h2 := hr.k1; have h3 := hr.n0; have h4 := hr.n1; have h5 := hr.s0; have h6 := hr.s1; have h7 := hr.z0; have h8 := hr.z1
      simp only [List.mem_cons, List.not_mem_nil, or_false] at hp
      rcases hp with rfl | rfl | rfl | rfl <;> simp only <;> omega)
    have HBS := hide (body_size hr)
    have HSM := hide hr.m
    have hsm : e.sum.size ≤ 32 := by rw [hr.m]; omega
    clear hrt
    generalize hw0 : w.alloc (.cells #[.int .i64 e.kind, .int .i64 e.number, .int .i64 e.slot, .int .i64 e.size, .string e.sum] 59) = w0 at HBLK HB0
    have HW0 := hide hw0
    obtain ⟨g0, hg0⟩ : ∃ g0, w.heap.size = g0 := ⟨_, rfl⟩
    rw [hg0] at HBLK
    have HG0 := hide hg0
    clear hw0
    go_enter Try.func46, Try.ntmps46
    go_wp2_with fail
    refine (HR.out _).mono ?_
    rintro r w1 ⟨rfl, hb1⟩
    rw [HW0.out] at hb1
    have HB1 := hide (HB0.out.trans (hb1.mono HB0.out.size))
    have HBLK1 := hide (HBLK.out.below hb1 HBLK.out.lt)
    clear hb1 HB0 HBLK HW0
    go_wp2_with fail
    refine wp_region_heads [0, 1, 2, 3, 4, 5, 6, 7, 11, 12] 5 (fun w' => Blk w' g0 59 e.cells.toArray) (by kernel_rfl) rfl (by kernel_rfl) (by kernel_rfl) (fun _ _ d _ _ h => by cases d <;> exact h) HBLK1.out ?_
    iterate 10
      refine' Heads.step rfl (by rfl) ?_ ?_
      rotate_left
      · intro w' hSw
        obtain ⟨z0, z1, z2, z3, z4⟩ := ent_all hSw
        go_simp
        try with_reducible rfl
      simp only [Act.put, List.setIfInBounds_toArray, List.set_cons_zero, List.set_cons_succ]
    refine Heads.done ?_
    refine wpAnyH_ready (rs := [8]) (by kernel_rfl) (by simp) (AllReadyH.cons rfl (fun K hK => ?_) AllReadyH.nil)
    go_simp
    refine hK.out _ _ (Blk.alloc (w := w1.drew) HBLK1.out _) (fun hHeld1 => ?_)
    clear hK K
    refine wpAnyH_ready (rs := [9]) (by kernel_rfl) (by simp) (AllReadyH.cons rfl (fun K hK => ?_) AllReadyH.nil)
    go_simp
    refine (eput_calls [(1, e.kind), (1, e.slot), (4, e.number), (4, e.size)] HBDS.out (by simp) (Blk.new w1.drew 3 _)).mono ?_
    rintro r w2 ⟨rfl, hb2⟩
    have HBLK2 := hide (hHeld1.below hb2 hHeld1.lt)
    have HB2 := hide ((HB1.out.drew.alloc HB1.out.size _).trans (hb2.mono (Nat.le_trans HB1.out.size (by simp))))
    clear hb2
    generalize putsB [(1, e.kind), (1, e.slot), (4, e.number), (4, e.size)] = Q at *
    have hq1 : ¬ 9223372036854775807 < 2 + Q.size := by omega
    have hq2 : ¬ 9223372036854775807 < 2 + Q.size + e.sum.size := by omega
    refine hK.out _ _ HBLK2.out (fun hHeld2 => ?_)
    clear hK K
    refine wpAnyH_more [10, 13, 14] 0 rfl (by kernel_rfl) (by kernel_rfl) (fun _ _ d _ _ h => by cases d <;> exact h) hHeld2 ?_
    iterate 3
      refine' Heads.step rfl (by rfl) ?_ ?_
      rotate_left
      · intro w' hSw
        obtain ⟨z0, z1, z2, z3, z4⟩ := ent_all hSw
        go_simp
        try with_reducible rfl
      simp only [Act.put, List.setIfInBounds_toArray, List.set_cons_zero, List.set_cons_succ]
    refine Heads.done ?_
    refine wpAnyH_done (by kernel_rfl) ?_ _
    obtain ⟨B, hB⟩ : ∃ B : ByteArray, (⟨#[67, 74]⟩ : ByteArray) ++ Q ++ e.sum = B := ⟨_, rfl⟩
    have HBB : Hid (e.body = B) := hide (by rw [← hB, HPUT.out]; rfl)
    have hBs : B.size = 44 := by rw [← HBB.out]; exact HBS.out
    have HBsz := hide hBs
    rw [hB]
    clear hB hq1 hq2 hqs hsm HPUT HBDS hHeld1 hHeld2 HBLK2 HBLK1 HB1 hBs
    have HO := hide (gOf_calls B (by rw [HBsz.out]; omega))
    obtain ⟨D, hD⟩ : ∃ D : ByteArray, (⟨(digW B.data.toList).toArray⟩ : ByteArray) = D := ⟨_, rfl⟩
    have hDs : D.size = 32 := by
      rw [← hD]
      show (digW B.data.toList).toArray.size = 32
      rw [List.size_toArray, digW_length]
    have HD := hide hD
    have HDS := hide hDs
    clear hD hDs
    go_wp2_with fail
    refine (HO.out _).mono ?_
    rintro r w3 ⟨rfl, hb3⟩
    rw [HD.out]
    have HB3 := hide (HB2.out.trans (hb3.mono HB2.out.size))
    clear hb3 HB2 HO
    have hDI : (8 : Int) ≤ (D.size : Int) := by rw [HDS.out]; decide
    have hDN : 8 ≤ D.size := by rw [HDS.out]; omega
    obtain ⟨X, hX⟩ : ∃ X : ByteArray, B ++ D.extract 0 8 = X := ⟨_, rfl⟩
    have HX : Hid (e.block = X ++ zeros 12) := hide (by rw [← hX, ← HD.out, ← HBB.out]; rfl)
    have hXs : X.size = 52 := by rw [← hX, ByteArray.size_append, ByteArray.size_extract, HBsz.out, HDS.out]; rfl
    have hBs : B.size ≤ 44 := by rw [HBsz.out]; omega
    have hEs : (D.extract 0 8).size ≤ 8 := by rw [ByteArray.size_extract]; omega
    have hXI : (X.size : Int) = 52 := by rw [hXs]; rfl
    have hXN : X.size ≤ 52 := by omega
    have hmk : ∀ W : World, (Instr.makeSlice 32 (.int .i64 12) (.int .i64 12)).run Try.prog W = .ok (.slice (some ⟨W.heap.size, 0, none⟩) 12 12) (W.alloc (.cells (madeCells #[.int .u8 0] 12) 5)) := fun W => make_row (P := Try.prog) 32 5 _ 1 Try.underlying32 binfo_u8 rfl .i64 .i64 12 (by omega) (by omega) W
    have hcv : (convert 32 9 (.slice (some ⟨w3.heap.size, 0, none⟩) 12 12)).run Try.prog (w3.alloc (.cells (madeCells #[.int .u8 0] 12) 5)) = .ok (.string (zeros 12)) (w3.alloc (.cells (madeCells #[.int .u8 0] 12) 5)) := by
      have h1 := (Buf.made (Below.refl w3.heap.size w3) 12 (by unfold maxLen; omega)).conv
      rw [h1]
      rfl
    have hzs := zeros_sz 12
    have HZS := hide hzs
    have hz12 : (zeros 12).size ≤ 12 := by rw [hzs]; omega
    clear hzs hXs
    go_wp2_with fail
    go_ret2
    unfold BuildPost
    rw [HPOST.out.1, HPOST.out.2, HX.out]
    exact ⟨rfl, HB3.out.alloc HB3.out.size _⟩
  · have hrf : e.right = false := by
      cases h : e.right
      · rfl
      · exact absurd ((rightE_iff e).1 h) hr
    rw [hrf] at HR
    have HPOST : Hid (buildB e = ⟨#[]⟩ ∧ buildE e = 1) := hide ⟨by unfold buildB; rw [hrf]; rfl, by unfold buildE; rw [hrf]; rfl⟩
    clear hr hrf
    generalize hw0 : w.alloc (.cells #[.int .i64 e.kind, .int .i64 e.number, .int .i64 e.slot, .int .i64 e.size, .string e.sum] 59) = w0 at HBLK HB0
    have HW0 := hide hw0
    clear hw0
    go_enter Try.func46, Try.ntmps46
    go_wp2_with fail
    refine (HR.out _).mono ?_
    rintro r w1 ⟨rfl, hb1⟩
    rw [HW0.out] at hb1
    have HB1 := hide (HB0.out.trans (hb1.mono HB0.out.size))
    clear hb1
    go_wp2_with fail
    go_ret2
    unfold BuildPost
    rw [HPOST.out.1, HPOST.out.2]
    exact ⟨rfl, HB1.out⟩
end Go.Proofs.Ytacbnoagdlelgaa

/- Chapter 5: Parse, walked. -/
namespace Go.Proofs.Ytacbnoagdlelgaa
open Go.RowKit Zb

/-- two results, of which the first lies in a row of its own -/
theorem ret_cell {P : Program} {fn : Func} {p u : Tmp} {ty t : TypeId} {R : Ending → World → Prop} {a : Act} {w : World} {g : Nat} {cs : Array Value} {d : TypeDesc} (h : fn.results = #[.cell p ty, .tmp u]) (hd : a.defers = [])
    (hp : a.tmps.getD p undef = .pointer (some ⟨g, 0, none⟩)) (hg : Blk w g t cs) (hu : P.underlying ty = some d) (hs : (match d with | .struct _ | .array _ _ => true | _ => false) = true) (hi : (P.info? ty).map (·.size) = some cs.size)
    (hR : R (.returned (.tuple #[.agg cs, a.tmps.getD u undef])) w) : bodyPost P fn R .ret a w := by
  refine bodyPost_ret (v := .tuple #[.agg cs, a.tmps.getD u undef]) ?_ hd hR
  rw [results_cell_tmp h, hp]
  have e : (asAddr (.pointer (some ⟨g, 0, none⟩))).run P w = .ok ⟨g, 0, none⟩ w := rfl
  rw [e]
  simp only [Result.andThen]
  rw [run_loadVar_row w g t ty cs (0, 0) d hg hu hs hi]
set_option maxRecDepth 20000 in
theorem rbytes_ne {n m : ByteArray} (h : n ≠ m) : (¬ n.toList = m.toList) ∧ (n.toList == m.toList) = false := by
  have h1 : ¬ n.toList = m.toList := by
    intro e
    rw [ByteArray.toList_eq, ByteArray.toList_eq] at e
    exact h (ByteArray.ext (Array.toList_inj.1 e))
  exact ⟨h1, by simpa using h1⟩
set_option maxRecDepth 20000 in
theorem wp_build_as {P : Program} {o : Oper} {a : Act} {w : World} {K : Act → World → Prop} {Q : Exit → Act → World → Prop} (t : TypeId) (parts : Array (Nat × Operand)) (cs : Array Value) (ho : o.op = .build t parts)
    (hf : P.built t (parts.map fun (i, x) => (i, a.eval x)).toList = some cs) (h : K (a.put o.dst (.agg cs)) w) : o.wp P a w K Q :=
  wp_build t parts ho (by rw [hf]; rfl) (by rw [hf]; exact h)
set_option maxRecDepth 20000 in
theorem wpList_build_as {P : Program} {ops : Array Oper} {rest : List Oper} {o : Oper} {a : Act} {w : World} {Q : Exit → Act → World → Prop} (hg : o.guard = none) (t : TypeId) (parts : Array (Nat × Operand)) (cs : Array Value) (ho : o.op = .build t parts)
    (hf : P.built t (parts.map fun (i, x) => (i, a.eval x)).toList = some cs) (h : wpList P ops Q rest (a.put o.dst (.agg cs)) w) : wpList P ops Q (o :: rest) a w :=
  wpList_build hg t parts ho (by rw [hf]; rfl) (by rw [hf]; exact h)
structure Boxed (M : Prop) : Prop where
  out : M
set_option maxRecDepth 20000 in
theorem merge_at {M G : Prop} (m : M) (g : Boxed M → G) : G := g ⟨m⟩
set_option maxRecDepth 20000 in
theorem wpAnyH_at {P : Program} {md : Region.Mode} {ops : Array Oper} {Q : Exit → Act → World → Prop} {S : World → Prop} {n : Nat} {L' : Array Bool} {a : Act} {w : World} (L : Array Bool) (h : L' = L) (hW : wpAnyH P md ops Q S n L a w) : wpAnyH P md ops Q S n L' a w := h ▸ hW
set_option maxRecDepth 20000 in
theorem ent_zero : EntM.zero.cells = [.int .i64 0, .int .i64 0, .int .i64 0, .int .i64 0, .string ⟨#[]⟩] := rfl
set_option maxRecDepth 20000 in
theorem ent_info (e : EntM) : (Try.prog.info? 59).map (·.size) = some e.cells.toArray.size := by kernel_rfl
def ParsePost (w : World) (s : ByteArray) (r : Ending) (w' : World) : Prop := r = .returned (.tuple #[.agg (parseM s).cells.toArray, .bool (parseOk s)]) ∧ Below w.heap.size w w'
set_option maxRecDepth 20000 in
theorem parse_no {s : ByteArray} (h : parseOk s = false) : parseM s = EntM.zero := by unfold parseM; rw [h]; rfl
set_option maxRecDepth 20000 in
theorem parse_yes {s : ByteArray} (h : parseOk s = true) : parseM s = saidE s := by unfold parseM; rw [if_pos h]
/-- what is asked of a block's said entry -/
theorem parse_cases {s : ByteArray} (h : s.size = 64) : parseOk s = ((saidE s).right && decide ((saidE s).block = s)) := by
  unfold parseOk
  rw [h]
  simp
set_option maxRecDepth 100000 in
set_option maxHeartbeats 4000000 in
theorem eParse_calls (s : ByteArray) (w : World) : Calls Try.prog 48 #[.string s] w (ParsePost w s) := by
  have HRES : Hid (Blk (w.alloc (.cells #[.int .i64 0, .int .i64 0, .int .i64 0, .int .i64 0, .string ⟨#[]⟩] 59)) w.heap.size 59 EntM.zero.cells.toArray) := hide (Blk.new w 59 _)
  have HB0 := hide ((Below.refl w.heap.size w).alloc (Nat.le_refl _) (.cells #[.int .i64 0, .int .i64 0, .int .i64 0, .int .i64 0, .string ⟨#[]⟩] 59))
  by_cases hl : s.size = 64
  · have HPC := hide (parse_cases hl)
    have hl1 : ((s.size : Int) != 64) = false := by rw [hl]; rfl
    have hlI : (44 : Int) ≤ (s.size : Int) := by omega
    have hlN : 44 ≤ s.size := by omega
    have hs : s.size ≤ 1000000000 := by omega
    have HBU := hide (eBuild_calls (saidE s))
    clear hl
    generalize hw0 : w.alloc (.cells #[.int .i64 0, .int .i64 0, .int .i64 0, .int .i64 0, .string ⟨#[]⟩] 59) = w0 at HRES HB0
    have HW0 := hide hw0
    go_enter Try.func48, Try.ntmps48
    go_wp2_with fail
    have HE1 : Hid (Blk ((w0.alloc (.cells #[.int .i64 0, .int .i64 0, .int .i64 0, .int .i64 0, .string ⟨#[]⟩] 59)).drew) w0.heap.size 59 EntM.zero.cells.toArray) := hide (Blk.new w0.drew 59 _)
    refine wp_region_heads [0, 2, 4, 6, 8, 9] 7 (fun _ => True) (by kernel_rfl) rfl (by kernel_rfl) (by kernel_rfl) (fun _ _ d _ _ h => by cases d <;> exact h) trivial ?_
    iterate 6
      refine' Heads.step rfl (by rfl) ?_ ?_
      rotate_left
      · intro w' hSw
        go_simp
        try with_reducible rfl
      simp only [Act.put, List.setIfInBounds_toArray, List.set_cons_zero, List.set_cons_succ]
    refine Heads.done ?_
    refine' merge_at ?_ ?_
    rotate_left 2
    · intro HM
      refine wpAnyH_ready (rs := [1, 11]) (by kernel_rfl) (by simp) (AllReadyH.cons rfl (fun K hK => ?_) (AllReadyH.cons rfl (fun K hK => ?_) AllReadyH.nil))
      rotate_left
      · skip
        go_simp
        refine hK.out _ _ trivial (fun _ => ?_)
        clear hK K
        refine wpAnyH_ready (rs := [1]) (by kernel_rfl) (by simp) (AllReadyH.cons rfl (fun K hK => ?_) AllReadyH.nil)
        go_simp
        refine (eget_calls s (by omega) 2 1 (by omega) (by omega) _).mono ?_
        rintro r w' ⟨rfl, rfl⟩
        refine hK.out _ _ trivial (fun _ => ?_)
        clear hK K
        refine wpAnyH_ready (rs := [3]) (by kernel_rfl) (by simp) (AllReadyH.cons rfl (fun K hK => ?_) AllReadyH.nil)
        go_simp
        refine (eget_calls s (by omega) 4 4 (by omega) (by omega) _).mono ?_
        rintro r w' ⟨rfl, rfl⟩
        refine hK.out _ _ trivial (fun _ => ?_)
        clear hK K
        refine wpAnyH_ready (rs := [5]) (by kernel_rfl) (by simp) (AllReadyH.cons rfl (fun K hK => ?_) AllReadyH.nil)
        go_simp
        refine (eget_calls s (by omega) 3 1 (by omega) (by omega) _).mono ?_
        rintro r w' ⟨rfl, rfl⟩
        refine hK.out _ _ trivial (fun _ => ?_)
        clear hK K
        refine wpAnyH_ready (rs := [7]) (by kernel_rfl) (by simp) (AllReadyH.cons rfl (fun K hK => ?_) AllReadyH.nil)
        go_simp
        refine (eget_calls s (by omega) 8 4 (by omega) (by omega) _).mono ?_
        rintro r w' ⟨rfl, rfl⟩
        refine hK.out _ _ trivial (fun _ => ?_)
        clear hK K
        refine wpAnyH_ready (rs := [10]) (by kernel_rfl) (by simp) (AllReadyH.cons rfl (fun K hK => ?_) AllReadyH.nil)
        rw [if_pos (by rfl)]
        refine wp_build_as _ _ (saidE s).cells.toArray rfl (by kernel_rfl) ?_
        refine hK.out _ _ trivial (fun _ => ?_)
        clear hK K
        simp only [Act.put, List.setIfInBounds_toArray]
        refine wpAnyH_at #[true, true, true, true, true, true, true, true, true, true, true, true, false] (by kernel_rfl) ?_
        exact HM.out
      go_simp
      refine (eget_calls s (by omega) 2 1 (by omega) (by omega) _).mono ?_
      rintro r w' ⟨rfl, rfl⟩
      refine hK.out _ _ trivial (fun _ => ?_)
      clear hK K
      refine wpAnyH_ready (rs := [3, 11]) (by kernel_rfl) (by simp) (AllReadyH.cons rfl (fun K hK => ?_) (AllReadyH.cons rfl (fun K hK => ?_) AllReadyH.nil))
      rotate_left
      · skip
        go_simp
        refine hK.out _ _ trivial (fun _ => ?_)
        clear hK K
        refine wpAnyH_ready (rs := [3]) (by kernel_rfl) (by simp) (AllReadyH.cons rfl (fun K hK => ?_) AllReadyH.nil)
        go_simp
        refine (eget_calls s (by omega) 4 4 (by omega) (by omega) _).mono ?_
        rintro r w' ⟨rfl, rfl⟩
        refine hK.out _ _ trivial (fun _ => ?_)
        clear hK K
        refine wpAnyH_ready (rs := [5]) (by kernel_rfl) (by simp) (AllReadyH.cons rfl (fun K hK => ?_) AllReadyH.nil)
        go_simp
        refine (eget_calls s (by omega) 3 1 (by omega) (by omega) _).mono ?_
        rintro r w' ⟨rfl, rfl⟩
        refine hK.out _ _ trivial (fun _ => ?_)
        clear hK K
        refine wpAnyH_ready (rs := [7]) (by kernel_rfl) (by simp) (AllReadyH.cons rfl (fun K hK => ?_) AllReadyH.nil)
        go_simp
        refine (eget_calls s (by omega) 8 4 (by omega) (by omega) _).mono ?_
        rintro r w' ⟨rfl, rfl⟩
        refine hK.out _ _ trivial (fun _ => ?_)
        clear hK K
        refine wpAnyH_ready (rs := [10]) (by kernel_rfl) (by simp) (AllReadyH.cons rfl (fun K hK => ?_) AllReadyH.nil)
        rw [if_pos (by rfl)]
        refine wp_build_as _ _ (saidE s).cells.toArray rfl (by kernel_rfl) ?_
        refine hK.out _ _ trivial (fun _ => ?_)
        clear hK K
        simp only [Act.put, List.setIfInBounds_toArray]
        refine wpAnyH_at #[true, true, true, true, true, true, true, true, true, true, true, true, false] (by kernel_rfl) ?_
        exact HM.out
      go_simp
      refine (eget_calls s (by omega) 4 4 (by omega) (by omega) _).mono ?_
      rintro r w' ⟨rfl, rfl⟩
      refine hK.out _ _ trivial (fun _ => ?_)
      clear hK K
      refine wpAnyH_ready (rs := [5, 11]) (by kernel_rfl) (by simp) (AllReadyH.cons rfl (fun K hK => ?_) (AllReadyH.cons rfl (fun K hK => ?_) AllReadyH.nil))
      rotate_left
      · skip
        go_simp
        refine hK.out _ _ trivial (fun _ => ?_)
        clear hK K
        refine wpAnyH_ready (rs := [5]) (by kernel_rfl) (by simp) (AllReadyH.cons rfl (fun K hK => ?_) AllReadyH.nil)
        go_simp
        refine (eget_calls s (by omega) 3 1 (by omega) (by omega) _).mono ?_
        rintro r w' ⟨rfl, rfl⟩
        refine hK.out _ _ trivial (fun _ => ?_)
        clear hK K
        refine wpAnyH_ready (rs := [7]) (by kernel_rfl) (by simp) (AllReadyH.cons rfl (fun K hK => ?_) AllReadyH.nil)
        go_simp
        refine (eget_calls s (by omega) 8 4 (by omega) (by omega) _).mono ?_
        rintro r w' ⟨rfl, rfl⟩
        refine hK.out _ _ trivial (fun _ => ?_)
        clear hK K
        refine wpAnyH_ready (rs := [10]) (by kernel_rfl) (by simp) (AllReadyH.cons rfl (fun K hK => ?_) AllReadyH.nil)
        rw [if_pos (by rfl)]
        refine wp_build_as _ _ (saidE s).cells.toArray rfl (by kernel_rfl) ?_
        refine hK.out _ _ trivial (fun _ => ?_)
        clear hK K
        simp only [Act.put, List.setIfInBounds_toArray]
        refine wpAnyH_at #[true, true, true, true, true, true, true, true, true, true, true, true, false] (by kernel_rfl) ?_
        exact HM.out
      go_simp
      refine (eget_calls s (by omega) 3 1 (by omega) (by omega) _).mono ?_
      rintro r w' ⟨rfl, rfl⟩
      refine hK.out _ _ trivial (fun _ => ?_)
      clear hK K
      refine wpAnyH_ready (rs := [7, 11]) (by kernel_rfl) (by simp) (AllReadyH.cons rfl (fun K hK => ?_) (AllReadyH.cons rfl (fun K hK => ?_) AllReadyH.nil))
      rotate_left
      · skip
        go_simp
        refine hK.out _ _ trivial (fun _ => ?_)
        clear hK K
        refine wpAnyH_ready (rs := [7]) (by kernel_rfl) (by simp) (AllReadyH.cons rfl (fun K hK => ?_) AllReadyH.nil)
        go_simp
        refine (eget_calls s (by omega) 8 4 (by omega) (by omega) _).mono ?_
        rintro r w' ⟨rfl, rfl⟩
        refine hK.out _ _ trivial (fun _ => ?_)
        clear hK K
        refine wpAnyH_ready (rs := [10]) (by kernel_rfl) (by simp) (AllReadyH.cons rfl (fun K hK => ?_) AllReadyH.nil)
        rw [if_pos (by rfl)]
        refine wp_build_as _ _ (saidE s).cells.toArray rfl (by kernel_rfl) ?_
        refine hK.out _ _ trivial (fun _ => ?_)
        clear hK K
        simp only [Act.put, List.setIfInBounds_toArray]
        refine wpAnyH_at #[true, true, true, true, true, true, true, true, true, true, true, true, false] (by kernel_rfl) ?_
        exact HM.out
      go_simp
      refine (eget_calls s (by omega) 8 4 (by omega) (by omega) _).mono ?_
      rintro r w' ⟨rfl, rfl⟩
      refine hK.out _ _ trivial (fun _ => ?_)
      clear hK K
      refine wpAnyH_ready (rs := [10, 11]) (by kernel_rfl) (by simp) (AllReadyH.cons rfl (fun K hK => ?_) (AllReadyH.cons rfl (fun K hK => ?_) AllReadyH.nil))
      rotate_left
      · skip
        go_simp
        refine hK.out _ _ trivial (fun _ => ?_)
        clear hK K
        refine wpAnyH_ready (rs := [10]) (by kernel_rfl) (by simp) (AllReadyH.cons rfl (fun K hK => ?_) AllReadyH.nil)
        rw [if_pos (by rfl)]
        refine wp_build_as _ _ (saidE s).cells.toArray rfl (by kernel_rfl) ?_
        refine hK.out _ _ trivial (fun _ => ?_)
        clear hK K
        simp only [Act.put, List.setIfInBounds_toArray]
        refine wpAnyH_at #[true, true, true, true, true, true, true, true, true, true, true, true, false] (by kernel_rfl) ?_
        exact HM.out
      rw [if_pos (by rfl)]
      refine wp_build_as _ _ (saidE s).cells.toArray rfl (by kernel_rfl) ?_
      refine hK.out _ _ trivial (fun _ => ?_)
      clear hK K
      simp only [Act.put, List.setIfInBounds_toArray]
      refine wpAnyH_ready (rs := [11]) (by kernel_rfl) (by simp) (AllReadyH.cons rfl (fun K hK => ?_) AllReadyH.nil)
      go_simp
      refine hK.out _ _ trivial (fun _ => ?_)
      clear hK K
      refine wpAnyH_at #[true, true, true, true, true, true, true, true, true, true, true, true, false] (by kernel_rfl) ?_
      exact HM.out
    have HST : Hid (∃ wn, ((w0.alloc (.cells #[.int .i64 0, .int .i64 0, .int .i64 0, .int .i64 0, .string ⟨#[]⟩] 59)).drew.setRow w0.heap.size (saidE s).cells.toArray) = wn) := hide ⟨_, rfl⟩
    have HNE : w.heap.size < w0.heap.size := HRES.out.lt
    have HS1 : Hid (Blk ((w0.alloc (.cells #[.int .i64 0, .int .i64 0, .int .i64 0, .int .i64 0, .string ⟨#[]⟩] 59)).drew.setRow w0.heap.size (saidE s).cells.toArray) w0.heap.size 59 (saidE s).cells.toArray) := hide (setRow_heap _ _ _ _ _ _ HE1.out)
    have HR1 : Hid (Blk ((w0.alloc (.cells #[.int .i64 0, .int .i64 0, .int .i64 0, .int .i64 0, .string ⟨#[]⟩] 59)).drew.setRow w0.heap.size (saidE s).cells.toArray) w.heap.size 59 EntM.zero.cells.toArray) := hide ((setRow_other _ _ _ _ (Nat.ne_of_lt HNE)).trans (Blk.alloc (w := w0.drew) HRES.out _))
    have HB1 := hide (below_setRow (HB0.out.drew.alloc HB0.out.size (.cells #[.int .i64 0, .int .i64 0, .int .i64 0, .int .i64 0, .string ⟨#[]⟩] 59)) HB0.out.size (saidE s).cells.toArray)
    refine wpAnyH_ready (rs := [12]) (by kernel_rfl) (by simp) (AllReadyH.cons rfl (fun K hK => ?_) AllReadyH.nil)
    rw [if_pos (by rfl)]
    refine wp_store_row _ _ _ rfl w0.heap.size (saidE s).cells.toArray rfl (by kernel_rfl) 59 _ HE1.out (by kernel_rfl) rfl (by kernel_rfl) ?_
    refine hK.out _ _ trivial (fun _ => ?_)
    clear hK K
    refine wpAnyH_done (by kernel_rfl) ?_ _
    change Hid (Below w.heap.size w ((w0.alloc (.cells #[.int .i64 0, .int .i64 0, .int .i64 0, .int .i64 0, .string ⟨#[]⟩] 59)).drew.setRow w0.heap.size (saidE s).cells.toArray)) at HB1
    generalize ((w0.alloc (.cells #[.int .i64 0, .int .i64 0, .int .i64 0, .int .i64 0, .string ⟨#[]⟩] 59)).drew.setRow w0.heap.size (saidE s).cells.toArray) = w1 at *
    go_wp2_with ((with_reducible show wpList _ _ _ (⟨some 23, _, _, _, _, _⟩ :: _) _ _); refine wpList_load_row rfl _ _ rfl w0.heap.size rfl 59 _ (0, 0) _ HS1.out Try.underlying59 rfl (ent_info _) ?_)
    refine (HBU.out _).mono ?_
    rintro r w2 ⟨rfl, hb2⟩
    have HR2 := hide (HR1.out.below hb2 HR1.out.lt)
    have HS2 := hide (HS1.out.below hb2 HS1.out.lt)
    have HB2 := hide (HB1.out.trans (hb2.mono HB1.out.size))
    clear hb2 HST
    have HZR : Hid (Blk (w2.setRow w.heap.size EntM.zero.cells.toArray) w.heap.size 59 EntM.zero.cells.toArray) := hide (setRow_heap _ _ _ _ _ _ HR2.out)
    have HBZ := hide (below_setRow HB2.out (Nat.le_refl _) EntM.zero.cells.toArray)
    have HRR : Hid (Blk (w2.setRow w.heap.size (saidE s).cells.toArray) w.heap.size 59 (saidE s).cells.toArray) := hide (setRow_heap _ _ _ _ _ _ HR2.out)
    have HBR := hide (below_setRow HB2.out (Nat.le_refl _) (saidE s).cells.toArray)
    cases hr : (saidE s).right
    · have e1 : buildB (saidE s) = ⟨#[]⟩ := by unfold buildB; rw [hr]; rfl
      have e2 : buildE (saidE s) = 1 := by unfold buildE; rw [hr]; rfl
      have HP : Hid (parseOk s = false) := hide (by rw [HPC.out, hr]; rfl)
      have HPM := hide (parse_no HP.out)
      rw [e1, e2]
      clear e1 e2 hr
      go_wp2_with (first | ((with_reducible show wpList _ _ _ (⟨some 34, _, _, _, _, _⟩ :: _) _ _); refine wpList_build rfl _ _ rfl (by kernel_rfl) ?_) | ((with_reducible show wpList _ _ _ (⟨none, _, _, _, _, _⟩ :: _) _ _); refine wpList_store_row rfl _ _ _ rfl w.heap.size EntM.zero.cells.toArray rfl (by kernel_rfl) 59 _ HR2.out (by kernel_rfl) rfl (by kernel_rfl) ?_))
      exact ret_cell rfl rfl rfl HZR.out Try.underlying59 rfl (ent_info _) ⟨by rw [HP.out, HPM.out]; rfl, HBZ.out⟩
    · have e1 : buildB (saidE s) = (saidE s).block := by unfold buildB; rw [hr]; rfl
      have e2 : buildE (saidE s) = 0 := by unfold buildE; rw [hr]; rfl
      by_cases hq : (saidE s).block = s
      · have HP : Hid (parseOk s = true) := hide (by rw [HPC.out, hr, hq]; simp)
        have HPM := hide (parse_yes HP.out)
        rw [e1, e2, hq]
        clear e1 e2 hr hq
        go_wp2_with (first | ((with_reducible show wpList _ _ _ (⟨some 35, _, _, _, _, _⟩ :: _) _ _); refine wpList_load_row rfl _ _ rfl w0.heap.size rfl 59 _ (0, 0) _ HS2.out Try.underlying59 rfl (ent_info _) ?_) | ((with_reducible show wpList _ _ _ (⟨none, _, _, _, _, _⟩ :: _) _ _); refine wpList_store_row rfl _ _ _ rfl w.heap.size (saidE s).cells.toArray rfl rfl 59 _ HR2.out (ent_info _) rfl (by kernel_rfl) ?_))
        exact ret_cell rfl rfl rfl HRR.out Try.underlying59 rfl (ent_info _) ⟨by rw [HP.out, HPM.out]; rfl, HBR.out⟩
      · have HP : Hid (parseOk s = false) := hide (by rw [HPC.out, hr]; simpa using hq)
        have HPM := hide (parse_no HP.out)
        obtain ⟨n1, n2⟩ := rbytes_ne hq
        rw [e1, e2]
        clear e1 e2 hr hq
        generalize (saidE s).block = B at *
        go_wp2_with (first | ((with_reducible show wpList _ _ _ (⟨some 34, _, _, _, _, _⟩ :: _) _ _); refine wpList_build rfl _ _ rfl (by kernel_rfl) ?_) | ((with_reducible show wpList _ _ _ (⟨none, _, _, _, _, _⟩ :: _) _ _); refine wpList_store_row rfl _ _ _ rfl w.heap.size EntM.zero.cells.toArray rfl (by kernel_rfl) 59 _ HR2.out (by kernel_rfl) rfl (by kernel_rfl) ?_))
        exact ret_cell rfl rfl rfl HZR.out Try.underlying59 rfl (ent_info _) ⟨by rw [HP.out, HPM.out]; rfl, HBZ.out⟩
  · have HP : Hid (parseOk s = false) := hide (by unfold parseOk; simp [hl])
    have HPM := hide (parse_no HP.out)
    have hl1 : ((s.size : Int) != 64) = true := by rw [bne_iff_ne]; omega
    have HSR : Hid (Blk ((w.alloc (.cells #[.int .i64 0, .int .i64 0, .int .i64 0, .int .i64 0, .string ⟨#[]⟩] 59)).setRow w.heap.size EntM.zero.cells.toArray) w.heap.size 59 EntM.zero.cells.toArray) := hide (setRow_heap _ _ _ _ _ _ HRES.out)
    have HB1 := hide (below_setRow HB0.out (Nat.le_refl _) EntM.zero.cells.toArray)
    clear hl
    go_enter Try.func48, Try.ntmps48
    go_wp2_with ((with_reducible show wpList _ _ _ (⟨some 10, _, _, _, _, _⟩ :: _) _ _); refine wpList_build rfl _ _ rfl (by kernel_rfl) ?_; refine wpList_store_row rfl _ _ _ rfl w.heap.size EntM.zero.cells.toArray rfl (by kernel_rfl) 59 _ HRES.out (by kernel_rfl) rfl (by kernel_rfl) ?_)
    exact ret_cell rfl rfl rfl HSR.out Try.underlying59 rfl (ent_info _) ⟨by rw [HP.out, HPM.out]; rfl, HB1.out⟩
end Go.Proofs.Ytacbnoagdlelgaa
