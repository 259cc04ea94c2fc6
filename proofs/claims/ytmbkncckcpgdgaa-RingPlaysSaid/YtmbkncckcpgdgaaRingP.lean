/- Chapter 5: plain facts of an entry's block. No program's text. -/
import Derived.Test.YtmbkncckcpgdgaaRingM
import Derived.Test.YtmbkncckcpgdgaaOctP
import Derived.Test.YtmbkncckcpgdgaaDigUx
namespace Go.Proofs.Ytmbkncckcpgdgaa
open Go.RowKit Zb

set_option maxRecDepth 20000 in
theorem ext_mid (a s c : ByteArray) : (a ++ s ++ c).extract a.size (a.size + s.size) = s := by
  apply ByteArray.ext
  simp only [ByteArray.data_extract, ByteArray.data_append]
  apply Array.ext'
  have e1 : a.size = a.data.toList.length := rfl
  have e2 : s.size = s.data.toList.length := rfl
  simp only [Array.toList_extract, Array.toList_append, List.extract_eq_take_drop]
  rw [Nat.add_sub_cancel_left, e1, e2, List.append_assoc, List.drop_left, List.take_left]
set_option maxRecDepth 20000 in
theorem zeros_sz (n : Nat) : (zeros n).size = n := by
  show (Array.replicate n 0).size = n
  simp
set_option maxRecDepth 20000 in
theorem dig8_size (s : ByteArray) : (dig8 s).size = 8 := by
  unfold dig8
  rw [ByteArray.size_extract]
  show min 8 (digW s.data.toList).toArray.size - 0 = 8
  rw [List.size_toArray, digW_length]
  rfl
structure RightE (e : EntM) : Prop where
  k0 : 1 ≤ e.kind
  k1 : e.kind ≤ 3
  n0 : 1 ≤ e.number
  n1 : e.number ≤ 4294967295
  s0 : 0 ≤ e.slot
  s1 : e.slot ≤ 2
  z0 : 0 ≤ e.size
  z1 : e.size ≤ 4294967295
  m : e.sum.size = 32
set_option maxRecDepth 20000 in
theorem rightE_iff (e : EntM) : e.right = true ↔ RightE e := by
  unfold EntM.right
  simp only [Bool.and_eq_true, decide_eq_true_eq]
  constructor
  · rintro ⟨⟨⟨⟨⟨⟨⟨⟨a, b⟩, c⟩, d⟩, f⟩, g⟩, h⟩, i⟩, j⟩
    exact ⟨a, b, c, d, f, g, h, i, j⟩
  · rintro ⟨a, b, c, d, f, g, h, i, j⟩
    exact ⟨⟨⟨⟨⟨⟨⟨⟨a, b⟩, c⟩, d⟩, f⟩, g⟩, h⟩, i⟩, j⟩
set_option maxRecDepth 20000 in
theorem put_1 {n : Int} (h0 : 0 ≤ n) (h1 : n < 256) : putOk n (1 : Nat) = true := by simp [putOk, wideB]; omega
set_option maxRecDepth 20000 in
theorem put_4 {n : Int} (h0 : 0 ≤ n) (h1 : n < 4294967296) : putOk n (4 : Nat) = true := by simp [putOk, wideB]; omega
set_option maxRecDepth 20000 in
theorem putB_1 {n : Int} (h0 : 0 ≤ n) (h1 : n < 256) : putB n 1 = ⟨(leL n 1).toArray⟩ := by
  have := put_1 h0 h1
  unfold putB
  exact if_pos this
set_option maxRecDepth 20000 in
theorem putB_4 {n : Int} (h0 : 0 ≤ n) (h1 : n < 4294967296) : putB n 4 = ⟨(leL n 4).toArray⟩ := by
  have := put_4 h0 h1
  unfold putB
  exact if_pos this
set_option maxRecDepth 20000 in
theorem body_size {e : EntM} (h : RightE e) : e.body.size = 44 := by
  unfold EntM.body
  rw [putB_1 (by have := h.k0; omega) (by have := h.k1; omega), putB_1 h.s0 (by have := h.s1; omega), putB_4 (by have := h.n0; omega) (by have := h.n1; omega), putB_4 h.z0 (by have := h.z1; omega)]
  simp only [ByteArray.size_append, leB_size, h.m]
  rfl
set_option maxRecDepth 20000 in
theorem block_size {e : EntM} (h : RightE e) : e.block.size = 64 := by
  unfold EntM.block
  rw [ByteArray.size_append, ByteArray.size_append, body_size h, dig8_size, zeros_sz]
set_option maxRecDepth 20000 in
theorem said_block {e : EntM} (h : RightE e) : saidE e.block = e := by
  obtain ⟨K, hK⟩ : ∃ K : ByteArray, (⟨(leL e.kind 1).toArray⟩ : ByteArray) = K := ⟨_, rfl⟩
  obtain ⟨S, hS⟩ : ∃ S : ByteArray, (⟨(leL e.slot 1).toArray⟩ : ByteArray) = S := ⟨_, rfl⟩
  obtain ⟨N, hN⟩ : ∃ N : ByteArray, (⟨(leL e.number 4).toArray⟩ : ByteArray) = N := ⟨_, rfl⟩
  obtain ⟨Z, hZ⟩ : ∃ Z : ByteArray, (⟨(leL e.size 4).toArray⟩ : ByteArray) = Z := ⟨_, rfl⟩
  obtain ⟨C, hC⟩ : ∃ C : ByteArray, (⟨#[67, 74]⟩ : ByteArray) = C := ⟨_, rfl⟩
  obtain ⟨T, hT⟩ : ∃ T : ByteArray, dig8 e.body ++ zeros 12 = T := ⟨_, rfl⟩
  have zK : K.size = 1 := by rw [← hK, leB_size]
  have zS : S.size = 1 := by rw [← hS, leB_size]
  have zN : N.size = 4 := by rw [← hN, leB_size]
  have zZ : Z.size = 4 := by rw [← hZ, leB_size]
  have zC : C.size = 2 := by rw [← hC]; rfl
  have hb : e.block = C ++ (K ++ S ++ N ++ Z) ++ e.sum ++ T := by
    have hbd : e.body = C ++ (K ++ S ++ N ++ Z) ++ e.sum := by
      unfold EntM.body
      rw [putB_1 (by have := h.k0; omega) (by have := h.k1; omega), putB_1 h.s0 (by have := h.s1; omega), putB_4 (by have := h.n0; omega) (by have := h.n1; omega), putB_4 h.z0 (by have := h.z1; omega), hK, hS, hN, hZ, hC]
    unfold EntM.block
    rw [ByteArray.append_assoc, hT, hbd]
  have g1 := (get_back (n := e.kind) (by have := h.k0; omega) (by have := h.k1; omega) (put_1 (by have := h.k0; omega) (by have := h.k1; omega)) C (S ++ N ++ Z ++ e.sum ++ T) (by decide)).2
  have g2 := (get_back (n := e.slot) (by have := h.s0; omega) (by have := h.s1; omega) (put_1 h.s0 (by have := h.s1; omega)) (C ++ K) (N ++ Z ++ e.sum ++ T) (by decide)).2
  have g3 := (get_back (n := e.number) (by have := h.n0; omega) (by have := h.n1; omega) (put_4 (by have := h.n0; omega) (by have := h.n1; omega)) (C ++ K ++ S) (Z ++ e.sum ++ T) (by decide)).2
  have g4 := (get_back (n := e.size) (by have := h.z0; omega) (by have := h.z1; omega) (put_4 h.z0 (by have := h.z1; omega)) (C ++ K ++ S ++ N) (e.sum ++ T) (by decide)).2
  have g5 := ext_mid (C ++ K ++ S ++ N ++ Z) e.sum T
  rw [hK] at g1
  rw [hS] at g2
  rw [hN] at g3
  rw [hZ] at g4
  simp only [ByteArray.size_append, zC, zK, zS, zN, zZ, h.m, ByteArray.append_assoc] at g1 g2 g3 g4 g5
  simp only [ByteArray.append_assoc] at hb
  unfold saidE
  rw [hb]
  have f1 : getN (C ++ (K ++ (S ++ (N ++ (Z ++ (e.sum ++ T)))))) 2 1 = e.kind := g1
  have f2 : getN (C ++ (K ++ (S ++ (N ++ (Z ++ (e.sum ++ T)))))) 3 1 = e.slot := g2
  have f3 : getN (C ++ (K ++ (S ++ (N ++ (Z ++ (e.sum ++ T)))))) 4 4 = e.number := g3
  have f4 : getN (C ++ (K ++ (S ++ (N ++ (Z ++ (e.sum ++ T)))))) 8 4 = e.size := g4
  rw [f1, f2, f3, f4, g5]
set_option maxRecDepth 20000 in
theorem parse_block {e : EntM} (h : RightE e) : parseOk e.block = true ∧ parseM e.block = e := by
  have h1 : parseOk e.block = true := by
    unfold parseOk
    rw [said_block h, (rightE_iff e).2 h, block_size h]
    simp
  exact ⟨h1, by rw [parseM, if_pos h1, said_block h]⟩
set_option maxRecDepth 20000 in
theorem parse_right {s : ByteArray} (h : parseOk s = true) : RightE (parseM s) ∧ (parseM s).block = s ∧ s.size = 64 := by
  have h0 := h
  unfold parseOk at h
  simp only [Bool.and_eq_true, decide_eq_true_eq] at h
  rw [parseM, if_pos h0]
  exact ⟨(rightE_iff _).1 h.1.2, h.2, h.1.1⟩
end Go.Proofs.Ytmbkncckcpgdgaa
