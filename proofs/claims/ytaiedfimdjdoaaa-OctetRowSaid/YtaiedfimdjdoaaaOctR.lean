/- Chapter 1: OctetRow comes to true. -/
import Derived.Test.YtaiedfimdjdoaaaOctO
import Derived.Test.YtaiedfimdjdoaaaArgs
namespace Go.Proofs.Ytaiedfimdjdoaaa
open Go.RowKit Zb

abbrev lAt (l : List ByteArray) (k : Nat) : ByteArray := l.getD k ⟨#[]⟩
def rowB (l : List ByteArray) : Nat → ByteArray
  | 0 => ⟨#[]⟩
  | k + 1 => rowB l k ++ textB (lAt l k)
theorem textB_eq (t : ByteArray) (h : t.size ≤ 4294967295) : textB t = ⟨(leL t.size 4).toArray⟩ ++ t := by
  have hok : putOk t.size 4 = true := by
    simp only [putOk, wideB]
    simp
    omega
  rw [textB, putB, if_pos hok]
  rfl
theorem textB_size (t : ByteArray) (h : t.size ≤ 4294967295) : (textB t).size = 4 + t.size := by
  rw [textB_eq t h, ByteArray.size_append, leB_size]
theorem next_mid (A t C : ByteArray) (h : t.size ≤ 4294967295) : nextM (A ++ textB t ++ C) A.size = (t, (A.size : Int) + 4 + t.size, 0) := by
  have hok : putOk t.size (4 : Nat) = true := by
    simp only [putOk, wideB]
    simp
    omega
  have hg := get_back (n := t.size) (by omega) (by omega) hok A (t ++ C) (by decide)
  have e : A ++ ⟨(leL t.size 4).toArray⟩ ++ (t ++ C) = A ++ textB t ++ C := by
    rw [textB_eq t h]
    simp only [ByteArray.append_assoc]
  rw [e] at hg
  have h1 : getE (A ++ textB t ++ C) A.size 4 = 0 := hg.1
  have h2 : getN (A ++ textB t ++ C) A.size 4 = t.size := hg.2
  have hz : (A ++ textB t ++ C).size = A.size + (4 + t.size) + C.size := by rw [ByteArray.size_append, ByteArray.size_append, textB_size t h]
  rw [nextM, if_pos h1, h2, if_pos (by omega)]
  have hc : (A ++ textB t ++ C).extract (A.size + 4) (A.size + 4 + t.size) = t := by
    rw [textB_eq t h]
    apply ByteArray.ext
    simp only [ByteArray.data_extract, ByteArray.data_append]
    apply Array.ext'
    have e1 : A.size = A.data.toList.length := rfl
    have e2 : t.size = t.data.toList.length := rfl
    have e3 : (leL (t.size : Int) 4).length = 4 := leL_length _ _
    simp only [Array.toList_extract, Array.toList_append, List.extract_eq_take_drop]
    rw [show A.size + 4 + t.size - (A.size + 4) = t.data.toList.length by omega, show A.data.toList ++ (leL (t.size : Int) 4 ++ t.data.toList) ++ C.data.toList = (A.data.toList ++ leL (t.size : Int) 4) ++ (t.data.toList ++ C.data.toList) by simp]
    rw [show A.size + 4 = (A.data.toList ++ leL (t.size : Int) 4).length by rw [List.length_append, e3]; omega, List.drop_left, List.take_left]
  rw [show ((A.size : Int) + 4).toNat = A.size + 4 by omega, show ((A.size : Int) + 4 + t.size).toNat = A.size + 4 + t.size by omega, hc]
theorem rowB_split (l : List ByteArray) (k : Nat) : ∀ K, k < K → ∃ C, rowB l K = rowB l k ++ textB (lAt l k) ++ C
  | 0, h => by omega
  | K + 1, h => by
    by_cases hk : k = K
    · subst hk
      exact ⟨⟨#[]⟩, by rw [rowB]; exact ByteArray.append_empty.symm⟩
    · obtain ⟨C, hC⟩ := rowB_split l k K (by omega)
      exact ⟨C ++ textB (lAt l K), by rw [rowB, hC, ByteArray.append_assoc]⟩
theorem rowB_size (l : List ByteArray) : ∀ k, (∀ j, j < k → (lAt l j).size ≤ 2000) → (rowB l k).size ≤ 2004 * k
  | 0, _ => Nat.le_of_eq rfl
  | k + 1, h => by
    have := rowB_size l k (fun j hj => h j (by omega))
    have h2 := h k (by omega)
    rw [rowB, ByteArray.size_append, textB_size _ (by omega)]
    omega
theorem unhex_hexB (x : ByteArray) : unhexB ⟨(hexL x.data.toList).toArray⟩ = x ∧ unhexE ⟨(hexL x.data.toList).toArray⟩ = 0 := by
  obtain ⟨h1, h2⟩ := unhex_hex x.data.toList
  have e : (⟨(hexL x.data.toList).toArray⟩ : ByteArray).data.toList = hexL x.data.toList := rfl
  refine ⟨?_, ?_⟩
  · rw [unhexB, e, if_pos h1, h2]
  · rw [unhexE, e, if_pos h1]

def offI (l : List ByteArray) (k : Nat) : Int := (rowB l k).size
theorem offI_lim (l : List ByteArray) (j : Nat) (h : ∀ i, i < j → (lAt l i).size ≤ 2000) (h30 : j ≤ 30) : 0 ≤ offI l j ∧ offI l j ≤ 60120 := by
  have := rowB_size l j h
  unfold offI
  omega
theorem offI_succ (l : List ByteArray) (j : Nat) (h : (lAt l j).size ≤ 2000) : offI l (j + 1) = offI l j + 4 + (lAt l j).size := by
  unfold offI
  rw [rowB, ByteArray.size_append, textB_size _ (by omega)]
  omega
theorem next_row (l : List ByteArray) (j k : Nat) (h : j < k) (hs : (lAt l j).size ≤ 2000) : nextM (rowB l k) (offI l j) = (lAt l j, offI l j + 4 + (lAt l j).size, 0) := by
  obtain ⟨C, hC⟩ := rowB_split l j k h
  rw [hC]
  exact next_mid (rowB l j) (lAt l j) C (by omega)
def RowInv (w wr : World) (l : List ByteArray) (k : Nat) : Prop := (∀ j, j < k → (lAt l j).size ≤ 2000) ∧ Below w.heap.size w wr

set_option maxRecDepth 100000 in
set_option maxHeartbeats 2000000 in
theorem OctetRow_walk (A : Option Addr) (cap : Nat) (l : List ByteArray) (w : World) (_ : l.length ≤ 9223372036854775807) (hr : ReadsStrs w A l) :
    Calls Try.prog 7 #[.slice A l.length cap] w fun e w' => e = .returned (.bool true) ∧ Below w.heap.size w w' := by
  have HR := hide hr; clear hr

  have HI0 : Hid (RowInv w w l 0) := hide ⟨fun j hj => by omega, Below.refl _ _⟩
  go_enter Try.func7, Try.ntmps7
  go_wp2_with fail
  go_loopw [3, 4] (fun s i wr => ∃ k : Nat, k ≤ l.length ∧ k ≤ 30 ∧ i = .int .i64 k ∧ s = .string (rowB l k) ∧ Hid (RowInv w wr l k)) (fun _ i _ => 30 - (intOf i).toNat)
  case atStart => exact ⟨0, by omega, by omega, rfl, rfl, HI0⟩
  case round =>
    obtain ⟨k, hk, hk30, rfl, rfl, hinv⟩ := hrel
    by_cases hlt : k < l.length ∧ k < 30
    · obtain ⟨hlt1, hlt2⟩ := hlt
      obtain ⟨ad, hA, hadl, hc, hsz⟩ := HR.out k hlt1
      subst hA
      have hc1 := (hinv.out.2.cell (p := ad.add k) (by rw [block_add]; exact hadl)).trans hc
      obtain ⟨x, hx0⟩ : ∃ x, lAt l k = x := ⟨_, rfl⟩
      have HX := hide hx0
      rw [show l.getD k ⟨#[]⟩ = x from hx0] at hc1 hc hsz
      have HC := hide hc
      have HAD := hide hadl
      have hrs := rowB_size l k hinv.out.1
      have HRS := hide hrs
      obtain ⟨r, HRB⟩ : ∃ r, Hid (rowB l k = r) := ⟨_, hide rfl⟩
      have hrs2 : r.size ≤ 60120 := by rw [← HRB.out]; omega
      rw [HRB.out]
      clear hc hsz hadl hx0 hrs
      by_cases hx : 2000 < x.size
      · go_wp2_with fail
        refine (lknown1_calls _).mono ?_
        rintro e w3 ⟨rfl, hb3⟩
        have T3 := hide (hinv.out.2.trans (hb3.mono hinv.out.2.size))
        clear hb3 hc1
        go_wp2_with fail
        go_ret
        exact ⟨rfl, T3.out⟩
      · have H1 := hide (oText_calls x (by omega))
        obtain ⟨tx, HTX⟩ : ∃ tx, Hid (textB x = tx) := ⟨_, hide rfl⟩
        have hzz : tx.size ≤ 2004 := by rw [← HTX.out, textB_size x (by omega)]; omega
        obtain ⟨y, hy⟩ : ∃ y : ByteArray, (⟨(hexL x.data.toList).toArray⟩ : ByteArray) = y := ⟨_, rfl⟩
        have hyz : y.size ≤ 100000000000 := by
          rw [← hy]
          show (hexL x.data.toList).toArray.size ≤ _
          rw [List.size_toArray, hexL_length]
          have : x.data.toList.length = x.size := rfl
          omega
        have H3 := hide (oUnhex_calls y hyz)
        have h4 := unhex_hexB x
        have h2 := oHex_calls x (by omega)
        rw [hy] at h4 h2
        have H4 := hide h4
        have H2 := hide h2
        clear h4 h2 hy hyz
        go_wp2_with fail
        refine (H1.out _).mono ?_
        rintro e w3 ⟨rfl, hb3⟩
        have T3 := hide (hinv.out.2.trans (hb3.mono hinv.out.2.size))
        have hc3 := (T3.out.cell (p := ad.add k) (by rw [block_add]; exact HAD.out)).trans HC.out
        clear hb3 hc1
        rw [HTX.out]
        go_wp2_with fail
        refine (H2.out _).mono ?_
        rintro e w4 ⟨rfl, hb4⟩
        have T4 := hide (T3.out.trans (hb4.mono T3.out.size))
        have hc4 := (T4.out.cell (p := ad.add k) (by rw [block_add]; exact HAD.out)).trans HC.out
        clear hb4 hc3
        go_wp2_with fail
        refine (H3.out _).mono ?_
        rintro e w5 ⟨rfl, hb5⟩
        have T5 := hide (T4.out.trans (hb5.mono T4.out.size))
        have hc5 := (T5.out.cell (p := ad.add k) (by rw [block_add]; exact HAD.out)).trans HC.out
        clear hb5 hc4
        rw [H4.out.1, H4.out.2]
        go_wp2_with fail
        go_roundw
        case rel =>
          refine ⟨k + 1, by omega, by omega, by go_num, by rw [rowB, HX.out, HTX.out, HRB.out], hide ⟨fun j hj => ?_, T5.out⟩⟩
          rcases Nat.lt_or_eq_of_le (Nat.le_of_lt_succ hj) with h | h
          · exact hinv.out.1 j h
          · rw [h, HX.out]; omega
        case measure => simp [intOf]; omega
    · have hrs := rowB_size l k hinv.out.1
      obtain ⟨r, HRB⟩ : ∃ r, Hid (rowB l k = r) := ⟨_, hide rfl⟩
      have hrs2 : r.size ≤ 60120 := by rw [← HRB.out]; omega
      rw [HRB.out]
      have hoff := offI_lim l k hinv.out.1 hk30
      have HEQ : Hid ((r.size : Int) = offI l k) := hide (by rw [← HRB.out]; rfl)
      have h000 : Hid ((0 : Int) = offI l 0) := hide rfl
      clear hrs
      obtain ⟨wo, rfl⟩ : ∃ wo : World, wo = wr := ⟨_, rfl⟩
      by_cases hk1 : k < l.length
      all_goals
        go_wp2_with fail
        go_loop [7, 8] (fun a i => ∃ j : Nat, j ≤ k ∧ i = .int .i64 j ∧ a = .int .i64 (offI l j)) (fun _ i => 30 - (intOf i).toNat)
        case atStart => exact ⟨0, Nat.zero_le _, rfl, by rw [← h000.out]⟩
        case round =>
          obtain ⟨j, hj, rfl, rfl⟩ := hrel
          by_cases hjk : j < k
          · have hj1 : j < l.length := by omega
            have hj2 : j < 30 := by omega
            have hs9 := hinv.out.1 j hjk
            obtain ⟨ad, hA, hadl, hc, hsz⟩ := HR.out j hj1
            have hc1 := (hinv.out.2.cell (p := ad.add j) (by rw [block_add]; exact hadl)).trans hc
            have hN := next_row l j k hjk hs9
            have hS := offI_succ l j hs9
            have hL := offI_lim l j (fun i hi => hinv.out.1 i (by omega)) (by omega)
            rw [HRB.out] at hN
            rw [show l.getD j ⟨#[]⟩ = lAt l j from rfl] at hc1
            generalize hx0 : lAt l j = x at *
            obtain ⟨hL0, hL1⟩ := hL
            obtain ⟨o, ho0⟩ : ∃ o, offI l j = o := ⟨_, rfl⟩
            rw [ho0] at hN hS hL0 hL1 ⊢
            have HN := hide hN
            have HS := hide hS
            have H5 := hide (oNext_calls r (by omega) o (by omega) (by omega))
            clear hN hS ho0 hx0 hc hsz hadl
            subst hA
            go_wp2_with fail
            refine (H5.out _).mono ?_
            rintro e w9 ⟨rfl, rfl⟩
            rw [HN.out]
            go_wp2_with fail
            go_round
            case rel => exact ⟨j + 1, by omega, by go_num, by rw [HS.out]⟩
            case measure => simp [intOf]; omega
          · have hj9 : j = k := by omega
            rw [hj9]
            rw [← HEQ.out]
            go_wp2_with fail
            refine (lknown1_calls _).mono ?_
            rintro e w3 ⟨rfl, hb3⟩
            have T3 := hide (hinv.out.2.trans (hb3.mono hinv.out.2.size))
            clear hb3
            go_wp2_with fail
            go_ret
            exact ⟨rfl, T3.out⟩
end Go.Proofs.Ytaiedfimdjdoaaa
