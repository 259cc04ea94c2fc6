/- Chapter 1: octet's Unhex. -/
import Derived.Test.YtaiedfimdjdoaaaOctE
import Derived.Lib.OthersKept
import Derived.WalkSmall
namespace Go.Proofs.Ytaiedfimdjdoaaa
open Go.RowKit Zb

def halfN (c : Nat) : Option Nat := if 48 ≤ c ∧ c ≤ 57 then some (c - 48) else if 97 ≤ c ∧ c ≤ 102 then some (c - 87) else none
theorem halfO_N (b : UInt8) : halfO b = halfN b.toNat := rfl
theorem half_decode (s : ByteArray) (k : Nat) (h : k < s.size) : halfN (Utf8.decode s k).1 = halfO s[k] := by
  rw [halfO_N]
  by_cases ha : (s[k]'h).toNat < 128
  · rw [decode_ascii s k h ha]
  · have := (decode_high s k h (by omega)).1
    unfold halfN
    rw [if_neg (by omega), if_neg (by omega), if_neg (by omega), if_neg (by omega)]
theorem ohalf_calls (c : Nat) (hc : c ≤ 2147483647) (w : World) : Calls Try.prog 24 #[.int .i32 c] w fun e w' => e = .returned (.tuple #[.int .u8 ((halfN c).getD 0 : Nat), .bool (halfN c).isSome]) ∧ w = w' := by
  have hcI : (c : Int) ≤ 2147483647 := by omega
  clear hc
  unfold halfN
  by_cases h1 : 48 ≤ c ∧ c ≤ 57
  · rw [if_pos h1]
    obtain ⟨h1, h2⟩ := h1
    have e : ((c - 48 : Nat) : Int) = (c : Int) - 48 := by omega
    simp only [Option.getD_some, Option.isSome_some, e]
    clear e
    go_enter Try.func24, Try.ntmps24
    go_wp2_with fail
    go_ret2
    exact ⟨rfl, rfl⟩
  · rw [if_neg h1]
    by_cases h2 : 97 ≤ c ∧ c ≤ 102
    · rw [if_pos h2]
      obtain ⟨h3, h4⟩ := h2
      have h5 : ¬ (c ≤ 57) := by omega
      have e : ((c - 87 : Nat) : Int) = (c : Int) - 97 + 10 := by omega
      simp only [Option.getD_some, Option.isSome_some, e]
      clear e h1
      go_enter Try.func24, Try.ntmps24
      go_wp2_with fail
      go_ret2
      exact ⟨rfl, rfl⟩
    · rw [if_neg h2]
      simp only [Option.getD_none, Option.isSome_none]
      by_cases h3 : 48 ≤ c
      · have h5 : ¬ (c ≤ 57) := by omega
        by_cases h4 : 97 ≤ c
        · have h6 : ¬ (c ≤ 102) := by omega
          clear h1 h2
          go_enter Try.func24, Try.ntmps24
          go_wp2_with fail
          go_ret2
          exact ⟨rfl, rfl⟩
        · clear h1 h2
          go_enter Try.func24, Try.ntmps24
          go_wp2_with fail
          go_ret2
          exact ⟨rfl, rfl⟩
      · have h4 : ¬ (97 ≤ c) := by omega
        clear h1 h2
        go_enter Try.func24, Try.ntmps24
        go_wp2_with fail
        go_ret2
        exact ⟨rfl, rfl⟩

/-- the digit ahead of a place -/
def hiAt (s : ByteArray) (k : Nat) : Nat := if k = 0 then 0 else hv (s.data.toList.getD (k - 1) 0)
theorem take_snoc (s : ByteArray) (k : Nat) (h : k < s.size) : s.data.toList.take (k + 1) = s.data.toList.take k ++ [s[k]] := by
  rw [List.take_succ_eq_append_getElem (by simpa using h)]; rfl
theorem hiAt_succ (s : ByteArray) (k : Nat) (h : k < s.size) : hiAt s (k + 1) = hv s[k] := by
  have hl : k < s.data.toList.length := h
  unfold hiAt
  rw [if_neg (by omega), show k + 1 - 1 = k by omega, List.getD_eq_getElem?_getD, List.getElem?_eq_getElem hl]
  rfl
theorem hiAt_lt (s : ByteArray) (k : Nat) : hiAt s k < 16 := by
  unfold hiAt
  split
  · omega
  · exact hv_lt _
def UInv (w wr : World) (q : Nat) (s : ByteArray) (k : Nat) (v : Value) : Prop := wr.heap[q]? = some (.stringIter s k) ∧ Buf w wr v (pairs (s.data.toList.take k)) ∧ allHalf (s.data.toList.take k) = true
theorem allHalf_snoc (l : List UInt8) (b : UInt8) : allHalf (l ++ [b]) = (allHalf l && (halfO b).isSome) := by simp [allHalf]
theorem unhex_no {s : ByteArray} {k : Nat} (h : k < s.size) (hn : halfO s[k] = none) : unhexOk s.data.toList = false := by
  have hl : k < s.data.toList.length := h
  have hm : s[k] ∈ s.data.toList := List.getElem_mem hl
  unfold unhexOk allHalf
  rw [Bool.and_eq_false_iff]
  left
  rw [List.all_eq_false]
  exact ⟨s[k], hm, by rw [hn]; decide⟩
/-- the iterator a place further -/
theorem UInv.next {w wr : World} {q : Nat} {s : ByteArray} {k : Nat} {v : Value} (h : UInv w wr q s k v) (hq : w.heap.size ≤ q) : (wr.iterAt q s (k + 1)).heap[q]? = some (.stringIter s (k + 1)) ∧ Buf w (wr.iterAt q s (k + 1)) v (pairs (s.data.toList.take k)) := by
  refine ⟨Lib.iterAt_heap _ _ _ _ _ h.1, Lib.below_iterAt h.2.1.bel hq _ _, row_of h.2.1.row fun g hg => Lib.iterAt_other _ _ _ _ _ ?_, h.2.1.own⟩
  rintro rfl
  exact row_obj_ne h.2.1.row h.1 (by intros; simp) hg
theorem half_ascii {b : UInt8} {d : Nat} (h : halfO b = some d) : b.toNat < 128 := by
  unfold halfO at h
  split at h
  · omega
  · split at h
    · omega
    · cases h
theorem or_comb (a b : Nat) (ha : a < 16) (hb : b < 16) : bits .or .u8 ((a : Int) * 16) b = ((UInt8.ofNat (16 * a + b)).toNat : Int) := by
  have h : ∀ a, a < 16 → ∀ b, b < 16 → bits .or .u8 (((a : Nat) : Int) * 16) ((b : Nat) : Int) = ((UInt8.ofNat (16 * a + b)).toNat : Int) := by decide +kernel
  exact h a ha b hb
theorem pairs_odd (s : ByteArray) (k : Nat) (h : k < s.size) (hodd : k % 2 = 1) : pairs (s.data.toList.take (k + 1)) = pairs (s.data.toList.take k) ++ [UInt8.ofNat (16 * hiAt s k + hv s[k])] := by
  obtain ⟨j, rfl⟩ : ∃ j, k = j + 1 := ⟨k - 1, by omega⟩
  have h1 : (s.data.toList.take j).length = j := by
    have : s.data.toList.length = s.size := rfl
    simp; omega
  rw [take_snoc s (j + 1) h, take_snoc s j (by omega), List.append_assoc, List.singleton_append, pairs_snoc2 _ _ _ (by omega), pairs_snoc1 _ _ (by omega), hiAt_succ s j (by omega)]
def UnhexPost (s : ByteArray) (w : World) (e : Ending) (w' : World) : Prop := e = .returned (.tuple #[.string (unhexB s), .int .i64 (unhexE s)]) ∧ Below w.heap.size w w'

set_option maxRecDepth 100000 in
set_option maxHeartbeats 1000000 in
theorem oUnhex_calls (s : ByteArray) (hs : s.size ≤ 100000000000) (w : World) : Calls Try.prog 16 #[.string s] w (UnhexPost s w) := by
  have HB0 : Hid (UInv w (w.iter s 0) w.heap.size s 0 (.slice none 0 0)) := hide ⟨World.iter_heap w s 0, Buf.nil ((Below.refl _ _).alloc (Nat.le_refl _) _), rfl⟩
  have hsI : (s.size : Int) ≤ 100000000000 := by omega
  have HS := hide hs; clear hs
  go_enter Try.func16, Try.ntmps16
  go_wp2_with fail
  go_loopw [4, 5] (fun v h wr => ∃ k : Nat, k ≤ s.size ∧ h = .int .u8 (hiAt s k : Nat) ∧ Hid (UInv w wr w.heap.size s k v)) (fun _ _ wr => s.size - wr.iterPos w.heap.size)
  case atStart => exact ⟨0, Nat.zero_le _, rfl, HB0⟩
  case round =>
    obtain ⟨k, hk, rfl, hinv⟩ := hrel
    generalize hq0 : w.heap.size = q at *
    have HQ := hide hq0; clear hq0
    have hhi := hiAt_lt s k
    obtain ⟨hh, HH⟩ : ∃ hh, Hid (hiAt s k = hh) := ⟨_, hide rfl⟩
    rw [HH.out] at hhi ⊢
    by_cases hlt : k < s.size
    · have hnx : ∀ ty, (Instr.next (.pointer (some ⟨q, 0, none⟩)) true ty).run Try.prog wr = _ := fun ty => Lib.run_next_any_at wr q s k ty hinv.out.1 hlt
      have hdl := decode_le s k
      have HD := hide (half_decode s k hlt)
      cases ho : halfO s[k] with
      | none =>
        have HO := hide ho; clear ho
        go_wp2_with fail
        refine (ohalf_calls _ (by omega) _).mono ?_
        rintro e w' ⟨rfl, rfl⟩
        rw [HD.out, HO.out]
        go_wp2_with fail
        go_ret2
        have hno := unhex_no hlt HO.out
        refine ⟨?_, Lib.below_iterAt hinv.out.2.1.bel (by rw [HQ.out]; exact Nat.le_refl _) _ _⟩
        rw [unhexB, unhexE, hno]
        rfl
      | some d =>
        have hd16 : d < 16 := by have := hv_lt s[k]; rw [hv, ho] at this; exact this
        have ha := half_ascii ho
        have HA := hide (hiAt_succ s k hlt)
        have HT := hide (take_snoc s k hlt)
        have hnx2 : ∀ ty, (Instr.next (.pointer (some ⟨q, 0, none⟩)) true ty).run Try.prog wr = _ := fun ty => Lib.run_next_ascii_at wr q s k ty hinv.out.1 hlt ha
        clear hnx
        have hvd : hv s[k] = d := by rw [hv, ho]; rfl
        have HV := hide hvd
        have hN := hinv.out.next (by rw [HQ.out]; exact Nat.le_refl _)
        have HN := hide hN.1
        have HB := hide hN.2
        have HL := hide (allHalf_snoc (s.data.toList.take k) s[k])
        have HP := hide (pairs_length (s.data.toList.take k))
        have hll : (s.data.toList.take k).length = k := by simp; omega
        have HLL := hide hll
        have hcomb := or_comb hh d hhi hd16
        obtain ⟨bb, HBB⟩ : ∃ bb, Hid (UInt8.ofNat (16 * hh + d) = bb) := ⟨_, hide rfl⟩
        rw [HBB.out] at hcomb
        have HO := hide ho; clear ho hvd hN hll
        by_cases hpar : k % 2 = 1
        · go_wp2_with fail
          refine (ohalf_calls _ (by omega) _).mono ?_
          rintro e w' ⟨rfl, rfl⟩
          rw [← halfO_N, HO.out]
          go_wp2_with (at_builtin; refine buf_app rfl (.tmp 26) (.tmp 31) rfl HB _ [bb] 1 rfl rfl rfl (by rw [HP.out, HLL.out]; simp; omega) ?_; intro v' w' hb' hg')
          have hne : some q ≠ u4.ownBlock := fun e => row_obj_ne hinv.out.2.1.row hinv.out.1 (by intros; simp) e.symm
          have hit : w'.heap[q]? = some (.stringIter s (k + 1)) := (hg'.out.block q (Array.getElem?_eq_some_iff.1 HN.out).1 hne).trans HN.out
          have HIT := hide hit
          clear hit hne hg'
          go_roundw
          case rel =>
            refine ⟨k + 1, by omega, by rw [HA.out, HV.out], hide ⟨HIT.out, ?_, ?_⟩⟩
            · rw [pairs_odd s k hlt hpar, HH.out, HV.out, HBB.out]
              exact hb'.out
            · rw [HT.out, HL.out, hinv.out.2.2, HO.out]
              rfl
          case measure =>
            have h1 : w'.iterPos q = k + 1 := iterPos_of HIT.out
            have h2 : wr.iterPos q = k := iterPos_of hinv.out.1
            rw [h1, h2]
            omega
        · go_wp2_with fail
          refine (ohalf_calls _ (by omega) _).mono ?_
          rintro e w' ⟨rfl, rfl⟩
          rw [← halfO_N, HO.out]
          go_wp2_with fail
          go_roundw
          case rel =>
            refine ⟨k + 1, by omega, by rw [HA.out, HV.out], hide ⟨HN.out, ?_, ?_⟩⟩
            · rw [HT.out, pairs_snoc1 _ _ (by rw [HLL.out]; omega)]
              exact HB.out
            · rw [HT.out, HL.out, hinv.out.2.2, HO.out]
              rfl
          case measure =>
            have h1 : (wr.iterAt q s (k + 1)).iterPos q = k + 1 := iterPos_of HN.out
            have h2 : wr.iterPos q = k := iterPos_of hinv.out.1
            rw [h1, h2]
            omega
    · obtain rfl : k = s.size := by omega
      have hnx : ∀ ty, (Instr.next (.pointer (some ⟨q, 0, none⟩)) true ty).run Try.prog wr = _ := fun ty => Lib.run_next_end_at wr q s s.size ty hinv.out.1 hlt
      have htk : s.data.toList.take s.size = s.data.toList := List.take_of_length_le (Nat.le_refl _)
      have hcv := hinv.out.2.1.conv
      rw [htk] at hcv
      have hall := hinv.out.2.2
      rw [htk] at hall
      have HALL := hide hall
      have hll : s.data.toList.length = s.size := rfl
      have HLL := hide hll
      clear htk hall hll
      by_cases hpar : s.size % 2 = 1
      · have HE : Hid (unhexOk s.data.toList = false) := hide (by unfold unhexOk; rw [HLL.out]; simp; omega)
        go_wp2_with fail
        go_ret2
        refine ⟨?_, hinv.out.2.1.bel⟩
        rw [unhexB, unhexE, HE.out]
        rfl
      · have HE : Hid (unhexOk s.data.toList = true) := hide (by unfold unhexOk; rw [HLL.out, HALL.out]; simp; omega)
        go_wp2_with fail
        go_ret2
        refine ⟨?_, hinv.out.2.1.bel⟩
        rw [unhexB, unhexE, HE.out]
        rfl
end Go.Proofs.Ytaiedfimdjdoaaa
