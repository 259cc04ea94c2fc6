/- Names of the language: head, within, word, Key, Name of the program, walked. -/
import Derived.Test.YtkipmbnmmbeeaaaLexA
namespace Go.Proofs.Ytkipmbnmmbeeaaa
open Go.RowKit Zb

set_option maxRecDepth 20000 in
theorem runI_drop (l : List UInt8) (k : Nat) (h : ∀ j, j < k → ∀ c, l[j]? = some c → lexI c.toNat = true) : runI l = k + runI (l.drop k) ∨ l.length < k := by
  induction k generalizing l with
  | zero => left; simp
  | succ k ih =>
    cases l with
    | nil => right; simp
    | cons c r =>
      have h0 := h 0 (by omega) c rfl
      rcases ih r (fun j hj d hd => h (j + 1) (by omega) d hd) with h1 | h1
      · left
        have e : runI (c :: r) = runI r + 1 := by
          show (if lexI c.toNat = true then runI r + 1 else 0) = _
          rw [if_pos h0]
        rw [e, List.drop_succ_cons, h1]
        omega
      · right
        simp; omega
set_option maxRecDepth 20000 in
theorem runI_stop (l : List UInt8) (k : Nat) (c : UInt8) (hc : l[k]? = some c) (hn : lexI c.toNat = false) : runI (l.drop k) = 0 := by
  have hk : k < l.length := (List.getElem?_eq_some_iff.1 hc).1
  rw [List.drop_eq_getElem_cons hk]
  have : l[k] = c := by rw [List.getElem?_eq_getElem hk] at hc; exact Option.some.inj hc
  unfold runI
  rw [this, if_neg (by rw [hn]; decide)]
set_option maxRecDepth 20000 in
theorem lexI_high (c : Nat) (h : 128 ≤ c) : lexI c = false := by
  unfold lexI lexL
  simp
  omega
set_option maxRecDepth 20000 in
set_option maxHeartbeats 2000000 in
theorem xhead_calls (s : ByteArray) (hs : s.size ≤ 140737488351232) (w : World) : Calls Try.prog 74 #[.string s, .func (.func 75) #[] #[]] w fun e w' => e = .returned (.string (s.extract 0 (runI s.data.toList))) ∧ Below w.heap.size w w' := by
  have hsz : s.data.toList.length = s.size := rfl
  go_enter Try.func74, Try.ntmps74
  go_wp2_with fail
  go_loopw [5] (fun _ wr => ∃ k : Nat, k ≤ s.size ∧ wr = w.iter s k ∧ ∀ j, j < k → ∀ c, s.data.toList[j]? = some c → lexI c.toNat = true) (fun _ wr => s.size - wr.iterPos w.heap.size)
  case atStart => exact ⟨0, by omega, rfl, fun j hj => by omega⟩
  case round =>
    obtain ⟨k, hk, rfl, hall⟩ := hrel
    by_cases hp : k < s.size
    · have hget : s.data.toList[k]? = some s[k] := by
        rw [List.getElem?_eq_getElem (by rw [hsz]; exact hp)]
        rfl
      have hcut : ∀ n : Nat, runI (s.data.toList.drop k) = 0 → s.extract 0 (runI s.data.toList) = s.extract 0 k := fun _ h0 => by
        rcases runI_drop s.data.toList k hall with h | h
        · rw [h, h0]; rfl
        · rw [hsz] at h; omega
      by_cases ha : (s[k]).toNat < 128
      · have hnx : ∀ ty, (Instr.next (.pointer (some ⟨w.heap.size, 0, none⟩)) true ty).run Try.prog (w.iter s k) = _ := fun ty => run_next_ascii w s k ty hp ha
        have HI := hide (fun w1 => xinner_calls (s[k]).toNat (by omega) w1)
        obtain ⟨c, hc⟩ : ∃ c : UInt8, s[k] = c := ⟨_, rfl⟩
        rw [hc] at hnx HI hget
        have HALL := hide hall
        have HG := hide hget
        have HC := hide hcut
        have hkI : (k : Int) ≤ (s.size : Int) := by omega
        clear hall hget hcut ha
        go_wp2_with fail
        refine (HI.out _).mono ?_
        rintro e w' ⟨rfl, rfl⟩
        cases hi : lexI c.toNat
        · have HE := hide (HC.out 0 (runI_stop _ k c HG.out hi))
          clear hi
          go_wp2_with fail
          go_ret
          rw [HE.out]
          exact ⟨rfl, (Below.refl _ _).alloc (Nat.le_refl _) _⟩
        · have HN := hide hi
          clear hi
          go_wp2_with fail
          refine ⟨⟨k + 1, by omega, rfl, fun j hj d hd => ?_⟩, ?_⟩
          · by_cases hjk : j = k
            · subst hjk
              rw [HG.out] at hd
              obtain rfl := Option.some.inj hd
              exact HN.out
            · exact HALL.out j (by omega) d hd
          · simp
            omega
      · have hnx : ∀ ty, (Instr.next (.pointer (some ⟨w.heap.size, 0, none⟩)) true ty).run Try.prog (w.iter s k) = _ := fun ty => run_next_any w s k ty hp
        have hd := (decode_high s k hp (by omega)).1
        have hle := decode_le s k
        have HE := hide (hcut 0 (runI_stop _ k _ hget (lexI_high _ (by omega))))
        obtain ⟨r, hr⟩ : ∃ r, (Utf8.decode s k).1 = r := ⟨_, rfl⟩
        obtain ⟨W, hW⟩ : ∃ W, k + (Utf8.decode s k).2 = W := ⟨_, rfl⟩
        rw [hr, hW] at hnx
        rw [hr] at hd hle
        have HI := hide (fun w1 => xinner_calls r hle w1)
        rw [lexI_high r hd] at HI
        have hkI : (k : Int) ≤ (s.size : Int) := by omega
        clear hall hget hcut ha hr hW hd hle
        go_wp2_with fail
        refine (HI.out _).mono ?_
        rintro e w' ⟨rfl, rfl⟩
        go_wp2_with fail
        go_ret
        rw [HE.out]
        exact ⟨rfl, (Below.refl _ _).alloc (Nat.le_refl _) _⟩
    · have hke : k = s.size := by omega
      subst hke
      have hnx : ∀ ty, (Instr.next (.pointer (some ⟨w.heap.size, 0, none⟩)) true ty).run Try.prog (w.iter s s.size) = _ := fun ty => run_next_end w s s.size ty hp
      have HE : Hid (s.extract 0 (runI s.data.toList) = s) := hide (by
        have e : runI s.data.toList = s.data.toList.length := (runI_all _).2 fun c hc => by
          obtain ⟨j, hj, rfl⟩ := List.mem_iff_getElem.1 hc
          exact hall j (by rw [hsz] at hj; omega) _ (List.getElem?_eq_getElem hj)
        rw [e, hsz]
        exact ByteArray.extract_zero_size)
      clear hall
      go_wp2_with fail
      go_ret
      rw [HE.out]
      exact ⟨rfl, (Below.refl _ _).alloc (Nat.le_refl _) _⟩
set_option maxRecDepth 20000 in
theorem lbytes_ne {n m : ByteArray} (h : n ≠ m) : (¬ n.toList = m.toList) ∧ (n.toList == m.toList) = false := by
  have h1 : ¬ n.toList = m.toList := by
    intro e
    rw [ByteArray.toList_eq, ByteArray.toList_eq] at e
    exact h (ByteArray.ext (Array.toList_inj.1 e))
  exact ⟨h1, by simpa using h1⟩
set_option maxRecDepth 20000 in
set_option maxHeartbeats 2000000 in
theorem xwithin_calls (a t : ByteArray) (ha : a.size ≤ 1000000) (ht : t.size ≤ 140737488351234) (w : World) : Calls Try.prog 76 #[.string a, .string t] w fun e w' => e = .returned (.bool (withinL a.data.toList t.data.toList)) ∧ w = w' := by
  have hsa : a.data.toList.length = a.size := rfl
  have hst : t.data.toList.length = t.size := rfl
  go_enter Try.func76, Try.ntmps76
  go_wp2_with fail
  go_loopw [5] (fun i wr => ∃ k : Nat, k ≤ a.size + 1 ∧ i = .int .i64 (k : Int) ∧ wr = w ∧ Hid (∀ j, j < k → ¬ (j + t.size ≤ a.size ∧ (a.data.toList.drop j).take t.size = t.data.toList))) (fun i _ => a.size + 2 - (intOf i).toNat)
  case atStart => exact ⟨0, by omega, rfl, rfl, hide fun j hj => by omega⟩
  case round =>
    obtain ⟨k, hk, rfl, rfl, hno⟩ := hrel
    by_cases hlt : k + t.size ≤ a.size
    · have hI : (k : Int) + (t.size : Int) ≤ (a.size : Int) := by omega
      have hk0 : (0 : Int) ≤ (k : Int) := by omega
      have hw1 : IntKind.i64.wrap ((k : Int) + (t.size : Int)) = (k : Int) + (t.size : Int) := IntWalk.i64_in _ (by omega)
      have hext : (a.extract k (k + t.size)).data.toList = (a.data.toList.drop k).take t.size := by
        simp only [ByteArray.data_extract, Array.toList_extract, List.extract_eq_take_drop]
        rw [show k + t.size - k = t.size by omega]
      by_cases he : a.extract k (k + t.size) = t
      · have HE := hide (show withinL a.data.toList t.data.toList = true from (withinL_iff _ _).2 ⟨k, by rw [hsa, hst]; exact hlt, by rw [hst, ← hext, he]⟩)
        clear hno hlt hext
        go_wp2_with fail
        go_ret
        exact ⟨by rw [HE.out]; rfl, rfl⟩
      · obtain ⟨n1, n2⟩ := lbytes_ne he
        have HN2 := hide (show ∀ j, j < k + 1 → ¬ (j + t.size ≤ a.size ∧ (a.data.toList.drop j).take t.size = t.data.toList) from fun j hj => by
          by_cases hjk : j = k
          · subst hjk
            rintro ⟨_, h2⟩
            rw [← hext] at h2
            exact he (ByteArray.ext (Array.toList_inj.1 h2))
          · exact hno.out j (by omega))
        have hkl := hide hlt
        clear hno hlt hext he
        go_wp2_with fail
        have hkl' := hkl.out
        refine ⟨⟨k + 1, by omega, by go_num, trivial, HN2⟩, ?_⟩
        simp [intOf]
        omega
    · have hI : ¬ ((k : Int) + (t.size : Int) ≤ (a.size : Int)) := by omega
      have hw1 : IntKind.i64.wrap ((k : Int) + (t.size : Int)) = (k : Int) + (t.size : Int) := IntWalk.i64_in _ (by omega)
      have HE := hide (show withinL a.data.toList t.data.toList = false by
        cases h : withinL a.data.toList t.data.toList
        · rfl
        · obtain ⟨i, h1, h2⟩ := (withinL_iff _ _).1 h
          rw [hsa, hst] at h1
          rw [hst] at h2
          exact absurd ⟨h1, h2⟩ (hno.out i (by omega)))
      clear hno hlt
      go_wp2_with fail
      go_ret
      exact ⟨by rw [HE.out]; rfl, rfl⟩
end Go.Proofs.Ytkipmbnmmbeeaaa
