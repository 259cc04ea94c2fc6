/- Chapter 14: the reader's list, for whatever reads one; ok; open, walked. -/
import Derived.Test.YthgjmbcojbmlhaaImgG
namespace Go.Proofs.Ythgjmbcojbmlhaa
open Go.RowKit Zb

set_option maxRecDepth 20000 in
theorem rnum_lim2 (s : ByteArray) (t : St) : 0 ≤ (rnum s 2 t).1 ∧ (rnum s 2 t).1 ≤ 65535 := by
  unfold rnum
  split
  · dsimp only
    unfold getN
    split
    · have h1 := leN_lt (cutL s (t.at_ : Int).toNat ((2 : Nat) : Int).toNat)
      have h2 : (cutL s (t.at_ : Int).toNat ((2 : Nat) : Int).toNat).length ≤ 2 := List.length_take_le _ _
      have h3 : leN (cutL s (t.at_ : Int).toNat ((2 : Nat) : Int).toNat) < 65536 := Nat.lt_of_lt_of_le h1 (Nat.le_trans (Nat.pow_le_pow_right (by omega) h2) (by decide))
      unfold wrap64
      omega
    · omega
  · dsimp only
    omega
set_option maxRecDepth 20000 in
theorem rlist_out {α : Type} (one : St → α × St) (n : Nat) {t : St} (h : t.whole = false) : rlist one n t = ([], t) := by
  cases n with
  | zero => rfl
  | succ n => simp only [rlist, h]; rfl
set_option maxRecDepth 20000 in
theorem uopen4_calls {w : World} {gw : Nat} {b : Bool} (h : Blk w gw 4 #[.bool b]) : Calls Try.prog 66 #[ptrW gw] w fun e w' => e = .returned (.bool b) ∧ w' = w := by
  have z0 : w.cell? ⟨gw, 0, none⟩ = some (.bool b) := h.cell 0
  clear h
  go_enter Try.func66, Try.ntmps66
  go_wp2_with fail
  go_ret
  exact ⟨rfl, rfl⟩
set_option maxRecDepth 20000 in
set_option maxHeartbeats 2000000 in
theorem uopen3_calls {α : Type} {w0 : World} {gs ga gw gx : Nat} {s : ByteArray} (hs : s.size ≤ 100000000) (one : St → α × St) (F : FuncId) (caps : Array Value) (hcf : ∀ w : World, (callFunc F caps).run Try.prog w = .ok (.enter F caps) w) (INV : World → St → List α → Prop)
    (hrd : ∀ w t l, INV w t l → RdS w0 w gs ga gw gx s t ∧ t.at_ ≤ s.size)
    (hkr : ∀ w w' t t' l, INV w t l → RdS w0 w' gs ga gw gx s t' → t'.at_ ≤ s.size → Turned (TkF ga gw) w w' → INV w' t' l)
    {w : World} {t : St} {l : List α}
    (hF : ∀ w t l2, t.whole = true → l2.length ≤ l.length + 65535 → INV w t l2 → Calls Try.prog F caps w fun e w' => e = .returned (.tuple #[]) ∧ INV w' (one t).2 (l2 ++ [(one t).1]))
    (h : INV w t l) : Calls Try.prog 65 #[.func (.func F) #[] caps, ptrW gx, ptrW gw] w fun e w' => e = .returned (.tuple #[]) ∧ INV w' (rlists s one t).2 (l ++ (rlists s one t).1) := by
  obtain ⟨hst, hat⟩ := hrd w t l h
  have HN := hide (uopen1_calls hst hs hat 2 (by omega))
  have hlim := rnum_lim2 s t
  have hle := (Rd.num 2).le s t hat
  have HI := hide h
  have HRD := hide hrd
  have HKR := hide hkr
  have HFF := hide hF
  have z0 : w.cell? ⟨gx, 0, none⟩ = some (.func (.func 61) #[] #[ptrW gs, ptrW ga, ptrW gw]) := hst.bx.cell 0
  obtain ⟨LF, hLF⟩ : ∃ z, l ++ (rlists s one t).1 = z := ⟨_, rfl⟩
  obtain ⟨TF, hTF⟩ : ∃ z, (rlists s one t).2 = z := ⟨_, rfl⟩
  rw [hLF, hTF]
  have HA : Hid (l ++ (rlist one (rnum s 2 t).1.toNat (rnum s 2 t).2).1 = LF ∧ (rlist one (rnum s 2 t).1.toNat (rnum s 2 t).2).2 = TF) := hide ⟨hLF, hTF⟩
  obtain ⟨n0, hn0⟩ : ∃ n, (rnum s 2 t).1 = n := ⟨_, rfl⟩
  obtain ⟨t1, ht1⟩ : ∃ n, (rnum s 2 t).2 = n := ⟨_, rfl⟩
  rw [hn0, ht1] at HN HA
  rw [hn0] at hlim
  rw [ht1] at hle
  clear hLF hTF hn0 ht1 hst hrd hkr hF h
  obtain ⟨hl0, hl1⟩ := hlim
  obtain ⟨j0, rfl⟩ : ∃ j : Nat, n0 = j := ⟨n0.toNat, by omega⟩
  rw [Int.toNat_natCast] at HA
  have HN2 : Hid (Calls Try.prog 61 #[.int .i64 2, ptrW gs, ptrW ga, ptrW gw] w fun e w' => e = .returned (.int .i64 (j0 : Int)) ∧ RdS w0 w' gs ga gw gx s t1 ∧ Turned (TkF ga gw) w w') := hide HN.out
  clear HN hl0
  go_enter Try.func65, Try.ntmps65
  go_wp2_with fail
  refine HN2.out.mono ?_
  rintro e w1 ⟨rfl, h1, h2⟩
  have HI1 := hide (HKR.out _ _ _ _ _ HI.out h1 hle h2)
  clear h1 h2 z0
  go_wp2_with fail
  go_loopw [4] (fun n wr => ∃ (j : Nat) (t2 : St) (l2 : List α), j ≤ j0 ∧ n = .int .i64 (j : Int) ∧ l2.length + j = l.length + j0 ∧ Hid (INV wr t2 l2) ∧ Hid (l2 ++ (rlist one j t2).1 = LF ∧ (rlist one j t2).2 = TF)) (fun n _ => (intOf n).toNat)
  case atStart => exact ⟨j0, t1, l, Nat.le_refl _, rfl, rfl, HI1, HA⟩
  case round =>
    clear HI1 HA
    obtain ⟨j, t2, l2, hj, rfl, hlj, HV, HE⟩ := hrel
    have hst := (HRD.out _ _ _ HV.out).1
    by_cases hj0 : 0 < j
    · obtain ⟨i, rfl⟩ : ∃ i, j = i + 1 := ⟨j - 1, by omega⟩
      have hjI : (0 : Int) < ((i + 1 : Nat) : Int) := by omega
      have hjS : IntKind.i64.wrap (((i + 1 : Nat) : Int) - 1) = (i : Int) := by rw [IntWalk.i64_in _ (by omega)]; omega
      by_cases hw : t2.whole = true
      · have z2 : wr.cell? ⟨gw, 0, none⟩ = some (.bool true) := by rw [← hw]; exact hst.bw.cell 0
        have HC := hide (HFF.out _ _ _ hw (by omega) HV.out)
        have HE2 : Hid ((l2 ++ [(one t2).1]) ++ (rlist one i (one t2).2).1 = LF ∧ (rlist one i (one t2).2).2 = TF) := hide (by
          have h1 := HE.out
          simp only [rlist, hw, if_true] at h1
          simpa using h1)
        have hcf1 := hcf wr
        clear hst
        go_wp2_with fail
        refine HC.out.mono ?_
        rintro e w3 ⟨rfl, h3⟩
        have HV3 := hide h3
        clear h3 z2
        go_wp2_with fail
        refine ⟨⟨i, (one t2).2, l2 ++ [(one t2).1], by omega, by go_num, by rw [List.length_append]; simp only [List.length_singleton]; omega, HV3, HE2⟩, ?_⟩
        simp [intOf]
      · have hw : t2.whole = false := by simpa using hw
        have z2 : wr.cell? ⟨gw, 0, none⟩ = some (.bool false) := by rw [← hw]; exact hst.bw.cell 0
        obtain ⟨e1, e2⟩ := HE.out
        rw [rlist_out one _ hw] at e1 e2
        dsimp only at e1 e2
        rw [List.append_nil] at e1
        have HV2 : Hid (INV wr TF LF) := hide (by rw [← e1, ← e2]; exact HV.out)
        clear e1 e2 hst
        go_wp2_with fail
        refine bodyPost_end (results_none rfl _ _ _) rfl ?_
        exact ⟨rfl, HV2.out⟩
    · obtain rfl : j = 0 := by omega
      obtain ⟨e1, e2⟩ := HE.out
      simp only [rlist] at e1 e2
      rw [List.append_nil] at e1
      have HV2 : Hid (INV wr TF LF) := hide (by rw [← e1, ← e2]; exact HV.out)
      clear e1 e2 hst
      go_wp2_with fail
      refine bodyPost_end (results_none rfl _ _ _) rfl ?_
      exact ⟨rfl, HV2.out⟩
end Go.Proofs.Ythgjmbcojbmlhaa
