/- DiskCuts, walked: a cut that is planned comes at just its operation. -/
import Derived.Test.YtfdikdacknfoeaaKnown4
import Derived.Test.YtfdikdacknfoeaaArgs
namespace Go.Proofs.Ytfdikdacknfoeaa
open Go.RowKit Zb

/-- behind i operations, the cut being planned behind n -/
structure CutSt (n i : Int) (D : DiskM) : Prop where
  len : D.lasts.length = 16
  wl : (D.waits.length : Int) ≤ i
  a : i ≤ n → D.off = false ∧ D.pon = true ∧ D.after = n - i ∧ D.ops = i
  b : n < i → D.off = true ∧ D.ops = n + 1

theorem CutSt.cut {n i : Int} {D : DiskM} (h0 : 0 ≤ i) (hn : n < 30) (hi : i ≤ n) (hl : D.lasts.length = 16) (ho : D.off = false) (hp : D.pon = true) (ha : D.after = n - i) (hops : D.ops = i) (hw : (D.waits.length : Int) ≤ i + 1) :
    D.cut.2 = decide (i = n) ∧ CutSt n (i + 1) D.cut.1 := by
  have hwr : wrap64 (i + 1) = i + 1 := by unfold wrap64; omega
  unfold DiskM.cut
  rw [if_neg (by simp [hp])]
  by_cases h : i = n
  · rw [if_neg (by omega)]
    refine ⟨by simp [h], ?_, ?_, fun hh => by omega, fun _ => ?_⟩
    · simp [DiskM.fail, ho, settleTo_length, hl]
    · simp [DiskM.fail, ho]; omega
    · simp [DiskM.fail, ho, hops, hwr]; omega
  · rw [if_pos (by omega)]
    have hwa : wrap64 (n - i - 1) = n - i - 1 := by unfold wrap64; omega
    refine ⟨by simp [h], hl, by simpa using hw, fun _ => ⟨ho, hp, by simp [ha, hwa]; omega, by simp [hops, hwr]⟩, fun hh => by omega⟩

theorem CutSt.write {n i : Int} {D : DiskM} (h : CutSt n i D) (h0 : 0 ≤ i) (hn : n < 30) (j : Int) (hj0 : 0 ≤ j) (hj1 : j < 16) (s : ByteArray) (hs : s.size = 64) :
    (D.write j s).2 = (if i < n then 0 else 7) ∧ CutSt n (i + 1) (D.write j s).1 := by
  by_cases hi : i ≤ n
  · obtain ⟨h1, h2, h3, h4⟩ := h.a hi
    have hwr : D.wrong j = 0 := by unfold DiskM.wrong; rw [h1, if_neg (by simp), if_neg (by rw [h.len]; omega)]
    obtain ⟨c1, c2⟩ := CutSt.cut (D := { D with waits := D.waits ++ [(j, s)] }) h0 hn hi h.len h1 h2 h3 h4 (by have := h.wl; simp; omega)
    unfold DiskM.write
    rw [if_neg (by simp [hwr]), if_neg (by simp [hs])]
    refine ⟨?_, c2⟩
    simp only [c1]
    by_cases e : i = n
    · simp [e]
    · rw [if_neg (by simpa using e), if_pos (by omega)]
  · obtain ⟨h1, h2⟩ := h.b (by omega)
    have hwr : D.wrong j = 7 := by unfold DiskM.wrong; rw [h1, if_pos rfl]
    unfold DiskM.write
    rw [if_pos (by simp [hwr]), if_neg (by omega)]
    exact ⟨hwr, h.len, by have := h.wl; show (D.waits.length : Int) ≤ _; omega, fun hh => by omega, fun _ => ⟨h1, h2⟩⟩

theorem CutSt.sync {n i : Int} {D : DiskM} (h : CutSt n i D) (h0 : 0 ≤ i) (hn : n < 30) :
    D.sync.2 = (if i < n then 0 else 7) ∧ CutSt n (i + 1) D.sync.1 := by
  by_cases hi : i ≤ n
  · obtain ⟨h1, h2, h3, h4⟩ := h.a hi
    have hwr : D.wrong 0 = 0 := by unfold DiskM.wrong; rw [h1, if_neg (by simp), if_neg (by rw [h.len]; omega)]
    obtain ⟨c1, c2⟩ := CutSt.cut (D := D) h0 hn hi h.len h1 h2 h3 h4 (by have := h.wl; omega)
    unfold DiskM.sync
    rw [if_neg (by simp [hwr])]
    by_cases e : i = n
    · rw [if_pos (by rw [c1]; simp [e]), if_neg (by omega)]
      exact ⟨rfl, c2⟩
    · rw [if_neg (by rw [c1]; simp [e]), if_pos (by omega)]
      refine ⟨rfl, by simp only [settleTo_length]; exact c2.len, by simp; omega, c2.a, c2.b⟩
  · obtain ⟨h1, h2⟩ := h.b (by omega)
    have hwr : D.wrong 0 = 7 := by unfold DiskM.wrong; rw [h1, if_pos rfl]
    unfold DiskM.sync
    rw [if_pos (by simp [hwr]), if_neg (by omega)]
    exact ⟨hwr, h.len, by have := h.wl; show (D.waits.length : Int) ≤ _; omega, fun hh => by omega, fun _ => ⟨h1, h2⟩⟩

structure CutsInv (w : World) (b : Nat) (n : Int) (k : Nat) (wr : World) : Prop where
  ex : ∃ D, DS w.heap.size w wr b D ∧ CutSt n k D

set_option maxHeartbeats 1000000 in
theorem lDiskCuts_calls (kk : Int) (h0 : 0 ≤ kk) (h1 : kk ≤ 255) (A : Option Addr) (cap : Nat) (l : List Bool) (m : Int) (w : World) (hr : ReadsBools w A l) :
    Calls Try.prog 4 #[.int .u8 kk, .slice A l.length cap, .int .u64 m] w fun e w' => e = .returned (.bool true) ∧ Below w.heap.size w w' := by
  have hn0 : 0 ≤ kk % 30 := by omega
  have hn1 : kk % 30 < 30 := by omega
  have HR := hide hr; clear hr
  go_enter Try.func4, Try.ntmps4
  go_wp2_with fail
  refine (ds_new (B := w.heap.size) (w0 := w) 16 (by omega) (by omega) (Below.refl _ _) (Nat.le_refl _)).mono ?_
  rintro e w1 ⟨b, rfl, hd1⟩
  go_wp2_with fail
  refine (ds_plan hd1 (kk % 30) m).mono ?_
  rintro e w2 ⟨rfl, hd2⟩
  have hp : (DiskM.new 16).plan (kk % 30) m = ({ DiskM.new 16 with pon := true, after := kk % 30, mask := m }, 0) := by unfold DiskM.plan; rw [if_neg (by omega)]
  rw [hp] at hd2 ⊢
  have hs : Hid (CutsInv w b (kk % 30) 0 w2) := hide ⟨_, hd2.out, by simp [DiskM.new], by simp [DiskM.new], fun _ => ⟨rfl, rfl, by simp, rfl⟩, fun h => by simp at h; omega⟩
  clear hp hd1 hd2
  go_wp2_with fail
  generalize hq : kk % 30 = n at *
  go_loopw [10] (fun i wr => ∃ k : Nat, k ≤ l.length ∧ k ≤ 40 ∧ i = .int .i64 k ∧ Hid (CutsInv w b n k wr)) (fun i _ => 40 - (intOf i).toNat)
  case atStart => exact ⟨0, Nat.zero_le _, by omega, rfl, hs⟩
  case round =>
    obtain ⟨k, hk1, hk2, rfl, hinv⟩ := hrel
    clear hs
    by_cases hlt : k < l.length ∧ k < 40
    · obtain ⟨hk3, hk4⟩ := hlt
      obtain ⟨D, hds, hst⟩ := hinv.out
      obtain ⟨ad, rfl, hlt, hc⟩ := HR.out k hk3
      have hc1 : wr.cell? (ad.add k) = some (.bool (l.getD k false)) := (hds.1.cell (p := ad.add k) (by unfold Addr.add; split <;> exact hlt)).trans hc
      have hst2 : Hid (∀ s : ByteArray, s.size = 64 → (D.write ((k : Int) % 16) s).2 = (if (k : Int) < n then 0 else 7) ∧ CutSt n ((k : Int) + 1) (D.write ((k : Int) % 16) s).1) := hide (fun s hs => hst.write (by omega) hn1 _ (by omega) (by omega) s hs)
      have hst3 := hide (hst.sync (by omega) hn1)
      have hwl : (D.waits.length : Int) ≤ k := hst.wl
      have hds := hide hds
      clear hc
      have hin : ∀ D' : DiskM, CutSt n ((k : Int) + 1) D' → D'.off = !decide ((k : Int) < n) ∧ D'.ops = (if (k : Int) < n then (k : Int) + 1 else n + 1) := by
        intro D' h'
        by_cases h : (k : Int) < n
        · obtain ⟨a1, _, _, a4⟩ := h'.a (by omega)
          exact ⟨by simp [a1, h], by rw [a4]; simp [h]⟩
        · obtain ⟨a1, a4⟩ := h'.b (by omega)
          exact ⟨by simp [a1, h], by rw [a4]; simp [h]⟩
      have HIN := hide hin; clear hin
      cases hv : l.getD k false
      · rw [hv] at hc1
        clear hv
        go_wp2_with fail
        refine (ds_sync hds (by omega)).mono ?_
        rintro e w3 ⟨rfl, h3⟩
        obtain ⟨e1, e2⟩ := hst3.out
        obtain ⟨e3, e4⟩ := HIN.out _ e2
        rw [e1]
        have hfin : Hid (CutsInv w b n (k + 1) w3) := hide ⟨_, h3.out, e2⟩
        have E3 := hide e3
        have E4 := hide e4
        clear e1 e2 e3 e4
        by_cases hkn : (k : Int) < n
        · rw [if_pos hkn]
          go_wp2_with fail
          refine (ds_on h3).mono ?_
          rintro e w' ⟨rfl, rfl⟩
          rw [E3.out]
          go_wp2_with fail
          refine (ds_ops h3).mono ?_
          rintro e w' ⟨rfl, rfl⟩
          rw [E4.out, if_pos hkn]
          go_wp2_with fail
          exact ⟨⟨k + 1, by omega, by omega, by go_num, hfin⟩, by simp [intOf]; omega⟩
        · rw [if_neg hkn]
          go_wp2_with fail
          refine (ds_on h3).mono ?_
          rintro e w' ⟨rfl, rfl⟩
          rw [E3.out]
          go_wp2_with fail
          refine (ds_ops h3).mono ?_
          rintro e w' ⟨rfl, rfl⟩
          rw [E4.out, if_neg (by omega)]
          go_wp2_with fail
          exact ⟨⟨k + 1, by omega, by omega, by go_num, hfin⟩, by simp [intOf]; omega⟩
      · rw [hv] at hc1
        clear hv
        have hm1 : (0 : Int) ≤ k := by omega
        go_wp2_with fail
        refine (lFull_calls 1 _).mono ?_
        rintro e w2b ⟨rfl, hbb⟩
        have hds := hds.below hbb
        clear hbb
        go_wp2_with fail
        refine (ds_write hds (by omega) ((k : Int) % 16) _).mono ?_
        rintro e w3 ⟨rfl, h3⟩
        obtain ⟨e1, e2⟩ := hst2.out (fullB 1) (fullB_size 1)
        obtain ⟨e3, e4⟩ := HIN.out _ e2
        rw [e1]
        have hfin : Hid (CutsInv w b n (k + 1) w3) := hide ⟨_, h3.out, e2⟩
        have E3 := hide e3
        have E4 := hide e4
        clear e1 e2 e3 e4
        by_cases hkn : (k : Int) < n
        · rw [if_pos hkn]
          go_wp2_with fail
          refine (ds_on h3).mono ?_
          rintro e w' ⟨rfl, rfl⟩
          rw [E3.out]
          go_wp2_with fail
          refine (ds_ops h3).mono ?_
          rintro e w' ⟨rfl, rfl⟩
          rw [E4.out, if_pos hkn]
          go_wp2_with fail
          exact ⟨⟨k + 1, by omega, by omega, by go_num, hfin⟩, by simp [intOf]; omega⟩
        · rw [if_neg hkn]
          go_wp2_with fail
          refine (ds_on h3).mono ?_
          rintro e w' ⟨rfl, rfl⟩
          rw [E3.out]
          go_wp2_with fail
          refine (ds_ops h3).mono ?_
          rintro e w' ⟨rfl, rfl⟩
          rw [E4.out, if_neg (by omega)]
          go_wp2_with fail
          exact ⟨⟨k + 1, by omega, by omega, by go_num, hfin⟩, by simp [intOf]; omega⟩
    · obtain ⟨D, hds, hst⟩ := hinv.out
      have hb := hide hds.1
      by_cases hlt2 : k < l.length
      · have hk40 : ¬ k < 40 := fun h => hlt ⟨hlt2, h⟩
        clear hlt hinv
        go_wp2_with fail
        refine (lknown4_calls _).mono ?_
        rintro e w3 ⟨rfl, h3⟩
        go_wp2_with fail
        go_ret
        exact ⟨rfl, hb.out.trans (h3.mono hb.out.size)⟩
      · clear hlt hinv
        go_wp2_with fail
        refine (lknown4_calls _).mono ?_
        rintro e w3 ⟨rfl, h3⟩
        go_wp2_with fail
        go_ret
        exact ⟨rfl, hb.out.trans (h3.mono hb.out.size)⟩

theorem DiskCuts_walk (a0 : Int) (A1 : Option Addr) (cap1 : Nat) (l1 : List Bool) (a2 : Int) (w : World) (w0 : (Lit.int .u8 a0).wf = true) (_y1 : l1.length ≤ 9223372036854775807) (w1 : ReadsBools w A1 l1) (_w2 : (Lit.int .u64 a2).wf = true) :
    Calls Try.prog 4 #[.int .u8 a0, .slice A1 l1.length cap1, .int .u64 a2] w fun e w' => e = .returned (.bool true) ∧ Below w.heap.size w w' := by
  have h := bounds_u8 w0
  exact lDiskCuts_calls a0 h.1 h.2 A1 cap1 l1 a2 w w1
end Go.Proofs.Ytfdikdacknfoeaa
