/- Chapter 7: a store beside what its disk tells: plain; known, walked. -/
import Derived.Test.YtacbnoagdlelgaaStP
import Derived.Test.YtacbnoagdlelgaaStE
import Derived.Test.YtacbnoagdlelgaaStF
namespace Go.Proofs.Ytacbnoagdlelgaa
open Go.RowKit Zb

/-- the store has what its disk tells; what waits lies in its slot -/
structure SI (S : StoreM) (D : DiskM) (n : Nat) : Prop where
  g : G7 D S.k n
  odd : S.odd = false
  w : ∀ k, S.waits = some k → Has D k
set_option maxRecDepth 20000 in
theorem SI.opened {D : DiskM} {K : KeptM} {n : Nat} (h : G7 D K n) : SI ⟨K, false, none⟩ D n := ⟨h, rfl, fun k hk => by cases hk⟩
set_option maxRecDepth 20000 in
theorem SI.shut {S : StoreM} {D : DiskM} {n : Nat} (h : SI S D n) : SI S.shut D n := ⟨h.g, h.odd, fun k hk => by cases hk⟩
set_option maxRecDepth 20000 in
theorem SI.fit {S : StoreM} {D : DiskM} {n : Nat} (h : SI S D n) : Fit D S.k := by
  rcases h.g.tells with ⟨e, _⟩ | ⟨h, _⟩
  · exact .inl e
  · exact .inr h
set_option maxRecDepth 20000 in
theorem SI.prepare {S : StoreM} {D : DiskM} {n : Nat} (h : SI S D n) (hn : n < 1000000) (t : ByteArray) :
    (slotN D * 64 < t.size ∧ prepareS S D t = (S.shut, D, 6)) ∨
    (t.size ≤ slotN D * 64 ∧ ∃ D', prepareS S D t = (S.wait (nextK S t), D', 0) ∧ SI (S.wait (nextK S t)) D' (n + 1) ∧ D'.lasts.length = D.lasts.length ∧ (D.pon = false → D'.pon = false)) ∨
    (D.pon = true ∧ ∃ D', prepareS S D t = (S.shut, D', 7) ∧ Af D' (fun k => k = S.k) (n + 1)) := by
  have ho : otherS S = otherK S.k := rfl
  rcases h.g.write t with ⟨h1, h2⟩ | ⟨h1, h2, h3, h4, h5, h6⟩ | ⟨h1, h2, h3⟩
  · refine .inl ⟨h1, ?_⟩
    unfold prepareS
    rw [ho, h2, if_pos (by show (6 : Int) ≠ 0; decide)]
  · have hfit : Fit (slotWrite D (otherK S.k) t).1 S.k := by
      rcases h3.tells with ⟨e, _⟩ | ⟨h, _⟩
      · exact .inl e
      · exact .inr h
    rcases h3.append hn hfit 1 (by decide) (by decide) with ⟨a1, a2, a3, a4, a5⟩ | ⟨a1, a2, a3⟩
    · refine .inr (.inl ⟨h1, _, ?_, ⟨a2, h.odd, fun k hk => ?_⟩, by rw [a3, h5], fun hp => a5 (h6 hp)⟩)
      · unfold prepareS
        rw [ho, if_neg (by simpa using h2), if_neg (by simpa using a1)]
      · obtain rfl : nextK S t = k := by simpa [StoreM.wait] using hk
        exact a4 _ h4
    · refine .inr (.inr ⟨?_, _, ?_, a3.mono fun k hk => by rcases hk with h | h <;> exact h⟩)
      · cases hp : D.pon
        · rw [h6 hp] at a1; cases a1
        · rfl
      · unfold prepareS
        rw [ho, if_neg (by simpa using h2), if_pos (by rw [a2]; decide), a2]
  · refine .inr (.inr ⟨h1, _, ?_, ⟨h3.wts, h3.full, h3.len, fun D' r f e => ?_⟩⟩)
    · unfold prepareS
      rw [ho, if_pos (by rw [h2]; decide), h2]
    · obtain ⟨K, hk, hg⟩ := h3.g D' r f e
      exact ⟨K, hk, ⟨hg.rest, hg.full, hg.tells, hg.n0, by have := hg.n1; omega, hg.len⟩⟩
set_option maxRecDepth 20000 in
theorem SI.commit {S : StoreM} {D : DiskM} {n : Nat} {k : KeptM} (h : SI S D n) (hn : n < 1000000) (hw : S.waits = some k) :
    (∃ D', commitS S D = (⟨k, false, none⟩, D', 0) ∧ SI ⟨k, false, none⟩ D' (n + 1) ∧ D'.lasts.length = D.lasts.length ∧ (D.pon = false → D'.pon = false)) ∨
    (D.pon = true ∧ ∃ D', commitS S D = (S.shut, D', 7) ∧ Af D' (fun q => q = k ∨ q = S.k) (n + 1)) := by
  rcases h.g.append hn (.inr (h.w k hw)) 2 (by decide) (by decide) with ⟨a1, a2, a3, a4, a5⟩ | ⟨a1, a2, a3⟩
  · refine .inl ⟨_, ?_, SI.opened a2, a3, a5⟩
    unfold commitS
    rw [hw]
    dsimp only
    rw [if_neg (by simpa using a1)]
  · refine .inr ⟨a1, _, ?_, a3⟩
    unfold commitS
    rw [hw]
    dsimp only
    rw [if_pos (by rw [a2]; decide), a2]
set_option maxRecDepth 20000 in
theorem SI.drop {S : StoreM} {D : DiskM} {n : Nat} {k : KeptM} (h : SI S D n) (hn : n < 1000000) (hw : S.waits = some k) :
    (∃ D', dropS S D = (S.shut, D', 0) ∧ SI S.shut D' (n + 1) ∧ D'.lasts.length = D.lasts.length ∧ (D.pon = false → D'.pon = false)) ∨
    (D.pon = true ∧ ∃ D', dropS S D = (S.shut, D', 7) ∧ Af D' (fun q => q = S.k) (n + 1)) := by
  rcases h.g.append hn h.fit 3 (by decide) (by decide) with ⟨a1, a2, a3, a4, a5⟩ | ⟨a1, a2, a3⟩
  · refine .inl ⟨_, ?_, ⟨a2, h.odd, fun k hk => by cases hk⟩, a3, a5⟩
    unfold dropS
    rw [hw]
    dsimp only
    rw [a1]
  · refine .inr ⟨a1, _, ?_, a3.mono fun k hk => by rcases hk with h | h <;> exact h⟩
    unfold dropS
    rw [hw]
    dsimp only
    rw [a2]
set_option maxRecDepth 20000 in
theorem text_none : textS ⟨KeptM.none, false, none⟩ = (⟨#[]⟩, false) := rfl
set_option maxRecDepth 20000 in
theorem text_has {D : DiskM} {S : StoreM} (h : Has D S.k) : textS S = (S.k.text, true) := by
  unfold textS
  rw [if_neg (by have := h.s1; omega)]

set_option maxRecDepth 20000 in
set_option maxHeartbeats 4000000 in
theorem lknown7_calls (w : World) : Calls Try.prog 9 #[] w fun e w' => e = .returned (.bool true) ∧ Below w.heap.size w w' := by
  have HN := hide (ds_new 16 (by omega) (by omega) (Below.refl w.heap.size w) (Nat.le_refl _))
  have G0 := hide (G7.new (N := 16) (by decide) (by decide))
  have HP0 : Hid ((DiskM.new 16).pon = false ∧ slotN (DiskM.new 16) = 4) := hide ⟨rfl, by rw [slotN_new]⟩
  go_enter Try.func9, Try.ntmps9
  go_wp2_with fail
  refine HN.out.mono ?_
  rintro r w1 ⟨b, rfl, HD1⟩
  have HO := hide (st_open (DO.of_ds HD1.out) G0.out.full (by simp [DiskM.new]))
  go_wp2_with fail
  refine HO.out.mono ?_
  rintro r w2 ⟨_, hr⟩
  rcases hr with ⟨_, s, rfl, HS2⟩ | ⟨h, _⟩
  rotate_left
  · exact absurd G0.out.opens.1 h
  rw [G0.out.opens.2] at HS2
  have I0 := hide (SI.opened G0.out)
  go_wp2_with fail
  refine (tText_calls HS2.out.st).mono ?_
  rintro r _ ⟨rfl, rfl⟩
  rw [text_none]
  rcases I0.out.prepare (by decide) ⟨#[97]⟩ with ⟨h1, _⟩ | ⟨_, D1, h2, h3, h4, h5⟩ | ⟨h1, _⟩
  · exact absurd h1 (by rw [HP0.out.2]; decide)
  rotate_left
  · rw [HP0.out.1] at h1; cases h1
  have HPR := hide (tPrepare_calls HS2.out (by simp [DiskM.new]) (by simp [DiskM.new]) ⟨#[97]⟩ (by decide))
  rw [h2] at HPR
  have I1 := hide h3
  have P1 := hide (h5 HP0.out.1)
  have L1 := hide h4
  clear h2 h3 h4 h5
  go_wp2_with fail
  refine HPR.out.mono ?_
  rintro r w3 ⟨rfl, HS3⟩
  go_wp2_with fail
  refine (tWaits_calls HS3.out.st).mono ?_
  rintro r _ ⟨rfl, rfl⟩
  rcases I1.out.commit (by decide) (k := nextK ⟨KeptM.none, false, none⟩ ⟨#[97]⟩) rfl with ⟨D2, h2, h3, h4, h5⟩ | ⟨h1, _⟩
  rotate_left
  · rw [P1.out] at h1; cases h1
  have HCM := hide (tCommit_calls HS3.out (by rw [I1.out.g.rest.wts]; exact Nat.zero_le _))
  rw [h2] at HCM
  have I2 := hide h3
  have P2 := hide (h5 P1.out)
  have L2 : Hid (D2.lasts.length = 16) := hide (by rw [h4, L1.out]; simp [DiskM.new])
  clear h2 h3 h4 h5
  go_wp2_with fail
  refine HCM.out.mono ?_
  rintro r w4 ⟨rfl, HS4⟩
  rcases I2.out.prepare (by decide) ⟨#[98]⟩ with ⟨h1, _⟩ | ⟨_, D3, h2, h3, h4, h5⟩ | ⟨h1, _⟩
  · exact absurd h1 (by unfold slotN; rw [L2.out]; decide)
  rotate_left
  · rw [P2.out] at h1; cases h1
  have HPR2 := hide (tPrepare_calls HS4.out (by rw [L2.out]; decide) (by rw [I2.out.g.rest.wts]; exact Nat.zero_le _) ⟨#[98]⟩ (by decide))
  rw [h2] at HPR2
  have I3 := hide h3
  clear h2 h3 h4 h5
  obtain ⟨K, hK, hG⟩ := I3.out.g.af.again 0
  obtain rfl : K = nextK ⟨KeptM.none, false, none⟩ ⟨#[97]⟩ := hK
  have G4 := hide hG
  clear hG
  go_wp2_with fail
  refine HPR2.out.mono ?_
  rintro r w5 ⟨rfl, HS5⟩
  have HF := hide (st_op HS5.out (fun F hF => dfail_calls hF 0 (by rw [I3.out.g.rest.wts]; exact Nat.zero_le _)))
  go_wp2_with fail
  refine HF.out.mono ?_
  rintro r w6 ⟨rfl, HS6⟩
  have HSS := hide (st_op HS6.out (fun F hF => dstart_calls hF))
  go_wp2_with fail
  refine HSS.out.mono ?_
  rintro r w7 ⟨rfl, HS7⟩
  have HO2 : Hid (∃ G, DO w.heap.size w w7 b ((D3.fail 0).start) G) := hide (by obtain ⟨_, G, h, _⟩ := HS7.out; exact ⟨G, h.own⟩)
  have HOP := hide (by obtain ⟨G, h⟩ := HO2.out; exact st_open h G4.out.full (by rw [G4.out.rest.wts]; exact Nat.zero_le _))
  go_wp2_with fail
  refine HOP.out.mono ?_
  rintro r w8 ⟨hb8, hr⟩
  rcases hr with ⟨_, s2, rfl, HS8⟩ | ⟨h, _⟩
  rotate_left
  · exact absurd G4.out.opens.1 h
  rw [G4.out.opens.2] at HS8
  have HTX : Hid (textS ⟨nextK ⟨KeptM.none, false, none⟩ ⟨#[97]⟩, false, none⟩ = (⟨#[97]⟩, true)) := hide rfl
  have HCM2 := hide (tCommit_calls HS8.out (by rw [G4.out.rest.wts]; exact Nat.zero_le _))
  rw [show commitS ⟨nextK ⟨KeptM.none, false, none⟩ ⟨#[97]⟩, false, none⟩ ((D3.fail 0).start) = (⟨nextK ⟨KeptM.none, false, none⟩ ⟨#[97]⟩, false, none⟩, (D3.fail 0).start, 8) from rfl] at HCM2
  go_wp2_with fail
  refine (tText_calls HS8.out.st).mono ?_
  rintro r _ ⟨rfl, rfl⟩
  rw [HTX.out]
  go_wp2_with fail
  refine HCM2.out.mono ?_
  rintro r w9 ⟨rfl, HS9⟩
  go_wp2_with fail
  refine (tOdd_calls HS9.out.st).mono ?_
  rintro r _ ⟨rfl, rfl⟩
  go_wp2_with fail
  go_ret
  exact ⟨rfl, HS9.out.bel⟩
end Go.Proofs.Ytacbnoagdlelgaa
