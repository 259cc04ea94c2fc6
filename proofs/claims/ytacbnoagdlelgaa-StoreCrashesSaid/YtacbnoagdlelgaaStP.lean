/- Chapter 7: what a disk tells of a store, whatever fails: plain facts of the model. No program's text. -/
import Derived.Test.YtacbnoagdlelgaaStM
namespace Go.Proofs.Ytacbnoagdlelgaa
open Go.RowKit Zb

/-- Append over a disk that rests -/
theorem append_any {D : DiskM} (h : Rest D) (e : EntM) {E : EntM} (hE : { e with number := (lastM D).number + 1 } = E) (hR : RightE E) :
    ((appendM D e).2 = (E, 0) ∧ (appendM D e).1.lasts = D.lasts.set (E.number % 8).toNat E.block ∧ Rest (appendM D e).1 ∧ (D.pon = false → (appendM D e).1.pon = false)) ∨
    (D.pon = true ∧ (appendM D e).2 = (EntM.zero, 7) ∧ ((appendM D e).1.lasts = D.lasts.set (E.number % 8).toNat E.block ∨ (appendM D e).1.lasts = D.lasts) ∧ (appendM D e).1.waits = []) := by
  have hn : (lastM D).number ≠ 4294967295 := by
    have h1 := hR.n1
    rw [← hE] at h1
    have : (lastM D).number + 1 ≤ 4294967295 := h1
    omega
  have hl := h.len
  have h8 : 0 ≤ E.number % 8 ∧ E.number % 8 < 8 := by omega
  have hw : D.wrong (E.number % 8) = 0 := by
    unfold DiskM.wrong
    rw [h.off, if_neg (by omega : ¬ (E.number % 8 < 0 ∨ (D.lasts.length : Int) ≤ E.number % 8))]
    rfl
  have hz := block_size hR
  obtain ⟨W, hWe⟩ : ∃ W : DiskM, ({ D with waits := D.waits ++ [(E.number % 8, E.block)] } : DiskM) = W := ⟨_, rfl⟩
  have w1 : W.lasts = D.lasts := by rw [← hWe]
  have w2 : W.waits = [(E.number % 8, E.block)] := by rw [← hWe]; show D.waits ++ _ = _; rw [h.wts]; rfl
  have w3 : W.off = false := by rw [← hWe]; exact h.off
  have w4 : W.pon = D.pon := by rw [← hWe]
  have hW : D.write (E.number % 8) E.block = (W.cut.1, if W.cut.2 then 7 else 0) := by
    unfold DiskM.write
    rw [if_neg (by rw [hw]; decide), if_neg (by rw [hz]; decide), hWe]
  rcases cut_cases W w3 with ⟨c1, c4, c3, c2, c5, _⟩ | ⟨c0, c1, c5, c4, _, c3⟩
  · rw [c1] at hW
    obtain ⟨V, hV⟩ : ∃ V, W.cut.1 = V := ⟨_, rfl⟩
    rw [hV] at c2 c3 c4 c5 hW
    rw [w1] at c2; rw [w2] at c3; rw [w4] at c5
    have h2 : (D.write (E.number % 8) E.block).2 = 0 := by rw [hW]; rfl
    have h1 : (D.write (E.number % 8) E.block).1 = V := by rw [hW]
    have hw0 : V.wrong 0 = 0 := by
      unfold DiskM.wrong
      rw [c4, c2, if_neg (by omega : ¬ ((0 : Int) < 0 ∨ (D.lasts.length : Int) ≤ 0))]
      rfl
    rcases cut_cases V c4 with ⟨d1, d4, d3, d2, d5, _⟩ | ⟨d0, d1, d5, d4, _, d3⟩
    · have hS : V.sync = ({ V.cut.1 with lasts := settleTo (fun _ => true) 0 V.cut.1.waits V.cut.1.lasts, waits := [] }, 0) := by
        unfold DiskM.sync
        rw [if_neg (by rw [hw0]; decide), if_neg (by rw [d1]; decide)]
      rw [ap_ok h.scan hn hE ((rightE_iff _).2 hR) h2 (by rw [h1, hS]), h1, hS]
      have hls : settleTo (fun _ => true) 0 V.cut.1.waits V.cut.1.lasts = D.lasts.set (E.number % 8).toNat E.block := by
        rw [d2, d3, c2, c3]
        rfl
      refine .inl ⟨rfl, hls, ⟨d4, rfl, ?_⟩, fun hp => ?_⟩
      · show 16 ≤ (settleTo (fun _ => true) 0 V.cut.1.waits V.cut.1.lasts).length
        rw [hls, List.length_set]; exact hl
      · show V.cut.1.pon = false
        rw [d5, c5]; exact hp
    · have hS : V.sync = (V.cut.1, 7) := by
        unfold DiskM.sync
        rw [if_neg (by rw [hw0]; decide), if_pos d1]
      rw [ap_sync h.scan hn hE ((rightE_iff _).2 hR) h2 (by rw [h1, hS]; show (7 : Int) ≠ 0; decide), h1, hS]
      refine .inr ⟨by rw [← c5]; exact d0, rfl, ?_, d4⟩
      show V.cut.1.lasts = _ ∨ V.cut.1.lasts = _
      rw [d3, c2, c3]
      exact settle_one _ _ _ _
  · rw [c1] at hW
    rw [ap_write h.scan hn hE ((rightE_iff _).2 hR) (by rw [hW]; show (7 : Int) ≠ 0; decide), hW]
    refine .inr ⟨by rw [← w4]; exact c0, rfl, ?_, c4⟩
    show W.cut.1.lasts = _ ∨ W.cut.1.lasts = _
    rw [c3, w1, w2]
    exact settle_one _ _ _ _
set_option maxRecDepth 20000 in
theorem Full64.append {D : DiskM} (h : Full64 D) (e : EntM) : Full64 (appendM D e).1 := by
  unfold appendM
  split
  · exact h
  · split
    · exact h
    · dsimp only
      split
      · exact h
      · split
        · exact h.write _ _
        · split <;> exact (h.write _ _).sync
set_option maxRecDepth 20000 in
theorem Rest.same8 {D D' : DiskM} (h : Rest D) (h' : Rest D') (e : ∀ i, i < 8 → D'.lasts.getD i ⟨#[]⟩ = D.lasts.getD i ⟨#[]⟩) : scanL D' = scanL D := by
  refine inc_eq _ _ h'.inc h.inc fun x => ?_
  rw [h.mem, h'.mem]
  constructor
  · rintro ⟨i, hi, h1⟩; rw [e i hi] at h1; exact ⟨i, hi, h1⟩
  · rintro ⟨i, hi, h1⟩; rw [← e i hi] at h1; exact ⟨i, hi, h1⟩

/-- the text K lies in its slot -/
structure Has (D : DiskM) (K : KeptM) : Prop where
  s0 : 0 ≤ K.slot
  s1 : K.slot < 2
  fits : K.text.size ≤ slotN D * 64
  blks : ∀ j, j < cntB K.text.size → D.lasts.getD (slotAt D K.slot + j) ⟨#[]⟩ = blockB K.text j
  sum : K.sum = digB K.text
set_option maxRecDepth 20000 in
theorem Has.of {D D' : DiskM} {K : KeptM} (h : Has D K) (hl : D'.lasts.length = D.lasts.length) (hb : ∀ i, slotAt D K.slot ≤ i → i < slotAt D K.slot + slotN D → D'.lasts.getD i ⟨#[]⟩ = D.lasts.getD i ⟨#[]⟩) : Has D' K := by
  have hc := cnt_le _ _ h.fits
  refine ⟨h.s0, h.s1, by rw [slotN_of hl]; exact h.fits, fun j hj => ?_, h.sum⟩
  rw [slotAt_of hl, hb _ (Nat.le_add_right _ _) (by omega)]
  exact h.blks j hj
def Tells (D : DiskM) (K : KeptM) : Prop := (K = KeptM.none ∧ (lastIs D = false ∨ (lastM D).slot = 2)) ∨ (Has D K ∧ lastIs D = true ∧ (lastM D).slot = K.slot ∧ (lastM D).size = K.text.size ∧ (lastM D).sum = K.sum)
structure G7 (D : DiskM) (K : KeptM) (n : Nat) : Prop where
  rest : Rest D
  full : Full64 D
  tells : Tells D K
  n0 : 0 ≤ (lastM D).number
  n1 : (lastM D).number ≤ n
  len : D.lasts.length ≤ 512
set_option maxRecDepth 20000 in
theorem G7.opens {D : DiskM} {K : KeptM} {n : Nat} (h : G7 D K n) : openE D = 0 ∧ openS D = ⟨K, false, none⟩ := by
  unfold openE openS
  rw [if_neg (by rw [h.rest.scan]; simp)]
  rcases h.tells with ⟨rfl, ht⟩ | ⟨hh, h1, h2, h3, h4⟩
  · rw [if_pos ht, if_pos ht]; exact ⟨rfl, rfl⟩
  · have hn : ¬ (lastIs D = false ∨ (lastM D).slot = 2) := by
      rw [h1, h2]
      have := hh.s1
      simp
      omega
    have hr : readK D (lastM D) = (K, true, 0) := by
      unfold readK
      rw [h2, h3, slotRead_ok D K.slot K.text hh.s0 hh.s1 h.rest.len hh.fits h.rest.off h.rest.wts hh.blks, h4]
      rw [if_neg (by show ¬ (0 : Int) = 7; decide), if_neg (by rw [hh.sum]; simp)]
    rw [if_neg hn, if_neg hn, hr]
    exact ⟨rfl, rfl⟩
set_option maxRecDepth 20000 in
theorem slotAt_apart (D : DiskM) {a b : Int} (ha : 0 ≤ a ∧ a < 2) (hb : 0 ≤ b ∧ b < 2) (hne : a ≠ b) (i : Nat) (h1 : slotAt D a ≤ i) (h2 : i < slotAt D a + slotN D) : i < slotAt D b ∨ slotAt D b + slotN D ≤ i := by
  unfold slotAt at *
  have e : (a.toNat = 0 ∧ b.toNat = 1) ∨ (a.toNat = 1 ∧ b.toNat = 0) := by omega
  rcases e with ⟨e1, e2⟩ | ⟨e1, e2⟩ <;> rw [e1] at h1 h2 <;> rw [e2] <;> omega
/-- what is told does not hang on what is not read -/
theorem G7.moved {D D' : DiskM} {K : KeptM} {n : Nat} (h : G7 D K n) (h' : Rest D') (hf : Full64 D') (hl : D'.lasts.length = D.lasts.length) (h8 : ∀ i, i < 8 → D'.lasts.getD i ⟨#[]⟩ = D.lasts.getD i ⟨#[]⟩)
    (hb : 0 ≤ K.slot → K.slot < 2 → ∀ i, slotAt D K.slot ≤ i → i < slotAt D K.slot + slotN D → D'.lasts.getD i ⟨#[]⟩ = D.lasts.getD i ⟨#[]⟩) : G7 D' K n := by
  have e := same_last (h.rest.same8 h' h8)
  refine ⟨h', hf, ?_, by rw [e.1]; exact h.n0, by rw [e.1]; exact h.n1, by rw [hl]; exact h.len⟩
  rcases h.tells with ⟨hk, ht⟩ | ⟨hh, h1⟩
  · exact .inl ⟨hk, by rw [e.1, e.2]; exact ht⟩
  · exact .inr ⟨hh.of hl (hb hh.s0 hh.s1), by rw [e.1, e.2]; exact h1⟩
/-- what is told behind a failure: of a disk that was as this one is -/
structure Af (D1 : DiskM) (P : KeptM → Prop) (n : Nat) : Prop where
  wts : D1.waits = []
  full : Full64 D1
  len : 16 ≤ D1.lasts.length
  g : ∀ D', Rest D' → Full64 D' → D'.lasts = D1.lasts → ∃ K, P K ∧ G7 D' K n
set_option maxRecDepth 20000 in
theorem G7.af {D : DiskM} {K : KeptM} {n : Nat} (h : G7 D K n) : Af D (fun k => k = K) n :=
  ⟨h.rest.wts, h.full, h.rest.len, fun D' h' hf e => ⟨K, rfl, h.moved h' hf (by rw [e]) (fun i _ => by rw [e]) (fun _ _ i _ _ => by rw [e])⟩⟩
set_option maxRecDepth 20000 in
theorem Af.mono {D1 : DiskM} {P Q : KeptM → Prop} {n : Nat} (h : Af D1 P n) (hq : ∀ k, P k → Q k) : Af D1 Q n :=
  ⟨h.wts, h.full, h.len, fun D' h' hf e => by obtain ⟨K, hk, hg⟩ := h.g D' h' hf e; exact ⟨K, hq K hk, hg⟩⟩
set_option maxRecDepth 20000 in
theorem Af.again {D1 : DiskM} {P : KeptM → Prop} {n : Nat} (h : Af D1 P n) (m : Int) : ∃ K, P K ∧ G7 ((D1.fail m).start) K n := by
  have hr : Rest (D1.fail m).start ∧ (D1.fail m).start.lasts = D1.lasts := by
    unfold DiskM.fail DiskM.start
    by_cases ho : D1.off = true
    · rw [if_pos ho]; exact ⟨⟨rfl, h.wts, h.len⟩, rfl⟩
    · rw [if_neg ho]
      have e : settleTo (maskBit m) 0 D1.waits D1.lasts = D1.lasts := by rw [h.wts]; rfl
      exact ⟨⟨rfl, rfl, by show 16 ≤ (settleTo (maskBit m) 0 D1.waits D1.lasts).length; rw [e]; exact h.len⟩, e⟩
  exact h.g _ hr.1 (h.full.fail m).start hr.2
def otherK (K : KeptM) : Int := if K.slot = 0 then 1 else 0
set_option maxRecDepth 20000 in
theorem otherK_rng (K : KeptM) : 0 ≤ otherK K ∧ otherK K < 2 ∧ otherK K ≠ K.slot := by unfold otherK; split <;> omega
set_option maxRecDepth 20000 in
theorem digB_size (s : ByteArray) : (digB s).size = 32 := digW_length _
/-- a text is written into the other slot -/
theorem G7.write {D : DiskM} {K : KeptM} {n : Nat} (h : G7 D K n) (t : ByteArray) :
    (slotN D * 64 < t.size ∧ slotWrite D (otherK K) t = (D, 6)) ∨
    (t.size ≤ slotN D * 64 ∧ (slotWrite D (otherK K) t).2 = 0 ∧ G7 (slotWrite D (otherK K) t).1 K n ∧ Has (slotWrite D (otherK K) t).1 ⟨otherK K, t, digB t⟩ ∧ (slotWrite D (otherK K) t).1.lasts.length = D.lasts.length ∧ (D.pon = false → (slotWrite D (otherK K) t).1.pon = false)) ∨
    (D.pon = true ∧ (slotWrite D (otherK K) t).2 = 7 ∧ Af (slotWrite D (otherK K) t).1 (fun k => k = K) n) := by
  obtain ⟨o0, o1, o2⟩ := otherK_rng K
  by_cases hs : slotN D * 64 < t.size
  · exact .inl ⟨hs, slotWrite_full D _ t o0 o1 hs⟩
  · have hf := h.full.slot (otherK K) t
    obtain ⟨D', e, he, hw, hl, hoth, hx⟩ := slotWrite_ok D (otherK K) t o0 o1 h.rest.len (by omega) h.rest.off h.rest.wts
    have hc := cnt_le t.size (slotN D) (by omega)
    have ⟨l0, l1⟩ := slotAt_lim D (otherK K) o0 o1 h.rest.len
    rw [he] at hf
    have h8 : ∀ i, i < 8 → D'.lasts.getD i ⟨#[]⟩ = D.lasts.getD i ⟨#[]⟩ := fun i hi => hoth i (.inl (by omega))
    have hb : 0 ≤ K.slot → K.slot < 2 → ∀ i, slotAt D K.slot ≤ i → i < slotAt D K.slot + slotN D → D'.lasts.getD i ⟨#[]⟩ = D.lasts.getD i ⟨#[]⟩ := fun k0 k1 i h1 h2 => by
      rcases slotAt_apart D ⟨k0, k1⟩ ⟨o0, o1⟩ (fun e => o2 e.symm) i h1 h2 with h | h
      · exact hoth i (.inl h)
      · exact hoth i (.inr (by omega))
    rw [he]
    rcases hx with ⟨rfl, hoff, hblk, hp⟩ | ⟨rfl, hp, hoff, _⟩
    · have hr : Rest D' := ⟨hoff, hw, by rw [hl]; exact h.rest.len⟩
      exact .inr (.inl ⟨by omega, rfl, h.moved hr hf hl h8 hb, ⟨o0, o1, by rw [slotN_of hl]; show t.size ≤ _; omega, fun j hj => by rw [slotAt_of hl]; exact hblk j hj, rfl⟩, hl, fun q => (hp q).1⟩)
    · exact .inr (.inr ⟨hp, rfl, hw, hf, by rw [hl]; exact h.rest.len, fun D2 h2 hf2 e2 => ⟨K, rfl, h.moved h2 hf2 (by rw [e2, hl]) (fun i hi => by rw [e2]; exact h8 i hi) (fun k0 k1 i a1 a2 => by rw [e2]; exact hb k0 k1 i a1 a2)⟩⟩)
/-- what an entry may tell -/
def Fit (D : DiskM) (K : KeptM) : Prop := K = KeptM.none ∨ Has D K
set_option maxRecDepth 20000 in
theorem fit_right {D : DiskM} {K : KeptM} (hl : D.lasts.length ≤ 512) (h : Fit D K) (kind : Int) (h0 : 1 ≤ kind) (h1 : kind ≤ 3) (n : Int) (n0 : 0 ≤ n) (n1 : n < 4294967295) : RightE { K.entry kind with number := n + 1 } := by
  have hN : slotN D ≤ 252 := by unfold slotN; omega
  rcases h with rfl | h
  · constructor <;> simp only [KeptM.entry, KeptM.none] <;> first | omega | exact zeros_sz 32 | decide
  · have := h.s0
    have := h.s1
    have := h.fits
    constructor <;> simp only [KeptM.entry] <;> first | omega | (rw [h.sum]; exact digB_size _)
/-- an entry that tells K2 is appended -/
theorem G7.append {D : DiskM} {K K2 : KeptM} {n : Nat} (h : G7 D K n) (hn : n < 1000000) (h2 : Fit D K2) (kind : Int) (k0 : 1 ≤ kind) (k1 : kind ≤ 3) :
    ((appendM D (K2.entry kind)).2.2 = 0 ∧ G7 (appendM D (K2.entry kind)).1 K2 (n + 1) ∧ (appendM D (K2.entry kind)).1.lasts.length = D.lasts.length ∧ (∀ K3, Has D K3 → Has (appendM D (K2.entry kind)).1 K3) ∧ (D.pon = false → (appendM D (K2.entry kind)).1.pon = false)) ∨
    (D.pon = true ∧ (appendM D (K2.entry kind)).2.2 = 7 ∧ Af (appendM D (K2.entry kind)).1 (fun k => k = K2 ∨ k = K) (n + 1)) := by
  have hn0 := h.n0
  have hn1 := h.n1
  have hl16 := h.rest.len
  have hR := fit_right h.len h2 kind k0 k1 (lastM D).number hn0 (by omega)
  obtain ⟨E, hE⟩ : ∃ E, { K2.entry kind with number := (lastM D).number + 1 } = E := ⟨_, rfl⟩
  rw [hE] at hR
  have e1 : E.number = (lastM D).number + 1 := by rw [← hE]
  have e2 : E.slot = K2.slot := by rw [← hE]; rfl
  have e3 : E.size = K2.text.size := by rw [← hE]; rfl
  have e4 : E.sum = K2.sum := by rw [← hE]; rfl
  have hfull := h.full.append (K2.entry kind)
  have hset : ∀ D', Rest D' → Full64 D' → D'.lasts = D.lasts.set (E.number % 8).toNat E.block → G7 D' K2 (n + 1) ∧ ∀ K3, Has D K3 → Has D' K3 := fun D' h' hf' hs => by
    obtain ⟨a1, a2⟩ := h.rest.set_last h' hR hs (by omega)
    have hlen : D'.lasts.length = D.lasts.length := by rw [hs, List.length_set]
    have hHas : ∀ K3, Has D K3 → Has D' K3 := fun K3 h3 => h3.of hlen fun i b1 b2 => by
      have ⟨l0, l1⟩ := slotAt_lim D K3.slot h3.s0 h3.s1 h.rest.len
      rw [hs, List.getD_eq_getElem?_getD, List.getElem?_set_ne (by omega), ← List.getD_eq_getElem?_getD]
    refine ⟨⟨h', hf', ?_, by rw [a1]; omega, by rw [a1]; omega, by rw [hlen]; exact h.len⟩, hHas⟩
    rcases h2 with rfl | h2
    · exact .inl ⟨rfl, .inr (by rw [a1, e2]; rfl)⟩
    · exact .inr ⟨hHas _ h2, a2, by rw [a1, e2], by rw [a1, e3], by rw [a1, e4]⟩
  rcases append_any h.rest (K2.entry kind) hE hR with ⟨b1, b2, b3, b4⟩ | ⟨b0, b1, b2, b3⟩
  · refine .inl ⟨by rw [b1], (hset _ b3 hfull b2).1, by rw [b2, List.length_set], (hset _ b3 hfull b2).2, b4⟩
  · have hlen : (appendM D (K2.entry kind)).1.lasts.length = D.lasts.length := by
      rcases b2 with b2 | b2
      · rw [b2, List.length_set]
      · rw [b2]
    refine .inr ⟨b0, by rw [b1], b3, hfull, by rw [hlen]; exact h.rest.len, fun D' h' hf' e => ?_⟩
    rcases b2 with b2 | b2
    · exact ⟨K2, .inl rfl, (hset D' h' hf' (by rw [e, b2])).1⟩
    · obtain ⟨K', rfl, hg⟩ := h.af.g D' h' hf' (by rw [e, b2])
      exact ⟨K', .inr rfl, ⟨hg.rest, hg.full, hg.tells, hg.n0, by have := hg.n1; omega, hg.len⟩⟩
set_option maxRecDepth 20000 in
theorem G7.new {N : Nat} (h0 : 16 ≤ N) (h1 : N ≤ 512) : G7 (DiskM.new N) KeptM.none 0 := by
  have hr : Rest (DiskM.new N) := ⟨rfl, rfl, by simp [DiskM.new]; exact h0⟩
  have hz : scanL (DiskM.new N) = scanL (DiskM.new 16) := calm_new.rest.same8 hr fun i hi => by
    show (List.replicate N (zeros 64)).getD i ⟨#[]⟩ = (List.replicate 16 (zeros 64)).getD i ⟨#[]⟩
    rw [List.getD_eq_getElem?_getD, List.getD_eq_getElem?_getD, List.getElem?_replicate, List.getElem?_replicate, if_pos (by omega), if_pos (by omega)]
  have hl := same_last hz
  refine ⟨hr, Full64.new N, .inl ⟨rfl, .inl (by rw [hl.2]; exact last_new.2)⟩, by rw [hl.1, last_new.1]; decide, by rw [hl.1, last_new.1]; decide, by simp [DiskM.new]; exact h1⟩
end Go.Proofs.Ytacbnoagdlelgaa
