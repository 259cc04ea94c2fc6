/- Chapter 25: bundles, plain: what was laid down is read back, and the other way; keys; what must come of fixed calls. -/
import Derived.Test.YtkipmbnmmbeeaaaBunK
namespace Go.Proofs.Ytkipmbnmmbeeaaa
open Go.RowKit Zb

/-- a part that can stand in a bundle, with its digest -/
structure GoodX (x : PartM × ByteArray) : Prop where
  name : x.1.name.size ≤ 1000000
  v0 : 0 ≤ x.1.version
  v1 : x.1.version ≤ 4294967295
  text : x.1.text.size ≤ 1000000
  state : x.1.state = ⟨#[]⟩
  sum : x.2.size = 32
set_option maxRecDepth 20000 in
theorem ba_mid (A s C : ByteArray) : (A ++ s ++ C).extract A.size (A.size + s.size) = s := by
  apply ByteArray.ext
  rw [ByteArray.data_extract]
  apply Array.ext'
  rw [Array.toList_extract, List.extract_eq_take_drop]
  have : (A ++ s ++ C).data.toList = A.data.toList ++ (s.data.toList ++ C.data.toList) := by
    simp [ByteArray.data_append, Array.toList_append]
  rw [this, Nat.add_sub_cancel_left]
  have h1 : A.size = A.data.toList.length := rfl
  have h2 : s.size = s.data.toList.length := rfl
  rw [h1, List.drop_left, h2, List.take_left]
set_option maxRecDepth 20000 in
theorem put4_ok {v : Int} (h0 : 0 ≤ v) (h1 : v ≤ 4294967295) : putOk v (4 : Nat) = true := by
  simp only [putOk, wideB]
  simp
  omega
set_option maxRecDepth 20000 in
theorem put4 {v : Int} (h0 : 0 ≤ v) (h1 : v ≤ 4294967295) : putB v 4 = ⟨(leL v 4).toArray⟩ := by
  have h : putOk v 4 = true := put4_ok h0 h1
  rw [putB, if_pos h]
  rfl
set_option maxRecDepth 20000 in
theorem partB_size {x : PartM × ByteArray} (g : GoodX x) : (partB x).size = 44 + x.1.name.size + x.1.text.size := by
  unfold partB
  rw [ByteArray.size_append, ByteArray.size_append, ByteArray.size_append, textB_size _ (by have := g.name; omega), textB_size _ (by have := g.text; omega), put4 g.v0 g.v1, leB_size, g.sum]
  omega
set_option maxRecDepth 20000 in
theorem step_back (A C : ByteArray) {x : PartM × ByteArray} (g : GoodX x) : stepR (A ++ partB x ++ C) A.size = some (x.1, x.2, ((A ++ partB x).size : Int)) := by
  have hps := partB_size g
  obtain ⟨⟨nm, v, tx, st⟩, sm⟩ := x
  obtain ⟨h1, h2, h3, h4, h5, h6⟩ := g
  dsimp only at h1 h2 h3 h4 h5 h6 hps
  subst h5
  have hp4 := put4 h2 h3
  have tn := textB_size nm (by omega)
  have tt := textB_size tx (by omega)
  have hpb : partB (⟨nm, v, tx, ⟨#[]⟩⟩, sm) = textB nm ++ ⟨(leL v 4).toArray⟩ ++ textB tx ++ sm := by unfold partB; rw [← hp4]
  have e1 : A ++ partB (⟨nm, v, tx, ⟨#[]⟩⟩, sm) ++ C = A ++ textB nm ++ (⟨(leL v 4).toArray⟩ ++ textB tx ++ sm ++ C) := by rw [hpb]; simp only [ByteArray.append_assoc]
  have e2 : A ++ partB (⟨nm, v, tx, ⟨#[]⟩⟩, sm) ++ C = (A ++ textB nm) ++ ⟨(leL v 4).toArray⟩ ++ (textB tx ++ sm ++ C) := by rw [hpb]; simp only [ByteArray.append_assoc]
  have e3 : A ++ partB (⟨nm, v, tx, ⟨#[]⟩⟩, sm) ++ C = (A ++ textB nm ++ ⟨(leL v 4).toArray⟩) ++ textB tx ++ (sm ++ C) := by rw [hpb]; simp only [ByteArray.append_assoc]
  have e4 : A ++ partB (⟨nm, v, tx, ⟨#[]⟩⟩, sm) ++ C = (A ++ textB nm ++ ⟨(leL v 4).toArray⟩ ++ textB tx) ++ sm ++ C := by rw [hpb]; simp only [ByteArray.append_assoc]
  have f1 := next_mid A nm (⟨(leL v 4).toArray⟩ ++ textB tx ++ sm ++ C) (by omega)
  have f2 := get_back (n := v) (by omega) (by omega) (put4_ok h2 h3) (A ++ textB nm) (textB tx ++ sm ++ C) (by decide)
  have f3 := next_mid (A ++ textB nm ++ ⟨(leL v 4).toArray⟩) tx (sm ++ C) (by omega)
  have f4 := ba_mid (A ++ textB nm ++ ⟨(leL v 4).toArray⟩ ++ textB tx) sm C
  rw [← e1] at f1
  rw [← e2] at f2
  rw [← e3] at f3
  rw [← e4] at f4
  have s1 : (A ++ textB nm).size = A.size + 4 + nm.size := by rw [ByteArray.size_append, tn]; omega
  have s2 : (A ++ textB nm ++ ⟨(leL v 4).toArray⟩).size = A.size + 8 + nm.size := by rw [ByteArray.size_append, s1, leB_size]; omega
  have s3 : (A ++ textB nm ++ ⟨(leL v 4).toArray⟩ ++ textB tx).size = A.size + 12 + nm.size + tx.size := by rw [ByteArray.size_append, s2, tt]; omega
  have s4 : (A ++ partB (⟨nm, v, tx, ⟨#[]⟩⟩, sm) ++ C).size = A.size + 44 + nm.size + tx.size + C.size := by rw [ByteArray.size_append, ByteArray.size_append, hps]; omega
  have s5 : (A ++ partB (⟨nm, v, tx, ⟨#[]⟩⟩, sm)).size = A.size + 44 + nm.size + tx.size := by rw [ByteArray.size_append, hps]; omega
  rw [s1] at f2
  rw [s2] at f3
  rw [s3, h6] at f4
  rw [s5]
  generalize A ++ partB (⟨nm, v, tx, ⟨#[]⟩⟩, sm) ++ C = s at *
  have g1 : (nextM s (A.size : Int)).1 = nm := by rw [f1]
  have g2 : (nextM s (A.size : Int)).2.1 = ((A.size + 4 + nm.size : Nat) : Int) := by rw [f1]; dsimp only; omega
  have g3 : (nextM s (A.size : Int)).2.2 = 0 := by rw [f1]
  have k1 : (nextM s ((A.size + 8 + nm.size : Nat) : Int)).1 = tx := by rw [f3]
  have k2 : (nextM s ((A.size + 8 + nm.size : Nat) : Int)).2.1 = ((A.size + 12 + nm.size + tx.size : Nat) : Int) := by rw [f3]; dsimp only; omega
  have k3 : (nextM s ((A.size + 8 + nm.size : Nat) : Int)).2.2 = 0 := by rw [f3]
  have m1 : getE s ((A.size + 4 + nm.size : Nat) : Int) 4 = 0 := f2.1
  have m2 : getN s ((A.size + 4 + nm.size : Nat) : Int) 4 = v := f2.2
  unfold stepR
  rw [g1, g2, g3, m1, m2, show (((A.size + 4 + nm.size : Nat) : Int) + 4) = ((A.size + 8 + nm.size : Nat) : Int) by omega, k1, k2, k3, s4]
  rw [if_neg (by simp), if_neg (by simp), if_neg (by simp), if_neg (by omega)]
  rw [show (((A.size + 12 + nm.size + tx.size : Nat) : Int) + 32).toNat = A.size + 12 + nm.size + tx.size + 32 by omega, Int.toNat_natCast, f4]
  rw [show (((A.size + 12 + nm.size + tx.size : Nat) : Int) + 32) = ((A.size + 44 + nm.size + tx.size : Nat) : Int) by omega]
set_option maxRecDepth 20000 in
theorem readN_back (C : ByteArray) : ∀ (R : Sums) (A : ByteArray), (∀ x ∈ R, GoodX x) → readN (A ++ partsB R ++ C) R.length A.size = some R
  | [], A, _ => rfl
  | x :: r, A, h => by
    have hx := step_back A (partsB r ++ C) (h x (List.mem_cons_self ..))
    have ih := readN_back C r (A ++ partB x) fun y hy => h y (List.mem_cons_of_mem _ hy)
    have e1 : A ++ partsB (x :: r) ++ C = A ++ partB x ++ (partsB r ++ C) := by simp only [partsB, ByteArray.append_assoc]
    have e2 : A ++ partB x ++ partsB r ++ C = A ++ partB x ++ (partsB r ++ C) := by simp only [ByteArray.append_assoc]
    rw [e2] at ih
    rw [e1]
    simp only [List.length_cons, readN]
    rw [hx]
    dsimp only
    rw [ih]
    rfl
set_option maxRecDepth 20000 in
theorem headB_size {n : Nat} (h : n ≤ 65535) : (headB n).size = 6 ∧ ∀ C, getE (headB n ++ C) 4 2 = 0 ∧ getN (headB n ++ C) 4 2 = n := by
  have hok : putOk (n : Int) (2 : Nat) = true := by
    simp only [putOk, wideB]
    simp
    omega
  have hp : putB n 2 = ⟨(leL n 2).toArray⟩ := by
    have h : putOk (n : Int) 2 = true := hok
    rw [putB, if_pos h]
    rfl
  refine ⟨by rw [headB, hp, ByteArray.size_append, leB_size]; rfl, fun C => ?_⟩
  have f := get_back (n := n) (by omega) (by omega) hok ⟨#[66, 78, 68, 76]⟩ C (by decide)
  rw [headB, hp]
  exact f
set_option maxRecDepth 20000 in
theorem read_back {R : Sums} (hl : R.length ≤ 65535) (h : ∀ x ∈ R, GoodX x) : readM (bodyB R) = some R := by
  obtain ⟨h6, hg⟩ := headB_size hl
  obtain ⟨g1, g2⟩ := hg (partsB R)
  have hb := readN_back ⟨#[]⟩ R (headB R.length) h
  rw [bemp, h6] at hb
  unfold readM bodyB
  rw [g1, g2, if_neg (by simp)]
  exact hb
set_option maxRecDepth 20000 in
theorem good_of {l : List PartM} (h : rightM l = true) : ∀ x ∈ withSums l, GoodX x := fun x hx => by
  obtain ⟨p, hp, rfl⟩ := List.mem_map.1 hx
  obtain ⟨_, _, hl⟩ := right_lim h
  obtain ⟨a1, a2, a3, a4, a5⟩ := hl p hp
  exact ⟨by dsimp only; omega, by dsimp only; omega, by dsimp only; omega, by dsimp only; omega, a5, digB_size _⟩
set_option maxRecDepth 20000 in
theorem sumsOk_with (l : List PartM) : sumsOk (withSums l) = true := by
  unfold sumsOk withSums
  rw [List.all_eq_true]
  intro x hx
  obtain ⟨p, _, rfl⟩ := List.mem_map.1 hx
  simp
set_option maxRecDepth 20000 in
theorem cut_tail (p tg : ByteArray) (h : tg.size = 32) : (p ++ tg).extract 0 p.size = p ∧ (p ++ tg).extract p.size (p.size + 32) = tg ∧ (p ++ tg).size = p.size + 32 := by
  refine ⟨?_, ?_, by rw [ByteArray.size_append, h]⟩
  · have := ba_mid ⟨#[]⟩ p tg
    rw [empb, show (⟨#[]⟩ : ByteArray).size = 0 from rfl, Nat.zero_add] at this
    exact this
  · have := ba_mid p tg ⟨#[]⟩
    rw [bemp, h] at this
    exact this
/-- a laid body, whatever the tag is -/
theorem parse_body {l : List PartM} (h : rightM l = true) (key tg : ByteArray) (ht : tg.size = 32) : parseM key (bodyB (withSums l) ++ tg) = if tg = macB key (bodyB (withSums l)) then (l, 0) else ([], 17) := by
  obtain ⟨c1, c2, c3⟩ := cut_tail (bodyB (withSums l)) tg ht
  have h16 := (right_lim h).2.1
  have h6 : 6 ≤ (bodyB (withSums l)).size := by
    unfold bodyB
    rw [ByteArray.size_append, (headB_size (n := (withSums l).length) (by rw [withSums_len]; omega)).1]
    omega
  rw [parse_eq c3 h6 c1 c2]
  unfold parseP
  by_cases he : tg = macB key (bodyB (withSums l))
  · rw [if_neg (by simpa using he), if_pos he, read_back (by rw [withSums_len]; omega) (good_of h)]
    dsimp only
    rw [withSums_fst, if_neg (by simp [h]), if_pos (sumsOk_with l)]
  · rw [if_pos (by simpa using he), if_neg he]
set_option maxRecDepth 20000 in
theorem build_yes {l : List PartM} (h : rightM l = true) (key : ByteArray) : buildM key l = (bodyB (withSums l) ++ macB key (bodyB (withSums l)), 0) := by unfold buildM; rw [h]; rfl
set_option maxRecDepth 20000 in
theorem build_no {l : List PartM} (h : rightM l = false) (key : ByteArray) : buildM key l = (⟨#[]⟩, 4) := by unfold buildM; rw [h]; rfl
set_option maxRecDepth 20000 in
theorem parse_build {l : List PartM} (h : rightM l = true) (key : ByteArray) : parseM key (buildM key l).1 = (l, 0) := by
  rw [build_yes h]
  dsimp only
  rw [parse_body h key _ (macB_size _ _), if_pos rfl]
set_option maxRecDepth 20000 in
theorem sums_with : ∀ {R : Sums}, sumsOk R = true → R = withSums (R.map (·.1))
  | [], _ => rfl
  | x :: r, h => by
    unfold sumsOk at h
    rw [List.all_cons, Bool.and_eq_true] at h
    have ih := sums_with (R := r) h.2
    have hx := of_decide_eq_true h.1
    unfold withSums at ih ⊢
    rw [List.map_cons, List.map_cons, ← ih, hx]
/-- what was read is laid down as it was -/
theorem build_parse {key s : ByteArray} (h : (parseM key s).2 = 0) : rightM (parseM key s).1 = true ∧ buildM key (parseM key s).1 = (s, 0) := by
  by_cases hs : s.size < 38
  · rw [parse_short hs] at h
    cases h
  obtain ⟨n, hn⟩ : ∃ n, s.size = n + 32 := ⟨s.size - 32, by omega⟩
  rw [parse_eq hn (by omega) rfl rfl] at h ⊢
  have hsp : s = s.extract 0 n ++ s.extract n (n + 32) := by
    apply ByteArray.ext
    rw [ByteArray.data_append, ByteArray.data_extract, ByteArray.data_extract]
    have : s.data.size = n + 32 := hn
    rw [← this]
    simp
    rw [show max n s.size = s.data.size from by show max n s.data.size = _; omega]
    show s.data = s.data.extract 0 s.data.size
    simp only [Array.extract_size]
  generalize s.extract 0 n = p at *
  generalize s.extract n (n + 32) = tg at *
  unfold parseP at h ⊢
  by_cases he : tg = macB key p
  · rw [if_neg (by simpa using he)] at h ⊢
    cases hr : readM p with
    | none => rw [hr] at h; cases h
    | some R =>
      rw [hr] at h
      dsimp only at h ⊢
      by_cases hg : rightM (R.map (·.1)) = false ∨ bodyB R ≠ p
      · rw [if_pos hg] at h; cases h
      · rw [if_neg hg] at h ⊢
        have hg1 : rightM (R.map (·.1)) = true := by
          cases hh : rightM (R.map (·.1)) with
          | true => rfl
          | false => exact absurd (.inl hh) hg
        have hg2 : bodyB R = p := by
          by_cases hh : bodyB R = p
          · exact hh
          · exact absurd (.inr hh) hg
        by_cases hk : sumsOk R = true
        · rw [if_pos hk]
          refine ⟨hg1, ?_⟩
          dsimp only
          rw [build_yes hg1, ← sums_with hk, hg2, ← he]
          rw [hsp]
        · rw [if_neg hk] at h; cases h
  · rw [if_pos (by simpa using he)] at h
    cases h
/-- which errors there are -/
theorem parse_short_iff (key s : ByteArray) : (parseM key s).2 = 2 ↔ s.size < 38 := by
  constructor
  · intro h
    by_cases hs : s.size < 38
    · exact hs
    obtain ⟨n, hn⟩ : ∃ n, s.size = n + 32 := ⟨s.size - 32, by omega⟩
    rw [parse_eq hn (by omega) rfl rfl] at h
    unfold parseP at h
    split at h
    · cases h
    · split at h
      · cases h
      · split at h
        · cases h
        · split at h <;> cases h
  · intro h; rw [parse_short h]
set_option maxRecDepth 20000 in
theorem parse_tag {key s : ByteArray} {n : Nat} (hn : s.size = n + 32) (h6 : 6 ≤ n) : ((parseM key s).2 = 17 ↔ ¬ s.extract n (n + 32) = macB key (s.extract 0 n)) := by
  rw [parse_eq hn h6 rfl rfl]
  unfold parseP
  constructor
  · intro h he
    rw [if_neg (by simpa using he)] at h
    split at h
    · cases h
    · split at h
      · cases h
      · split at h <;> cases h
  · intro h
    rw [if_pos (by simpa using h)]
/-- sizes -/
theorem parts_sum : ∀ (R : Sums), (∀ x ∈ R, GoodX x) → (partsB R).size = (R.map fun x => 44 + x.1.name.size + x.1.text.size).sum
  | [], _ => rfl
  | x :: r, h => by
    simp only [partsB, ByteArray.size_append, List.map_cons, List.sum_cons]
    rw [partB_size (h x (List.mem_cons_self ..)), parts_sum r fun y hy => h y (List.mem_cons_of_mem _ hy)]
set_option maxRecDepth 20000 in
theorem build_size {l : List PartM} (h : rightM l = true) (key : ByteArray) : (buildM key l).1.size = 38 + (l.map fun p => 44 + p.name.size + p.text.size).sum := by
  have h16 := (right_lim h).2.1
  rw [build_yes h]
  dsimp only
  rw [ByteArray.size_append, macB_size]
  unfold bodyB
  rw [ByteArray.size_append, (headB_size (n := (withSums l).length) (by rw [withSums_len]; omega)).1, parts_sum _ (good_of h)]
  unfold withSums
  rw [List.map_map]
  simp only [Function.comp_def]
  omega
set_option maxRecDepth 20000 in
theorem build_len {l : List PartM} (h : rightM l = true) (key : ByteArray) : (buildM key l).1.size ≤ 300000 := by
  rw [build_yes h]
  dsimp only
  rw [ByteArray.size_append, macB_size]
  have := bodyB_size h
  omega
/-- keys -/
theorem keyM_zeros (k : List UInt8) (j : Nat) (h : k.length + j ≤ 64) : keyM (k ++ List.replicate j 0) = keyM k := by
  have h1 : longK (k ++ List.replicate j 0) = k ++ List.replicate j 0 := by unfold longK; rw [if_neg (by simp; omega)]
  have h2 : longK k = k := by unfold longK; rw [if_neg (by omega)]
  unfold keyM
  rw [h1, h2]
  unfold padK
  rw [List.append_assoc, List.replicate_append_replicate]
  congr 2
  simp
  omega
set_option maxRecDepth 20000 in
theorem macB_keys {a b : ByteArray} (s : ByteArray) (h : keyM a.data.toList = keyM b.data.toList) : macB a s = macB b s := by
  unfold macB macM
  rw [h]
set_option maxRecDepth 20000 in
theorem macB_zero (k : ByteArray) (h : k.size ≤ 60) (s : ByteArray) : macB (k ++ ⟨#[0]⟩) s = macB k s := by
  refine macB_keys s ?_
  rw [ByteArray.data_append, Array.toList_append]
  exact keyM_zeros k.data.toList 1 (by have : k.data.toList.length = k.size := rfl; omega)
set_option maxRecDepth 20000 in
theorem macB_keyB (k : ByteArray) (h : k.size ≤ 60) (s : ByteArray) : macB (keyB k) s = macB k s := by
  refine macB_keys s ?_
  have hl : k.data.toList.length = k.size := rfl
  have e : (keyB k).data.toList = k.data.toList ++ List.replicate (64 - k.data.toList.length) 0 := by
    show keyM k.data.toList = _
    unfold keyM longK padK
    rw [if_neg (by omega)]
  rw [e]
  exact keyM_zeros _ _ (by omega)
set_option maxRecDepth 20000 in
theorem parse_keys {key key2 s : ByteArray} (h : ∀ p, macB key2 p = macB key p) : parseM key2 s = parseM key s := by
  unfold parseM
  rw [h]
/-! ### fixed calls -/
def knL : PartM := ⟨⟨#[109]⟩, 1, ⟨#[109, 111, 100, 117, 108, 101, 32, 109, 32, 49, 59]⟩, ⟨#[]⟩⟩
set_option maxRecDepth 20000 in
theorem kn_right : rightM [knL] = true := by decide +kernel
set_option maxRecDepth 20000 in
theorem kn_other : ¬ macB ⟨#[107]⟩ (bodyB (withSums [knL])) = macB ⟨#[111, 116, 104, 101, 114]⟩ (bodyB (withSums [knL])) := by decide +kernel
set_option maxRecDepth 20000 in
theorem kn_size : (buildM ⟨#[107]⟩ [knL]).1.size = 94 := by
  rw [build_size kn_right]
  rfl
set_option maxRecDepth 20000 in
theorem kn_tag : parseM ⟨#[111, 116, 104, 101, 114]⟩ (buildM ⟨#[107]⟩ [knL]).1 = ([], 17) := by
  rw [build_yes kn_right]
  dsimp only
  rw [parse_body kn_right _ _ (macB_size _ _), if_neg kn_other]
set_option maxRecDepth 20000 in
theorem kn_short : parseM ⟨#[107]⟩ ⟨#[115, 104, 111, 114, 116]⟩ = ([], 2) := parse_short (by decide)
set_option maxRecDepth 20000 in
theorem kn_nil : buildM ⟨#[107]⟩ [] = (⟨#[]⟩, 4) := build_no (by decide) _
end Go.Proofs.Ytkipmbnmmbeeaaa
