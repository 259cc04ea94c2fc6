/- Chapter 25: the document's num, digests, body, Build, walked; rows of a call's own. -/
import Derived.Test.YtkipmbnmmbeeaaaBunC
namespace Go.Proofs.Ytkipmbnmmbeeaaa.Zb
open Go.RowKit
/-- a row of a call's own -/
structure Own (w0 w : World) (e : TypeId) (size : Nat) (v : Value) (n : Nat) (xs : List Value) : Prop where
  bel : Below w0.heap.size w0 w
  row : Row w e size v n xs
  own : OwnNew w0 v
section
variable {P : Program} {w0 w w' : World} {e t : TypeId} {size n : Nat} {v v' : Value} {xs xs' : List Value}
set_option maxRecDepth 20000 in
theorem Own.nil (h : Below w0.heap.size w0 w) : Own w0 w e size (.slice none 0 0) 0 [] := ⟨h, row_nil _ _ _, fun g hg => by simp [Value.ownBlock] at hg⟩
set_option maxRecDepth 20000 in
theorem Own.below (h : Own w0 w e size v n xs) (k : Below w.heap.size w w') : Own w0 w' e size v n xs :=
  ⟨h.bel.trans (k.mono h.bel.size), row_of h.row fun g hg => k.block g (row_lt h.row g hg), h.own⟩
set_option maxRecDepth 20000 in
theorem Own.alloc (h : Own w0 w e size v n xs) (o : Obj) : Own w0 (w.alloc o) e size v n xs := h.below ((Below.refl _ _).alloc (Nat.le_refl _) o)
set_option maxRecDepth 20000 in
theorem Own.drew (h : Own w0 w e size v n xs) : Own w0 w.drew e size v n xs := h.below (Below.refl _ _).drew
set_option maxRecDepth 20000 in
theorem Own.grown {n' : Nat} (h : Own w0 w e size v n xs) (hr : Row w' e size v' n' xs') (hg : w.grownBy w' v.ownBlock) (ha : v'.ownBlock = v.ownBlock ∨ v'.ownBlock = some w.heap.size) : Own w0 w' e size v' n' xs' := by
  refine ⟨h.bel.grown hg h.bel.size h.own, hr, fun g hv => ?_⟩
  rcases ha with e | e
  · exact h.own g (e ▸ hv)
  · rw [e] at hv; cases hv; exact h.bel.size
set_option maxRecDepth 20000 in
theorem grown_row {e' : TypeId} {size' n' : Nat} (h : Row w e' size' v' n' xs') (h2 : Row w e size v n xs) (hne : e' ≠ e) (hg : w.grownBy w' v.ownBlock) : Row w' e' size' v' n' xs' :=
  row_of h fun g hv => hg.block g (row_lt h g hv) (fun k => row_types h h2 hne g hv k.symm)
/-- its cells, read -/
theorem flat_get {α : Type} {k : Nat} {f : α → List Value} (hf : ∀ x, (f x).length = k) : ∀ (l : List α) (i : Nat) (x : α), l[i]? = some x → ∀ j, j < k → (l.flatMap f)[i * k + j]? = (f x)[j]?
  | [], _, _, h, _, _ => by simp at h
  | y :: r, 0, x, h, j, hj => by
    simp only [List.getElem?_cons_zero, Option.some.injEq] at h
    subst h
    rw [List.flatMap_cons, Nat.zero_mul, Nat.zero_add, List.getElem?_append_left (by rw [hf]; exact hj)]
  | y :: r, i + 1, x, h, j, hj => by
    rw [List.getElem?_cons_succ] at h
    rw [List.flatMap_cons, List.getElem?_append_right (by rw [hf, Nat.add_mul]; omega), hf, show (i + 1) * k + j - k = i * k + j by rw [Nat.add_mul]; omega]
    exact flat_get hf r i x h j hj
set_option maxRecDepth 20000 in
theorem flat_len {α : Type} {k : Nat} {f : α → List Value} (hf : ∀ x, (f x).length = k) : ∀ (l : List α), (l.flatMap f).length = l.length * k
  | [] => by simp
  | y :: r => by
    rw [List.flatMap_cons, List.length_append, hf, flat_len hf r, List.length_cons, Nat.add_mul]
    omega
set_option maxRecDepth 20000 in
theorem row_reads {α : Type} {k : Nat} {f : α → List Value} (hf : ∀ x, (f x).length = k) {l : List α} (h : Row w e k v l.length (l.flatMap f)) : ∃ A c, v = .slice A l.length c ∧ l.length ≤ c ∧ ReadsRows k f w A l := by
  cases hl : l with
  | nil =>
    subst hl
    obtain ⟨A, c, h1, h2⟩ := row_slice h
    exact ⟨A, c, h1, h2, fun i x hx => by simp at hx⟩
  | cons y r =>
    rw [← hl]
    obtain ⟨g, c, rfl, hc, hlt, _, hcell⟩ := row_form h (by rw [hl]; simp)
    refine ⟨_, c, rfl, hc, fun i x hx => ⟨g, 0, rfl, hlt, fun j u hu => ?_⟩⟩
    have hi := (List.getElem?_eq_some_iff.1 hx).1
    have hj : j < k := by rw [← hf x]; exact (List.getElem?_eq_some_iff.1 hu).1
    have h2 : (i + 1) * k ≤ l.length * k := Nat.mul_le_mul_right k hi
    rw [Nat.add_mul] at h2
    rw [Nat.zero_add, hcell _ (by omega), flat_get hf l i x hx j hj, hu]
end
end Go.Proofs.Ytkipmbnmmbeeaaa.Zb
namespace Go.Proofs.Ytkipmbnmmbeeaaa
open Go.RowKit Zb

def sv (s : ByteArray) : List Value := [.string s]
set_option maxRecDepth 20000 in
theorem sv_len (s : ByteArray) : (sv s).length = 1 := rfl
set_option maxRecDepth 20000 in
theorem pcells_len (p : PartM) : p.cells.length = 4 := rfl
abbrev OwnS (w0 w : World) (v : Value) (l : List ByteArray) : Prop := Own w0 w 9 1 v l.length (l.flatMap sv)
abbrev OwnP (w0 w : World) (v : Value) (l : List PartM) : Prop := Own w0 w 34 4 v l.length (l.flatMap PartM.cells)
set_option maxRecDepth 20000 in
theorem info_str : (Try.prog.info? 9).map (fun i => (i.zero, i.size, i.bytes)) = some (some (.string ⟨#[]⟩), 1, 16) := by kernel_rfl
set_option maxRecDepth 20000 in
theorem flat_snoc {α : Type} (f : α → List Value) (l : List α) (x : α) : (l ++ [x]).flatMap f = l.flatMap f ++ f x := by simp
section
variable {o : Oper} {a : Act} {Q : Exit → Act → World → Prop} {w0 W : World} {v : Value} {l : List ByteArray} {ops : Array Oper} {rest : List Oper}
set_option maxRecDepth 20000 in
theorem owns_app (hgd : o.guard = none) (s x : Operand) (ho : o.op = .call { callee := .builtin .append, args := #[s, x], argTypes := #[41, 41] }) (hb : Hid (OwnS w0 W v l)) (g c : Nat) (t : ByteArray)
    (hs : a.eval s = v) (hx : a.eval x = .slice (some ⟨g, 0, none⟩) 1 c) (hcs : Blk W g 9 #[.string t]) (hlen : l.length ≤ 1000000)
    (h : ∀ v' w', Hid (OwnS w0 w' v' (l ++ [t])) → Hid (W.grownBy w' v.ownBlock) → wpList Try.prog ops Q rest (a.put o.dst v') w') : wpList Try.prog ops Q (o :: rest) a W :=
  app_list hgd s x 41 9 ho (.string ⟨#[]⟩) 1 16 Try.underlying41 info_str rfl (by decide) v l.length _ hs hb.out.row _ 1 [.string t] hx (Src.blk hcs) rfl (by intro u hu; simp only [List.mem_singleton] at hu; subst hu; rfl) (Nat.le_trans (show l.length + 1 ≤ 1000001 by omega) (by decide)) (by omega)
    fun v' w' h1 h2 h3 => h v' w' (hide (by
      have h1' : Row w' 9 1 v' (l ++ [t]).length ((l ++ [t]).flatMap sv) := by
        rw [flat_snoc, List.length_append]
        exact h1.out
      exact hb.out.grown h1' h2.out h3.out)) h2
end
set_option maxRecDepth 20000 in
theorem rbnum_calls (n : Int) (h0 : -9223372036854775808 ≤ n) (h1 : n < 9223372036854775808) (width : Int) (w : World) : Calls Try.prog 40 #[.int .i64 n, .int .i64 width] w fun e w' => e = .returned (.string (putB n width)) ∧ Below w.heap.size w w' := by
  have HP := hide (roPut_calls n h0 h1 width)
  clear h0 h1
  go_enter Try.func40, Try.ntmps40
  go_wp2_with fail
  refine (HP.out _).mono ?_
  rintro e w1 ⟨rfl, hb1⟩
  go_wp2_with fail
  go_ret
  exact ⟨rfl, hb1⟩
set_option maxRecDepth 20000 in
set_option maxHeartbeats 2000000 in
theorem rbdigests_calls {w : World} {A : Option Addr} {l : List PartM} (cap : Nat) (hr : ReadsRows 4 PartM.cells w A l) (hl : MidL l) : Calls Try.prog 25 #[.slice A l.length cap] w fun e w' => ∃ v, e = .returned v ∧ OwnS w w' v (l.map fun p => digB p.text) := by
  have HR := hide hr
  have HL := hide hl
  have hlen : l.length ≤ 70000 := hl.1
  clear hr hl
  go_enter Try.func25, Try.ntmps25
  go_wp2_with fail
  go_loopw [3, 4] (fun v i wr => ∃ k : Nat, k ≤ l.length ∧ i = .int .i64 (k : Int) ∧ Hid (OwnS w wr v ((l.take k).map fun p => digB p.text))) (fun _ i _ => l.length - (intOf i).toNat)
  case atStart => exact ⟨0, by omega, rfl, hide (Own.nil (Below.refl _ _))⟩
  case round =>
    obtain ⟨k, hk, rfl, HO⟩ := hrel
    by_cases hlt : k < l.length
    · obtain ⟨x, hx⟩ : ∃ x, l[k]? = some x := ⟨_, List.getElem?_eq_getElem hlt⟩
      have hkI : (k : Int) < (l.length : Int) := by omega
      have hk0 : (0 : Int) ≤ (k : Int) := by omega
      have HD := hide (fun w1 => rgOf_digB x.text (by have := (HL.out.2 x (List.mem_of_getElem? hx)).text; omega) w1)
      obtain ⟨bb, off, hA, hblt, hc⟩ := HR.out.kept HO.out.bel hx
      subst hA
      have x2 : wr.cell? ⟨bb, off + k * 4 + 2, none⟩ = some (.string x.text) := hc 2 _ rfl
      have HN : Hid ((l.take (k + 1)).map (fun p => digB p.text) = (l.take k).map (fun p => digB p.text) ++ [digB x.text]) := hide (by rw [List.take_add_one, hx]; simp)
      have HLN : Hid (((l.take k).map fun p => digB p.text).length ≤ 1000000) := hide (by simp; omega)
      obtain ⟨d, hd⟩ : ∃ d, digB x.text = d := ⟨_, rfl⟩
      rw [hd] at HD HN
      generalize (l.take k).map (fun p => digB p.text) = S at *
      clear hc hx hd
      go_wp2_with fail
      refine (HD.out _).mono ?_
      rintro e w1 ⟨rfl, hb1⟩
      have HO1 := hide (HO.out.below hb1)
      have HOA := hide (HO1.out.alloc (.cells #[.string d] 9))
      have HBK := hide (Blk.new w1 9 #[.string d])
      clear hb1
      go_wp2_with ((with_reducible show wpList _ _ _ (⟨some 19, _, _, _, _, _⟩ :: _) _ _); refine owns_app rfl _ _ rfl HOA _ _ d rfl rfl HBK.out HLN.out ?_; intro v2 w2 HO2 HG2)
      rw [← HN.out] at HO2
      refine ⟨⟨k + 1, by omega, by go_num, HO2⟩, ?_⟩
      simp [intOf]
      omega
    · obtain rfl : k = l.length := by omega
      have HE : Hid (OwnS w wr u3 (l.map fun p => digB p.text)) := hide (by
        have := HO.out
        rwa [List.take_length] at this)
      go_wp2_with fail
      go_ret
      exact ⟨_, rfl, HE.out⟩
set_option maxRecDepth 20000 in
set_option maxHeartbeats 4000000 in
theorem rbbody_calls {w : World} {A B : Option Addr} {R : Sums} (cap cap' : Nat) (ha : ReadsRows 4 PartM.cells w A (R.map (·.1))) (hb : ReadsRows 1 sv w B (R.map (·.2))) (hm : MidL (R.map (·.1))) (hS : (partsB R).size ≤ 1000000) : Calls Try.prog 24 #[.slice A R.length cap, .slice B R.length cap'] w fun e w' => e = .returned (.string (bodyB R)) ∧ Below w.heap.size w w' := by
  have HA := hide ha
  have HBB := hide hb
  have HM := hide hm
  have hlen : R.length ≤ 70000 := by have := hm.1; simpa using this
  have HN0 := hide (rbnum_calls (R.length : Nat) (by omega) (by omega) 2)
  have HS := hide (fun k => Nat.le_trans (partsB_le R k) hS)
  have HE : Hid (bodyB R = (⟨#[66, 78, 68, 76]⟩ ++ putB R.length 2) ++ partsB R) := hide rfl
  have hnb : (putB R.length 2).size ≤ 2 := by
    unfold putB
    split
    · show (leL _ _).toArray.size ≤ 2
      rw [List.size_toArray, leL_length]
      omega
    · exact Nat.zero_le _
  have HH : Hid ((⟨#[66, 78, 68, 76]⟩ ++ putB R.length 2 : ByteArray).size ≤ 100) := hide (by
    rw [ByteArray.size_append]
    show 4 + _ ≤ 100
    omega)
  have h4 : (⟨#[66, 78, 68, 76]⟩ : ByteArray).size = 4 := rfl
  clear ha hb hm hS
  generalize bodyB R = out at *
  generalize putB R.length 2 = nb at *
  go_enter Try.func24, Try.ntmps24
  go_wp2_with fail
  refine (HN0.out _).mono ?_
  rintro e w0 ⟨rfl, hb0⟩
  have HB0 := hide hb0
  clear hb0
  go_wp2_with fail
  clear h4 hnb
  generalize (⟨#[66, 78, 68, 76]⟩ ++ nb : ByteArray) = hd at *
  go_loopw [5, 6] (fun v i wr => ∃ (k : Nat) (s : ByteArray), k ≤ R.length ∧ i = .int .i64 (k : Int) ∧ v = .string s ∧ Hid (s = hd ++ partsB (R.take k)) ∧ Hid (Below w.heap.size w wr)) (fun _ i _ => R.length - (intOf i).toNat)
  case atStart => exact ⟨0, hd, by omega, rfl, rfl, hide (by show hd = hd ++ ⟨#[]⟩; rw [bemp]), HB0⟩
  case round =>
    obtain ⟨k, s, hk, rfl, rfl, HP, HB⟩ := hrel
    by_cases hlt : k < R.length
    · obtain ⟨x, hx⟩ : ∃ x, R[k]? = some x := ⟨_, List.getElem?_eq_getElem hlt⟩
      have hx1 : (R.map (·.1))[k]? = some x.1 := by rw [List.getElem?_map, hx]; rfl
      have hx2 : (R.map (·.2))[k]? = some x.2 := by rw [List.getElem?_map, hx]; rfl
      have hkI : (k : Int) < (R.length : Int) := by omega
      have hk0 : (0 : Int) ≤ (k : Int) := by omega
      have hmid := HM.out.2 x.1 (List.mem_of_getElem? hx1)
      have HT1 := hide (fun w1 => roText_calls x.1.name (by have := hmid.name; omega) w1)
      have HN := hide (rbnum_calls x.1.version hmid.version.1 hmid.version.2 4)
      have HT2 := hide (fun w1 => roText_calls x.1.text (by have := hmid.text; omega) w1)
      obtain ⟨ba, oa, hA, hal, hc⟩ := HA.out k _ hx1
      obtain ⟨bb, ob, hB, hbl, hd2⟩ := HBB.out k _ hx2
      subst hA
      subst hB
      have HC0 : Hid (∀ w', Below w.heap.size w w' → w'.cell? ⟨ba, oa + k * 4, none⟩ = some (.string x.1.name)) := hide fun w' h => (h.cell (p := ⟨ba, oa + k * 4, none⟩) hal).trans (hc 0 _ rfl)
      have HC1 : Hid (∀ w', Below w.heap.size w w' → w'.cell? ⟨ba, oa + k * 4 + 1, none⟩ = some (.int .i64 x.1.version)) := hide fun w' h => (h.cell (p := ⟨ba, oa + k * 4 + 1, none⟩) hal).trans (hc 1 _ rfl)
      have HC2 : Hid (∀ w', Below w.heap.size w w' → w'.cell? ⟨ba, oa + k * 4 + 2, none⟩ = some (.string x.1.text)) := hide fun w' h => (h.cell (p := ⟨ba, oa + k * 4 + 2, none⟩) hal).trans (hc 2 _ rfl)
      have HC3 : Hid (∀ w', Below w.heap.size w w' → w'.cell? ⟨bb, ob + k, none⟩ = some (.string x.2)) := hide fun w' h => (h.cell (p := ⟨bb, ob + k, none⟩) hbl).trans (by
        have := hd2 0 _ rfl
        simpa using this)
      have HNX := hide (partsB_take R k x hx)
      have HPB : Hid (partB x = textB x.1.name ++ putB x.1.version 4 ++ textB x.1.text ++ x.2) := hide rfl
      have HSK := hide (HS.out (k + 1))
      obtain ⟨⟨xn, xv, xt, xs⟩, xd⟩ := x
      dsimp only at HT1 HN HT2 HC0 HC1 HC2 HC3 HPB
      clear hc hd2 hx hx1 hx2 hmid
      generalize textB xn = tn at *
      generalize putB xv 4 = tv at *
      generalize textB xt = tt at *
      have hsz : s.size + tn.size + tv.size + tt.size + xd.size ≤ 1000100 := by
        have h1 := congrArg ByteArray.size HNX.out
        have h2 := congrArg ByteArray.size HP.out
        have h3 := HH.out
        rw [HPB.out] at h1
        simp only [ByteArray.size_append] at h1 h2
        have h4 := HSK.out
        omega
      have e1 : ¬ 9223372036854775807 < s.size + tn.size := by omega
      have e2 : ¬ 9223372036854775807 < s.size + tn.size + tv.size := by omega
      have e3 : ¬ 9223372036854775807 < s.size + tn.size + tv.size + tt.size := by omega
      have e4 : ¬ 9223372036854775807 < s.size + tn.size + tv.size + tt.size + xd.size := by omega
      go_wp2_with fail
      refine wp_region_heads [0, 1, 2, 3, 4, 5, 8, 9, 10, 11, 12, 15, 16, 17, 18, 19, 22, 23, 24, 25] 8 (fun w' => Below w.heap.size w w') (by kernel_rfl) rfl (by kernel_rfl) (by kernel_rfl) (fun _ _ d _ _ h => by cases d <;> exact h) HB.out.drew ?_
      iterate 20
        refine' Heads.step rfl (by rfl) ?_ ?_
        rotate_left
        · intro w' hSw
          have q0 := HC0.out w' hSw; have q1 := HC1.out w' hSw; have q2 := HC2.out w' hSw; have q3 := HC3.out w' hSw
          go_simp
          try with_reducible rfl
        simp only [Act.put, List.setIfInBounds_toArray, List.set_cons_zero, List.set_cons_succ]
      refine Heads.done ?_
      refine wpAnyH_ready (rs := [6]) (by kernel_rfl) (by simp) (AllReadyH.cons rfl (fun K hK => ?_) AllReadyH.nil)
      go_simp
      refine (HT1.out _).mono ?_
      rintro e w2 ⟨rfl, hb2⟩
      refine hK.out _ _ (HB.out.drew.trans (hb2.mono HB.out.drew.size)) (fun hHeld1 => ?_)
      clear hK K
      refine wpAnyH_more [7] 6 rfl (by kernel_rfl) (by kernel_rfl) (fun _ _ d _ _ h => by cases d <;> exact h) hHeld1 ?_
      iterate 1
        refine' Heads.step rfl (by rfl) ?_ ?_
        rotate_left
        · intro w' hSw
          have q0 := HC0.out w' hSw; have q1 := HC1.out w' hSw; have q2 := HC2.out w' hSw; have q3 := HC3.out w' hSw
          go_simp
          try with_reducible rfl
        simp only [Act.put, List.setIfInBounds_toArray, List.set_cons_zero, List.set_cons_succ]
      refine Heads.done ?_
      refine wpAnyH_ready (rs := [13]) (by kernel_rfl) (by simp) (AllReadyH.cons rfl (fun K hK => ?_) AllReadyH.nil)
      go_simp
      refine (HN.out _).mono ?_
      rintro e w3 ⟨rfl, hb3⟩
      refine hK.out _ _ (hHeld1.trans (hb3.mono hHeld1.size)) (fun hHeld2 => ?_)
      clear hK K
      refine wpAnyH_more [14] 4 rfl (by kernel_rfl) (by kernel_rfl) (fun _ _ d _ _ h => by cases d <;> exact h) hHeld2 ?_
      iterate 1
        refine' Heads.step rfl (by rfl) ?_ ?_
        rotate_left
        · intro w' hSw
          have q0 := HC0.out w' hSw; have q1 := HC1.out w' hSw; have q2 := HC2.out w' hSw; have q3 := HC3.out w' hSw
          go_simp
          try with_reducible rfl
        simp only [Act.put, List.setIfInBounds_toArray, List.set_cons_zero, List.set_cons_succ]
      refine Heads.done ?_
      refine wpAnyH_ready (rs := [20]) (by kernel_rfl) (by simp) (AllReadyH.cons rfl (fun K hK => ?_) AllReadyH.nil)
      go_simp
      refine (HT2.out _).mono ?_
      rintro e w4 ⟨rfl, hb4⟩
      refine hK.out _ _ (hHeld2.trans (hb4.mono hHeld2.size)) (fun hHeld3 => ?_)
      clear hK K
      refine wpAnyH_more [21, 26, 27] 0 rfl (by kernel_rfl) (by kernel_rfl) (fun _ _ d _ _ h => by cases d <;> exact h) hHeld3 ?_
      iterate 3
        refine' Heads.step rfl (by rfl) ?_ ?_
        rotate_left
        · intro w' hSw
          have q0 := HC0.out w' hSw; have q1 := HC1.out w' hSw; have q2 := HC2.out w' hSw; have q3 := HC3.out w' hSw
          go_simp
          try with_reducible rfl
        simp only [Act.put, List.setIfInBounds_toArray, List.set_cons_zero, List.set_cons_succ]
      refine Heads.done ?_
      refine wpAnyH_done (by kernel_rfl) ?_ _
      clear hsz e1 e2 e3 e4
      have HNEW : Hid (s ++ tn ++ tv ++ tt ++ xd = hd ++ partsB (R.take (k + 1))) := hide (by
        rw [HNX.out, HP.out, HPB.out]
        simp only [ByteArray.append_assoc])
      go_wp2_with fail
      refine ⟨⟨k + 1, _, by omega, by go_num, rfl, HNEW, hide hHeld3⟩, ?_⟩
      simp [intOf]
      omega
    · obtain rfl : k = R.length := by omega
      have HF : s = out := by rw [HP.out, HE.out, List.take_length]
      clear HP
      subst HF
      go_wp2_with fail
      go_ret
      exact ⟨rfl, HB.out⟩
end Go.Proofs.Ytkipmbnmmbeeaaa
