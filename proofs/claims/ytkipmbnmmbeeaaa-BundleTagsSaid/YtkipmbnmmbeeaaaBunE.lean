/- Chapter 25: the document's Build and read, walked. -/
import Derived.Test.YtkipmbnmmbeeaaaBunD
import Derived.OwnWalk
namespace Go.Proofs.Ytkipmbnmmbeeaaa
open Go.RowKit Zb

set_option maxRecDepth 20000 in
theorem partsB_bound (c : Nat) : ∀ R : Sums, (∀ x ∈ R, (partB x).size ≤ c) → (partsB R).size ≤ R.length * c
  | [], _ => Nat.zero_le _
  | x :: r, h => by
    have ih := partsB_bound c r fun y hy => h y (List.mem_cons_of_mem _ hy)
    have h0 := h x (List.mem_cons_self ..)
    simp only [partsB, ByteArray.size_append, List.length_cons, Nat.add_mul]
    omega
set_option maxRecDepth 20000 in
theorem goodFrom_ok : ∀ (l : List PartM) (seen : List ByteArray), goodFrom seen l = true → ∀ p ∈ l, partOk p = true
  | [], _, _, p, hp => by simp at hp
  | q :: r, seen, h, p, hp => by
    simp only [goodFrom, Bool.and_eq_true] at h
    rcases List.mem_cons.1 hp with rfl | hp
    · exact h.1.2
    · exact goodFrom_ok r _ h.2 p hp
set_option maxRecDepth 20000 in
theorem right_lim {l : List PartM} (h : rightM l = true) : 1 ≤ l.length ∧ l.length ≤ 16 ∧ ∀ p ∈ l, p.name.size ≤ 16 ∧ 1 ≤ p.version ∧ p.version ≤ 2147483647 ∧ p.text.size ≤ 8192 ∧ p.state = ⟨#[]⟩ := by
  simp only [rightM, Bool.and_eq_true, decide_eq_true_eq] at h
  refine ⟨h.1.2, h.2, fun p hp => ?_⟩
  have := goodFrom_ok l [] h.1.1 p hp
  simp only [partOk, nameM, Bool.and_eq_true, decide_eq_true_eq] at this
  exact ⟨this.1.1.1.1.1.2, this.1.1.1.2, this.1.1.2, this.1.2, this.2⟩
set_option maxRecDepth 20000 in
theorem withSums_size {l : List PartM} (h : rightM l = true) : (partsB (withSums l)).size ≤ 200000 := by
  obtain ⟨_, h16, hp⟩ := right_lim h
  have := partsB_bound 8300 (withSums l) fun x hx => by
    obtain ⟨p, hpl, rfl⟩ := List.mem_map.1 hx
    have h1 := partB_le (p, digB p.text)
    have h2 := digB_size p.text
    obtain ⟨p1, _, _, p4, _⟩ := hp p hpl
    dsimp only at h1
    omega
  rw [withSums_len] at this
  have := Nat.mul_le_mul_right 8300 h16
  omega
set_option maxRecDepth 20000 in
theorem headB_le (n : Nat) : (headB n).size ≤ 6 := by
  unfold headB
  rw [ByteArray.size_append]
  have : (putB n 2).size ≤ 2 := by
    unfold putB
    split
    · show (leL _ _).toArray.size ≤ 2
      rw [List.size_toArray, leL_length]
      omega
    · exact Nat.zero_le _
  show 4 + _ ≤ 6
  omega
set_option maxRecDepth 20000 in
theorem bodyB_size {l : List PartM} (h : rightM l = true) : (bodyB (withSums l)).size ≤ 200100 := by
  unfold bodyB
  rw [ByteArray.size_append]
  have := withSums_size h
  have := headB_le (withSums l).length
  omega
set_option maxRecDepth 20000 in
theorem withSums_snd (l : List PartM) : (withSums l).map (·.2) = l.map fun p => digB p.text := by
  unfold withSums
  rw [List.map_map]
  rfl
abbrev BuildPost (key : ByteArray) (l : List PartM) (w : World) (e : Ending) (w' : World) : Prop := e = .returned (.tuple #[.string (buildM key l).1, .int .i64 (buildM key l).2]) ∧ Below w.heap.size w w'
set_option maxRecDepth 20000 in
set_option maxHeartbeats 2000000 in
theorem rbBuild_calls {w : World} {A : Option Addr} {l : List PartM} (key : ByteArray) (hk : key.size ≤ 1000000) (cap : Nat) (hr : ReadsRows 4 PartM.cells w A l) (hl : MidL l) : Calls Try.prog 11 #[.string key, .slice A l.length cap] w (BuildPost key l w) := by
  have HR := hide hr
  have HRI := hide (rbRight_calls cap hr hl)
  have HD := hide fun w1 h => rbdigests_calls (w := w1) (A := A) cap h hl
  have HL := hide hl
  obtain ⟨g, hg⟩ : ∃ g, rightM l = g := ⟨_, rfl⟩
  have HG := hide hg
  rw [hg] at HRI
  clear hr hl hg
  go_enter Try.func11, Try.ntmps11
  go_wp2_with fail
  refine HRI.out.mono ?_
  rintro e w1 ⟨rfl, hb1⟩
  cases g
  · have HE : Hid (buildM key l = (⟨#[]⟩, 4)) := hide (by unfold buildM; rw [HG.out]; rfl)
    go_wp2_with fail
    go_ret2
    refine ⟨?_, hb1⟩
    rw [HE.out]
    rfl
  · have HE : Hid (buildM key l = (bodyB (withSums l) ++ macB key (bodyB (withSums l)), 0)) := hide (by unfold buildM; rw [HG.out]; rfl)
    have HSZ := hide (withSums_size HG.out)
    have HSB := hide (bodyB_size HG.out)
    have HB1 := hide hb1
    clear hb1
    go_wp2_with fail
    refine (HD.out _ (HR.out.below HB1.out)).mono ?_
    rintro e w2 ⟨v, rfl, ho⟩
    obtain ⟨B, c, rfl, hc, hrd⟩ := row_reads sv_len ho.row
    have HB2 := hide (HB1.out.trans (ho.bel.mono HB1.out.size))
    have HBODY := hide (rbbody_calls (w := w2) (A := A) (B := B) (R := withSums l) cap c (by rw [withSums_fst]; exact HR.out.below HB2.out) (by rw [withSums_snd]; exact hrd) (by rw [withSums_fst]; exact HL.out) (by have := HSZ.out; omega))
    have hlm : (l.map fun p => digB p.text).length = l.length := by simp
    rw [withSums_len] at HBODY
    have HWL := hide hlm
    rw [hlm] at ho hc ⊢
    clear ho hrd hc hlm HD HR
    have HMAC := hide (fun w1 => rmOf_calls key (bodyB (withSums l)) (by omega) (by have := HSB.out; omega) w1)
    have HMS := macB_size key (bodyB (withSums l))
    generalize bodyB (withSums l) = bd at *
    have HSBI : bd.size ≤ 200100 := HSB.out
    generalize macB key bd = mc at *
    go_wp2_with fail
    refine HBODY.out.mono ?_
    rintro e w3 ⟨rfl, hb3⟩
    have HB3 := hide (HB2.out.trans (hb3.mono HB2.out.size))
    clear hb3 HBODY
    go_wp2_with fail
    refine (HMAC.out _).mono ?_
    rintro e w4 ⟨rfl, hb4⟩
    go_wp2_with fail
    go_ret2
    refine ⟨?_, HB3.out.trans (hb4.mono HB3.out.size)⟩
    rw [HE.out]
    rfl

/-! ### read -/
theorem info_part : (Try.prog.info? 34).map (fun i => (i.zero, i.size, i.bytes)) = some (some (.agg #[.string ⟨#[]⟩, .int .i64 0, .string ⟨#[]⟩, .string ⟨#[]⟩]), 4, 56) := by kernel_rfl
section
variable {o : Oper} {a : Act} {Q : Exit → Act → World → Prop} {w0 W : World} {v : Value} {l : List PartM} {ops : Array Oper} {rest : List Oper}
set_option maxRecDepth 20000 in
theorem ownp_app (hgd : o.guard = none) (s x : Operand) (ho : o.op = .call { callee := .builtin .append, args := #[s, x], argTypes := #[22, 22] }) (hb : Hid (OwnP w0 W v l)) (g c : Nat) (t : PartM)
    (hs : a.eval s = v) (hx : a.eval x = .slice (some ⟨g, 0, none⟩) 1 c) (hcs : Blk W g 34 t.cells.toArray) (hlen : l.length ≤ 1000000)
    (h : ∀ v' w', Hid (OwnP w0 w' v' (l ++ [t])) → Hid (W.grownBy w' v.ownBlock) → wpList Try.prog ops Q rest (a.put o.dst v') w') : wpList Try.prog ops Q (o :: rest) a W :=
  app_list hgd s x 22 34 ho _ 4 56 Try.underlying22 info_part rfl (by decide) v l.length _ hs hb.out.row _ 1 t.cells hx (Src.blk hcs) rfl (by intro u hu; simp only [PartM.cells, List.mem_cons, List.not_mem_nil, or_false] at hu; rcases hu with rfl | rfl | rfl | rfl <;> rfl) (Nat.le_trans (show l.length + 1 ≤ 1000001 by omega) (by decide)) (by omega)
    fun v' w' h1 h2 h3 => h v' w' (hide (by
      have h1' : Row w' 34 4 v' (l ++ [t]).length ((l ++ [t]).flatMap PartM.cells) := by
        rw [flat_snoc, List.length_append]
        exact h1.out
      exact hb.out.grown h1' h2.out h3.out)) h2
end
set_option maxRecDepth 20000 in
theorem OwnS.kept {w0 w w' : World} {v p : Value} {S : List ByteArray} {L : List PartM} (h : OwnS w0 w v S) (hp : OwnP w0 w p L) (hg : w.grownBy w' p.ownBlock) : OwnS w0 w' v S :=
  ⟨h.bel.grown hg h.bel.size hp.own, grown_row h.row hp.row (by decide) hg, h.own⟩
set_option maxRecDepth 20000 in
theorem OwnP.kept {w0 w w' : World} {v p : Value} {S : List ByteArray} {L : List PartM} (h : OwnP w0 w p L) (hp : OwnS w0 w v S) (hg : w.grownBy w' v.ownBlock) : OwnP w0 w' p L :=
  ⟨h.bel.grown hg h.bel.size hp.own, grown_row h.row hp.row (by decide) hg, h.own⟩
set_option maxRecDepth 20000 in
theorem unhid {p : Prop} (h : Hid p) : p := h
set_option maxRecDepth 20000 in
theorem next_to {s : ByteArray} {a : Nat} : ∃ b : Nat, (nextM s a).2.1 = b ∧ b ≤ s.size := by
  by_cases h : (nextM s a).2.2 = 0
  · obtain ⟨b, hb, _, hb3⟩ := nextM_lim h
    exact ⟨b, hb, hb3⟩
  · refine ⟨0, ?_, Nat.zero_le _⟩
    unfold nextM at h ⊢
    split at h
    · rename_i h1
      rw [if_pos h1]
      split at h
      · exact absurd rfl h
      · rename_i h2
        rw [if_neg h2]
        rfl
    · rename_i h1
      rw [if_neg h1]
      rfl
set_option maxRecDepth 20000 in
theorem next_te {s : ByteArray} {a : Nat} : (nextM s a).1.size ≤ s.size := by
  unfold nextM
  split
  · split
    · rw [ByteArray.size_extract]
      omega
    · exact Nat.zero_le _
  · exact Nat.zero_le _
abbrev ReadPost (s : ByteArray) (w : World) (e : Ending) (w' : World) : Prop := Below w.heap.size w w' ∧ match readM s with
  | none => e = .returned (.tuple #[.slice none 0 0, .slice none 0 0, .bool false])
  | some R => ∃ v u, e = .returned (.tuple #[v, u, .bool true]) ∧ OwnP w w' v (R.map (·.1)) ∧ OwnS w w' u (R.map (·.2))
set_option maxRecDepth 20000 in
theorem readpost_none {s : ByteArray} {w w' : World} (h : readM s = none) (hb : Below w.heap.size w w') : ReadPost s w (.returned (.tuple #[.slice none 0 0, .slice none 0 0, .bool false])) w' := by
  refine ⟨hb, ?_⟩
  rw [h]
set_option maxRecDepth 20000 in
theorem readpost_some {s : ByteArray} {w w' : World} {R : Sums} {v u : Value} (h : readM s = some R) (hp : OwnP w w' v (R.map (·.1))) (hs : OwnS w w' u (R.map (·.2))) : ReadPost s w (.returned (.tuple #[v, u, .bool true])) w' := by
  refine ⟨hp.bel, ?_⟩
  rw [h]
  exact ⟨v, u, rfl, hp, hs⟩
set_option maxRecDepth 20000 in
set_option maxHeartbeats 4000000 in
theorem rbread_calls (s : ByteArray) (hs : s.size ≤ 1000000) (w : World) : Calls Try.prog 31 #[.string s] w (ReadPost s w) := by
  have HG0 := hide (roGet_calls s (by omega) 4 2 (by omega) (by omega))
  have HR0 : Hid (readM s = if getE s 4 2 ≠ 0 then none else readN s (getN s 4 2).toNat 6) := hide rfl
  have hgn : 0 ≤ getN s 4 2 ∧ getN s 4 2 ≤ 65535 := by
    unfold getN
    split
    · have h1 := leN_lt (cutL s (4 : Int).toNat (2 : Int).toNat)
      have h2 : (cutL s (4 : Int).toNat (2 : Int).toNat).length ≤ 2 := List.length_take_le _ _
      have h3 : leN (cutL s (4 : Int).toNat (2 : Int).toNat) < 65536 := Nat.lt_of_lt_of_le h1 (Nat.le_trans (Nat.pow_le_pow_right (by omega) h2) (by decide))
      unfold wrap64
      omega
    · omega
  have HEL : Hid (getE s 4 2 = 0 → 6 ≤ s.size) := hide fun h => getE_lim (s := s) (a := 4) (k := 2) h
  unfold GetPost at HG0
  obtain ⟨ge, hge⟩ : ∃ x, getE s 4 2 = x := ⟨_, rfl⟩
  obtain ⟨gn, hgn2⟩ : ∃ x, getN s 4 2 = x := ⟨_, rfl⟩
  rw [hge, hgn2] at HG0 HR0
  rw [hge] at HEL
  rw [hgn2] at hgn
  clear hge hgn2
  obtain ⟨hgn0, hgn1⟩ := hgn
  obtain ⟨n, rfl⟩ : ∃ n : Nat, gn = n := ⟨gn.toNat, by omega⟩
  clear hgn0
  go_enter Try.func31, Try.ntmps31
  go_wp2_with fail
  refine (HG0.out _).mono ?_
  rintro e w' ⟨rfl, rfl⟩
  by_cases he : ge = 0
  case neg =>
    have HE : Hid (readM s = none) := hide (by rw [HR0.out, if_pos he])
    have e1 : (ge == 0) = false := by simpa using he
    have e2 : (ge != 0) = true := by simpa using he
    go_wp2_with fail
    go_ret3
    exact readpost_none HE.out (Below.refl _ _)
  subst he
  have HR : Hid (readM s = readN s n 6) := hide (by rw [HR0.out]; simp)
  have h6 := HEL.out rfl
  clear HR0 HG0 HEL
  go_wp2_with fail
  go_loopw [7, 8, 9, 10] (fun at_ lv sv_ i wr => ∃ (k a : Nat) (R : Sums), k ≤ n ∧ i = .int .i64 (k : Int) ∧ at_ = .int .i64 (a : Int) ∧ a ≤ s.size ∧ R.length = k ∧ Hid (OwnP w wr lv (R.map (·.1))) ∧ Hid (OwnS w wr sv_ (R.map (·.2))) ∧ Hid (readM s = (readN s (n - k) a).map (R ++ ·))) (fun _ _ _ i _ => n - (intOf i).toNat)
  case atStart => exact ⟨0, 6, [], by omega, rfl, rfl, h6, rfl, hide (Own.nil (Below.refl _ _)), hide (Own.nil (Below.refl _ _)), hide (by rw [HR.out, Nat.sub_zero]; cases readN s n 6 <;> simp)⟩
  case round =>
    obtain ⟨k, a, R, hk, rfl, rfl, ha, hRk, HP, HS, HM⟩ := hrel
    by_cases hlt : k < n
    · have hkI : (k : Int) < (n : Int) := by omega
      have HNEXT := hide (roNext_calls s (by omega) (a : Int) (by omega) (by omega))
      obtain ⟨b, hb, hbs⟩ := next_to (s := s) (a := a)
      have hnm := next_te (s := s) (a := a)
      have HGET := hide (roGet_calls s (by omega) (b : Int) 4 (by omega) (by omega))
      have HNEXT2 := hide (roNext_calls s (by omega) ((b : Int) + 4) (by omega) (by omega))
      obtain ⟨c, hc, hcs⟩ : ∃ c : Nat, (nextM s ((b : Int) + 4)).2.1 = c ∧ c ≤ s.size := by
        rw [show ((b : Int) + 4) = ((b + 4 : Nat) : Int) by omega]
        exact next_to
      have htx : (nextM s ((b : Int) + 4)).1.size ≤ s.size := by
        rw [show ((b : Int) + 4) = ((b + 4 : Nat) : Int) by omega]
        exact next_te
      have HSTEP : Hid (stepR s a = if (nextM s a).2.2 ≠ 0 then none else if getE s b 4 ≠ 0 then none else if (nextM s ((b : Int) + 4)).2.2 ≠ 0 then none else if (s.size : Int) - (c : Int) < 32 then none else some (⟨(nextM s a).1, getN s b 4, (nextM s ((b : Int) + 4)).1, ⟨#[]⟩⟩, s.extract c (c + 32), ((c + 32 : Nat) : Int))) := hide (by
        unfold stepR
        rw [hb, hc]
        rw [show ((c : Int) + 32) = ((c + 32 : Nat) : Int) by omega]
        rfl)
      have HREAD : Hid (readN s (n - k) a = match stepR s a with
        | none => none
        | some x => (readN s (n - (k + 1)) x.2.2).map ((x.1, x.2.1) :: ·)) := hide (by
        rw [show n - k = n - (k + 1) + 1 by omega]
        rfl)
      unfold NextPost at HNEXT HNEXT2
      unfold GetPost at HGET
      rw [hb] at HNEXT
      rw [hc] at HNEXT2
      obtain ⟨f, hf⟩ : ∃ f, (nextM s a).2.2 = f := ⟨_, rfl⟩
      obtain ⟨nm, hnm2⟩ : ∃ f, (nextM s a).1 = f := ⟨_, rfl⟩
      obtain ⟨g, hg⟩ : ∃ f, getE s b 4 = f := ⟨_, rfl⟩
      obtain ⟨vr, hvr⟩ : ∃ f, getN s b 4 = f := ⟨_, rfl⟩
      obtain ⟨h, hh⟩ : ∃ f, (nextM s ((b : Int) + 4)).2.2 = f := ⟨_, rfl⟩
      obtain ⟨tx, htx2⟩ : ∃ f, (nextM s ((b : Int) + 4)).1 = f := ⟨_, rfl⟩
      rw [hf, hnm2] at HNEXT
      rw [hg, hvr] at HGET
      rw [hh, htx2] at HNEXT2
      rw [hf, hnm2, hg, hvr, hh, htx2] at HSTEP
      clear hb hc hf hnm2 hg hvr hh htx2 hnm htx
      have HX := hide (fun (h : stepR s a = none) => show readM s = none by rw [HM.out, HREAD.out, h]; rfl)
      have HY := hide (fun x (h : stepR s a = some x) => show readM s = (readN s (n - (k + 1)) x.2.2).map ((R ++ [(x.1, x.2.1)]) ++ ·) by rw [HM.out, HREAD.out, h]; simp [Option.map_map, Function.comp_def])
      clear HREAD HM
      go_wp2_with fail
      refine (HNEXT.out _).mono ?_
      rintro e w' ⟨rfl, rfl⟩
      go_wp2_with fail
      refine (HGET.out _).mono ?_
      rintro e w' ⟨rfl, rfl⟩
      by_cases hf : f = 0
      case neg =>
        have HE := hide (HX.out (by rw [HSTEP.out, if_pos hf]))
        have e1 : (f == 0) = false := by simpa using hf
        have e2 : (f != 0) = true := by simpa using hf
        go_wp2_with fail
        go_ret3
        exact readpost_none HE.out HP.out.bel
      subst hf
      by_cases hg : g = 0
      case neg =>
        have HE := hide (HX.out (by rw [HSTEP.out, if_neg (by simp), if_pos hg]))
        have e1 : (g == 0) = false := by simpa using hg
        have e2 : (g != 0) = true := by simpa using hg
        go_wp2_with fail
        go_ret3
        exact readpost_none HE.out HP.out.bel
      subst hg
      go_wp2_with fail
      refine (HNEXT2.out _).mono ?_
      rintro e w' ⟨rfl, rfl⟩
      by_cases hh : h = 0
      case neg =>
        have HE := hide (HX.out (by rw [HSTEP.out, if_neg (by simp), if_neg (by simp), if_pos hh]))
        have e1 : (h == 0) = false := by simpa using hh
        have e2 : (h != 0) = true := by simpa using hh
        go_wp2_with fail
        go_ret3
        exact readpost_none HE.out HP.out.bel
      subst hh
      by_cases hz : (s.size : Int) - (c : Int) < 32
      · have HE := hide (HX.out (by rw [HSTEP.out, if_neg (by simp), if_neg (by simp), if_neg (by simp), if_pos hz]))
        go_wp2_with fail
        go_ret3
        exact readpost_none HE.out HP.out.bel
      have hzb := decide_eq_false hz
      have HN := hide (HY.out _ (by rw [HSTEP.out, if_neg (by simp), if_neg (by simp), if_neg (by simp), if_neg hz]))
      clear HX HY HSTEP HNEXT HNEXT2 HGET
      dsimp only at HN
      have hcs2 : c + 32 ≤ s.size := by omega
      have HPA := hide (HP.out.alloc (.cells #[.string nm, .int .i64 vr, .string tx, .string ⟨#[]⟩] 34))
      have HSA := hide (HS.out.alloc (.cells #[.string nm, .int .i64 vr, .string tx, .string ⟨#[]⟩] 34))
      have HBK := hide (Blk.new wr 34 #[.string nm, .int .i64 vr, .string tx, .string ⟨#[]⟩])
      have HL1 : Hid ((R.map (·.1)).length ≤ 1000000) := hide (by rw [List.length_map]; omega)
      have HL2 : Hid ((R.map (·.2)).length ≤ 1000000) := hide (by rw [List.length_map]; omega)
      obtain ⟨sm, hsm⟩ : ∃ sm, s.extract c (c + 32) = sm := ⟨_, rfl⟩
      have HSM := hide hsm
      rw [hsm] at HN
      clear hsm
      go_wp2_with (first | ((with_reducible show wpList _ _ _ (⟨some 73, _, _, _, _, _⟩ :: _) _ _); refine ownp_app rfl _ _ rfl HPA _ _ ⟨nm, vr, tx, ⟨#[]⟩⟩ rfl rfl HBK.out HL1.out ?_; intro v2 w2 HP2 HG2; (have HS2 := hide (OwnS.kept HSA.out HPA.out HG2.out)); (have HP3 := hide (HP2.out.alloc (.cells #[.string sm] 9))); (have HS3 := hide (HS2.out.alloc (.cells #[.string sm] 9))); (have HB3 := hide (Blk.new w2 9 #[.string sm]))) | ((with_reducible show wpList _ _ _ (⟨some 81, _, _, _, _, _⟩ :: _) _ _); refine unhid ?_))
      rw [HSM.out]
      unfold Hid
      refine owns_app rfl _ _ rfl HS3 _ _ sm rfl rfl HB3.out HL2.out ?_
      intro v4 w4 HS4 HG4
      have HP4 := hide (OwnP.kept HP3.out HS3.out HG4.out)
      obtain ⟨R2, hR2⟩ : ∃ R2 : Sums, R ++ [(⟨nm, vr, tx, ⟨#[]⟩⟩, sm)] = R2 := ⟨_, rfl⟩
      have HNE : Hid (readM s = (readN s (n - (k + 1)) ((c + 32 : Nat) : Int)).map (R2 ++ ·)) := hide (by rw [← hR2]; exact HN.out)
      have HP5 : Hid (OwnP w w4 v2 (R2.map (·.1))) := hide (by
        rw [← hR2, List.map_append]
        exact HP4.out)
      have HS5 : Hid (OwnS w w4 v4 (R2.map (·.2))) := hide (by
        rw [← hR2, List.map_append]
        exact HS4.out)
      have hRk2 : R2.length = k + 1 := by rw [← hR2, List.length_append, hRk]; rfl
      clear HP4 HS4 HN hR2
      go_wp2_with fail
      refine ⟨⟨k + 1, c + 32, R2, by omega, by go_num, by go_num, hcs2, hRk2, HP5, HS5, HNE⟩, ?_⟩
      simp [intOf]
      omega
    · obtain rfl : k = n := by omega
      have HE : Hid (readM s = some R) := hide (by rw [HM.out, Nat.sub_self]; simp [readN])
      go_wp2_with fail
      go_ret3
      exact readpost_some HE.out HP.out HS.out
end Go.Proofs.Ytkipmbnmmbeeaaa
