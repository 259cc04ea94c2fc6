/- Chapter 25: right and Right of both sides, Light, walked. -/
import Derived.Test.YtkipmbnmmbeeaaaLexD
import Derived.Test.YtkipmbnmmbeeaaaBunM
import Derived.Test.YtkipmbnmmbeeaaaBunP
namespace Go.Proofs.Ytkipmbnmmbeeaaa
open Go.RowKit Zb

/-- the value of a part -/
abbrev PartM.val (p : PartM) : Value := .agg #[.string p.name, .int .i64 p.version, .string p.text, .string p.state]
set_option maxRecDepth 20000 in
theorem isEmpty_ne {s : ByteArray} (h : s ≠ ⟨#[]⟩) : s.toList.isEmpty = false := by
  rw [ByteArray.toList_eq]
  cases hl : s.data.toList with
  | nil => exact absurd (ByteArray.ext (Array.toList_inj.1 hl)) h
  | cons _ _ => rfl
set_option maxRecDepth 20000 in
theorem bright_calls (p : PartM) (hp : p.Mid) (w : World) : Calls Try.prog 26 #[.agg #[.string p.name, .int .i64 p.version, .string p.text, .string p.state]] w fun e w' => e = .returned (.bool (partOk p)) ∧ Below w.heap.size w w' := by
  obtain ⟨n, v, t, st⟩ := p
  obtain ⟨hn, hv, ht, hs⟩ := hp
  dsimp only at hn hv ht hs
  have HN := hide (fun w1 => xName_calls n (by omega) w1)
  have HP : Hid (partOk ⟨n, v, t, st⟩ = (nameM n && decide (1 ≤ v) && decide (v ≤ 2147483647) && decide (t.size ≤ 8192) && decide (st = ⟨#[]⟩))) := hide rfl
  generalize partOk ⟨n, v, t, st⟩ = r at HP ⊢
  obtain ⟨b, hb⟩ : ∃ b, nameM n = b := ⟨_, rfl⟩
  rw [hb] at HN HP
  rw [show decide (t.size ≤ 8192) = decide ((t.size : Int) ≤ 8192) by rw [decide_eq_decide]; omega] at HP
  clear hb hn ht hs
  obtain ⟨hv0, hv1⟩ := hv
  have HV := hide hv0
  clear hv0
  go_enter Try.func26, Try.ntmps26
  go_wp2_with fail
  refine (HN.out _).mono ?_
  rintro e w1 ⟨rfl, hb1⟩
  have hc0 := hb1.cell (p := ⟨w.heap.size, 0, none⟩) (by simp)
  have c1 : w1.cell? ⟨w.heap.size, 1, none⟩ = some (.int .i64 v) := (hb1.cell (p := ⟨w.heap.size, 1, none⟩) (by simp)).trans ((Blk.new w 34 #[.string n, .int .i64 v, .string t, .string st]).cell 1)
  have c2 : w1.cell? ⟨w.heap.size, 2, none⟩ = some (.string t) := (hb1.cell (p := ⟨w.heap.size, 2, none⟩) (by simp)).trans ((Blk.new w 34 #[.string n, .int .i64 v, .string t, .string st]).cell 2)
  have c3 : w1.cell? ⟨w.heap.size, 3, none⟩ = some (.string st) := (hb1.cell (p := ⟨w.heap.size, 3, none⟩) (by simp)).trans ((Blk.new w 34 #[.string n, .int .i64 v, .string t, .string st]).cell 3)
  have HB : Hid (Below w.heap.size w w1) := hide (((Below.refl w.heap.size w).alloc (Nat.le_refl _) _).trans (hb1.mono (by simp)))
  clear hb1 hc0
  cases b
  · go_wp2_with fail
    go_ret
    exact ⟨by rw [HP.out]; rfl, HB.out⟩
  · by_cases h1 : 1 ≤ v
    · rw [decide_eq_true h1] at HP
      by_cases h2 : v ≤ 2147483647
      · rw [decide_eq_true h2] at HP
        by_cases h3 : (t.size : Int) ≤ 8192
        · rw [decide_eq_true h3] at HP
          by_cases h4 : st = ⟨#[]⟩
          · rw [decide_eq_true h4] at HP
            subst h4
            go_wp2_with fail
            go_ret
            exact ⟨by rw [HP.out]; rfl, HB.out⟩
          · rw [decide_eq_false h4] at HP
            obtain ⟨n1, n2⟩ := lbytes_ne h4
            have n3 := isEmpty_ne h4
            clear h4
            go_wp2_with fail
            go_ret
            exact ⟨by rw [HP.out]; rfl, HB.out⟩
        · rw [decide_eq_false h3] at HP
          have h3b := decide_eq_false h3
          go_wp2_with fail
          go_ret
          exact ⟨by rw [HP.out]; rfl, HB.out⟩
      · rw [decide_eq_false h2] at HP
        have h2b := decide_eq_false h2
        go_wp2_with fail
        go_ret
        exact ⟨by rw [HP.out]; rfl, HB.out⟩
    · rw [decide_eq_false h1] at HP
      have h1b := decide_eq_false h1
      go_wp2_with fail
      go_ret
      exact ⟨by rw [HP.out]; rfl, HB.out⟩
/-- names seen -/
def SeenOf (m : Sms) (L : List ByteArray) : Prop := ∀ n, (Sms.look m n).getD 0 = if L.any (fun x => decide (x = n)) then 1 else 0
set_option maxRecDepth 20000 in
theorem SeenOf.put {m : Sms} {L : List ByteArray} (h : SeenOf m L) (n : ByteArray) (hn : (L.any fun x => decide (x = n)) = false) : SeenOf (Sms.put m n 1) (L ++ [n]) := by
  intro x
  rw [Sms.look_put, List.any_append]
  by_cases hx : x = n
  · subst hx
    simp
  · rw [if_neg hx, h x]
    have : decide (n = x) = false := decide_eq_false fun e => hx e.symm
    rw [List.any_cons, List.any_nil, this, Bool.or_false, Bool.or_false]
set_option maxRecDepth 20000 in
theorem goodFrom_drop (l : List PartM) (k : Nat) (p : PartM) (h : l[k]? = some p) : goodFrom ((l.take k).map (·.name)) (l.drop k) = (!(((l.take k).map (·.name)).any fun n => decide (n = p.name)) && partOk p && goodFrom ((l.take (k + 1)).map (·.name)) (l.drop (k + 1))) := by
  have hk := (List.getElem?_eq_some_iff.1 h).1
  rw [List.drop_eq_getElem_cons hk, (List.getElem?_eq_some_iff.1 h).2, List.take_add_one, h]
  simp [goodFrom]
set_option maxRecDepth 20000 in
theorem look_facts0 {w : World} {g : Nat} {m : Sms} (h : SMapAt w g m) (n : ByteArray) : (Instr.lookup 48 (.map (some g)) (.string n) false).run Try.prog w = .ok (.int .i64 ((Sms.look m n).getD 0)) w :=
  h.lookup Try.underlying48 Try.underlying9 (fun w => by kernel_rfl) n
set_option maxRecDepth 20000 in
theorem look_put2 {w : World} {g : Nat} {m : Sms} {n : ByteArray} {v : Int} (h : SMapAt w g (Sms.put m n v)) : (Instr.lookup 48 (.map (some g)) (.string n) false).run Try.prog w = .ok (.int .i64 v) w := by
  have := look_facts0 h n
  rw [Sms.look_put, if_pos rfl] at this
  exact this
set_option maxRecDepth 20000 in
set_option maxHeartbeats 4000000 in
theorem bRight_calls {w : World} {A : Option Addr} {l : List PartM} (cap : Nat) (hr : ReadsRows 4 PartM.cells w A l) (hl : MidL l) : Calls Try.prog 12 #[.slice A l.length cap] w fun e w' => e = .returned (.bool (rightM l)) ∧ Below w.heap.size w w' := by
  have HR := hide hr
  have HL := hide hl
  have hlen : l.length ≤ 70000 := hl.1
  clear hr hl
  have hmm := @run_makeMap Try.prog
  go_enter Try.func12, Try.ntmps12
  go_wp2_with fail
  go_loopw [9] (fun i wr => ∃ (k : Nat) (m : Sms), k ≤ l.length ∧ i = .int .i64 (k : Int) ∧ Hid (SMapAt wr w.heap.size m) ∧ Hid (SeenOf m ((l.take k).map (·.name))) ∧ Hid (Below w.heap.size w wr) ∧ Hid (goodFrom [] l = goodFrom ((l.take k).map (·.name)) (l.drop k))) (fun i _ => l.length - (intOf i).toNat)
  case atStart => exact ⟨0, [], by omega, rfl, hide (SMapAt.new w), hide (fun n => rfl), hide ((Below.refl _ _).alloc (Nat.le_refl _) _), hide rfl⟩
  case round =>
    obtain ⟨k, m, hk, rfl, HM, HS, HB, HG⟩ := hrel
    by_cases hlt : k < l.length
    · obtain ⟨x, hx⟩ : ∃ x, l[k]? = some x := ⟨_, List.getElem?_eq_getElem hlt⟩
      have hkI : (k : Int) < (l.length : Int) := by omega
      have hk0 : (0 : Int) ≤ (k : Int) := by omega
      have HXC := hide (fun w1 => bright_calls x (HL.out.2 x (List.mem_of_getElem? hx)) w1)
      obtain ⟨bb, off, hA, hblt, hc⟩ := HR.out.kept HB.out hx
      subst hA
      have x0 : wr.cell? ⟨bb, off + k * 4, none⟩ = some (.string x.name) := hc 0 _ rfl
      have x1 : wr.cell? ⟨bb, off + k * 4 + 1, none⟩ = some (.int .i64 x.version) := hc 1 _ rfl
      have x2 : wr.cell? ⟨bb, off + k * 4 + 2, none⟩ = some (.string x.text) := hc 2 _ rfl
      have x3 : wr.cell? ⟨bb, off + k * 4 + 3, none⟩ = some (.string x.state) := hc 3 _ rfl
      have hstep := goodFrom_drop l k x hx
      have HX := hide hx
      clear hc hx
      have HWN := hide (Blk.new wr 34 #[.string x.name, .int .i64 x.version, .string x.text, .string x.state])
      have HM1 := hide (HM.out.alloc (.cells #[.string x.name, .int .i64 x.version, .string x.text, .string x.state] 34))
      have HB1 := hide (HB.out.alloc HB.out.size (.cells #[.string x.name, .int .i64 x.version, .string x.text, .string x.state] 34))
      have hne : w.heap.size ≠ wr.heap.size := by have := HM.out.lt; omega
      generalize hW1 : wr.alloc (.cells #[.string x.name, .int .i64 x.version, .string x.text, .string x.state] 34) = w1 at *
      have hlook := look_facts0 HM1.out x.name
      have hsee := HS.out x.name
      obtain ⟨sn, hsn⟩ : ∃ b, (((l.take k).map (·.name)).any fun n => decide (n = x.name)) = b := ⟨_, rfl⟩
      rw [hsn] at hsee hstep
      have HSN := hide hsn
      have HSTEP := hide hstep
      obtain ⟨g, hg⟩ : ∃ g, (Sms.look m x.name).getD 0 = g := ⟨_, rfl⟩
      rw [hg] at hlook hsee
      have HLK := hide hlook
      obtain ⟨pk, hpk⟩ : ∃ b, partOk x = b := ⟨_, rfl⟩
      rw [hpk] at HXC HSTEP
      clear hsn hstep hg hpk
      cases sn
      · have hg0 : g = 0 := by rw [hsee]; rfl
        subst hg0
        clear hsee hlook
        have hlook : (Instr.lookup 48 (.map (some w.heap.size)) (.string x.name) false).run Try.prog w1 = .ok (.int .i64 0) w1 := HLK.out
        have z0 : w1.cell? ⟨wr.heap.size, 0, none⟩ = some (.string x.name) := HWN.out.cell 0
        go_wp2_with ((with_reducible show wpList _ _ _ (⟨none, Op.mapUpdate _ _ _ _, _, _, _, _⟩ :: _) _ _); refine wpList_smapUpd _ rfl _ _ _ 48 rfl 9 3 Try.underlying48 Try.underlying9 w.heap.size m HM1.out x.name 1 rfl rfl rfl ?_; intro w2 HM2 HG2; (have HWN2 := hide (HWN.out.grown HG2.out (by simpa using hne.symm))); (have y0 : w2.cell? ⟨wr.heap.size, 0, none⟩ = some (.string x.name) := HWN2.out.cell 0); (have y1 : w2.cell? ⟨wr.heap.size, 1, none⟩ = some (.int .i64 x.version) := HWN2.out.cell 1); (have y2 : w2.cell? ⟨wr.heap.size, 2, none⟩ = some (.string x.text) := HWN2.out.cell 2); (have y3 : w2.cell? ⟨wr.heap.size, 3, none⟩ = some (.string x.state) := HWN2.out.cell 3); (have HB2 := hide (HB1.out.grown HG2.out HB1.out.size (fun q hq => by cases hq; exact Nat.le_refl _))); (have hlk2 := look_put2 HM2.out); clear HWN2 HG2)
        refine (HXC.out _).mono ?_
        rintro r w3 ⟨rfl, hb3⟩
        have HM3 := hide (HM2.out.below hb3 HM2.out.lt)
        have HB3 := hide (HB2.out.trans (hb3.mono HB2.out.size))
        clear hb3
        cases pk
        · have HE : Hid (rightM l = false) := hide (by unfold rightM; rw [HG.out, HSTEP.out]; simp)
          go_wp2_with fail
          go_ret
          rw [HE.out]
          exact ⟨rfl, HB3.out⟩
        · have HS3 : Hid (SeenOf (Sms.put m x.name 1) ((l.take (k + 1)).map (·.name))) := hide (by
            have := HS.out.put x.name HSN.out
            rw [List.take_add_one, HX.out]
            simpa using this)
          have HG3 : Hid (goodFrom [] l = goodFrom ((l.take (k + 1)).map (·.name)) (l.drop (k + 1))) := hide (by rw [HG.out, HSTEP.out]; simp)
          go_wp2_with fail
          refine ⟨⟨k + 1, Sms.put m x.name 1, by omega, by go_num, HM3, HS3, HB3, HG3⟩, ?_⟩
          simp [intOf]
          omega
      · have hg1 : g = 1 := by rw [hsee]; rfl
        subst hg1
        clear hsee hlook
        have hlook : (Instr.lookup 48 (.map (some w.heap.size)) (.string x.name) false).run Try.prog w1 = .ok (.int .i64 1) w1 := HLK.out
        have z0 : w1.cell? ⟨wr.heap.size, 0, none⟩ = some (.string x.name) := HWN.out.cell 0
        have HE : Hid (rightM l = false) := hide (by unfold rightM; rw [HG.out, HSTEP.out]; simp)
        go_wp2_with ((with_reducible show wpList _ _ _ (⟨none, Op.mapUpdate _ _ _ _, _, _, _, _⟩ :: _) _ _); refine wpList_smapUpd _ rfl _ _ _ 48 rfl 9 3 Try.underlying48 Try.underlying9 w.heap.size m HM1.out x.name 2 rfl rfl rfl ?_; intro w2 HM2 HG2; (have HWN2 := hide (HWN.out.grown HG2.out (by simpa using hne.symm))); (have y0 : w2.cell? ⟨wr.heap.size, 0, none⟩ = some (.string x.name) := HWN2.out.cell 0); (have y1 : w2.cell? ⟨wr.heap.size, 1, none⟩ = some (.int .i64 x.version) := HWN2.out.cell 1); (have y2 : w2.cell? ⟨wr.heap.size, 2, none⟩ = some (.string x.text) := HWN2.out.cell 2); (have y3 : w2.cell? ⟨wr.heap.size, 3, none⟩ = some (.string x.state) := HWN2.out.cell 3); (have HB2 := hide (HB1.out.grown HG2.out HB1.out.size (fun q hq => by cases hq; exact Nat.le_refl _))); (have hlk2 := look_put2 HM2.out); clear HWN2 HG2)
        go_ret
        rw [HE.out]
        exact ⟨rfl, HB2.out⟩
    · obtain rfl : k = l.length := by omega
      have HE : Hid (rightM l = (decide ((1 : Int) ≤ (l.length : Int)) && decide ((l.length : Int) ≤ 16))) := hide (by
        unfold rightM
        rw [HG.out, List.drop_length]
        rw [show decide (1 ≤ l.length) = decide ((1 : Int) ≤ (l.length : Int)) by rw [decide_eq_decide]; omega, show decide (l.length ≤ 16) = decide ((l.length : Int) ≤ 16) by rw [decide_eq_decide]; omega]
        simp [goodFrom])
      by_cases h1 : (1 : Int) ≤ (l.length : Int)
      · by_cases h2 : (l.length : Int) ≤ 16
        · rw [decide_eq_true h1, decide_eq_true h2] at HE
          go_wp2_with fail
          go_ret
          rw [HE.out]
          exact ⟨rfl, HB.out⟩
        · rw [decide_eq_true h1, decide_eq_false h2] at HE
          have h2b := decide_eq_false h2
          go_wp2_with fail
          go_ret
          rw [HE.out]
          exact ⟨rfl, HB.out⟩
      · rw [decide_eq_false h1] at HE
        have h1b := decide_eq_false h1
        go_wp2_with fail
        go_ret
        rw [HE.out]
        exact ⟨rfl, HB.out⟩
end Go.Proofs.Ytkipmbnmmbeeaaa
