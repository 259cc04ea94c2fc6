/- The disk's inner functions, walked: what waits becomes what lasts (settle, with either of its two tests). -/
import Derived.Test.YtpcceinjifdgnaaProg
import Derived.Test.YtpcceinjifdgnaaDiskM
import Derived.WalkLawsBesides
import Derived.Outline
import Derived.LoopTactic
import Derived.Deep.LoopGhost
namespace Go.Proofs.Ytpcceinjifdgnaa
open Go.RowKit Zb

theorem dq_map (w : World) (r : Option Nat) : (binOp .neq 63 (.map r) (.map none)).run Try.prog w = .ok (.bool !r.isNone) w := run_neq_map_nil w _ _ _ r Try.underlying63

theorem dSync1_calls (k : Int) (w : World) : Calls Try.prog 42 #[.int .i64 k] w fun e w' => e = .returned (.bool true) ∧ w = w' := by
  go_enter Try.func42, Try.ntmps42
  go_wp2
  go_ret
  exact ⟨rfl, rfl⟩

theorem dFail1_calls (k : Nat) (hk : (k : Int) ≤ 4294967296) (m : Int) (bx : Nat) (w : World) (h : w.cell? ⟨bx, 0, none⟩ = some (.int .u64 m)) :
    Calls Try.prog 34 #[.int .i64 k, .pointer (some ⟨bx, 0, none⟩)] w fun e w' => e = .returned (.bool (maskBit m k)) ∧ w = w' := by
  go_enter Try.func34, Try.ntmps34
  go_wp2
  go_ret
  exact ⟨rfl, rfl⟩

structure SettleInv (F : Nat → Prop) (b bm : Nat) (lv wv : Value) (f : Nat → Bool) (L : List ByteArray) (W : List (Int × ByteArray)) (P : Prs) (off pon : Bool) (ops after mask : Int) (w : World) (k : Nat) (wr : World) : Prop where
  tu : Turned F w wr
  hb : Blk wr b 68 #[lv, wv, .map (some bm), .bool off, .int .i64 ops, .bool pon, .int .i64 after, .int .u64 mask]
  hl : Row wr 9 1 lv L.length (strs (settleTo f 0 (W.take k) L))
  hw : Row wr 72 2 wv W.length (wcells W)
  hm : ∃ Pk, MapAt wr bm Pk ∧ ∀ x, Prs.look Pk x = if x ∈ (W.take k).map (·.1) then none else Prs.look P x

section
variable {F : Nat → Prop} {b bm : Nat} {lv wv : Value} {f : Nat → Bool} {L : List ByteArray} {W : List (Int × ByteArray)} {P : Prs} {off pon : Bool} {ops after mask : Int} {w : World} {k : Nat} {wr : World}
theorem SettleInv.moved {w1 : World} (h : SettleInv F b bm lv wv f L W P off pon ops after mask w k wr) (hk : ∀ x, x < wr.heap.size → w1.heap[x]? = wr.heap[x]?) (ht : Turned F w w1) : SettleInv F b bm lv wv f L W P off pon ops after mask w k w1 := by
  obtain ⟨Pk, hP, hx⟩ := h.hm
  exact ⟨ht, (hk _ h.hb.lt).trans h.hb, row_of h.hl fun g hg => hk g (row_lt h.hl g hg), row_of h.hw fun g hg => hk g (row_lt h.hw g hg), Pk, hP.of_block (hk _ hP.lt), hx⟩
/-- the store of a block's new bytes -/
theorem SettleInv.store {i : Int} {s : ByteArray} {g : Nat} {c : Nat} (h : SettleInv F b bm lv wv f L W P off pon ops after mask w k wr) (hF : ∀ g, lv.ownBlock = some g → F g) (hlv : lv = .slice (some ⟨g, 0, none⟩) L.length c)
    (hp : W[k]? = some (i, s)) (hf : f k = true) :
    Turned F w (wr.setCell ⟨g, i.toNat, none⟩ (.string s)) ∧
    Blk (wr.setCell ⟨g, i.toNat, none⟩ (.string s)) b 68 #[lv, wv, .map (some bm), .bool off, .int .i64 ops, .bool pon, .int .i64 after, .int .u64 mask] ∧
    Row (wr.setCell ⟨g, i.toNat, none⟩ (.string s)) 9 1 lv L.length (strs (settleTo f 0 (W.take (k + 1)) L)) ∧
    Row (wr.setCell ⟨g, i.toNat, none⟩ (.string s)) 72 2 wv W.length (wcells W) ∧
    ∃ Pk, MapAt (wr.setCell ⟨g, i.toNat, none⟩ (.string s)) bm Pk ∧ ∀ x, Prs.look Pk x = if x ∈ (W.take k).map (·.1) then none else Prs.look P x := by
  subst hlv
  obtain ⟨Pk, hP, hx⟩ := h.hm
  have hgb : g ≠ b := by
    intro e
    subst e
    exact row_blk_ne h.hl h.hb (by decide) rfl
  have hgm : g ≠ bm := by
    intro e
    subst e
    obtain ⟨es, cl, hh, _⟩ := hP
    exact row_obj_ne h.hl hh (by intros; simp) rfl
  have hgw := row_types h.hl h.hw (by decide) g rfl
  have hkl : k < W.length := by
    rcases Nat.lt_or_ge k W.length with h | h
    · exact h
    · rw [List.getElem?_eq_none h] at hp; cases hp
  have hlen := settleTo_length f 0 (W.take k) L
  refine ⟨h.tu.setCell (.inl (hF g rfl)) _, h.hb.far (Ne.symm hgb) _, ?_, row_set h.hw hgw _, Pk, hP.of_block (Below.heap_setCell _ _ _ _ (Ne.symm hgm)), hx⟩
  have e : W.take (k + 1) = W.take k ++ [(i, s)] := by
    rw [List.take_add_one, hp]; rfl
  rw [e, settleTo_snoc]
  simp only [List.length_take, Nat.zero_add, Nat.min_eq_left (Nat.le_of_lt hkl), hf, if_true]
  rw [strs_set]
  have := World.ownsRow.stored (w := wr) (base := 0) (e := 9) (size := 1) h.hl i.toNat (.string s)
  simpa using this.1
theorem SettleInv.step {w1 : World} {i : Int} {s : ByteArray} (ht : Turned F w wr)
    (hb : Blk wr b 68 #[lv, wv, .map (some bm), .bool off, .int .i64 ops, .bool pon, .int .i64 after, .int .u64 mask])
    (hl : Row wr 9 1 lv L.length (strs (settleTo f 0 (W.take (k + 1)) L))) (hw : Row wr 72 2 wv W.length (wcells W)) {Pk : Prs} (hm : MapAt wr bm Pk)
    (hx : ∀ x, Prs.look Pk x = if x ∈ (W.take k).map (·.1) then none else Prs.look P x)
    (hp : W[k]? = some (i, s)) (hFm : F bm) (hm1 : MapAt w1 bm (Prs.del Pk i)) (hg : wr.grownBy w1 (some bm)) : SettleInv F b bm lv wv f L W P off pon ops after mask w (k + 1) w1 := by
  obtain ⟨es, cl, hh, _, hOk⟩ := hm
  have hbm : b ≠ bm := by
    intro e
    subst e
    unfold Blk at hb
    rw [hb] at hh
    cases hh
  have hlm := row_obj_ne hl hh (by intros; simp)
  have hwm := row_obj_ne hw hh (by intros; simp)
  refine ⟨ht.grown hg (fun k hk => .inl (by cases hk; exact hFm)), hb.grown hg (by simpa using hbm), row_of hl fun g hg' => hg.block g (row_lt hl g hg') (fun e => hlm (hg'.trans e)), row_of hw fun g hg' => hg.block g (row_lt hw g hg') (fun e => hwm (hg'.trans e)), _, hm1, fun x => ?_⟩
  rw [Prs.look_del _ _ _ hOk, hx]
  have e : W.take (k + 1) = W.take k ++ [(i, s)] := by
    rw [List.take_add_one, hp]; rfl
  rw [e]
  by_cases h1 : x = i
  · simp [h1]
  · rw [if_neg h1]
    simp [h1]
end

set_option maxHeartbeats 1000000 in
theorem dsettle_calls (F : Nat → Prop) (b bm : Nat) (lv wv : Value) (c : Nat) (caps : Array Value) (f : Nat → Bool) (L : List ByteArray) (W : List (Int × ByteArray)) (P : Prs) (off pon : Bool) (ops after mask : Int) (w : World)
    (hb : Blk w b 68 #[lv, wv, .map (some bm), .bool off, .int .i64 ops, .bool pon, .int .i64 after, .int .u64 mask])
    (hl : Row w 9 1 lv L.length (strs L)) (hw : Row w 72 2 wv W.length (wcells W)) (hm : MapAt w bm P)
    (hi : ∀ p ∈ W, 0 ≤ p.1 ∧ p.1 < L.length) (hL : L.length ≤ 512)
    (hF : F b ∧ F bm ∧ (∀ g, lv.ownBlock = some g → F g)) (hW : W.length ≤ 4294967296)
    (hcf : ∀ (x : Value) (w1 : World), (callFunc c (#[x] ++ caps)).run Try.prog w1 = .ok (.enter c (#[x] ++ caps)) w1)
    (hc : ∀ (k : Nat) (w1 : World), k < W.length → Turned F w w1 → Calls Try.prog c (#[.int .i64 k] ++ caps) w1 fun e w' => e = .returned (.bool (f k)) ∧ w1 = w') :
    Calls Try.prog 33 #[.pointer (some ⟨b, 0, none⟩), .func (.func c) #[] caps] w fun e w' => e = .returned (.tuple #[]) ∧
      Turned F w w' ∧ Blk w' b 68 #[lv, .slice none 0 0, .map (some bm), .bool off, .int .i64 ops, .bool pon, .int .i64 after, .int .u64 mask] ∧
      Row w' 9 1 lv L.length (strs (settleTo f 0 W L)) ∧ ∃ Pk, MapAt w' bm Pk ∧ ∀ x, Prs.look Pk x = if x ∈ W.map (·.1) then none else Prs.look P x := by
  have c1 : w.cell? ⟨b, 1, none⟩ = some wv := hb.cell 1
  obtain ⟨wA, wc, rfl, hwc⟩ := row_slice hw
  have Hs : SettleInv F b bm lv (.slice wA W.length wc) f L W P off pon ops after mask w 0 w := ⟨.refl _ _, hb, hl, hw, P, hm, fun x => by simp⟩
  have HI := hide hi; clear hi
  have HF := hide hF; clear hF
  have HC := hide hc; clear hc
  clear hb hl hw hm
  go_enter Try.func33, Try.ntmps33
  go_wp2_with fail
  go_loopw [11] (fun i wr => ∃ k : Nat, k ≤ W.length ∧ i = .int .i64 k ∧ SettleInv F b bm lv (.slice wA W.length wc) f L W P off pon ops after mask w k wr) (fun i _ => W.length - (intOf i).toNat)
  case atStart => exact ⟨0, Nat.zero_le _, rfl, Hs⟩
  case round =>
    obtain ⟨k, hk, rfl, hinv⟩ := hrel
    clear Hs c1
    by_cases hlt : k < W.length
    · obtain ⟨g, cc, hsl, hcc, hg, hfz, hcells⟩ := row_form hinv.hw (by omega)
      obtain ⟨rfl, rfl⟩ : wA = some ⟨g, 0, none⟩ ∧ wc = cc := by simpa using hsl
      clear hsl
      obtain ⟨p, hp⟩ : ∃ p, W[k]? = some p := ⟨_, List.getElem?_eq_getElem hlt⟩
      obtain ⟨i, s⟩ := p
      have hwc2 := wcells_get W k _ hp
      have d0 : wr.cell? ⟨g, k * 2, none⟩ = some (.int .i64 i) := (hcells _ (by omega)).trans hwc2.1
      have d1 : wr.cell? ⟨g, k * 2 + 1, none⟩ = some (.string s) := (hcells _ (by omega)).trans hwc2.2
      have hgd : g < wr.heap.size := hg
      have hi0 : 0 ≤ i := (HI.out _ (List.mem_of_getElem? hp)).1
      have hi1 : i < L.length := (HI.out _ (List.mem_of_getElem? hp)).2
      have hbl := hinv.hb.lt
      obtain ⟨g2, c2, hlv, hc2, hg2, hfz2, hcells2⟩ := row_form hinv.hl (by omega)
      have HLV := hide hlv; clear hlv
      have HC2 := hide (HC.out k)
      have f2 := hfz2 i.toNat
      have l2 : ∃ u, wr.cell? ⟨g2, i.toNat, none⟩ = some u := ⟨_, (hcells2 i.toNat (by omega)).trans (strs_get _ _ (by rw [settleTo_length]; omega))⟩
      clear hwc2 hcells hfz hcells2 hfz2 hg hc2
      have HP := hide hp; clear hp
      cases hf : f k
      · have HF0 := hide hf; clear hf
        go_wp2_with fail
        refine (HC2.out _ hlt ?_).mono ?_
        · exact hinv.tu.alloc _
        rintro e w' ⟨rfl, rfl⟩
        rw [HF0.out]
        have hinv1 := hinv.moved (w1 := wr.alloc (.cells #[.int .i64 i, .string s] 72)) (fun x hx => Below.heap_alloc _ _ _ hx) (hinv.tu.alloc _)
        have n0 : (wr.alloc (.cells #[.int .i64 i, .string s] 72)).cell? ⟨wr.heap.size, 0, none⟩ = some (.int .i64 i) := (Blk.new wr 72 _).cell 0
        generalize hwa : wr.alloc (.cells #[.int .i64 i, .string s] 72) = wa at *
        generalize hq : wr.heap.size = q at *
        have b2 : wa.cell? ⟨b, 2, none⟩ = some (.map (some bm)) := hinv1.hb.cell 2
        obtain ⟨Pk, hPk, hxk⟩ := hinv1.hm
        have HX := hide hxk; clear hxk
        clear hwa hq
        go_wp2_with fail
        refine wp_region_tail 6 (by kernel_rfl) (by kernel_rfl) ?_
        simp only [List.take_succ_cons, List.take_zero, List.drop_succ_cons, List.drop_zero]
        repeat still_step
        refine wpStill_nil ?_
        refine wpList_del wa.drew rfl (.tmp 31) (.tmp 33) 63 3 3 rfl Try.underlying63 Try.underlying3 bm Pk hPk i rfl rfl ?_
        intro w1 hm1 hg1
        have hs := SettleInv.step (f := f) (k := k) (hinv1.tu.drew) hinv1.hb (L := L) (W := W) (s := s) (by
          have e : W.take (k + 1) = W.take k ++ [(i, s)] := by rw [List.take_add_one, HP.out]; rfl
          rw [e, settleTo_snoc, if_neg (by rw [List.length_take, Nat.min_eq_left hk, Nat.zero_add, HF0.out]; simp)]
          exact hinv1.hl) hinv1.hw hPk HX.out HP.out HF.out.2.1 hm1 hg1
        go_wp2_with fail
        go_roundw
        case rel => exact ⟨k + 1, by omega, by go_num, hs⟩
        case measure => simp [intOf]; omega
      · have HF0 := hide hf; clear hf
        go_wp2_with fail
        refine (HC2.out _ hlt ?_).mono ?_
        · exact hinv.tu.alloc _
        rintro e w' ⟨rfl, rfl⟩
        rw [HF0.out]
        have hinv1 := hinv.moved (w1 := wr.alloc (.cells #[.int .i64 i, .string s] 72)) (fun x hx => Below.heap_alloc _ _ _ hx) (hinv.tu.alloc _)
        have hn := Blk.new wr 72 #[.int .i64 i, .string s]
        have f3 : (wr.alloc (.cells #[.int .i64 i, .string s] 72)).frozen? ⟨g2, i.toNat, none⟩ = false := (World.frozen?_of_block (a := ⟨g2, i.toNat, none⟩) (Below.heap_alloc wr _ g2 hg2)).trans f2
        have l3 : ∃ u, (wr.alloc (.cells #[.int .i64 i, .string s] 72)).cell? ⟨g2, i.toNat, none⟩ = some u := by
          obtain ⟨u, hu⟩ := l2
          exact ⟨u, (World.cell?_of_block (a := ⟨g2, i.toNat, none⟩) (Below.heap_alloc wr _ g2 hg2)).trans hu⟩
        have hgq : g2 ≠ wr.heap.size := by omega
        generalize hwa : wr.alloc (.cells #[.int .i64 i, .string s] 72) = wa at *
        generalize hq : wr.heap.size = q at *
        have n0 : wa.cell? ⟨q, 0, none⟩ = some (.int .i64 i) := hn.cell 0
        have n1 : wa.cell? ⟨q, 1, none⟩ = some (.string s) := hn.cell 1
        have b0 : wa.cell? ⟨b, 0, none⟩ = some (.slice (some ⟨g2, 0, none⟩) L.length c2) := by rw [← HLV.out]; exact hinv1.hb.cell 0
        clear hwa hq f2 l2 d0 d1
        obtain ⟨u3, l3⟩ := l3
        have HST := hide (hinv1.store (fun g hg => HF.out.2.2 g hg) HLV.out HP.out HF0.out)
        have n0' : (wa.setCell ⟨g2, i.toNat, none⟩ (.string s)).cell? ⟨q, 0, none⟩ = some (.int .i64 i) := (World.cell?_setCell_other wa ⟨g2, i.toNat, none⟩ ⟨q, 0, none⟩ _ (fun e => hgq (by simpa using congrArg Addr.block e))).trans n0
        have b2' : (wa.setCell ⟨g2, i.toNat, none⟩ (.string s)).cell? ⟨b, 2, none⟩ = some (.map (some bm)) := HST.out.2.1.cell 2
        go_wp2_with fail
        refine wp_region_tail 9 (by kernel_rfl) (by kernel_rfl) ?_
        simp only [List.take_succ_cons, List.take_zero, List.drop_succ_cons, List.drop_zero]
        repeat still_step
        refine wpStill_nil ?_
        clear n1 b0
        obtain ⟨tu2, hb2, hl2, hw2, Pk, hPk, hxk⟩ := HST.out
        have HX := hide hxk; clear hxk
        go_wp2_with fail
        refine wp_region_tail 6 (by kernel_rfl) (by kernel_rfl) ?_
        simp only [List.take_succ_cons, List.take_zero, List.drop_succ_cons, List.drop_zero]
        repeat still_step
        refine wpStill_nil ?_
        refine wpList_del (wa.setCell ⟨g2, i.toNat, none⟩ (.string s)).drew.drew rfl (.tmp 31) (.tmp 33) 63 3 3 rfl Try.underlying63 Try.underlying3 bm Pk hPk i rfl rfl ?_
        intro w1 hm1 hg1
        have hs := SettleInv.step (f := f) (k := k) (wr := (wa.setCell ⟨g2, i.toNat, none⟩ (.string s)).drew.drew) tu2.drew.drew hb2 hl2 hw2 hPk HX.out HP.out HF.out.2.1 hm1 hg1
        go_wp2_with fail
        go_roundw
        case rel => exact ⟨k + 1, by omega, by go_num, hs⟩
        case measure => simp [intOf]; omega
    · have b1 := (hinv.hb.cell 1)
      have f1 := (hinv.hb.frozen 1)
      simp only [List.getElem?_toArray, List.getElem?_cons_succ, List.getElem?_cons_zero] at b1
      obtain rfl : k = W.length := by omega
      have hfin := hide (And.intro hinv.tu (And.intro hinv.hb (And.intro hinv.hl hinv.hm)))
      go_wp2_with fail
      go_end0
      obtain ⟨tu, hb, hl, Pk, hPk, hx⟩ := hfin.out
      rw [List.take_length] at hl hx
      have hlb : lv.ownBlock ≠ some b := row_blk_ne hl hb (by decide)
      have hmb : bm ≠ b := by
        intro e
        subst e
        obtain ⟨es, cl, hh, _⟩ := hPk
        unfold Blk at hb
        rw [hb] at hh
        cases hh
      refine ⟨rfl, tu.setCell (.inl HF.out.1) _, by simpa using hb.set_ 1 (.slice none 0 0), row_set hl hlb _, Pk, hPk.of_block (Below.heap_setCell _ _ _ _ hmb), hx⟩
end Go.Proofs.Ytpcceinjifdgnaa
