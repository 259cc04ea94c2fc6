/- Several texts in one: RDiskA, RDiskB, RDiskC, RDiskD, RDiskE. -/
import Derived.Test.YtmbkncckcpgdgaaDk1
import Derived.Test.YtmbkncckcpgdgaaApp
import Derived.Test.YtmbkncckcpgdgaaHeld
import Derived.WalkSmall
/- The document's disk, in memory; its set, Fail and cut do what the model's fail and cut do. -/
namespace Go.Proofs.Ytmbkncckcpgdgaa
open Go.RowKit Zb

set_option maxRecDepth 20000 in
theorem rdset_calls {w : World} {lv : Value} {L : List ByteArray} (hl : Row w 9 1 lv L.length (strs L)) (i : Int) (s : ByteArray) (h0 : 0 ≤ i) (h1 : i < L.length) (hL : L.length ≤ 512) :
    Calls Try.prog 51 #[lv, .int .i64 i, .string s] w fun e w' => ∃ v', e = .returned v' ∧ Below w.heap.size w w' ∧ Row w' 9 1 v' L.length (strs (L.set i.toNat s)) ∧ OwnNew w v' := by
  obtain ⟨k, rfl⟩ : ∃ k : Nat, i = k := ⟨i.toNat, by omega⟩
  obtain ⟨A, c, rfl, hc⟩ := row_slice hl
  have h1N : k < L.length := by omega
  have HL := hide hl
  clear hl
  go_enter Try.func51, Try.ntmps51
  go_wp2_with (at_builtin; refine app_list rfl (.tmp 8) (.tmp 9) 66 9 rfl (.string ⟨#[]⟩) 1 16 Try.underlying66 info_string rfl (by decide) (.slice none 0 0) 0 [] (by rfl) (row_nil _ _ _) (.slice A L.length c) L.length (strs L) (by rfl) (Src.row HL.out) (by rw [strs_len, Nat.mul_one]) (by intro u hu; obtain ⟨x, _, rfl⟩ := List.mem_map.1 hu; rfl) (by unfold maxLen; omega) (by omega) ?_; intro v' w' hr hg hat; rw [Nat.zero_add, List.nil_append] at hr; obtain ⟨g, c2, rfl, hc2, hglt, hfz, hcell⟩ := row_form hr.out (by omega); have f1 := hfz k; have c1 : ∃ u, w'.cell? ⟨g, k, none⟩ = some u := ⟨_, (hcell k (by omega)).trans (strs_get _ _ h1N)⟩; obtain ⟨u1, c1⟩ := c1; clear hfz hcell)
  go_ret
  have hs := World.ownsRow.stored hr.out k (.string s)
  have hB : Below w.heap.size w w' := (Below.refl _ _).grown hg.out (Nat.le_refl _) (by simp [Value.ownBlock])
  have ho := own_new hat.out (Nat.le_refl w.heap.size)
  refine ⟨_, rfl, hB.setCell (ho g rfl) _, ?_, ho⟩
  rw [Int.toNat_natCast, strs_set]
  exact hs.1

/-- The document's disk D lies at block b; all its blocks are among F. -/
structure RRep (w : World) (b : Nat) (F : Nat → Prop) (D : DiskM) (lv wv : Value) : Prop where
  hb : Blk w b 69 #[lv, wv, .bool D.off, .int .i64 D.ops, .bool D.pon, .int .i64 D.after, .int .u64 D.mask]
  hl : Row w 9 1 lv D.lasts.length (strs D.lasts)
  hw : Row w 96 2 wv D.waits.length (wcells D.waits)
  Fb : F b
  Fl : ∀ g, lv.ownBlock = some g → F g
  Fw : ∀ g, wv.ownBlock = some g → F g
  Fx : ∀ x, F x → x < w.heap.size
  ok : D.Ok
  msk : 0 ≤ D.mask ∧ D.mask ≤ 18446744073709551615
def RAt (w : World) (b : Nat) (F : Nat → Prop) (D : DiskM) : Prop := ∃ lv wv, RRep w b F D lv wv
section
variable {w w1 : World} {b : Nat} {F : Nat → Prop} {D : DiskM} {lv wv : Value}
set_option maxRecDepth 20000 in
theorem RRep.moved (h : RRep w b F D lv wv) (hs : w.heap.size ≤ w1.heap.size) (hk : ∀ x, F x → w1.heap[x]? = w.heap[x]?) : RRep w1 b F D lv wv :=
  ⟨(hk _ h.Fb).trans h.hb, row_of h.hl fun g hg => hk g (h.Fl g hg), row_of h.hw fun g hg => hk g (h.Fw g hg), h.Fb, h.Fl, h.Fw, fun x hx => Nat.lt_of_lt_of_le (h.Fx x hx) hs, h.ok, h.msk⟩
set_option maxRecDepth 20000 in
theorem RAt.moved (h : RAt w b F D) (hs : w.heap.size ≤ w1.heap.size) (hk : ∀ x, F x → w1.heap[x]? = w.heap[x]?) : RAt w1 b F D := by
  obtain ⟨lv, wv, h⟩ := h
  exact ⟨lv, wv, h.moved hs hk⟩
set_option maxRecDepth 20000 in
theorem RAt.lt (h : RAt w b F D) (x : Nat) (hx : F x) : x < w.heap.size := by
  obtain ⟨_, _, h⟩ := h; exact h.Fx x hx
set_option maxRecDepth 20000 in
theorem RAt.turned {G : Nat → Prop} (h : RAt w b F D) (k : Turned G w w1) (hG : ∀ x, F x → ¬ G x) : RAt w1 b F D := h.moved k.size fun x hx => k.block x (h.lt x hx) (hG x hx)
set_option maxRecDepth 20000 in
theorem RAt.below (h : RAt w b F D) (k : Below w.heap.size w w1) : RAt w1 b F D := h.turned (Turned.of_below (F := fun _ => False) k) fun _ _ h => h
set_option maxRecDepth 20000 in
theorem RAt.ok (h : RAt w b F D) : D.Ok := by obtain ⟨_, _, h⟩ := h; exact h.ok
end
def RPost (F : Nat → Prop) (w : World) (b : Nat) (v : Value) (D' : DiskM) (e : Ending) (w' : World) : Prop :=
  e = .returned v ∧ Turned F w w' ∧ ∃ F', (∀ x, F' x → F x ∨ w.heap.size ≤ x) ∧ RAt w' b F' D'

set_option maxRecDepth 20000 in
theorem mask_test (m : Int) (h0 : 0 ≤ m) (h1 : m ≤ 18446744073709551615) (k : Nat) : (m / 2 ^ (k % 64) % 2 == 1) = maskBit m k := by
  have hp : (0 : Int) < 2 ^ (k % 64) := Int.pow_pos (by omega)
  have h2 : 0 ≤ m / 2 ^ (k % 64) := Int.ediv_nonneg h0 (by omega)
  have h3 : m / 2 ^ (k % 64) ≤ m := Int.ediv_le_self _ h0
  unfold maskBit
  rw [and_one_u64 _ h2 (by omega)]

/-- on the way through Fail's or Sync's loop -/
def RSet (F : Nat → Prop) (w : World) (b : Nat) (wv : Value) (D : DiskM) (f : Nat → Bool) (k : Nat) (wr : World) : Prop :=
  ∃ lv, Turned F w wr ∧ Blk wr b 69 #[lv, wv, .bool D.off, .int .i64 D.ops, .bool D.pon, .int .i64 D.after, .int .u64 D.mask] ∧
    Row wr 9 1 lv D.lasts.length (strs (settleTo f 0 (D.waits.take k) D.lasts)) ∧ Row wr 96 2 wv D.waits.length (wcells D.waits) ∧ (∀ g, lv.ownBlock = some g → F g ∨ w.heap.size ≤ g)
set_option maxRecDepth 20000 in
theorem set_keeps {w w2 : World} {b g k n cc : Nat} {i : Int} {s : ByteArray} {A : Option Addr} (h : w.cell? ⟨b, 1, none⟩ = some (.slice A n cc) ∧ w.cell? ⟨g, k * 2, none⟩ = some (.int .i64 i) ∧ w.cell? ⟨g, k * 2 + 1, none⟩ = some (.string s))
    (hb : Below w.heap.size w w2) (h1 : b < w.heap.size) (h2 : g < w.heap.size) : w2.cell? ⟨b, 1, none⟩ = some (.slice A n cc) ∧ w2.cell? ⟨g, k * 2, none⟩ = some (.int .i64 i) ∧ w2.cell? ⟨g, k * 2 + 1, none⟩ = some (.string s) :=
  ⟨(hb.cell (p := ⟨b, 1, none⟩) h1).trans h.1, (hb.cell (p := ⟨g, k * 2, none⟩) h2).trans h.2.1, (hb.cell (p := ⟨g, k * 2 + 1, none⟩) h2).trans h.2.2⟩
set_option maxRecDepth 20000 in
theorem set_store {w : World} {b g k n cc : Nat} {i : Int} {s : ByteArray} {A : Option Addr} (h : w.cell? ⟨b, 1, none⟩ = some (.slice A n cc) ∧ w.cell? ⟨g, k * 2, none⟩ = some (.int .i64 i) ∧ w.cell? ⟨g, k * 2 + 1, none⟩ = some (.string s)) (hgb : g ≠ b) {u : Value} :
    (w.setCell ⟨b, 0, none⟩ u).cell? ⟨b, 1, none⟩ = some (.slice A n cc) ∧ (w.setCell ⟨b, 0, none⟩ u).cell? ⟨g, k * 2, none⟩ = some (.int .i64 i) ∧ (w.setCell ⟨b, 0, none⟩ u).cell? ⟨g, k * 2 + 1, none⟩ = some (.string s) :=
  ⟨(World.cell?_setCell_other w _ _ _ (by simp)).trans h.1, (World.cell?_setCell_other w _ _ _ (by simp)).trans h.2.1, (World.cell?_setCell_other w _ _ _ (by simp)).trans h.2.2⟩
set_option maxRecDepth 20000 in
theorem RSet.step {F : Nat → Prop} {w : World} {b : Nat} {wv lv v2 : Value} {D : DiskM} {f : Nat → Bool} {k : Nat} {wr w2 : World} {i : Int} {s : ByteArray} (hF : F b)
    (tu : Turned F w wr) (hb : Blk wr b 69 #[lv, wv, .bool D.off, .int .i64 D.ops, .bool D.pon, .int .i64 D.after, .int .u64 D.mask]) (hw : Row wr 96 2 wv D.waits.length (wcells D.waits))
    (hp : D.waits[k]? = some (i, s)) (hf : f k = true) (hb2 : Below wr.heap.size wr w2) (hr2 : Row w2 9 1 v2 D.lasts.length (strs ((settleTo f 0 (D.waits.take k) D.lasts).set i.toNat s))) (ho : OwnNew wr v2) :
    RSet F w b wv D f (k + 1) (w2.setCell ⟨b, 0, none⟩ v2) := by
  have hB2 := hb.below hb2 hb.lt
  have hW2 := row_of hw (w' := w2) fun g hg => hb2.block g (row_lt hw g hg)
  have hk : k < D.waits.length := (List.getElem?_eq_some_iff.1 hp).1
  refine ⟨v2, (tu.then_below hb2).setCell (.inl hF) _, hB2.set_ 0 v2, ?_, row_set hW2 (row_blk_ne hW2 hB2 (by decide)) _, fun g hg => .inr ?_⟩
  · have e : D.waits.take (k + 1) = D.waits.take k ++ [(i, s)] := by rw [List.take_add_one, hp]; rfl
    rw [e, settleTo_snoc]
    simp only [List.length_take, Nat.zero_add, Nat.min_eq_left (Nat.le_of_lt hk), hf, if_true]
    exact row_set hr2 (row_blk_ne hr2 hB2 (by decide)) _
  · have := ho g hg
    have := tu.size
    omega
set_option maxRecDepth 20000 in
theorem RSet.skip {F : Nat → Prop} {w : World} {b : Nat} {wv : Value} {D : DiskM} {f : Nat → Bool} {k : Nat} {wr : World} {i : Int} {s : ByteArray} (h : RSet F w b wv D f k wr) (hp : D.waits[k]? = some (i, s)) (hf : f k = false) : RSet F w b wv D f (k + 1) wr := by
  obtain ⟨lv, h1, h2, h3, h4, h5⟩ := h
  refine ⟨lv, h1, h2, ?_, h4, h5⟩
  have hk : k < D.waits.length := (List.getElem?_eq_some_iff.1 hp).1
  have e : D.waits.take (k + 1) = D.waits.take k ++ [(i, s)] := by rw [List.take_add_one, hp]; rfl
  rw [e, settleTo_snoc]
  simp only [List.length_take, Nat.zero_add, Nat.min_eq_left (Nat.le_of_lt hk), hf]
  exact h3
end Go.Proofs.Ytmbkncckcpgdgaa

/- The document's disk: Fail. -/
namespace Go.Proofs.Ytmbkncckcpgdgaa
open Go.RowKit Zb

set_option maxRecDepth 100000 in
set_option maxHeartbeats 2000000 in
theorem rdfail_calls {w : World} {b : Nat} {F : Nat → Prop} {D : DiskM} (h : RAt w b F D) (m : Int) (hm0 : 0 ≤ m) (hm1 : m ≤ 18446744073709551615) (hW : D.waits.length ≤ 4294967296) :
    Calls Try.prog 31 #[.pointer (some ⟨b, 0, none⟩), .int .u64 m] w (RPost F w b (.tuple #[]) (D.fail m)) := by
  obtain ⟨lv, wv, h⟩ := h
  have c2 : w.cell? ⟨b, 2, none⟩ = some (.bool D.off) := h.hb.cell 2
  cases hoff : D.off
  · have HO := hide hoff; clear hoff
    rw [HO.out] at c2
    obtain ⟨wA, wcap, rfl, _⟩ := row_slice h.hw
    have HI0 : Hid (RSet F w b (.slice wA D.waits.length wcap) D (maskBit m) 0 w) := hide ⟨lv, .refl _ _, h.hb, h.hl, h.hw, fun g hg => .inl (h.Fl g hg)⟩
    have HOK := hide h.ok
    have HM := hide (mask_test m hm0 hm1)
    have HREP := hide h
    clear h
    go_enter Try.func31, Try.ntmps31
    go_wp2_with fail
    go_loopw [4] (fun i wr => ∃ k : Nat, k ≤ D.waits.length ∧ i = .int .i64 k ∧ Hid (RSet F w b (.slice wA D.waits.length wcap) D (maskBit m) k wr)) (fun i _ => D.waits.length - (intOf i).toNat)
    case atStart => exact ⟨0, Nat.zero_le _, rfl, HI0⟩
    case round =>
    clear HI0 c2
    obtain ⟨k, hk, rfl, hinv⟩ := hrel
    by_cases hlt : k < D.waits.length
    · obtain ⟨lv2, htu, hb2, hl2, hw2, ho2⟩ := hinv.out
      obtain ⟨g, cc, hsl, _, hg, _, hcells⟩ := row_form hw2 (by omega)
      obtain ⟨rfl, rfl⟩ : wA = some ⟨g, 0, none⟩ ∧ wcap = cc := by simpa using hsl
      obtain ⟨p, hp⟩ : ∃ p, D.waits[k]? = some p := ⟨_, List.getElem?_eq_getElem hlt⟩
      obtain ⟨i, s⟩ := p
      have hwc2 := wcells_get D.waits k _ hp
      have y0 : wr.cell? ⟨g, k * 2, none⟩ = some (.int .i64 i) := (hcells _ (by omega)).trans hwc2.1
      have y1 : wr.cell? ⟨g, k * 2 + 1, none⟩ = some (.string s) := (hcells _ (by omega)).trans hwc2.2
      have x0 : wr.cell? ⟨b, 0, none⟩ = some lv2 := hb2.cell 0
      have x1 : wr.cell? ⟨b, 1, none⟩ = some (.slice (some ⟨g, 0, none⟩) D.waits.length wcap) := hb2.cell 1
      have hin := HOK.out.inr _ (List.mem_of_getElem? hp)
      have hi0 : 0 ≤ i := hin.1
      have hsz : (settleTo (maskBit m) 0 (D.waits.take k) D.lasts).length = D.lasts.length := settleTo_length _ _ _ _
      have hi1 : i < ((settleTo (maskBit m) 0 (D.waits.take k) D.lasts).length : Nat) := by rw [hsz]; exact hin.2
      have hgb : g ≠ b := fun e => row_blk_ne hw2 hb2 (by decide) (by simp [Value.ownBlock, e])
      have HP := hide hp
      have HB := hide hb2
      have HW := hide hw2
      have HTU := hide htu
      have HG := hide hg
      have HGB := hide hgb
      have HIN := hide hinv
      have hl3 : Row wr 9 1 lv2 (settleTo (maskBit m) 0 (D.waits.take k) D.lasts).length (strs (settleTo (maskBit m) 0 (D.waits.take k) D.lasts)) := by rw [hsz]; exact hl2
      have HL := hide hl3
      have hL9 := HOK.out.len.2
      have HSZ := hide hsz
      clear hp hb2 hl2 hw2 htu ho2 hg hsl hwc2 hcells hin hsz hl3 hgb
      have hq0 : 0 ≤ m / 2 ^ (k % 64) := Int.ediv_nonneg hm0 (Int.pow_nonneg (by omega))
      cases hf : maskBit m k
      · have hmt := (HM.out k).trans hf
        have HF := hide hf
        clear hf
        go_wp2_with fail
        go_roundw
        case rel => exact ⟨k + 1, by omega, by go_num, hide (RSet.skip HIN.out.out HP.out HF.out)⟩
        case measure => simp [intOf]; omega
      · have hmt := (HM.out k).trans hf
        have HF := hide hf
        clear hf
        go_wp2_with fail
        refine wp_region_heads [0, 1, 2, 3, 5, 6, 7, 8, 9, 10, 11, 12, 13, 14, 15, 16, 17, 18, 19, 20] 5 (fun w' => w'.cell? ⟨b, 1, none⟩ = some (.slice (some ⟨g, 0, none⟩) D.waits.length wcap) ∧ w'.cell? ⟨g, k * 2, none⟩ = some (.int .i64 i) ∧ w'.cell? ⟨g, k * 2 + 1, none⟩ = some (.string s)) (by kernel_rfl) rfl (by kernel_rfl) (by kernel_rfl) (fun _ _ d _ _ h => by cases d <;> exact h) ⟨x1, y0, y1⟩ ?_
        iterate 20
          refine' Heads.step rfl (by rfl) ?_ ?_
          rotate_left
          · intro w' hSw
            obtain ⟨s1, s2, s3⟩ := hSw
            go_simp
            try with_reducible rfl
          simp only [Act.put, List.setIfInBounds_toArray, List.set_cons_zero, List.set_cons_succ]
        refine Heads.done ?_
        refine wpAnyH_ready (rs := [4]) (by kernel_rfl) (by simp) (AllReadyH.cons rfl (fun K hK => ?_) AllReadyH.nil)
        go_simp
        refine hK.out _ _ ⟨x1, y0, y1⟩ (fun hHeld1 => ?_)
        clear hK K
        refine wpAnyH_ready (rs := [21]) (by kernel_rfl) (by simp) (AllReadyH.cons rfl (fun K hK => ?_) AllReadyH.nil)
        go_simp
        refine (rdset_calls (w := wr.drew) HL.out i s hi0 hi1 (by rw [HSZ.out]; exact hL9)).mono ?_
        rintro e w2 ⟨v2, rfl, hb2, hr2, ho2⟩
        obtain ⟨A2, c2, rfl, hc2⟩ := row_slice hr2
        have hB2 : Blk w2 b 69 _ := Blk.below (w := wr.drew) HB.out hb2 (Blk.lt HB.out)
        have z0 := hB2.cell 0
        have zf := hB2.frozen 0
        have HB2 := hide hB2
        clear hB2
        refine hK.out _ _ (set_keeps hHeld1 hb2 (Blk.lt HB.out) HG.out) (fun hHeld2 => ?_)
        clear hK K
        refine wpAnyH_more [22, 23] 1 rfl (by kernel_rfl) (by kernel_rfl) (fun _ _ d _ _ h => by cases d <;> exact h) hHeld2 ?_
        iterate 2
          refine' Heads.step rfl (by rfl) ?_ ?_
          rotate_left
          · intro w' hSw
            obtain ⟨s1, s2, s3⟩ := hSw
            go_simp
            try with_reducible rfl
          simp only [Act.put, List.setIfInBounds_toArray]
        refine Heads.done ?_
        refine wpAnyH_ready (rs := [24]) (by kernel_rfl) (by simp) (AllReadyH.cons rfl (fun K hK => ?_) AllReadyH.nil)
        go_simp
        refine hK.out _ _ (set_store hHeld2 HGB.out) (fun hHeld3 => ?_)
        clear hK K
        refine wpAnyH_done (by kernel_rfl) ?_ _
        go_wp2_with fail
        have hs := RSet.step (f := maskBit m) HREP.out.Fb (HTU.out.drew) HB.out HW.out HP.out HF.out hb2 (by rw [← HSZ.out]; exact hr2) ho2
        go_roundw
        case rel => exact ⟨k + 1, by omega, by go_num, hide hs⟩
        case measure => simp [intOf]; omega
    · obtain ⟨lv2, htu, hb2, hl2, hw2, ho2⟩ := hinv.out
      obtain rfl : k = D.waits.length := by omega
      have x1 : wr.cell? ⟨b, 1, none⟩ = some (.slice wA D.waits.length wcap) := hb2.cell 1
      have x2 : wr.cell? ⟨b, 2, none⟩ = some (.bool D.off) := hb2.cell 2
      have f1 := hb2.frozen 1
      have f2 := hb2.frozen 2
      go_wp2_with fail
      go_end0
      rw [List.take_length] at hl2
      have e : D.fail m = { D with lasts := settleTo (maskBit m) 0 D.waits D.lasts, waits := [], off := true } := by simp [DiskM.fail, HO.out]
      rw [e]
      have hb3 := (hb2.set_ 1 (.slice none 0 0)).set_ 2 (.bool true)
      have hne := row_blk_ne hl2 hb2 (by decide)
      refine ⟨rfl, (htu.setCell (.inl HREP.out.Fb) _).setCell (.inl HREP.out.Fb) _, fun x => (F x ∨ w.heap.size ≤ x) ∧ x < wr.heap.size, fun x hx => hx.1, lv2, .slice none 0 0, ?_, ?_, row_nil _ _ _, ⟨.inl HREP.out.Fb, hb2.lt⟩, fun g hg => ⟨ho2 g hg, row_lt hl2 g hg⟩, fun g hg => by simp [Value.ownBlock] at hg, fun x hx => by simpa [World.setCell] using hx.2, ⟨by simp only [settleTo_length]; exact HOK.out.len, by simp⟩, HREP.out.msk⟩
      · simpa using hb3
      · simp only [settleTo_length]
        exact row_set (row_set hl2 hne _) hne _
  · have HO := hide hoff; clear hoff
    rw [HO.out] at c2
    go_enter Try.func31, Try.ntmps31
    go_wp2_with fail
    refine bodyPost_ret (results_none rfl _ _ _) rfl ?_
    refine ⟨rfl, .refl _ _, F, fun x hx => .inl hx, ?_⟩
    rw [show D.fail m = D by simp [DiskM.fail, HO.out]]
    exact ⟨_, _, h⟩
end Go.Proofs.Ytmbkncckcpgdgaa

/- The document's disk: cut, Write. -/
namespace Go.Proofs.Ytmbkncckcpgdgaa
open Go.RowKit Zb

set_option maxRecDepth 20000 in
theorem RRep.put {w : World} {b : Nat} {F : Nat → Prop} {D D' : DiskM} {lv wv : Value} (h : RRep w b F D lv wv) {i : Nat} {u : Value} (hl : D'.lasts = D.lasts) (hw : D'.waits = D.waits) (hm : 0 ≤ D'.mask ∧ D'.mask ≤ 18446744073709551615)
    (hc : #[lv, wv, .bool D.off, .int .i64 D.ops, .bool D.pon, .int .i64 D.after, .int .u64 D.mask].setIfInBounds i u = #[lv, wv, .bool D'.off, .int .i64 D'.ops, .bool D'.pon, .int .i64 D'.after, .int .u64 D'.mask]) :
    RRep (w.setCell ⟨b, i, none⟩ u) b F D' lv wv := by
  have n1 := row_blk_ne h.hl h.hb (by decide)
  have n2 := row_blk_ne h.hw h.hb (by decide)
  refine ⟨by rw [← hc]; exact h.hb.set_ i u, by rw [hl]; exact row_set h.hl n1 _, by rw [hw]; exact row_set h.hw n2 _, h.Fb, h.Fl, h.Fw, fun x hx => ?_, ?_, hm⟩
  · have := h.Fx x hx
    simpa [World.setCell] using this
  · exact ⟨by rw [hl]; exact h.ok.len, by rw [hl, hw]; exact h.ok.inr⟩
set_option maxRecDepth 20000 in
theorem RRep.at_ {w : World} {b : Nat} {F : Nat → Prop} {D : DiskM} {lv wv : Value} (h : RRep w b F D lv wv) : RAt w b F D := ⟨_, _, h⟩

set_option maxRecDepth 20000 in
theorem rdcut_calls {w : World} {b : Nat} {F : Nat → Prop} {D : DiskM} (h : RAt w b F D) (hW : D.waits.length ≤ 4294967296) :
    Calls Try.prog 48 #[.pointer (some ⟨b, 0, none⟩)] w (RPost F w b (.bool D.cut.2) D.cut.1) := by
  obtain ⟨lv, wv, h⟩ := h
  have c3 : w.cell? ⟨b, 3, none⟩ = some (.int .i64 D.ops) := h.hb.cell 3
  have c4 : w.cell? ⟨b, 4, none⟩ = some (.bool D.pon) := h.hb.cell 4
  have c5 : w.cell? ⟨b, 5, none⟩ = some (.int .i64 D.after) := h.hb.cell 5
  have c6 : w.cell? ⟨b, 6, none⟩ = some (.int .u64 D.mask) := h.hb.cell 6
  have f3 := h.hb.frozen 3
  have f4 := h.hb.frozen 4
  have f5 := h.hb.frozen 5
  have h1 := h.put (D' := { D with ops := wrap64 (D.ops + 1) }) (i := 3) (u := .int .i64 (wrap64 (D.ops + 1))) rfl rfl h.msk rfl
  have HMK := hide h.msk
  cases hp : D.pon
  · have HO := hide hp; clear hp
    rw [HO.out] at c4
    go_enter Try.func48, Try.ntmps48
    go_wp2_with fail
    go_ret
    have e : D.cut = ({ D with ops := wrap64 (D.ops + 1) }, false) := by simp [DiskM.cut, HO.out]
    rw [e]
    exact ⟨rfl, (Turned.refl F w).setCell (.inl h.Fb) _, F, fun x hx => .inl hx, h1.at_⟩
  · have HO := hide hp; clear hp
    rw [HO.out] at c4
    by_cases ha : 0 < D.after
    · go_enter Try.func48, Try.ntmps48
      go_wp2_with fail
      go_ret
      have e : D.cut = ({ D with ops := wrap64 (D.ops + 1), after := wrap64 (D.after - 1) }, false) := by simp [DiskM.cut, HO.out, ha]
      rw [e]
      have h2 := h1.put (D' := { D with ops := wrap64 (D.ops + 1), after := wrap64 (D.after - 1) }) (i := 5) (u := .int .i64 (wrap64 (D.after - 1))) rfl rfl HMK.out rfl
      exact ⟨rfl, ((Turned.refl F w).setCell (.inl h.Fb) _).setCell (.inl h.Fb) _, F, fun x hx => .inl hx, h2.at_⟩
    · have h2 := h1.put (D' := { D with ops := wrap64 (D.ops + 1), pon := false }) (i := 4) (u := .bool false) rfl rfl h.msk rfl
      have HF := hide (rdfail_calls h2.at_ D.mask HMK.out.1 HMK.out.2 hW)
      go_enter Try.func48, Try.ntmps48
      go_wp2_with fail
      refine HF.out.mono ?_
      rintro e w1 ⟨rfl, tu, F', hF', hd⟩
      go_wp2_with fail
      go_ret
      have e : D.cut = (({ D with ops := wrap64 (D.ops + 1), pon := false } : DiskM).fail D.mask, true) := by simp [DiskM.cut, HO.out, ha]
      rw [e]
      exact ⟨rfl, (((Turned.refl F w).setCell (.inl h.Fb) _).setCell (.inl h.Fb) _).trans tu (fun x hx => .inl hx), F', fun x hx => by rcases hF' x hx with h | h; exact .inl h; exact .inr (by simpa [World.setCell] using h), hd⟩

set_option maxRecDepth 20000 in
theorem rinfo_put : (Try.prog.info? 96).map (fun i => (i.zero, i.size, i.bytes)) = some (some (.agg #[.int .i64 0, .string ⟨#[]⟩]), 2, 24) := by kernel_rfl
set_option maxRecDepth 20000 in
theorem wrong_0 {D : DiskM} {i : Int} (h : D.wrong i = 0) : D.off = false ∧ 0 ≤ i ∧ i < D.lasts.length := by
  unfold DiskM.wrong at h
  split at h
  · omega
  · split at h
    · omega
    · rename_i h1 h2; exact ⟨by simpa using h1, by omega, by omega⟩
set_option maxRecDepth 20000 in
theorem RRep.wait {w w2 : World} {b : Nat} {F : Nat → Prop} {D : DiskM} {lv wv v' : Value} {i : Int} {s : ByteArray} {c : Array Value} (h : RRep w b F D lv wv) (hi : 0 ≤ i ∧ i < D.lasts.length)
    (hr : Row w2 96 2 v' (D.waits.length + 1) (wcells D.waits ++ [.int .i64 i, .string s])) (hg : (w.alloc (.cells c 96)).grownBy w2 wv.ownBlock) (hat : v'.ownBlock = wv.ownBlock ∨ v'.ownBlock = some (w.alloc (.cells c 96)).heap.size) :
    RRep (w2.setCell ⟨b, 1, none⟩ v') b (fun x => F x ∨ (w.heap.size ≤ x ∧ x < w2.heap.size)) { D with waits := D.waits ++ [(i, s)] } lv v' ∧ Turned F w (w2.setCell ⟨b, 1, none⟩ v') := by
  have n1 := row_blk_ne h.hl h.hb (by decide)
  have n2 := row_blk_ne h.hw h.hb (by decide)
  have hlw := row_types h.hl h.hw (by decide)
  have hb2 := (h.hb.alloc (.cells c 96)).grown hg (fun e => n2 e.symm)
  have hl2 : Row w2 9 1 lv D.lasts.length (strs D.lasts) := row_of (row_alloc h.hl (.cells c 96)) fun g hg' => hg.block g (row_lt (row_alloc h.hl _) g hg') (fun e => hlw g hg' e.symm)
  have hne : v'.ownBlock ≠ some b := row_blk_ne hr hb2 (by decide)
  refine ⟨⟨by simpa using hb2.set_ 1 v', row_set hl2 n1 _, ?_, .inl h.Fb, fun g hg => .inl (h.Fl g hg), fun g hg' => ?_, ?_, ⟨h.ok.len, fun p hp => ?_⟩, h.msk⟩, (((Turned.refl F w).alloc _).grown hg (fun k hk => .inl (h.Fw k hk))).setCell (.inl h.Fb) _⟩
  · have e := row_set (p := ⟨b, 1, none⟩) hr hne v'
    rw [wcells_snoc, show (({ D with waits := D.waits ++ [(i, s)] } : DiskM).waits).length = D.waits.length + 1 by simp]
    exact e
  · rcases hat with e | e
    · rw [hg'] at e; exact .inl (h.Fw g e.symm)
    · rw [hg'] at e
      have e2 : g = w.heap.size + 1 := by simpa using e
      exact .inr ⟨by omega, row_lt hr g hg'⟩
  · have := hg.size
    rintro x (hx | hx)
    · have := h.Fx x hx
      simp only [World.setCell, Array.size_modify]
      simp at *
      omega
    · simpa [World.setCell] using hx.2
  · rcases List.mem_append.1 hp with hp | hp
    · exact h.ok.inr p hp
    · obtain rfl : p = (i, s) := by simpa using hp
      exact hi

set_option maxRecDepth 20000 in
theorem rdwrite_calls {w : World} {b : Nat} {F : Nat → Prop} {D : DiskM} (h : RAt w b F D) (hW : D.waits.length ≤ 4294967290) (i : Int) (s : ByteArray) :
    Calls Try.prog 25 #[.pointer (some ⟨b, 0, none⟩), .int .i64 i, .string s] w (RPost F w b (.int .i64 (D.write i s).2) (D.write i s).1) := by
  have h0 := h
  obtain ⟨lv, wv, h⟩ := h
  have c2 : w.cell? ⟨b, 2, none⟩ = some (.bool D.off) := h.hb.cell 2
  obtain ⟨lA, lcap, hlv, _⟩ := row_slice h.hl
  have c0 : w.cell? ⟨b, 0, none⟩ = some (.slice lA D.lasts.length lcap) := by rw [← hlv]; exact h.hb.cell 0
  have HLV := hide hlv
  clear hlv
  cases hoff : D.off
  · have HO := hide hoff
    by_cases hi : 0 ≤ i ∧ i < D.lasts.length
    · have hw0 : D.wrong i = 0 := by unfold DiskM.wrong; rw [hoff, if_neg (by simp), if_neg (by omega)]
      obtain ⟨hi0, hi1⟩ := hi
      rw [hoff] at c2
      clear hoff
      by_cases hs : s.size = 64
      · have hs2 : ((s.size : Int) != 64) = false := by simp [hs]
        have HS := hide hs
        have HW0 := hide hw0
        have HREP := hide h
        have c1 : w.cell? ⟨b, 1, none⟩ = some wv := h.hb.cell 1
        clear hs hw0 h
        go_enter Try.func25, Try.ntmps25
        go_wp2_with (at_builtin; refine app_list rfl (.tmp 31) (.tmp 35) 67 96 rfl _ 2 24 Try.underlying67 rinfo_put rfl (by decide) wv D.waits.length (wcells D.waits) (by rfl) (row_alloc HREP.out.hw _) (.slice (some ⟨w.heap.size, 0, none⟩) 1 1) 1 [.int .i64 i, .string s] (by rfl) (Src.blk (Blk.new w 96 #[.int .i64 i, .string s])) rfl (by simp [Value.oneCell']) (by unfold maxLen; omega) (by omega) ?_; intro v' w2 hr2 hg2 hat; obtain ⟨A2, cap2, rfl, hc2⟩ := row_slice hr2.out; have hb2 := (HREP.out.hb.alloc (.cells #[.int .i64 i, .string s] 96)).grown hg2.out (fun e => row_blk_ne HREP.out.hw HREP.out.hb (by decide) e.symm); have z1 := hb2.cell 1; have y1 := hb2.frozen 1; simp only [List.getElem?_toArray, List.getElem?_cons_succ, List.getElem?_cons_zero] at z1; clear hb2)
        have hP := HREP.out.wait (i := i) (s := s) ⟨hi0, hi1⟩ hr2.out hg2.out hat.out
        have HC := hide (rdcut_calls hP.1.at_ (by simp; omega))
        have HT := hide hP.2
        have HSZ := hide (show w.heap.size ≤ w2.heap.size by have := hg2.out.size; simp at this; omega)
        clear hP z1 y1 hat hg2 hr2
        refine HC.out.mono ?_
        rintro e w3 ⟨rfl, tu3, F', hF', hd⟩
        have e : D.write i s = (({ D with waits := D.waits ++ [(i, s)] } : DiskM).cut.1, if ({ D with waits := D.waits ++ [(i, s)] } : DiskM).cut.2 then 7 else 0) := by
          unfold DiskM.write
          rw [if_neg (by simp [HW0.out]), if_neg (by have := HS.out; omega)]
        have hF2 : ∀ x, F' x → F x ∨ w.heap.size ≤ x := by
          intro x hx
          rcases hF' x hx with (h | h) | h
          · exact .inl h
          · exact .inr h.1
          · refine .inr ?_
            have := HSZ.out
            simp only [World.setCell, Array.size_modify] at h
            omega
        have tu4 : Turned F w w3 := HT.out.trans tu3 (fun x hx => by rcases hx with h | h; exact .inl h; exact .inr h.1)
        have E := hide e
        have HF2 := hide hF2
        have HT4 := hide tu4
        have HD := hide hd
        clear e hF2 tu4 hd hF' tu3 HC
        cases hcc : ({ D with waits := D.waits ++ [(i, s)] } : DiskM).cut.2
        · have HCC := hide hcc; clear hcc
          go_wp2_with fail
          go_ret
          rw [E.out, HCC.out]
          exact ⟨rfl, HT4.out, F', HF2.out, HD.out⟩
        · have HCC := hide hcc; clear hcc
          go_wp2_with fail
          go_ret
          rw [E.out, HCC.out]
          exact ⟨rfl, HT4.out, F', HF2.out, HD.out⟩
      · have hs2 : ((s.size : Int) != 64) = true := by simp; omega
        have e : D.write i s = (D, 1) := by unfold DiskM.write; rw [if_neg (by simp [hw0]), if_pos hs]
        have E := hide e
        clear hs hw0 h e
        go_enter Try.func25, Try.ntmps25
        go_wp2_with fail
        go_ret
        rw [E.out]
        exact ⟨rfl, .refl _ _, F, fun x hx => .inl hx, h0⟩
    · have e : D.write i s = (D, 1) := by
        have : D.wrong i = 1 := by unfold DiskM.wrong; rw [hoff, if_neg (by simp), if_pos (by omega)]
        unfold DiskM.write
        rw [if_pos (by rw [this]; decide), this]
      have E := hide e
      rw [hoff] at c2
      clear e hoff h
      by_cases h1 : i < 0
      · clear hi
        go_enter Try.func25, Try.ntmps25
        go_wp2_with fail
        go_ret
        rw [E.out]
        exact ⟨rfl, .refl _ _, F, fun x hx => .inl hx, h0⟩
      · have h2 : ¬ i < D.lasts.length := by omega
        clear hi
        go_enter Try.func25, Try.ntmps25
        go_wp2_with fail
        go_ret
        rw [E.out]
        exact ⟨rfl, .refl _ _, F, fun x hx => .inl hx, h0⟩
  · have e : D.write i s = (D, 7) := by
      have : D.wrong i = 7 := by unfold DiskM.wrong; rw [hoff]; rfl
      unfold DiskM.write
      rw [if_pos (by rw [this]; decide), this]
    have E := hide e
    rw [hoff] at c2
    clear e hoff h
    go_enter Try.func25, Try.ntmps25
    go_wp2_with fail
    go_ret
    rw [E.out]
    exact ⟨rfl, .refl _ _, F, fun x hx => .inl hx, h0⟩
end Go.Proofs.Ytmbkncckcpgdgaa

/- The document's disk: Sync, Cut. -/
namespace Go.Proofs.Ytmbkncckcpgdgaa
open Go.RowKit Zb

set_option maxRecDepth 100000 in
set_option maxHeartbeats 2000000 in
theorem rdsync_calls {w : World} {b : Nat} {F : Nat → Prop} {D : DiskM} (h : RAt w b F D) (hW : D.waits.length ≤ 4294967290) :
    Calls Try.prog 27 #[.pointer (some ⟨b, 0, none⟩)] w (RPost F w b (.int .i64 D.sync.2) D.sync.1) := by
  have h00 := h
  obtain ⟨lv, wv, h⟩ := h
  have c2 : w.cell? ⟨b, 2, none⟩ = some (.bool D.off) := h.hb.cell 2
  have hcutF : ∀ x, x = D.cut.1 → x.waits.length ≤ D.waits.length := by
    rintro x rfl
    unfold DiskM.cut
    split
    · exact Nat.le_refl _
    · split
      · exact Nat.le_refl _
      · unfold DiskM.fail
        split
        · exact Nat.le_refl _
        · simp
  cases hoff : D.off
  · have hw0 : D.wrong 0 = 0 := by
      have := h.ok.len
      unfold DiskM.wrong
      rw [hoff, if_neg (by simp), if_neg (by omega)]
    rw [hoff] at c2
    have HW0 := hide hw0
    have HOF := hide hoff
    have HC := hide (rdcut_calls h00 (by omega))
    have HFb := hide h.Fb
    have HCW := hide (hcutF _ rfl)
    clear hw0 hoff h h00 hcutF
    cases hcc : D.cut.2
    · have HCC := hide hcc
      have e : D.sync = ({ D.cut.1 with lasts := settleTo (fun _ => true) 0 D.cut.1.waits D.cut.1.lasts, waits := [] }, 0) := by
        unfold DiskM.sync
        rw [if_neg (by rw [HW0.out]; simp), hcc]
        rfl
      have E := hide e
      clear e
      go_enter Try.func27, Try.ntmps27
      go_wp2_with fail
      refine HC.out.mono ?_
      rintro e w1 ⟨rfl, tu1, F1, hF1, hd1⟩
      rw [hcc]
      clear hcc
      obtain ⟨lv1, wv1, h1⟩ := hd1
      obtain ⟨wA, wcap, rfl, _⟩ := row_slice h1.hw
      have HT1 := hide tu1
      have HF1 := hide hF1
      have HW1 := HCW.out
      clear HC HCC tu1 hF1 HCW
      generalize D.cut.1 = D1 at *
      have hW1 : D1.waits.length ≤ 4294967290 := by omega
      clear HW1 hW
      have HOK := hide h1.ok
      have HREP := hide h1
      have HI0 : Hid (RSet F1 w1 b (.slice wA D1.waits.length wcap) D1 (fun _ => true) 0 w1) := hide ⟨lv1, .refl _ _, h1.hb, h1.hl, h1.hw, fun g hg => .inl (h1.Fl g hg)⟩
      clear h1 c2
      go_wp2_with fail
      go_loopw [3] (fun i wr => ∃ k : Nat, k ≤ D1.waits.length ∧ i = .int .i64 k ∧ Hid (RSet F1 w1 b (.slice wA D1.waits.length wcap) D1 (fun _ => true) k wr)) (fun i _ => D1.waits.length - (intOf i).toNat)
      case atStart => exact ⟨0, Nat.zero_le _, rfl, HI0⟩
      case round =>
      clear HI0
      obtain ⟨k, hk, rfl, hinv⟩ := hrel
      by_cases hlt : k < D1.waits.length
      · obtain ⟨lv2, htu, hb2, hl2, hw2, ho2⟩ := hinv.out
        obtain ⟨g, cc, hsl, _, hg, _, hcells⟩ := row_form hw2 (by omega)
        obtain ⟨rfl, rfl⟩ : wA = some ⟨g, 0, none⟩ ∧ wcap = cc := by simpa using hsl
        obtain ⟨p, hp⟩ : ∃ p, D1.waits[k]? = some p := ⟨_, List.getElem?_eq_getElem hlt⟩
        obtain ⟨i, s⟩ := p
        have hwc2 := wcells_get D1.waits k _ hp
        have y0 : wr.cell? ⟨g, k * 2, none⟩ = some (.int .i64 i) := (hcells _ (by omega)).trans hwc2.1
        have y1 : wr.cell? ⟨g, k * 2 + 1, none⟩ = some (.string s) := (hcells _ (by omega)).trans hwc2.2
        have x0 : wr.cell? ⟨b, 0, none⟩ = some lv2 := hb2.cell 0
        have x1 : wr.cell? ⟨b, 1, none⟩ = some (.slice (some ⟨g, 0, none⟩) D1.waits.length wcap) := hb2.cell 1
        have hin := HOK.out.inr _ (List.mem_of_getElem? hp)
        have hi0 : 0 ≤ i := hin.1
        have hsz : (settleTo (fun _ => true) 0 (D1.waits.take k) D1.lasts).length = D1.lasts.length := settleTo_length _ _ _ _
        have hi1 : i < ((settleTo (fun _ => true) 0 (D1.waits.take k) D1.lasts).length : Nat) := by rw [hsz]; exact hin.2
        have hgb : g ≠ b := fun e => row_blk_ne hw2 hb2 (by decide) (by simp [Value.ownBlock, e])
        have HP := hide hp
        have HB := hide hb2
        have HW := hide hw2
        have HTU := hide htu
        have HG := hide hg
        have HGB := hide hgb
        have HIN := hide hinv
        have hl3 : Row wr 9 1 lv2 (settleTo (fun _ => true) 0 (D1.waits.take k) D1.lasts).length (strs (settleTo (fun _ => true) 0 (D1.waits.take k) D1.lasts)) := by rw [hsz]; exact hl2
        have HL := hide hl3
        have hL9 := HOK.out.len.2
        have HSZ := hide hsz
        clear hp hb2 hl2 hw2 htu ho2 hg hsl hwc2 hcells hin hsz hl3 hgb
        go_wp2_with fail
        refine wp_region_heads [0, 1, 2, 3, 5, 6, 7, 8, 9, 10, 11, 12, 13, 14, 15, 16, 17, 18, 19, 20] 5 (fun w' => w'.cell? ⟨b, 1, none⟩ = some (.slice (some ⟨g, 0, none⟩) D1.waits.length wcap) ∧ w'.cell? ⟨g, k * 2, none⟩ = some (.int .i64 i) ∧ w'.cell? ⟨g, k * 2 + 1, none⟩ = some (.string s)) (by kernel_rfl) rfl (by kernel_rfl) (by kernel_rfl) (fun _ _ d _ _ h => by cases d <;> exact h) ⟨x1, y0, y1⟩ ?_
        iterate 20
          refine' Heads.step rfl (by rfl) ?_ ?_
          rotate_left
          · intro w' hSw
            obtain ⟨s1, s2, s3⟩ := hSw
            go_simp
            try with_reducible rfl
          simp only [Act.put, List.setIfInBounds_toArray, List.set_cons_zero, List.set_cons_succ]
        refine Heads.done ?_
        refine wpAnyH_ready (rs := [4]) (by kernel_rfl) (by simp) (AllReadyH.cons rfl (fun K hK => ?_) AllReadyH.nil)
        go_simp
        refine hK.out _ _ ⟨x1, y0, y1⟩ (fun hHeld1 => ?_)
        clear hK K
        refine wpAnyH_ready (rs := [21]) (by kernel_rfl) (by simp) (AllReadyH.cons rfl (fun K hK => ?_) AllReadyH.nil)
        go_simp
        refine (rdset_calls (w := wr.drew) HL.out i s hi0 hi1 (by rw [HSZ.out]; exact hL9)).mono ?_
        rintro e w2 ⟨v2, rfl, hb2, hr2, ho2⟩
        obtain ⟨A2, c2, rfl, hc2⟩ := row_slice hr2
        have hB2 : Blk w2 b 69 _ := Blk.below (w := wr.drew) HB.out hb2 (Blk.lt HB.out)
        have z0 := hB2.cell 0
        have zf := hB2.frozen 0
        have HB2 := hide hB2
        clear hB2
        refine hK.out _ _ (set_keeps hHeld1 hb2 (Blk.lt HB.out) HG.out) (fun hHeld2 => ?_)
        clear hK K
        refine wpAnyH_more [22, 23] 1 rfl (by kernel_rfl) (by kernel_rfl) (fun _ _ d _ _ h => by cases d <;> exact h) hHeld2 ?_
        iterate 2
          refine' Heads.step rfl (by rfl) ?_ ?_
          rotate_left
          · intro w' hSw
            obtain ⟨s1, s2, s3⟩ := hSw
            go_simp
            try with_reducible rfl
          simp only [Act.put, List.setIfInBounds_toArray]
        refine Heads.done ?_
        refine wpAnyH_ready (rs := [24]) (by kernel_rfl) (by simp) (AllReadyH.cons rfl (fun K hK => ?_) AllReadyH.nil)
        go_simp
        refine hK.out _ _ (set_store hHeld2 HGB.out) (fun hHeld3 => ?_)
        clear hK K
        refine wpAnyH_done (by kernel_rfl) ?_ _
        go_wp2_with fail
        have hs := RSet.step (f := fun _ => true) HREP.out.Fb (HTU.out.drew) HB.out HW.out HP.out rfl hb2 (by rw [← HSZ.out]; exact hr2) ho2
        go_roundw
        case rel => exact ⟨k + 1, by omega, by go_num, hide hs⟩
        case measure => simp [intOf]; omega
      · obtain ⟨lv2, htu, hb2, hl2, hw2, ho2⟩ := hinv.out
        obtain rfl : k = D1.waits.length := by omega
        have x1 : wr.cell? ⟨b, 1, none⟩ = some (.slice wA D1.waits.length wcap) := hb2.cell 1
        have f1 := hb2.frozen 1
        go_wp2_with fail
        go_ret
        rw [List.take_length] at hl2
        have hb3 := hb2.set_ 1 (.slice none 0 0)
        have hne := row_blk_ne hl2 hb2 (by decide)
        have hsz1 := HT1.out.size
        rw [E.out]
        refine ⟨rfl, HT1.out.trans (htu.setCell (.inl HREP.out.Fb) _) (fun x hx => HF1.out x hx), fun x => (F x ∨ w.heap.size ≤ x) ∧ x < wr.heap.size, fun x hx => hx.1, lv2, .slice none 0 0, ?_, ?_, row_nil _ _ _, ⟨HF1.out _ HREP.out.Fb, hb2.lt⟩, fun g hg => ⟨?_, row_lt hl2 g hg⟩, fun g hg => by simp [Value.ownBlock] at hg, fun x hx => by simpa [World.setCell] using hx.2, ⟨by simp only [settleTo_length]; exact HOK.out.len, by simp⟩, HREP.out.msk⟩
        · simpa using hb3
        · simp only [settleTo_length]
          exact row_set hl2 hne _
        · rcases ho2 g hg with h | h
          · exact HF1.out g h
          · exact .inr (by omega)
    · have e : D.sync = (D.cut.1, 7) := by
        unfold DiskM.sync
        rw [if_neg (by rw [HW0.out]; simp), if_pos hcc]
      have E := hide e
      clear e
      go_enter Try.func27, Try.ntmps27
      go_wp2_with fail
      refine HC.out.mono ?_
      rintro e w1 ⟨rfl, tu1, F1, hF1, hd1⟩
      rw [hcc]
      have HT := hide tu1
      have HF1 := hide hF1
      have HD1 := hide hd1
      clear hcc tu1 hF1 hd1
      go_wp2_with fail
      go_ret
      rw [E.out]
      exact ⟨rfl, HT.out, F1, HF1.out, HD1.out⟩
  · have e : D.sync = (D, 7) := by
      have : D.wrong 0 = 7 := by unfold DiskM.wrong; rw [hoff]; rfl
      unfold DiskM.sync
      rw [if_pos (by rw [this]; decide), this]
    have E := hide e
    rw [hoff] at c2
    clear e hoff h
    go_enter Try.func27, Try.ntmps27
    go_wp2_with fail
    go_ret
    rw [E.out]
    exact ⟨rfl, .refl _ _, F, fun x hx => .inl hx, h00⟩

set_option maxRecDepth 20000 in
theorem rdplan_calls {w : World} {b : Nat} {F : Nat → Prop} {D : DiskM} (h : RAt w b F D) (k m : Int) (hm : 0 ≤ m ∧ m ≤ 18446744073709551615) :
    Calls Try.prog 29 #[.pointer (some ⟨b, 0, none⟩), .int .i64 k, .int .u64 m] w (RPost F w b (.int .i64 (D.plan k m).2) (D.plan k m).1) := by
  have h0 := h
  obtain ⟨lv, wv, h⟩ := h
  have HM := hide hm
  clear hm
  by_cases hk : k < 0
  · have E := hide (show D.plan k m = (D, 1) by rw [DiskM.plan, if_pos hk])
    clear h
    go_enter Try.func29, Try.ntmps29
    go_wp2_with fail
    go_ret
    rw [E.out]
    exact ⟨rfl, .refl _ _, F, fun x hx => .inl hx, h0⟩
  · have E := hide (show D.plan k m = ({ D with pon := true, after := k, mask := m }, 0) by rw [DiskM.plan, if_neg hk])
    have f4 := h.hb.frozen 4
    have f5 := h.hb.frozen 5
    have f6 := h.hb.frozen 6
    have c4 := h.hb.cell 4
    have c5 := h.hb.cell 5
    have c6 := h.hb.cell 6
    simp only [List.getElem?_toArray, List.getElem?_cons_succ, List.getElem?_cons_zero] at c4 c5 c6
    have h1 := h.put (D' := { D with pon := true }) (i := 4) (u := .bool true) rfl rfl h.msk rfl
    have h2 := h1.put (D' := { D with pon := true, after := k }) (i := 5) (u := .int .i64 k) rfl rfl h.msk rfl
    have h3 := h2.put (D' := { D with pon := true, after := k, mask := m }) (i := 6) (u := .int .u64 m) rfl rfl HM.out rfl
    have H3 := hide h3
    have HFb := hide h.Fb
    clear h1 h2 h3 h
    go_enter Try.func29, Try.ntmps29
    go_wp2_with fail
    go_ret
    rw [E.out]
    exact ⟨rfl, (((Turned.refl F w).setCell (.inl HFb.out) _).setCell (.inl HFb.out) _).setCell (.inl HFb.out) _, F, fun x hx => .inl hx, H3.out.at_⟩
end Go.Proofs.Ytmbkncckcpgdgaa

/- The document's disk: Read, New. -/
namespace Go.Proofs.Ytmbkncckcpgdgaa
open Go.RowKit Zb

set_option maxRecDepth 100000 in
set_option maxHeartbeats 1000000 in
theorem rdread_calls {w : World} {b : Nat} {F : Nat → Prop} {D : DiskM} (h : RAt w b F D) (hW : D.waits.length ≤ 4294967290) (i : Int) :
    Calls Try.prog 54 #[.pointer (some ⟨b, 0, none⟩), .int .i64 i] w fun e w' => e = .returned (.tuple #[.string (D.read i).1, .int .i64 (D.read i).2]) ∧ w = w' := by
  obtain ⟨lv, wv, h⟩ := h
  have c2 : w.cell? ⟨b, 2, none⟩ = some (.bool D.off) := h.hb.cell 2
  cases hoff : D.off
  · by_cases hi : 0 ≤ i ∧ i < D.lasts.length
    · obtain ⟨hi0, hi1⟩ := hi
      obtain ⟨n, rfl⟩ : ∃ n : Nat, i = n := ⟨i.toNat, by omega⟩
      have hn : n < D.lasts.length := by omega
      obtain ⟨g, lcap, rfl, _, _, _, hcells⟩ := row_form h.hl (by omega)
      obtain ⟨wA, wcap, rfl, _⟩ := row_slice h.hw
      have hwr : D.wrong n = 0 := by unfold DiskM.wrong; rw [hoff, if_neg (by simp), if_neg (by omega)]
      have c0 : w.cell? ⟨b, 0, none⟩ = some (.slice (some ⟨g, 0, none⟩) D.lasts.length lcap) := h.hb.cell 0
      have c1 : w.cell? ⟨b, 1, none⟩ = some (.slice wA D.waits.length wcap) := h.hb.cell 1
      have ln : w.cell? ⟨g, n, none⟩ = some (.string (D.lasts.getD n ⟨#[]⟩)) := (hcells n (by omega)).trans (strs_get _ _ hn)
      have E := hide (show D.read n = (seen n D.waits (D.lasts.getD n ⟨#[]⟩), 0) by rw [DiskM.read, if_pos hwr]; rfl)
      rw [hoff] at c2
      have HREP := hide h
      generalize hs0 : D.lasts.getD n ⟨#[]⟩ = s0 at *
      clear hoff hwr hcells h hs0
      go_enter Try.func54, Try.ntmps54
      go_wp2_with fail
      go_loop [6, 7] (fun s k => ∃ m : Nat, m ≤ D.waits.length ∧ k = .int .i64 m ∧ s = .string (seen n (D.waits.take m) s0)) (fun _ k => D.waits.length - (intOf k).toNat)
      case atStart => exact ⟨0, Nat.zero_le _, rfl, rfl⟩
      case round =>
        obtain ⟨m, hm, rfl, rfl⟩ := hrel
        by_cases hlt : m < D.waits.length
        · obtain ⟨g2, cc, hsl, _, _, _, hcells⟩ := row_form HREP.out.hw (by omega)
          obtain ⟨rfl, rfl⟩ : wA = some ⟨g2, 0, none⟩ ∧ wcap = cc := by simpa using hsl
          obtain ⟨p, hp⟩ : ∃ p, D.waits[m]? = some p := ⟨_, List.getElem?_eq_getElem hlt⟩
          obtain ⟨j, t⟩ := p
          have hwc2 := wcells_get D.waits m _ hp
          have y0 : w.cell? ⟨g2, m * 2, none⟩ = some (.int .i64 j) := (hcells _ (by omega)).trans hwc2.1
          have y1 : w.cell? ⟨g2, m * 2 + 1, none⟩ = some (.string t) := (hcells _ (by omega)).trans hwc2.2
          have hsn : seen n (D.waits.take (m + 1)) s0 = if j = (n : Int) then t else seen n (D.waits.take m) s0 := by
            have e : D.waits.take (m + 1) = D.waits.take m ++ [(j, t)] := by rw [List.take_add_one, hp]; rfl
            rw [e, seen_snoc]
          have HSN := hide hsn
          clear hp hsl hwc2 hcells hsn
          by_cases hj : j = (n : Int)
          · have hjb : (j == (n : Int)) = true := by simp [hj]
            have HSN2 := hide (HSN.out.trans (if_pos hj))
            clear hj HSN
            go_wp2_with fail
            go_round
            case rel => exact ⟨m + 1, by omega, by go_num, by rw [HSN2.out]⟩
            case measure => simp [intOf]; omega
          · have hjb : (j == (n : Int)) = false := by simp [hj]
            have HSN2 := hide (HSN.out.trans (if_neg hj))
            clear hj HSN
            go_wp2_with fail
            go_round
            case rel => exact ⟨m + 1, by omega, by go_num, by rw [HSN2.out]⟩
            case measure => simp [intOf]; omega
        · obtain rfl : m = D.waits.length := by omega
          go_wp2_with fail
          go_ret2
          rw [E.out]
          exact ⟨rfl, rfl⟩
    · have hwr : D.wrong i = 1 := by unfold DiskM.wrong; rw [hoff, if_neg (by simp), if_pos (by omega)]
      have E := hide (show D.read i = (⟨#[]⟩, 1) by rw [DiskM.read, hwr]; rfl)
      rw [hoff] at c2
      obtain ⟨lA, lcap, rfl, _⟩ := row_slice h.hl
      have c0 : w.cell? ⟨b, 0, none⟩ = some (.slice lA D.lasts.length lcap) := h.hb.cell 0
      clear hoff hwr h
      by_cases h1 : i < 0
      · clear hi
        go_enter Try.func54, Try.ntmps54
        go_wp2_with fail
        go_ret2
        rw [E.out]
        exact ⟨rfl, rfl⟩
      · have h2 : ¬ i < D.lasts.length := by omega
        clear hi
        go_enter Try.func54, Try.ntmps54
        go_wp2_with fail
        go_ret2
        rw [E.out]
        exact ⟨rfl, rfl⟩
  · have hwr : D.wrong i = 7 := by unfold DiskM.wrong; rw [hoff]; rfl
    have E := hide (show D.read i = (⟨#[]⟩, 7) by rw [DiskM.read, hwr]; rfl)
    rw [hoff] at c2
    clear hoff hwr h
    go_enter Try.func54, Try.ntmps54
    go_wp2_with fail
    go_ret2
    rw [E.out]
    exact ⟨rfl, rfl⟩

set_option maxRecDepth 20000 in
theorem rdzero_calls (w : World) : Calls Try.prog 43 #[] w fun e w' => e = .returned (.string (zeros 64)) ∧ Below w.heap.size w w' := by
  have hmk2 : ∀ W : World, (Instr.makeSlice 38 (.int .i64 64) (.int .i64 64)).run Try.prog W = .ok (.slice (some ⟨W.heap.size, 0, none⟩) 64 64) (W.alloc (.cells (madeCells #[.int .u8 0] 64) 5)) := fun W => make_row (P := Try.prog) 38 5 _ 1 Try.underlying38 info_u8 rfl .i64 .i64 64 (by omega) (by omega) W
  have hcv : ∀ W : World, (convert 38 9 (.slice (some ⟨W.heap.size, 0, none⟩) 64 64)).run Try.prog (W.alloc (.cells (madeCells #[.int .u8 0] 64) 5)) = .ok (.string (zeros 64)) (W.alloc (.cells (madeCells #[.int .u8 0] 64) 5)) := fun W => by
    have hr := row_made W 5 (.int .u8 0) 64 (by unfold maxLen; omega)
    refine conv_bytes _ 38 9 5 _ 64 (List.replicate 64 0) Try.underlying38 Try.underlying5 Try.underlying9 ?_
    intro j hj
    rw [add_plain]
    refine (World.ownsRow.cellAt hr j (by simpa using hj)).trans ?_
    simp [bytesVals]
  go_enter Try.func43, Try.ntmps43
  go_wp2_with fail
  go_ret
  exact ⟨rfl, (Below.refl _ _).alloc (Nat.le_refl _) _⟩
def RNewPost (n : Nat) (w : World) (e : Ending) (w' : World) : Prop :=
  ∃ b F, e = .returned (.tuple #[.pointer (some ⟨b, 0, none⟩), .int .i64 0]) ∧ Below w.heap.size w w' ∧ (∀ x, F x → w.heap.size ≤ x) ∧ RAt w' b F (DiskM.new n)
def RBadPost (w : World) (e : Ending) (w' : World) : Prop := ∃ b, e = .returned (.tuple #[.pointer (some ⟨b, 0, none⟩), .int .i64 1]) ∧ Below w.heap.size w w'
set_option maxRecDepth 20000 in
theorem rdnew_bad (n : Int) (h : n < 16 ∨ 512 < n) (w : World) : Calls Try.prog 22 #[.int .i64 n] w (RBadPost w) := by
  rcases h with h | h
  · go_enter Try.func22, Try.ntmps22
    go_wp2_with fail
    go_ret2
    exact ⟨w.heap.size, rfl, (Below.refl _ _).alloc (Nat.le_refl _) _⟩
  · have h' : ¬ n < 16 := by omega
    go_enter Try.func22, Try.ntmps22
    go_wp2_with fail
    go_ret2
    exact ⟨w.heap.size, rfl, (Below.refl _ _).alloc (Nat.le_refl _) _⟩

structure RNInv (w : World) (b k : Nat) (lv : Value) (wr : World) : Prop where
  bel : Below w.heap.size w wr
  hb : Blk wr b 69 #[lv, .slice none 0 0, .bool false, .int .i64 0, .bool false, .int .i64 0, .int .u64 0]
  hl : Row wr 9 1 lv k (strs (List.replicate k (zeros 64)))
  own : OwnNew w lv
set_option maxRecDepth 20000 in
theorem below_drew_l {w w' : World} (h : Below w.drew.heap.size w.drew w') : Below w.heap.size w w' := (Below.refl _ _).drew.trans h
set_option maxRecDepth 20000 in
theorem RNInv.below {w wr w2 : World} {b k : Nat} {lv : Value} (h : RNInv w b k lv wr) (hb : Below wr.heap.size wr w2) : RNInv w b k lv w2 :=
  ⟨h.bel.trans (hb.mono h.bel.size), h.hb.below hb h.hb.lt, row_of h.hl fun g hg => hb.block g (row_lt h.hl g hg), h.own⟩
set_option maxRecDepth 20000 in
theorem RNInv.step {w wr w2 : World} {b k : Nat} {lv v' : Value} {c : Array Value} (h : RNInv w b k lv wr) (hB : w.heap.size ≤ b) (hr : Row w2 9 1 v' (k + 1) (strs (List.replicate k (zeros 64)) ++ [.string (zeros 64)]))
    (hg : (wr.alloc (.cells c 9)).grownBy w2 lv.ownBlock) (hat : v'.ownBlock = lv.ownBlock ∨ v'.ownBlock = some (wr.alloc (.cells c 9)).heap.size) : RNInv w b (k + 1) v' (w2.setCell ⟨b, 0, none⟩ v') := by
  have hne := row_blk_ne h.hl h.hb (by decide)
  have hb2 := (h.hb.alloc (.cells c 9)).grown hg (fun e => hne e.symm)
  have h0 := h.bel.alloc h.bel.size (.cells c 9)
  refine ⟨(h0.grown hg h0.size (fun k hk => h.own k hk)).setCell hB _, hb2.set_ 0 v', ?_, fun g hg' => ?_⟩
  · rw [List.replicate_succ', show strs (List.replicate k (zeros 64) ++ [zeros 64]) = strs (List.replicate k (zeros 64)) ++ [.string (zeros 64)] by simp [strs]]
    exact row_set hr (row_blk_ne hr hb2 (by decide)) _
  · rcases hat with e | e
    · exact h.own g (e.symm.trans hg')
    · rw [hg'] at e
      have := h.bel.size
      have e2 : g = wr.heap.size + 1 := by simpa using e
      omega

set_option maxRecDepth 100000 in
set_option maxHeartbeats 1000000 in
theorem rdnew_calls (n : Nat) (h0 : 16 ≤ n) (h1 : n ≤ 512) (w : World) : Calls Try.prog 22 #[.int .i64 n] w (RNewPost n w) := by
  have hn0 : ¬ (n : Int) < 16 := by omega
  have hn1 : ¬ (n : Int) > 512 := by omega
  have hn2 : decide ((n : Int) < 16) = false := by simp only [decide_eq_false_iff_not]; omega
  have hn3 : decide ((512 : Int) < n) = false := by simp only [decide_eq_false_iff_not]; omega
  have HI0 : Hid (RNInv w w.heap.size 0 (.slice none 0 0) (w.alloc (.cells #[.slice none 0 0, .slice none 0 0, .bool false, .int .i64 0, .bool false, .int .i64 0, .int .u64 0] 69))) :=
    hide ⟨(Below.refl _ _).alloc (Nat.le_refl _) _, Blk.new w 69 _, row_nil _ _ _, fun g hg => by simp [Value.ownBlock] at hg⟩
  go_enter Try.func22, Try.ntmps22
  go_wp2_with fail
  go_loopw [5] (fun i wr => ∃ k : Nat, k ≤ n ∧ i = .int .i64 k ∧ Hid (∃ lv, RNInv w w.heap.size k lv wr)) (fun i _ => n - (intOf i).toNat)
  case atStart => exact ⟨0, Nat.zero_le _, rfl, hide ⟨_, HI0.out⟩⟩
  case round =>
    clear HI0
    obtain ⟨k, hk, rfl, hinv⟩ := hrel
    obtain ⟨lv, hi⟩ := hinv.out
    generalize hq : w.heap.size = q at *
    by_cases hlt : k < n
    · have z0 : wr.cell? ⟨q, 0, none⟩ = some lv := hi.hb.cell 0
      have HI := hide hi
      have HQ := hide hq
      clear hi hinv hq
      go_wp2_with fail
      refine wp_region_heads [0, 1, 2, 3] 7 (fun _ => True) (by kernel_rfl) rfl (by kernel_rfl) (by kernel_rfl) (fun _ _ d _ _ h => by cases d <;> exact h) trivial ?_
      iterate 4
        refine' Heads.step rfl (by rfl) ?_ ?_
        rotate_left
        · intro w' hSw
          go_simp
          try with_reducible rfl
        simp only [Act.put, List.setIfInBounds_toArray, List.set_cons_zero, List.set_cons_succ]
      refine Heads.done ?_
      refine wpAnyH_ready (rs := [4, 5]) (by kernel_rfl) (by simp) (AllReadyH.cons rfl (fun K hK => ?_) (AllReadyH.cons rfl (fun K hK => ?_) AllReadyH.nil))
      · go_simp
        refine hK.out _ _ trivial (fun _ => ?_)
        clear hK K
        refine wpAnyH_ready (rs := [5]) (by kernel_rfl) (by simp) (AllReadyH.cons rfl (fun K hK => ?_) AllReadyH.nil)
        go_simp
        refine (rdzero_calls _).mono ?_
        rintro e w2 ⟨rfl, hb2⟩
        have HI2 := hide (HI.out.below (wr := wr) (w2 := w2) (below_drew_l hb2))
        have z2 : w2.cell? ⟨q, 0, none⟩ = some lv := HI2.out.hb.cell 0
        have z3 : (w2.alloc (.cells #[.string (zeros 64)] 9)).cell? ⟨q, 0, none⟩ = some lv := (HI2.out.hb.alloc _).cell 0
        clear hb2
        refine hK.out _ _ trivial (fun _ => ?_)
        clear hK K
        refine wpAnyH_ready (rs := [6]) (by kernel_rfl) (by simp) (AllReadyH.cons rfl (fun K hK => ?_) AllReadyH.nil)
        go_simp
        refine hK.out _ _ trivial (fun hHeld1 => ?_)
        clear hK K
        refine wpAnyH_ready (rs := [7]) (by kernel_rfl) (by simp) (AllReadyH.cons rfl (fun K hK => ?_) AllReadyH.nil)
        rw [if_pos (by rfl)]
        refine app_op (.tmp 24) (.tmp 26) 66 9 rfl (.string ⟨#[]⟩) 1 16 Try.underlying66 info_string rfl (by decide) lv k (strs (List.replicate k (zeros 64))) (by rfl) (row_alloc HI2.out.hl _) (.slice (some ⟨w2.heap.size, 0, none⟩) 1 1) 1 [.string (zeros 64)] (by rfl) (Src.blk (Blk.new w2 9 #[.string (zeros 64)])) rfl (by simp [Value.oneCell']) (by unfold maxLen; omega) (by omega) ?_
        intro v' w3 hr hg hat
        obtain ⟨A2, c2, rfl, hc2⟩ := row_slice hr.out
        have hb3 := (HI2.out.hb.alloc (.cells #[.string (zeros 64)] 9)).grown hg.out (fun e => row_blk_ne HI2.out.hl HI2.out.hb (by decide) e.symm)
        have x0 := hb3.cell 0
        have f0 := hb3.frozen 0
        simp only [List.getElem?_toArray, List.getElem?_cons_zero] at x0
        have hs := hide (HI2.out.step (by rw [HQ.out]; exact Nat.le_refl _) hr.out hg.out hat.out)
        clear hb3 hr hg hat
        refine hK.out _ _ trivial (fun hHeld2 => ?_)
        clear hK K
        refine wpAnyH_more [8, 9] 1 rfl (by kernel_rfl) (by kernel_rfl) (fun _ _ d _ _ h => by cases d <;> exact h) trivial ?_
        iterate 2
          refine' Heads.step rfl (by rfl) ?_ ?_
          rotate_left
          · intro w' hSw
            go_simp
            try with_reducible rfl
          simp only [Act.put, List.setIfInBounds_toArray]
        refine Heads.done ?_
        refine wpAnyH_ready (rs := [10]) (by kernel_rfl) (by simp) (AllReadyH.cons rfl (fun K hK => ?_) AllReadyH.nil)
        go_simp
        refine hK.out _ _ trivial (fun hHeld3 => ?_)
        clear hK K
        refine wpAnyH_done (by kernel_rfl) ?_ _
        clear x0 f0 z2 z3 HI2
        go_wp2_with fail
        go_roundw
        case rel => exact ⟨k + 1, by omega, by go_num, hide ⟨_, hs.out⟩⟩
        case measure => simp [intOf]; omega
      · go_simp
        refine (rdzero_calls _).mono ?_
        rintro e w2 ⟨rfl, hb2⟩
        have HI2 := hide (HI.out.below (wr := wr) (w2 := w2) (below_drew_l hb2))
        have z2 : w2.cell? ⟨q, 0, none⟩ = some lv := HI2.out.hb.cell 0
        have z3 : (w2.alloc (.cells #[.string (zeros 64)] 9)).cell? ⟨q, 0, none⟩ = some lv := (HI2.out.hb.alloc _).cell 0
        clear hb2
        refine hK.out _ _ trivial (fun _ => ?_)
        clear hK K
        refine wpAnyH_ready (rs := [4, 6]) (by kernel_rfl) (by simp) (AllReadyH.cons rfl (fun K hK => ?_) (AllReadyH.cons rfl (fun K hK => ?_) AllReadyH.nil))
        · go_simp
          refine hK.out _ _ trivial (fun _ => ?_)
          clear hK K
          refine wpAnyH_ready (rs := [6]) (by kernel_rfl) (by simp) (AllReadyH.cons rfl (fun K hK => ?_) AllReadyH.nil)
          go_simp
          refine hK.out _ _ trivial (fun hHeld1 => ?_)
          clear hK K
          refine wpAnyH_ready (rs := [7]) (by kernel_rfl) (by simp) (AllReadyH.cons rfl (fun K hK => ?_) AllReadyH.nil)
          rw [if_pos (by rfl)]
          refine app_op (.tmp 24) (.tmp 26) 66 9 rfl (.string ⟨#[]⟩) 1 16 Try.underlying66 info_string rfl (by decide) lv k (strs (List.replicate k (zeros 64))) (by rfl) (row_alloc HI2.out.hl _) (.slice (some ⟨w2.heap.size, 0, none⟩) 1 1) 1 [.string (zeros 64)] (by rfl) (Src.blk (Blk.new w2 9 #[.string (zeros 64)])) rfl (by simp [Value.oneCell']) (by unfold maxLen; omega) (by omega) ?_
          intro v' w3 hr hg hat
          obtain ⟨A2, c2, rfl, hc2⟩ := row_slice hr.out
          have hb3 := (HI2.out.hb.alloc (.cells #[.string (zeros 64)] 9)).grown hg.out (fun e => row_blk_ne HI2.out.hl HI2.out.hb (by decide) e.symm)
          have x0 := hb3.cell 0
          have f0 := hb3.frozen 0
          simp only [List.getElem?_toArray, List.getElem?_cons_zero] at x0
          have hs := hide (HI2.out.step (by rw [HQ.out]; exact Nat.le_refl _) hr.out hg.out hat.out)
          clear hb3 hr hg hat
          refine hK.out _ _ trivial (fun hHeld2 => ?_)
          clear hK K
          refine wpAnyH_more [8, 9] 1 rfl (by kernel_rfl) (by kernel_rfl) (fun _ _ d _ _ h => by cases d <;> exact h) trivial ?_
          iterate 2
            refine' Heads.step rfl (by rfl) ?_ ?_
            rotate_left
            · intro w' hSw
              go_simp
              try with_reducible rfl
            simp only [Act.put, List.setIfInBounds_toArray]
          refine Heads.done ?_
          refine wpAnyH_ready (rs := [10]) (by kernel_rfl) (by simp) (AllReadyH.cons rfl (fun K hK => ?_) AllReadyH.nil)
          go_simp
          refine hK.out _ _ trivial (fun hHeld3 => ?_)
          clear hK K
          refine wpAnyH_done (by kernel_rfl) ?_ _
          clear x0 f0 z2 z3 HI2
          go_wp2_with fail
          go_roundw
          case rel => exact ⟨k + 1, by omega, by go_num, hide ⟨_, hs.out⟩⟩
          case measure => simp [intOf]; omega
        · go_simp
          refine hK.out _ _ trivial (fun _ => ?_)
          clear hK K
          refine wpAnyH_ready (rs := [4]) (by kernel_rfl) (by simp) (AllReadyH.cons rfl (fun K hK => ?_) AllReadyH.nil)
          go_simp
          refine hK.out _ _ trivial (fun _ => ?_)
          clear hK K
          refine wpAnyH_ready (rs := [7]) (by kernel_rfl) (by simp) (AllReadyH.cons rfl (fun K hK => ?_) AllReadyH.nil)
          rw [if_pos (by rfl)]
          refine app_op (.tmp 24) (.tmp 26) 66 9 rfl (.string ⟨#[]⟩) 1 16 Try.underlying66 info_string rfl (by decide) lv k (strs (List.replicate k (zeros 64))) (by rfl) (row_alloc HI2.out.hl _) (.slice (some ⟨w2.heap.size, 0, none⟩) 1 1) 1 [.string (zeros 64)] (by rfl) (Src.blk (Blk.new w2 9 #[.string (zeros 64)])) rfl (by simp [Value.oneCell']) (by unfold maxLen; omega) (by omega) ?_
          intro v' w3 hr hg hat
          obtain ⟨A2, c2, rfl, hc2⟩ := row_slice hr.out
          have hb3 := (HI2.out.hb.alloc (.cells #[.string (zeros 64)] 9)).grown hg.out (fun e => row_blk_ne HI2.out.hl HI2.out.hb (by decide) e.symm)
          have x0 := hb3.cell 0
          have f0 := hb3.frozen 0
          simp only [List.getElem?_toArray, List.getElem?_cons_zero] at x0
          have hs := hide (HI2.out.step (by rw [HQ.out]; exact Nat.le_refl _) hr.out hg.out hat.out)
          clear hb3 hr hg hat
          refine hK.out _ _ trivial (fun hHeld1 => ?_)
          clear hK K
          refine wpAnyH_more [8, 9] 1 rfl (by kernel_rfl) (by kernel_rfl) (fun _ _ d _ _ h => by cases d <;> exact h) trivial ?_
          iterate 2
            refine' Heads.step rfl (by rfl) ?_ ?_
            rotate_left
            · intro w' hSw
              go_simp
              try with_reducible rfl
            simp only [Act.put, List.setIfInBounds_toArray]
          refine Heads.done ?_
          refine wpAnyH_ready (rs := [10]) (by kernel_rfl) (by simp) (AllReadyH.cons rfl (fun K hK => ?_) AllReadyH.nil)
          go_simp
          refine hK.out _ _ trivial (fun hHeld2 => ?_)
          clear hK K
          refine wpAnyH_done (by kernel_rfl) ?_ _
          clear x0 f0 z2 z3 HI2
          go_wp2_with fail
          go_roundw
          case rel => exact ⟨k + 1, by omega, by go_num, hide ⟨_, hs.out⟩⟩
          case measure => simp [intOf]; omega
    · obtain rfl : k = n := by omega
      have HI := hide hi
      clear hi hinv
      go_wp2_with fail
      go_ret2
      have hi := HI.out
      have hl : Row wr 9 1 lv (DiskM.new k).lasts.length (strs (DiskM.new k).lasts) := by
        have e : (DiskM.new k).lasts.length = k := by simp [DiskM.new]
        rw [e]
        exact hi.hl
      refine ⟨q, fun x => q ≤ x ∧ x < wr.heap.size, rfl, hi.bel, fun x hx => by rw [hq]; exact hx.1, lv, .slice none 0 0, hi.hb, hl, row_nil _ _ _, ⟨Nat.le_refl _, hi.hb.lt⟩, fun g hg => ⟨by have := hi.own g hg; omega, row_lt hi.hl g hg⟩, fun g hg => by simp [Value.ownBlock] at hg, fun x hx => hx.2, ⟨by simp [DiskM.new]; omega, by simp [DiskM.new]⟩, by simp [DiskM.new]⟩
end Go.Proofs.Ytmbkncckcpgdgaa
