/- The document's disk, in memory; its set, Fail and cut do what the model's fail and cut do. -/
import Derived.Test.YtpcceinjifdgnaaDiskE
import Derived.Test.YtpcceinjifdgnaaApp
import Derived.Test.YtpcceinjifdgnaaHeld
import Derived.WalkSmall
namespace Go.Proofs.Ytpcceinjifdgnaa
open Go.RowKit Zb

theorem rdset_calls {w : World} {lv : Value} {L : List ByteArray} (hl : Row w 9 1 lv L.length (strs L)) (i : Int) (s : ByteArray) (h0 : 0 ≤ i) (h1 : i < L.length) (hL : L.length ≤ 512) :
    Calls Try.prog 45 #[lv, .int .i64 i, .string s] w fun e w' => ∃ v', e = .returned v' ∧ Below w.heap.size w w' ∧ Row w' 9 1 v' L.length (strs (L.set i.toNat s)) ∧ OwnNew w v' := by
  obtain ⟨k, rfl⟩ : ∃ k : Nat, i = k := ⟨i.toNat, by omega⟩
  obtain ⟨A, c, rfl, hc⟩ := row_slice hl
  have h1N : k < L.length := by omega
  have HL := hide hl
  clear hl
  go_enter Try.func45, Try.ntmps45
  go_wp2_with (at_builtin; refine app_list rfl (.tmp 8) (.tmp 9) 52 9 rfl (.string ⟨#[]⟩) 1 16 Try.underlying52 info_string rfl (by decide) (.slice none 0 0) 0 [] (by rfl) (row_nil _ _ _) (.slice A L.length c) L.length (strs L) (by rfl) (Src.row HL.out) (by rw [strs_len, Nat.mul_one]) (by intro u hu; obtain ⟨x, _, rfl⟩ := List.mem_map.1 hu; rfl) (by unfold maxLen; omega) (by omega) ?_; intro v' w' hr hg hat; rw [Nat.zero_add, List.nil_append] at hr; obtain ⟨g, c2, rfl, hc2, hglt, hfz, hcell⟩ := row_form hr.out (by omega); have f1 := hfz k; have c1 : ∃ u, w'.cell? ⟨g, k, none⟩ = some u := ⟨_, (hcell k (by omega)).trans (strs_get _ _ h1N)⟩; obtain ⟨u1, c1⟩ := c1; clear hfz hcell)
  go_ret
  have hs := World.ownsRow.stored hr.out k (.string s)
  have hB : Below w.heap.size w w' := (Below.refl _ _).grown hg.out (Nat.le_refl _) (by simp [Value.ownBlock])
  have ho := own_new hat.out (Nat.le_refl w.heap.size)
  refine ⟨_, rfl, hB.setCell (ho g rfl) _, ?_, ho⟩
  rw [Int.toNat_natCast, strs_set]
  exact hs.1

/-- The document's disk D lies at block b; all its blocks are among F. -/
structure RRep (w : World) (b : Nat) (F : Nat → Prop) (D : DiskM) (lv wv : Value) : Prop where
  hb : Blk w b 55 #[lv, wv, .bool D.off, .int .i64 D.ops, .bool D.pon, .int .i64 D.after, .int .u64 D.mask]
  hl : Row w 9 1 lv D.lasts.length (strs D.lasts)
  hw : Row w 79 2 wv D.waits.length (wcells D.waits)
  Fb : F b
  Fl : ∀ g, lv.ownBlock = some g → F g
  Fw : ∀ g, wv.ownBlock = some g → F g
  Fx : ∀ x, F x → x < w.heap.size
  ok : D.Ok
  msk : 0 ≤ D.mask ∧ D.mask ≤ 18446744073709551615
def RAt (w : World) (b : Nat) (F : Nat → Prop) (D : DiskM) : Prop := ∃ lv wv, RRep w b F D lv wv
section
variable {w w1 : World} {b : Nat} {F : Nat → Prop} {D : DiskM} {lv wv : Value}
theorem RRep.moved (h : RRep w b F D lv wv) (hs : w.heap.size ≤ w1.heap.size) (hk : ∀ x, F x → w1.heap[x]? = w.heap[x]?) : RRep w1 b F D lv wv :=
  ⟨(hk _ h.Fb).trans h.hb, row_of h.hl fun g hg => hk g (h.Fl g hg), row_of h.hw fun g hg => hk g (h.Fw g hg), h.Fb, h.Fl, h.Fw, fun x hx => Nat.lt_of_lt_of_le (h.Fx x hx) hs, h.ok, h.msk⟩
theorem RAt.moved (h : RAt w b F D) (hs : w.heap.size ≤ w1.heap.size) (hk : ∀ x, F x → w1.heap[x]? = w.heap[x]?) : RAt w1 b F D := by
  obtain ⟨lv, wv, h⟩ := h
  exact ⟨lv, wv, h.moved hs hk⟩
theorem RAt.lt (h : RAt w b F D) (x : Nat) (hx : F x) : x < w.heap.size := by
  obtain ⟨_, _, h⟩ := h; exact h.Fx x hx
theorem RAt.turned {G : Nat → Prop} (h : RAt w b F D) (k : Turned G w w1) (hG : ∀ x, F x → ¬ G x) : RAt w1 b F D := h.moved k.size fun x hx => k.block x (h.lt x hx) (hG x hx)
theorem RAt.below (h : RAt w b F D) (k : Below w.heap.size w w1) : RAt w1 b F D := h.turned (Turned.of_below (F := fun _ => False) k) fun _ _ h => h
theorem RAt.ok (h : RAt w b F D) : D.Ok := by obtain ⟨_, _, h⟩ := h; exact h.ok
end
def RPost (F : Nat → Prop) (w : World) (b : Nat) (v : Value) (D' : DiskM) (e : Ending) (w' : World) : Prop :=
  e = .returned v ∧ Turned F w w' ∧ ∃ F', (∀ x, F' x → F x ∨ w.heap.size ≤ x) ∧ RAt w' b F' D'

theorem mask_test (m : Int) (h0 : 0 ≤ m) (h1 : m ≤ 18446744073709551615) (k : Nat) : (m / 2 ^ (k % 64) % 2 == 1) = maskBit m k := by
  have hp : (0 : Int) < 2 ^ (k % 64) := Int.pow_pos (by omega)
  have h2 : 0 ≤ m / 2 ^ (k % 64) := Int.ediv_nonneg h0 (by omega)
  have h3 : m / 2 ^ (k % 64) ≤ m := Int.ediv_le_self _ h0
  unfold maskBit
  rw [and_one_u64 _ h2 (by omega)]

/-- on the way through Fail's or Sync's loop -/
def RSet (F : Nat → Prop) (w : World) (b : Nat) (wv : Value) (D : DiskM) (f : Nat → Bool) (k : Nat) (wr : World) : Prop :=
  ∃ lv, Turned F w wr ∧ Blk wr b 55 #[lv, wv, .bool D.off, .int .i64 D.ops, .bool D.pon, .int .i64 D.after, .int .u64 D.mask] ∧
    Row wr 9 1 lv D.lasts.length (strs (settleTo f 0 (D.waits.take k) D.lasts)) ∧ Row wr 79 2 wv D.waits.length (wcells D.waits) ∧ (∀ g, lv.ownBlock = some g → F g ∨ w.heap.size ≤ g)
theorem set_keeps {w w2 : World} {b g k n cc : Nat} {i : Int} {s : ByteArray} {A : Option Addr} (h : w.cell? ⟨b, 1, none⟩ = some (.slice A n cc) ∧ w.cell? ⟨g, k * 2, none⟩ = some (.int .i64 i) ∧ w.cell? ⟨g, k * 2 + 1, none⟩ = some (.string s))
    (hb : Below w.heap.size w w2) (h1 : b < w.heap.size) (h2 : g < w.heap.size) : w2.cell? ⟨b, 1, none⟩ = some (.slice A n cc) ∧ w2.cell? ⟨g, k * 2, none⟩ = some (.int .i64 i) ∧ w2.cell? ⟨g, k * 2 + 1, none⟩ = some (.string s) :=
  ⟨(hb.cell (p := ⟨b, 1, none⟩) h1).trans h.1, (hb.cell (p := ⟨g, k * 2, none⟩) h2).trans h.2.1, (hb.cell (p := ⟨g, k * 2 + 1, none⟩) h2).trans h.2.2⟩
theorem set_store {w : World} {b g k n cc : Nat} {i : Int} {s : ByteArray} {A : Option Addr} (h : w.cell? ⟨b, 1, none⟩ = some (.slice A n cc) ∧ w.cell? ⟨g, k * 2, none⟩ = some (.int .i64 i) ∧ w.cell? ⟨g, k * 2 + 1, none⟩ = some (.string s)) (hgb : g ≠ b) {u : Value} :
    (w.setCell ⟨b, 0, none⟩ u).cell? ⟨b, 1, none⟩ = some (.slice A n cc) ∧ (w.setCell ⟨b, 0, none⟩ u).cell? ⟨g, k * 2, none⟩ = some (.int .i64 i) ∧ (w.setCell ⟨b, 0, none⟩ u).cell? ⟨g, k * 2 + 1, none⟩ = some (.string s) :=
  ⟨(World.cell?_setCell_other w _ _ _ (by simp)).trans h.1, (World.cell?_setCell_other w _ _ _ (by simp)).trans h.2.1, (World.cell?_setCell_other w _ _ _ (by simp)).trans h.2.2⟩
theorem RSet.step {F : Nat → Prop} {w : World} {b : Nat} {wv lv v2 : Value} {D : DiskM} {f : Nat → Bool} {k : Nat} {wr w2 : World} {i : Int} {s : ByteArray} (hF : F b)
    (tu : Turned F w wr) (hb : Blk wr b 55 #[lv, wv, .bool D.off, .int .i64 D.ops, .bool D.pon, .int .i64 D.after, .int .u64 D.mask]) (hw : Row wr 79 2 wv D.waits.length (wcells D.waits))
    (hp : D.waits[k]? = some (i, s)) (hf : f k = true) (hb2 : Below wr.heap.size wr w2) (hr2 : Row w2 9 1 v2 D.lasts.length (strs ((settleTo f 0 (D.waits.take k) D.lasts).set i.toNat s))) (ho : OwnNew wr v2) :
    RSet F w b wv D f (k + 1) (w2.setCell ⟨b, 0, none⟩ v2) := by
  have hB2 := hb.below hb2 hb.lt
  have hW2 := row_of hw (w' := w2) fun g hg => hb2.block g (row_lt hw g hg)
  have hk : k < D.waits.length := (List.getElem?_eq_some_iff.1 hp).1
  refine ⟨v2, (tu.then_below hb2).setCell (.inl hF) _, hB2.set_ 0 v2, ?_, row_set hW2 (row_blk_ne hW2 hB2 (by decide)) _, fun g hg => .inr ?_⟩
  · have e : D.waits.take (k + 1) = D.waits.take k ++ [(i, s)] := by rw [List.take_add_one, hp]; rfl
    rw [e, settleTo_snoc]
    simp only [List.length_take, Nat.zero_add, Nat.min_eq_left (Nat.le_of_lt hk), hf, if_true]
    exact row_set hr2 (row_blk_ne hr2 hB2 (by decide)) _
  · have := ho g hg
    have := tu.size
    omega
theorem RSet.skip {F : Nat → Prop} {w : World} {b : Nat} {wv : Value} {D : DiskM} {f : Nat → Bool} {k : Nat} {wr : World} {i : Int} {s : ByteArray} (h : RSet F w b wv D f k wr) (hp : D.waits[k]? = some (i, s)) (hf : f k = false) : RSet F w b wv D f (k + 1) wr := by
  obtain ⟨lv, h1, h2, h3, h4, h5⟩ := h
  refine ⟨lv, h1, h2, ?_, h4, h5⟩
  have hk : k < D.waits.length := (List.getElem?_eq_some_iff.1 hp).1
  have e : D.waits.take (k + 1) = D.waits.take k ++ [(i, s)] := by rw [List.take_add_one, hp]; rfl
  rw [e, settleTo_snoc]
  simp only [List.length_take, Nat.zero_add, Nat.min_eq_left (Nat.le_of_lt hk), hf]
  exact h3
end Go.Proofs.Ytpcceinjifdgnaa
