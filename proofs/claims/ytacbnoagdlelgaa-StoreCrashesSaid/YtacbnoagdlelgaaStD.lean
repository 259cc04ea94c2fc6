/- Chapter 7: a store and its disk in one word; what is asked of either. -/
import Derived.Test.YtacbnoagdlelgaaStC
namespace Go.Proofs.Ytacbnoagdlelgaa
open Go.RowKit Zb

set_option maxRecDepth 20000 in
theorem wl_waits : ∀ (bs : List ByteArray) (D : DiskM) (a : Nat), (writeLoop D a bs).1.waits.length ≤ D.waits.length + bs.length
  | [], D, a => by
    show D.sync.1.waits.length ≤ D.waits.length + 0
    unfold DiskM.sync
    split
    · exact Nat.le_refl _
    · split
      · unfold DiskM.cut
        split
        · exact Nat.le_refl _
        · split
          · exact Nat.le_refl _
          · unfold DiskM.fail
            split <;> simp
      · simp
  | x :: r, D, a => by
    show (if (D.write a x).2 = 0 then writeLoop (D.write a x).1 (a + 1) r else D.write a x).1.waits.length ≤ _
    have h := write_grows (D := D) a x
    split
    · have := wl_waits r (D.write a x).1 (a + 1)
      rw [List.length_cons]
      omega
    · rw [List.length_cons]; omega
set_option maxRecDepth 20000 in
theorem slot_waits (D : DiskM) (hl : D.lasts.length ≤ 512) (slot : Int) (t : ByteArray) : (slotWrite D slot t).1.waits.length ≤ D.waits.length + 300 := by
  unfold slotWrite
  split
  · exact Nat.le_add_right _ _
  · split
    · exact Nat.le_add_right _ _
    · next h =>
      refine Nat.le_trans (wl_waits _ _ _) ?_
      rw [blocksB_length]
      have h1 : slotN D ≤ 252 := by unfold slotN; omega
      have h2 : cntB t.size ≤ 252 := by unfold cntB; omega
      omega
set_option maxRecDepth 20000 in
theorem do_op {B : Nat} {w0 w : World} {b : Nat} {D D' : DiskM} {G : Nat → Prop} {f : FuncId} {args : Array Value} {v : Value} (h : DO B w0 w b D G) (hc : ∀ F, DiskAt w b F D → Calls Try.prog f args w (DPost F w b v D')) : Calls Try.prog f args w (DOPost B w0 w b D' G v) := by
  obtain ⟨F, hF, hG, hd⟩ := h.dk
  exact (hc F hd).mono fun e w' hp => DO.post h.bel h.le h.own hF hG hp
/-- the store S, in block s, over the disk D; G: blocks of the statement's own, s among them -/
structure STG (B : Nat) (w0 w : World) (b : Nat) (D : DiskM) (s : Nat) (S : StoreM) (wv : Value) (G : Nat → Prop) : Prop where
  own : DO B w0 w b D G
  gs : G s
  blk : Blk w s 48 (scells S (.pointer (some ⟨b, 0, none⟩)) wv).toArray
def WaitG (w : World) (o : Option KeptM) (wv : Value) (G : Nat → Prop) : Prop :=
  match o with
  | none => wv = .pointer none
  | some k => ∃ g, wv = .pointer (some ⟨g, 0, none⟩) ∧ G g ∧ Blk w g 45 k.cells.toArray
def ST (B : Nat) (w0 w : World) (b : Nat) (D : DiskM) (s : Nat) (S : StoreM) : Prop := ∃ wv G, STG B w0 w b D s S wv G ∧ WaitG w S.waits wv G
section
variable {B : Nat} {w0 w w' : World} {b s : Nat} {D D' : DiskM} {S : StoreM} {wv : Value} {G : Nat → Prop}
set_option maxRecDepth 20000 in
theorem STG.below (h : STG B w0 w b D s S wv G) (k : Below w.heap.size w w') : STG B w0 w' b D s S wv G := ⟨h.own.below k, h.gs, h.blk.below k h.blk.lt⟩
set_option maxRecDepth 20000 in
theorem STG.keep (h : STG B w0 w b D s S wv G) (ho : DO B w0 w' b D' G) (k : Keeps G w w') : STG B w0 w' b D' s S wv G := ⟨ho, h.gs, k.blk h.blk h.gs⟩
set_option maxRecDepth 20000 in
theorem WaitG.keep {o : Option KeptM} (h : WaitG w o wv G) (k : Keeps G w w') : WaitG w' o wv G := by
  cases o with
  | none => exact h
  | some q =>
    obtain ⟨g, rfl, hg, hb⟩ := h
    exact ⟨g, rfl, hg, k.blk hb hg⟩
set_option maxRecDepth 20000 in
theorem ST.below (h : ST B w0 w b D s S) (k : Below w.heap.size w w') : ST B w0 w' b D s S := by
  obtain ⟨wv, G, h1, h2⟩ := h
  exact ⟨wv, G, h1.below k, h2.keep (h1.own.keeps_below k)⟩
set_option maxRecDepth 20000 in
theorem ST.st (h : ST B w0 w b D s S) : StAt w s b S := by
  obtain ⟨wv, G, h1, h2⟩ := h
  refine ⟨wv, h1.blk, ?_⟩
  cases ho : S.waits with
  | none => rw [ho] at h2; exact h2
  | some q =>
    rw [ho] at h2
    obtain ⟨g, e, _, hb⟩ := h2
    exact ⟨g, e, hb⟩
set_option maxRecDepth 20000 in
theorem ST.bel (h : ST B w0 w b D s S) : Below B w0 w := by obtain ⟨_, _, h1, _⟩ := h; exact h1.own.bel
/-- something done to the disk alone -/
def STPost (B : Nat) (w0 : World) (b : Nat) (D' : DiskM) (s : Nat) (S : StoreM) (v : Value) (e : Ending) (w' : World) : Prop := e = .returned v ∧ Hid (ST B w0 w' b D' s S)
set_option maxRecDepth 20000 in
theorem st_op {f : FuncId} {args : Array Value} {v : Value} (h : ST B w0 w b D s S) (hc : ∀ F, DiskAt w b F D → Calls Try.prog f args w (DPost F w b v D')) : Calls Try.prog f args w (STPost B w0 b D' s S v) := by
  obtain ⟨wv, G, h1, h2⟩ := h
  refine (do_op h1.own hc).mono ?_
  rintro e w1 ⟨rfl, ho, hk⟩
  exact ⟨rfl, hide ⟨wv, G, h1.keep ho.out hk.out, h2.keep hk.out⟩⟩
/-- Open over a disk -/
theorem st_open (h : DO B w0 w b D G) (hf : Full64 D) (hW : D.waits.length ≤ 4294967290) : Calls Try.prog 8 #[.pointer (some ⟨b, 0, none⟩)] w fun r w' => Hid (Below w.heap.size w w') ∧ ((openE D = 0 ∧ ∃ s, r = .returned (.tuple #[.pointer (some ⟨s, 0, none⟩), .int .i64 0]) ∧ Hid (ST B w0 w' b D s (openS D))) ∨ (openE D ≠ 0 ∧ r = .returned (.tuple #[.pointer none, .int .i64 (openE D)]))) := by
  obtain ⟨F, hF, hG, hd⟩ := h.dk
  refine (tOpen_calls hd hf hW).mono ?_
  rintro r w1 ⟨hb, hr⟩
  refine ⟨hide hb, ?_⟩
  rcases hr with ⟨h0, s, rfl, hs, wv, hblk, hw⟩ | hr
  · refine .inl ⟨h0, s, rfl, hide ⟨wv, fun x => x = s, ⟨h.more (Turned.of_below hb) fun x hx => .inr ⟨by rw [hx]; exact hs, by rw [hx]; exact hblk.lt⟩, rfl, hblk⟩, ?_⟩⟩
    have e : (openS D).waits = none := by unfold openS; split <;> rfl
    rw [e] at hw ⊢
    exact hw
  · exact .inr hr
end
end Go.Proofs.Ytacbnoagdlelgaa
