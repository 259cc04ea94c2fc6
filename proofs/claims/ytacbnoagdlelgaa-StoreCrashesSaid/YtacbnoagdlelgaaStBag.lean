/- Chapter 7: a store, its disk, and blocks that are kept, in one word. -/
import Derived.Test.YtacbnoagdlelgaaStD
namespace Go.Proofs.Ytacbnoagdlelgaa
open Go.RowKit Zb

structure Bag (B : Nat) (w0 w : World) (b : Nat) (D : DiskM) (s : Nat) (S : StoreM) (wv : Value) (L : List (Nat × TypeId × Array Value)) : Prop where
  ex : ∃ G, STG B w0 w b D s S wv G ∧ ∀ p ∈ L, G p.1 ∧ Blk w p.1 p.2.1 p.2.2
section
variable {B : Nat} {w0 w w' : World} {b s : Nat} {D D' : DiskM} {S S' : StoreM} {wv wv' : Value} {L : List (Nat × TypeId × Array Value)}
set_option maxRecDepth 20000 in
theorem Bag.blk (h : Bag B w0 w b D s S wv L) : Blk w s 48 (scells S (.pointer (some ⟨b, 0, none⟩)) wv).toArray := by obtain ⟨G, h1, _⟩ := h; exact h1.blk
set_option maxRecDepth 20000 in
theorem Bag.get (h : Bag B w0 w b D s S wv L) {g : Nat} {t : TypeId} {cs : Array Value} (hp : (g, t, cs) ∈ L) : Blk w g t cs := by obtain ⟨G, _, h2⟩ := h; exact (h2 _ hp).2
set_option maxRecDepth 20000 in
theorem Bag.below (h : Bag B w0 w b D s S wv L) (k : Below w.heap.size w w') : Bag B w0 w' b D s S wv L := by
  obtain ⟨G, h1, h2⟩ := h
  exact ⟨G, h1.below k, fun p hp => ⟨(h2 p hp).1, (h2 p hp).2.below k (h2 p hp).2.lt⟩⟩
set_option maxRecDepth 20000 in
theorem Bag.drew (h : Bag B w0 w b D s S wv L) : Bag B w0 w.drew b D s S wv L := h.below (Below.refl _ _).drew
set_option maxRecDepth 20000 in
theorem Bag.alloc (h : Bag B w0 w b D s S wv L) (t : TypeId) (cs : Array Value) : Bag B w0 (w.alloc (.cells cs t)) b D s S wv ((w.heap.size, t, cs) :: L) := by
  obtain ⟨G, h1, h2⟩ := h
  have k : Below w.heap.size w (w.alloc (.cells cs t)) := (Below.refl _ _).alloc (Nat.le_refl _) _
  refine ⟨fun y => G y ∨ y = w.heap.size, ⟨h1.own.more (Turned.of_below k) fun y hy => ?_, .inl h1.gs, h1.blk.alloc _⟩, fun p hp => ?_⟩
  · rcases hy with hy | hy
    · exact .inl hy
    · exact .inr ⟨Nat.le_of_eq hy.symm, by rw [hy]; exact (Blk.new w t cs).lt⟩
  · rcases List.mem_cons.1 hp with rfl | hp
    · exact ⟨.inr rfl, Blk.new w t cs⟩
    · exact ⟨.inl (h2 p hp).1, (h2 p hp).2.alloc _⟩
set_option maxRecDepth 20000 in
theorem Bag.op {f : FuncId} {args : Array Value} {v : Value} (h : Bag B w0 w b D s S wv L) (hc : ∀ F, DiskAt w b F D → Calls Try.prog f args w (DPost F w b v D')) : Calls Try.prog f args w fun e w' => e = .returned v ∧ Hid (Bag B w0 w' b D' s S wv L) := by
  obtain ⟨G, h1, h2⟩ := h
  refine (do_op h1.own hc).mono ?_
  rintro e w1 ⟨rfl, ho, hk⟩
  exact ⟨rfl, hide ⟨G, h1.keep ho.out hk.out, fun p hp => ⟨(h2 p hp).1, hk.out.blk (h2 p hp).2 (h2 p hp).1⟩⟩⟩
/-- a store into the newest of the kept blocks, which is then forgotten -/
theorem Bag.row {g : Nat} {t : TypeId} {cs : Array Value} (h : Bag B w0 w b D s S wv ((g, t, cs) :: L)) (ht : t ≠ 48) (hL : ∀ p ∈ L, p.2.1 ≠ t) (cs' : Array Value) : Bag B w0 (w.setRow g cs') b D s S wv L := by
  obtain ⟨G, h1, h2⟩ := h
  have hg := h2 _ (List.mem_cons_self ..)
  have tu : Turned G w (w.setRow g cs') := ⟨rfl, rfl, rfl, Nat.le_of_eq (setRow_size _ _ _).symm, fun i _ hF => setRow_other _ _ _ _ (fun e => hF (by rw [e]; exact hg.1))⟩
  refine ⟨G, ⟨h1.own.turned tu, h1.gs, (setRow_other _ _ _ _ (h1.blk.ne_ hg.2 (fun e => ht e.symm))).trans h1.blk⟩, fun p hp => ?_⟩
  have hp' := h2 p (List.mem_cons_of_mem _ hp)
  exact ⟨hp'.1, (setRow_other _ _ _ _ (hp'.2.ne_ hg.2 (hL p hp))).trans hp'.2⟩
/-- the same, but the block is kept, with what it has now -/
theorem Bag.rowK {g : Nat} {t : TypeId} {cs : Array Value} (h : Bag B w0 w b D s S wv ((g, t, cs) :: L)) (ht : t ≠ 48) (hL : ∀ p ∈ L, p.2.1 ≠ t) (cs' : Array Value) : Bag B w0 (w.setRow g cs') b D s S wv ((g, t, cs') :: L) := by
  obtain ⟨G, h1, h2⟩ := h
  have hg := h2 _ (List.mem_cons_self ..)
  have tu : Turned G w (w.setRow g cs') := ⟨rfl, rfl, rfl, Nat.le_of_eq (setRow_size _ _ _).symm, fun i _ hF => setRow_other _ _ _ _ (fun e => hF (by rw [e]; exact hg.1))⟩
  refine ⟨G, ⟨h1.own.turned tu, h1.gs, (setRow_other _ _ _ _ (h1.blk.ne_ hg.2 (fun e => ht e.symm))).trans h1.blk⟩, fun p hp => ?_⟩
  rcases List.mem_cons.1 hp with rfl | hp
  · exact ⟨hg.1, setRow_heap _ _ _ _ _ _ hg.2⟩
  · have hp' := h2 p (List.mem_cons_of_mem _ hp)
    exact ⟨hp'.1, (setRow_other _ _ _ _ (hp'.2.ne_ hg.2 (hL p hp))).trans hp'.2⟩
/-- a store into a cell of the Store -/
theorem Bag.cell (h : Bag B w0 w b D s S wv L) (i : Nat) (u : Value) (hS : ((scells S (.pointer (some ⟨b, 0, none⟩)) wv).toArray.setIfInBounds i u) = (scells S' (.pointer (some ⟨b, 0, none⟩)) wv').toArray) (hL : ∀ p ∈ L, p.2.1 ≠ 48) : Bag B w0 (w.setCell ⟨s, i, none⟩ u) b D s S' wv' L := by
  obtain ⟨G, h1, h2⟩ := h
  exact ⟨G, ⟨h1.own.setCell (p := ⟨s, i, none⟩) h1.gs u, h1.gs, hS ▸ h1.blk.set_ i u⟩, fun p hp => ⟨(h2 p hp).1, (h2 p hp).2.far (p := ⟨s, i, none⟩) ((h2 p hp).2.ne_ h1.blk (hL p hp)) u⟩⟩
set_option maxRecDepth 20000 in
theorem Bag.of (h : ST B w0 w b D s S) : (S.waits = none ∧ Bag B w0 w b D s S (.pointer none) []) ∨ ∃ k g, S.waits = some k ∧ Bag B w0 w b D s S (.pointer (some ⟨g, 0, none⟩)) [(g, 45, k.cells.toArray)] := by
  obtain ⟨wv, G, h1, h2⟩ := h
  cases ho : S.waits with
  | none =>
    rw [ho] at h2
    obtain rfl : wv = .pointer none := h2
    exact .inl ⟨rfl, G, h1, fun p hp => by simp at hp⟩
  | some k =>
    rw [ho] at h2
    obtain ⟨g, rfl, hg, hb⟩ := h2
    refine .inr ⟨k, g, rfl, G, h1, fun p hp => ?_⟩
    have e : p = (g, 45, k.cells.toArray) := by simpa using hp
    rw [e]
    exact ⟨hg, hb⟩
set_option maxRecDepth 20000 in
theorem Bag.toNone (h : Bag B w0 w b D s S (.pointer none) L) (hS : S.waits = none) : ST B w0 w b D s S := by
  obtain ⟨G, h1, _⟩ := h
  exact ⟨_, G, h1, by rw [hS]; rfl⟩
set_option maxRecDepth 20000 in
theorem Bag.toSome {g : Nat} {k : KeptM} (h : Bag B w0 w b D s S (.pointer (some ⟨g, 0, none⟩)) ((g, 45, k.cells.toArray) :: L)) (hS : S.waits = some k) : ST B w0 w b D s S := by
  obtain ⟨G, h1, h2⟩ := h
  have hg := h2 _ (List.mem_cons_self ..)
  exact ⟨_, G, h1, by rw [hS]; exact ⟨g, rfl, hg.1, hg.2⟩⟩
set_option maxRecDepth 20000 in
theorem Bag.less {p : Nat × TypeId × Array Value} (h : Bag B w0 w b D s S wv (p :: L)) : Bag B w0 w b D s S wv L := by
  obtain ⟨G, h1, h2⟩ := h
  exact ⟨G, h1, fun q hq => h2 q (List.mem_cons_of_mem _ hq)⟩
set_option maxRecDepth 20000 in
theorem Bag.sub {L' : List (Nat × TypeId × Array Value)} (h : Bag B w0 w b D s S wv L) (hs : ∀ p ∈ L', p ∈ L) : Bag B w0 w b D s S wv L' := by
  obtain ⟨G, h1, h2⟩ := h
  exact ⟨G, h1, fun q hq => h2 q (hs q hq)⟩
/-- the store with what waits, beside blocks that are kept -/
def BST (B : Nat) (w0 w : World) (b : Nat) (D : DiskM) (s : Nat) (S : StoreM) (L0 : List (Nat × TypeId × Array Value)) : Prop :=
  (S.waits = none ∧ Bag B w0 w b D s S (.pointer none) L0) ∨ ∃ k g, S.waits = some k ∧ Bag B w0 w b D s S (.pointer (some ⟨g, 0, none⟩)) ((g, 45, k.cells.toArray) :: L0)
def Odd3 (L0 : List (Nat × TypeId × Array Value)) : Prop := ∀ p ∈ L0, p.2.1 ≠ 48 ∧ p.2.1 ≠ 45 ∧ p.2.1 ≠ 59
set_option maxRecDepth 20000 in
theorem kept_ne {L0 : List (Nat × TypeId × Array Value)} (h : Odd3 L0) {g : Nat} {cs : Array Value} : ∀ p ∈ (g, 45, cs) :: L0, p.2.1 ≠ 59 := fun p hp => by
  rcases List.mem_cons.1 hp with rfl | hp
  · show (45 : Nat) ≠ 59
    decide
  · exact (h p hp).2.2
set_option maxRecDepth 20000 in
theorem kept_st {L0 : List (Nat × TypeId × Array Value)} (h : Odd3 L0) {g : Nat} {cs : Array Value} : ∀ p ∈ (g, 45, cs) :: L0, p.2.1 ≠ 48 := fun p hp => by
  rcases List.mem_cons.1 hp with rfl | hp
  · show (45 : Nat) ≠ 48
    decide
  · exact (h p hp).1
set_option maxRecDepth 20000 in
theorem BST.bag {L0 : List (Nat × TypeId × Array Value)} (h : BST B w0 w b D s S L0) : ∃ wv, Bag B w0 w b D s S wv L0 := by
  rcases h with ⟨_, h⟩ | ⟨k, g, _, h⟩
  · exact ⟨_, h⟩
  · exact ⟨_, h.less⟩
set_option maxRecDepth 20000 in
theorem BST.get {L0 : List (Nat × TypeId × Array Value)} (h : BST B w0 w b D s S L0) {g : Nat} {t : TypeId} {cs : Array Value} (hp : (g, t, cs) ∈ L0) : Blk w g t cs := by
  obtain ⟨_, h⟩ := h.bag
  exact h.get hp
set_option maxRecDepth 20000 in
theorem BST.below {L0 : List (Nat × TypeId × Array Value)} (h : BST B w0 w b D s S L0) (k : Below w.heap.size w w') : BST B w0 w' b D s S L0 := by
  rcases h with ⟨h0, h⟩ | ⟨q, g, h0, h⟩
  · exact .inl ⟨h0, h.below k⟩
  · exact .inr ⟨q, g, h0, h.below k⟩
set_option maxRecDepth 20000 in
theorem BST.alloc {L0 : List (Nat × TypeId × Array Value)} (h : BST B w0 w b D s S L0) (t : TypeId) (cs : Array Value) : BST B w0 (w.alloc (.cells cs t)) b D s S ((w.heap.size, t, cs) :: L0) := by
  rcases h with ⟨h0, h⟩ | ⟨q, g, h0, h⟩
  · exact .inl ⟨h0, h.alloc t cs⟩
  · refine .inr ⟨q, g, h0, (h.alloc t cs).sub fun p hp => ?_⟩
    rcases List.mem_cons.1 hp with rfl | hp
    · exact List.mem_cons_of_mem _ (List.mem_cons_self ..)
    · rcases List.mem_cons.1 hp with rfl | hp
      · exact List.mem_cons_self ..
      · exact List.mem_cons_of_mem _ (List.mem_cons_of_mem _ hp)
set_option maxRecDepth 20000 in
theorem BST.st {L0 : List (Nat × TypeId × Array Value)} (h : BST B w0 w b D s S L0) : ST B w0 w b D s S := by
  rcases h with ⟨h0, h⟩ | ⟨q, g, h0, h⟩
  · exact Bag.toNone h h0
  · exact Bag.toSome (h.sub fun p hp => hp) h0
set_option maxRecDepth 20000 in
theorem BST.of (h : ST B w0 w b D s S) : BST B w0 w b D s S [] := by
  rcases Bag.of h with ⟨h0, h⟩ | ⟨k, g, h0, h⟩
  · exact .inl ⟨h0, h⟩
  · exact .inr ⟨k, g, h0, h⟩
set_option maxRecDepth 20000 in
theorem BST.op {L0 : List (Nat × TypeId × Array Value)} {f : FuncId} {args : Array Value} {v : Value} (h : BST B w0 w b D s S L0) (hc : ∀ F, DiskAt w b F D → Calls Try.prog f args w (DPost F w b v D')) : Calls Try.prog f args w fun e w' => e = .returned v ∧ Hid (BST B w0 w' b D' s S L0) := by
  rcases h with ⟨h0, h⟩ | ⟨q, g, h0, h⟩
  · refine (h.op hc).mono ?_
    rintro e w1 ⟨rfl, h1⟩
    exact ⟨rfl, hide (.inl ⟨h0, h1.out⟩)⟩
  · refine (h.op hc).mono ?_
    rintro e w1 ⟨rfl, h1⟩
    exact ⟨rfl, hide (.inr ⟨q, g, h0, h1.out⟩)⟩
set_option maxRecDepth 20000 in
theorem Bag.free (h : Bag B w0 w b D s S wv L) : Bag B w0 w b D s S wv [] := by
  obtain ⟨G, h1, _⟩ := h
  exact ⟨G, h1, fun p hp => by simp at hp⟩
end
end Go.Proofs.Ytacbnoagdlelgaa
