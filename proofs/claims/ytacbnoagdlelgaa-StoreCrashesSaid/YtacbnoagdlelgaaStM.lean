/- Chapter 7: the store as a model in plain Lean. No program's text. -/
import Derived.Test.YtacbnoagdlelgaaRingX
import Derived.Test.YtacbnoagdlelgaaSlotP
namespace Go.Proofs.Ytacbnoagdlelgaa
open Go.RowKit Zb

structure KeptM where
  slot : Int
  text : ByteArray
  sum : ByteArray
def KeptM.none : KeptM := ⟨2, ⟨#[]⟩, zeros 32⟩
def KeptM.zero : KeptM := ⟨0, ⟨#[]⟩, ⟨#[]⟩⟩
def KeptM.entry (k : KeptM) (kind : Int) : EntM := ⟨kind, 0, k.slot, k.text.size, k.sum⟩
def KeptM.cells (k : KeptM) : List Value := [.int .i64 k.slot, .string k.text, .string k.sum]
structure StoreM where
  k : KeptM
  odd : Bool
  waits : Option KeptM
def digB (s : ByteArray) : ByteArray := ⟨(digW s.data.toList).toArray⟩
/-- what an entry tells -/
def readK (D : DiskM) (x : EntM) : KeptM × Bool × Int :=
  if (slotRead D x.slot x.size).2 = 7 then (KeptM.none, false, 7)
  else if (slotRead D x.slot x.size).2 ≠ 0 ∨ digB (slotRead D x.slot x.size).1 ≠ x.sum then (KeptM.none, false, 0)
  else (⟨x.slot, (slotRead D x.slot x.size).1, x.sum⟩, true, 0)
def openE (D : DiskM) : Int :=
  if scanE D ≠ 0 then scanE D else if lastIs D = false ∨ (lastM D).slot = 2 then 0 else (readK D (lastM D)).2.2
def openS (D : DiskM) : StoreM :=
  if lastIs D = false ∨ (lastM D).slot = 2 then ⟨KeptM.none, false, none⟩ else ⟨(readK D (lastM D)).1, !(readK D (lastM D)).2.1, none⟩
def otherS (S : StoreM) : Int := if S.k.slot = 0 then 1 else 0
def textS (S : StoreM) : ByteArray × Bool := if S.k.slot = 2 then (⟨#[]⟩, false) else (S.k.text, true)
def StoreM.shut (S : StoreM) : StoreM := { S with waits := none }
def StoreM.wait (S : StoreM) (k : KeptM) : StoreM := { S with waits := some k }
def nextK (S : StoreM) (t : ByteArray) : KeptM := ⟨otherS S, t, digB t⟩
/-- Prepare: the store, the disk, what is wrong -/
def prepareS (S : StoreM) (D : DiskM) (t : ByteArray) : StoreM × DiskM × Int :=
  if (slotWrite D (otherS S) t).2 ≠ 0 then (S.shut, (slotWrite D (otherS S) t).1, (slotWrite D (otherS S) t).2)
  else if (appendM (slotWrite D (otherS S) t).1 (S.k.entry 1)).2.2 ≠ 0 then (S.shut, (appendM (slotWrite D (otherS S) t).1 (S.k.entry 1)).1, (appendM (slotWrite D (otherS S) t).1 (S.k.entry 1)).2.2)
  else (S.wait (nextK S t), (appendM (slotWrite D (otherS S) t).1 (S.k.entry 1)).1, 0)
def commitS (S : StoreM) (D : DiskM) : StoreM × DiskM × Int :=
  match S.waits with
  | none => (S, D, 8)
  | some k => if (appendM D (k.entry 2)).2.2 ≠ 0 then (S.shut, (appendM D (k.entry 2)).1, (appendM D (k.entry 2)).2.2) else (⟨k, false, none⟩, (appendM D (k.entry 2)).1, 0)
def dropS (S : StoreM) (D : DiskM) : StoreM × DiskM × Int :=
  match S.waits with
  | none => (S, D, 8)
  | some _ => (S.shut, (appendM D (S.k.entry 3)).1, (appendM D (S.k.entry 3)).2.2)

/-! ### memory -/
def scells (S : StoreM) (dv wv : Value) : List Value := [.int .i64 S.k.slot, .string S.k.text, .string S.k.sum, dv, .bool S.odd, wv]
def WaitAt (w : World) (o : Option KeptM) (wv : Value) : Prop :=
  match o with
  | none => wv = .pointer none
  | some k => ∃ g, wv = .pointer (some ⟨g, 0, none⟩) ∧ Blk w g 45 k.cells.toArray
/-- The store S over the disk at b, in block s. -/
def StAt (w : World) (s b : Nat) (S : StoreM) : Prop := ∃ wv, Blk w s 48 (scells S (.pointer (some ⟨b, 0, none⟩)) wv).toArray ∧ WaitAt w S.waits wv
set_option maxRecDepth 20000 in
theorem WaitAt.of_block {w w' : World} {o : Option KeptM} {wv : Value} (h : WaitAt w o wv) (hk : ∀ g, wv = .pointer (some ⟨g, 0, none⟩) → w'.heap[g]? = w.heap[g]?) : WaitAt w' o wv := by
  cases o with
  | none => exact h
  | some k =>
    obtain ⟨g, rfl, hb⟩ := h
    exact ⟨g, rfl, (hk g rfl).trans hb⟩
set_option maxRecDepth 20000 in
theorem StAt.below {w w' : World} {s b : Nat} {S : StoreM} (h : StAt w s b S) (k : Below w.heap.size w w') : StAt w' s b S := by
  obtain ⟨wv, hb, hw⟩ := h
  refine ⟨wv, hb.below k hb.lt, ?_⟩
  cases ho : S.waits with
  | none => rw [ho] at hw; exact hw
  | some q =>
    rw [ho] at hw
    obtain ⟨g, rfl, hg⟩ := hw
    exact ⟨g, rfl, hg.below k hg.lt⟩
set_option maxRecDepth 20000 in
theorem st_cells {w : World} {s : Nat} {S : StoreM} {dv wv : Value} (h : Blk w s 48 (scells S dv wv).toArray) : w.cell? ⟨s, 0, none⟩ = some (.int .i64 S.k.slot) ∧ w.cell? ⟨s, 1, none⟩ = some (.string S.k.text) ∧ w.cell? ⟨s, 2, none⟩ = some (.string S.k.sum) ∧ w.cell? ⟨s, 3, none⟩ = some dv ∧ w.cell? ⟨s, 4, none⟩ = some (.bool S.odd) ∧ w.cell? ⟨s, 5, none⟩ = some wv :=
  ⟨h.cell 0, h.cell 1, h.cell 2, h.cell 3, h.cell 4, h.cell 5⟩
end Go.Proofs.Ytacbnoagdlelgaa
