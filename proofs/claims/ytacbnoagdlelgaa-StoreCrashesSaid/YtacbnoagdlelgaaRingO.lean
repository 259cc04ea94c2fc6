/- One disk of a statement's own beside blocks of the statement's own (G), which the disk's operations leave as they are. -/
import Derived.Test.YtacbnoagdlelgaaRingS
import Derived.Test.YtacbnoagdlelgaaApp
namespace Go.Proofs.Ytacbnoagdlelgaa
open Go.RowKit Zb

structure DO (B : Nat) (w0 w : World) (b : Nat) (D : DiskM) (G : Nat → Prop) : Prop where
  bel : Below B w0 w
  le : B ≤ w.heap.size
  own : ∀ x, G x → B ≤ x ∧ x < w.heap.size
  dk : ∃ F, (∀ x, F x → B ≤ x) ∧ (∀ x, G x → ¬ F x) ∧ DiskAt w b F D

section
variable {B b : Nat} {w0 w : World} {D : DiskM} {G : Nat → Prop}
def DOPost (B : Nat) (w0 w : World) (b : Nat) (D' : DiskM) (G : Nat → Prop) (v : Value) (e : Ending) (w' : World) : Prop := e = .returned v ∧ Hid (DO B w0 w' b D' G) ∧ Hid (Keeps G w w')
set_option maxRecDepth 20000 in
theorem DO.post {F : Nat → Prop} {v : Value} {D' : DiskM} {e : Ending} {w' : World} (h : Below B w0 w) (hB : B ≤ w.heap.size) (ho : ∀ x, G x → B ≤ x ∧ x < w.heap.size) (hF : ∀ x, F x → B ≤ x) (hG : ∀ x, G x → ¬ F x) (hp : DPost F w b v D' e w') : DOPost B w0 w b D' G v e w' := by
  obtain ⟨rfl, tu, F', hF', hd⟩ := hp
  refine ⟨rfl, ⟨h.trans (tu.below hB hF), Nat.le_trans hB tu.size, fun x hx => ⟨(ho x hx).1, Nat.lt_of_lt_of_le (ho x hx).2 tu.size⟩, F', fun x hx => by rcases hF' x hx with h | h; exact hF x h; omega, fun x hx hx' => ?_, hd⟩, fun x hx => tu.block x (ho x hx).2 (hG x hx)⟩
  rcases hF' x hx' with h | h
  · exact hG x hx h
  · have := (ho x hx).2; omega
set_option maxRecDepth 20000 in
theorem DO.below {w' : World} (h : DO B w0 w b D G) (k : Below w.heap.size w w') : DO B w0 w' b D G := by
  obtain ⟨F, hF, hG, hd⟩ := h.dk
  exact ⟨h.bel.trans (k.mono h.le), Nat.le_trans h.le k.size, fun x hx => ⟨(h.own x hx).1, Nat.lt_of_lt_of_le (h.own x hx).2 k.size⟩, F, hF, hG, hd.below k⟩
set_option maxRecDepth 20000 in
theorem DO.keeps_below {w' : World} (h : DO B w0 w b D G) (k : Below w.heap.size w w') : Keeps G w w' := fun x hx => k.block x (h.own x hx).2
set_option maxRecDepth 20000 in
theorem DO.alloc (h : DO B w0 w b D G) (o : Obj) : DO B w0 (w.alloc o) b D G := h.below ((Below.refl _ _).alloc (Nat.le_refl _) _)
set_option maxRecDepth 20000 in
theorem DO.drewN (h : DO B w0 w b D G) (n : Nat) : DO B w0 (w.drewN n) b D G := h.below ⟨rfl, rfl, rfl, Nat.le_refl _, fun _ _ => rfl⟩
set_option maxRecDepth 20000 in
theorem DO.drew (h : DO B w0 w b D G) : DO B w0 w.drew b D G := h.drewN 1
/-- what turns within G alone -/
theorem DO.turned {w' : World} (h : DO B w0 w b D G) (k : Turned G w w') : DO B w0 w' b D G := by
  obtain ⟨F, hF, hG, hd⟩ := h.dk
  exact ⟨h.bel.trans (k.below h.le (fun x hx => (h.own x hx).1)), Nat.le_trans h.le k.size, fun x hx => ⟨(h.own x hx).1, Nat.lt_of_lt_of_le (h.own x hx).2 k.size⟩, F, hF, hG, hd.turned k (fun x hx hg => hG x hg hx)⟩
set_option maxRecDepth 20000 in
theorem DO.setCell (h : DO B w0 w b D G) {p : Addr} (hp : G p.block) (u : Value) : DO B w0 (w.setCell p u) b D G := h.turned ((Turned.refl G w).setCell (.inl hp) u)
/-- new blocks of the statement's own: those that were made since w1 -/
theorem DO.more {w1 : World} {G' : Nat → Prop} (h : DO B w0 w1 b D G) (k : Turned G w1 w) (hG' : ∀ x, G' x → G x ∨ (w1.heap.size ≤ x ∧ x < w.heap.size)) : DO B w0 w b D G' := by
  have h' := h.turned k
  obtain ⟨F, hF, hG, hd⟩ := h.dk
  refine ⟨h'.bel, h'.le, fun x hx => ?_, F, hF, fun x hx hf => ?_, hd.turned k (fun x hx hg => hG x hg hx)⟩
  · rcases hG' x hx with h1 | h1
    · exact h'.own x h1
    · have := h.le; exact ⟨by omega, h1.2⟩
  · rcases hG' x hx with h1 | h1
    · exact hG x h1 hf
    · have := hd.lt x hf; omega
set_option maxRecDepth 20000 in
theorem DO.ok (h : DO B w0 w b D G) : D.Ok := by obtain ⟨F, _, _, hd⟩ := h.dk; exact hd.ok
set_option maxRecDepth 20000 in
theorem DO.of_ds (h : DS B w0 w b D) : DO B w0 w b D (fun _ => False) := by
  obtain ⟨h1, h2, F, hF, hd⟩ := h
  exact ⟨h1, h2, fun _ h => h.elim, F, hF, fun _ h => h.elim, hd⟩

set_option maxRecDepth 20000 in
theorem do_write (h : Hid (DO B w0 w b D G)) (hW : D.waits.length ≤ 4294967290) (i : Int) (s : ByteArray) :
    Calls Try.prog 43 #[.pointer (some ⟨b, 0, none⟩), .int .i64 i, .string s] w (DOPost B w0 w b (D.write i s).1 G (.int .i64 (D.write i s).2)) := by
  obtain ⟨F, hF, hG, hd⟩ := h.out.dk
  exact (dwrite_calls hd hW i s).mono fun e w' hp => DO.post h.out.bel h.out.le h.out.own hF hG hp
set_option maxRecDepth 20000 in
theorem do_sync (h : Hid (DO B w0 w b D G)) (hW : D.waits.length ≤ 4294967290) :
    Calls Try.prog 45 #[.pointer (some ⟨b, 0, none⟩)] w (DOPost B w0 w b D.sync.1 G (.int .i64 D.sync.2)) := by
  obtain ⟨F, hF, hG, hd⟩ := h.out.dk
  exact (dsync_calls hd hW).mono fun e w' hp => DO.post h.out.bel h.out.le h.out.own hF hG hp
set_option maxRecDepth 20000 in
theorem do_fail (h : Hid (DO B w0 w b D G)) (hW : D.waits.length ≤ 4294967290) (m : Int) :
    Calls Try.prog 17 #[.pointer (some ⟨b, 0, none⟩), .int .u64 m] w (DOPost B w0 w b (D.fail m) G (.tuple #[])) := by
  obtain ⟨F, hF, hG, hd⟩ := h.out.dk
  exact (dfail_calls hd m (by omega)).mono fun e w' hp => DO.post h.out.bel h.out.le h.out.own hF hG hp
set_option maxRecDepth 20000 in
theorem do_plan (h : Hid (DO B w0 w b D G)) (k m : Int) :
    Calls Try.prog 15 #[.pointer (some ⟨b, 0, none⟩), .int .i64 k, .int .u64 m] w (DOPost B w0 w b (D.plan k m).1 G (.int .i64 (D.plan k m).2)) := by
  obtain ⟨F, hF, hG, hd⟩ := h.out.dk
  exact (dplan_calls hd k m).mono fun e w' hp => DO.post h.out.bel h.out.le h.out.own hF hG hp
set_option maxRecDepth 20000 in
theorem do_start (h : Hid (DO B w0 w b D G)) :
    Calls Try.prog 18 #[.pointer (some ⟨b, 0, none⟩)] w (DOPost B w0 w b D.start G (.tuple #[])) := by
  obtain ⟨F, hF, hG, hd⟩ := h.out.dk
  exact (dstart_calls hd).mono fun e w' hp => DO.post h.out.bel h.out.le h.out.own hF hG hp
set_option maxRecDepth 20000 in
theorem do_scan (h : Hid (DO B w0 w b D G)) (hW : D.waits.length ≤ 4294967290) : Calls Try.prog 35 #[.pointer (some ⟨b, 0, none⟩)] w (ScanPost 59 w D) := by
  obtain ⟨F, hF, hG, hd⟩ := h.out.dk
  exact eScan_calls hd hW
set_option maxRecDepth 20000 in
theorem do_last (h : Hid (DO B w0 w b D G)) (hW : D.waits.length ≤ 4294967290) : Calls Try.prog 21 #[.pointer (some ⟨b, 0, none⟩)] w (LastPost w D) := by
  obtain ⟨F, hF, hG, hd⟩ := h.out.dk
  exact eLast_calls hd hW
set_option maxRecDepth 20000 in
theorem do_append (h : Hid (DO B w0 w b D G)) (hW : D.waits.length ≤ 4294967200) (e : EntM) : Calls Try.prog 28 #[.pointer (some ⟨b, 0, none⟩), .agg #[.int .i64 e.kind, .int .i64 e.number, .int .i64 e.slot, .int .i64 e.size, .string e.sum]] w
    (DOPost B w0 w b (appendM D e).1 G (.tuple #[.agg (appendM D e).2.1.cells.toArray, .int .i64 (appendM D e).2.2])) := by
  obtain ⟨F, hF, hG, hd⟩ := h.out.dk
  exact (eAppend_calls hd hW e).mono fun r w' hp => DO.post h.out.bel h.out.le h.out.own hF hG hp
/-- all that was made since w1 is the statement's own -/
theorem DO.fresh {w1 : World} (h : DO B w0 w1 b D G) (k : Turned G w1 w) : DO B w0 w b D (fun x => G x ∨ (w1.heap.size ≤ x ∧ x < w.heap.size)) := h.more k fun _ hx => hx
set_option maxRecDepth 20000 in
theorem DO.fewer {G' : Nat → Prop} (h : DO B w0 w b D G) (hG : ∀ x, G' x → G x) : DO B w0 w b D G' := by
  obtain ⟨F, hF, hg, hd⟩ := h.dk
  exact ⟨h.bel, h.le, fun x hx => h.own x (hG x hx), F, hF, fun x hx => hg x (hG x hx), hd⟩
end
end Go.Proofs.Ytacbnoagdlelgaa
