/- One disk of a statement's own: all that the statement carries along of it in one word. -/
import Derived.Test.YtacbnoagdlelgaaFull
namespace Go.Proofs.Ytacbnoagdlelgaa
open Go.RowKit Zb

/-- Below B nothing has turned since w0; the disk D lies at b, from B on. -/
def DS (B : Nat) (w0 w : World) (b : Nat) (D : DiskM) : Prop := Below B w0 w ∧ B ≤ w.heap.size ∧ ∃ F, (∀ x, F x → B ≤ x) ∧ DiskAt w b F D

section
variable {B b : Nat} {w0 w : World} {D : DiskM}
set_option maxRecDepth 20000 in
theorem DS.post {F : Nat → Prop} {v : Value} {D' : DiskM} {e : Ending} {w' : World} (h : Below B w0 w) (hB : B ≤ w.heap.size) (hF : ∀ x, F x → B ≤ x) (hp : DPost F w b v D' e w') : e = .returned v ∧ Hid (DS B w0 w' b D') := by
  obtain ⟨rfl, tu, F', hF', hd⟩ := hp
  exact ⟨rfl, h.trans (tu.below hB hF), Nat.le_trans hB tu.size, F', fun x hx => by rcases hF' x hx with h | h; exact hF x h; omega, hd⟩
set_option maxRecDepth 20000 in
theorem DS.below {w' : World} (h : DS B w0 w b D) (k : Below w.heap.size w w') : DS B w0 w' b D := by
  obtain ⟨h1, h2, F, hF, hd⟩ := h
  exact ⟨h1.trans (k.mono h2), Nat.le_trans h2 k.size, F, hF, hd.below k⟩
set_option maxRecDepth 20000 in
theorem DS.alloc (h : DS B w0 w b D) (o : Obj) : DS B w0 (w.alloc o) b D := h.below ((Below.refl _ _).alloc (Nat.le_refl _) _)
set_option maxRecDepth 20000 in
theorem DS.drewN (h : DS B w0 w b D) (n : Nat) : DS B w0 (w.drewN n) b D := h.below ⟨rfl, rfl, rfl, Nat.le_refl _, fun _ _ => rfl⟩
set_option maxRecDepth 20000 in
theorem DS.drew (h : DS B w0 w b D) : DS B w0 w.drew b D := h.drewN 1
/-- a store into a block that is not the disk's: one of the caller's own -/
theorem DS.ok (h : DS B w0 w b D) : D.Ok := by obtain ⟨_, _, F, _, hd⟩ := h; exact hd.ok

set_option maxRecDepth 20000 in
theorem ds_new (n : Nat) (h0 : 16 ≤ n) (h1 : n ≤ 512) (hb : Below B w0 w) (hB : B ≤ w.heap.size) :
    Calls Try.prog 7 #[.int .i64 n] w fun e w' => ∃ b, e = .returned (.tuple #[.pointer (some ⟨b, 0, none⟩), .int .i64 0]) ∧ Hid (DS B w0 w' b (DiskM.new n)) := by
  refine (dnew_calls n h0 h1 w).mono ?_
  rintro e w' ⟨b, F, rfl, hbl, hF, hd⟩
  exact ⟨b, rfl, hb.trans (hbl.mono hB), Nat.le_trans hB hbl.size, F, fun x hx => Nat.le_trans hB (hF x hx), hd⟩
set_option maxRecDepth 20000 in
theorem ds_write (h : Hid (DS B w0 w b D)) (hW : D.waits.length ≤ 4294967290) (i : Int) (s : ByteArray) :
    Calls Try.prog 43 #[.pointer (some ⟨b, 0, none⟩), .int .i64 i, .string s] w fun e w' => e = .returned (.int .i64 (D.write i s).2) ∧ Hid (DS B w0 w' b (D.write i s).1) := by
  obtain ⟨h1, h2, F, hF, hd⟩ := h
  exact (dwrite_calls hd hW i s).mono fun e w' hp => DS.post h1 h2 hF hp
set_option maxRecDepth 20000 in
theorem ds_sync (h : Hid (DS B w0 w b D)) (hW : D.waits.length ≤ 4294967290) :
    Calls Try.prog 45 #[.pointer (some ⟨b, 0, none⟩)] w fun e w' => e = .returned (.int .i64 D.sync.2) ∧ Hid (DS B w0 w' b D.sync.1) := by
  obtain ⟨h1, h2, F, hF, hd⟩ := h
  exact (dsync_calls hd hW).mono fun e w' hp => DS.post h1 h2 hF hp
set_option maxRecDepth 20000 in
theorem ds_fail (h : Hid (DS B w0 w b D)) (hW : D.waits.length ≤ 4294967290) (m : Int) :
    Calls Try.prog 17 #[.pointer (some ⟨b, 0, none⟩), .int .u64 m] w fun e w' => e = .returned (.tuple #[]) ∧ Hid (DS B w0 w' b (D.fail m)) := by
  obtain ⟨h1, h2, F, hF, hd⟩ := h
  exact (dfail_calls hd m (by omega)).mono fun e w' hp => DS.post h1 h2 hF hp
set_option maxRecDepth 20000 in
theorem ds_plan (h : Hid (DS B w0 w b D)) (k m : Int) :
    Calls Try.prog 15 #[.pointer (some ⟨b, 0, none⟩), .int .i64 k, .int .u64 m] w fun e w' => e = .returned (.int .i64 (D.plan k m).2) ∧ Hid (DS B w0 w' b (D.plan k m).1) := by
  obtain ⟨h1, h2, F, hF, hd⟩ := h
  exact (dplan_calls hd k m).mono fun e w' hp => DS.post h1 h2 hF hp
set_option maxRecDepth 20000 in
theorem ds_start (h : Hid (DS B w0 w b D)) :
    Calls Try.prog 18 #[.pointer (some ⟨b, 0, none⟩)] w fun e w' => e = .returned (.tuple #[]) ∧ Hid (DS B w0 w' b D.start) := by
  obtain ⟨h1, h2, F, hF, hd⟩ := h
  exact (dstart_calls hd).mono fun e w' hp => DS.post h1 h2 hF hp
set_option maxRecDepth 20000 in
theorem ds_read (h : Hid (DS B w0 w b D)) (hW : D.waits.length ≤ 4294967290) (i : Int) :
    Calls Try.prog 47 #[.pointer (some ⟨b, 0, none⟩), .int .i64 i] w fun e w' => e = .returned (.tuple #[.string (D.read i).1, .int .i64 (D.read i).2]) ∧ w = w' := by
  obtain ⟨h1, h2, F, hF, hd⟩ := h
  exact dread_calls hd hW i
set_option maxRecDepth 20000 in
theorem ds_blocks (h : Hid (DS B w0 w b D)) : Calls Try.prog 34 #[.pointer (some ⟨b, 0, none⟩)] w fun e w' => e = .returned (.int .i64 D.lasts.length) ∧ w = w' := by
  obtain ⟨h1, h2, F, hF, hd⟩ := h
  exact dblocks_calls hd
set_option maxRecDepth 20000 in
theorem Hid.below {w' : World} (h : Hid (DS B w0 w b D)) (k : Below w.heap.size w w') : Hid (DS B w0 w' b D) := DS.below h.out k
end
end Go.Proofs.Ytacbnoagdlelgaa
