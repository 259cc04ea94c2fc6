/- Chapter 6: SlotsLasts comes to true. -/
import Derived.Test.YtpcceinjifdgnaaApart
namespace Go.Proofs.Ytpcceinjifdgnaa
open Go.RowKit Zb

theorem Calm.fail_start {D : DiskM} (h : Calm D) (m : Int) : Calm (D.fail m).start ∧ (D.fail m).start.lasts = D.lasts ∧ (D.fail m).start.pon = D.pon ∧ (D.fail m).waits = [] := by
  unfold DiskM.fail
  rw [if_neg (by simp [h.off]), h.w]
  refine ⟨⟨rfl, rfl, h.len, ⟨h.full.l, by simp [DiskM.start]⟩⟩, rfl, rfl, rfl⟩
theorem Calm.plan {D : DiskM} (h : Calm D) (k m : Int) (hk : 0 ≤ k) : Calm (D.plan k m).1 ∧ (D.plan k m).1.lasts = D.lasts := by
  unfold DiskM.plan
  rw [if_neg (by omega)]
  exact ⟨⟨h.off, h.w, h.len, ⟨h.full.l, h.full.w⟩⟩, rfl⟩
/-- whatever comes of a planned failure, the disk is on again and its blocks last -/
theorem again {D : DiskM} (hw : D.waits = []) (hl : D.lasts.length = 40) (hf : Full64 D) (k : Int) (hk : 0 ≤ k) : Calm ((D.plan k 0).1.fail 0).start ∧ ((D.plan k 0).1.fail 0).start.lasts = D.lasts ∧ (D.plan k 0).1.waits = [] ∧ ((D.plan k 0).1.fail 0).waits = [] := by
  unfold DiskM.plan
  rw [if_neg (by omega)]
  unfold DiskM.fail
  split
  · exact ⟨⟨rfl, hw, hl, ⟨hf.l, hf.w⟩⟩, rfl, hw, hw⟩
  · simp only [hw]
    exact ⟨⟨rfl, rfl, hl, ⟨hf.l, by simp [DiskM.start, settleTo]⟩⟩, rfl, trivial, trivial⟩
theorem lasts6_ok (slot : Int) (h0 : 0 ≤ slot) (h1 : slot < 2) (a b : ByteArray) (ha : a.size ≤ 1000) (hb : b.size ≤ 1000) (k m : Int) (hk : 0 ≤ k) :
    ∃ D1 Df D2 D3 D4 g D5 D6 D7 t, slotWrite (DiskM.new 40) slot a = (D1, 0) ∧ D1.fail m = Df ∧ Df.start = D2 ∧ slotRead D2 slot a.size = (a, 0) ∧ (D2.plan k m).1 = D3 ∧ slotWrite D3 (1 - slot) b = (D4, g) ∧ (D4.plan 1099511627776 0).1 = D5 ∧ D5.fail 0 = D6 ∧ D6.start = D7
      ∧ slotRead D7 slot a.size = (a, 0) ∧ slotRead D7 (1 - slot) b.size = (t, 0) ∧ ((g = 0 ∧ t = b) ∨ g = 7) ∧ D7.read 7 = (zeros 64, 0)
      ∧ Hid (D1.waits.length = 0 ∧ D2.waits.length = 0 ∧ D3.waits.length = 0 ∧ D4.waits.length = 0 ∧ D5.waits.length = 0 ∧ D6.waits.length = 0 ∧ D7.waits.length = 0 ∧ Full64 D2 ∧ Full64 D7) := by
  have hns : 0 ≤ 1 - slot ∧ 1 - slot < 2 ∧ slot ≠ 1 - slot ∧ 1 - slot ≠ slot := by omega
  obtain ⟨D1, e1, a1, c1, hh1, p1⟩ := calm_writes Calm.new rfl slot a h0 h1 ha
  obtain ⟨c2, l2, p2, wf⟩ := c1.fail_start m
  have hh2 : Holds (D1.fail m).start slot a := fun j hj => by rw [l2]; exact hh1 j hj
  obtain ⟨c3, l3⟩ := c2.plan k m hk
  obtain ⟨D4, g, e4, a4, hx⟩ := c3.write (1 - slot) b hns.1 hns.2.1 hb
  have hh3 : Holds ((D1.fail m).start.plan k m).1 slot a := fun j hj => by rw [l3]; exact hh2 j hj
  have hh4 := hh3.apart a4 h0 h1 hns.1 hns.2.1 hns.2.2.1 ha
  have h4 : D4.waits = [] ∧ D4.lasts.length = 40 ∧ Full64 D4 := by
    rcases hx with ⟨_, c, _⟩ | ⟨_, _, _, x, y, z, _⟩
    · exact ⟨c.w, c.len, c.full⟩
    · exact ⟨x, y, z⟩
  obtain ⟨c7, l7, w5, w6⟩ := again h4.1 h4.2.1 h4.2.2 1099511627776 (by omega)
  have hh7 : Holds ((D4.plan 1099511627776 0).1.fail 0).start slot a := fun j hj => by rw [l7]; exact hh4 j hj
  have hr := c7.reads slot a h0 h1 ha hh7
  have hany := slotRead_any _ (1 - slot) b.size hns.1 hns.2.1 (by rw [c7.len]; omega) (by rw [c7.sN]; omega) c7.off c7.w
  refine ⟨D1, _, _, _, D4, g, _, _, _, (slotRead ((D4.plan 1099511627776 0).1.fail 0).start (1 - slot) b.size).1, e1, rfl, rfl, c2.reads slot a h0 h1 ha hh2, rfl, e4, rfl, rfl, rfl, hr, Prod.ext rfl hany, ?_, ?_, hide ⟨by rw [c1.w]; rfl, by rw [c2.w]; rfl, by rw [c3.w]; rfl, by rw [h4.1]; rfl, by rw [w5]; rfl, by rw [w6]; rfl, by rw [c7.w]; rfl, c2.full, c7.full⟩⟩
  · rcases hx with ⟨rfl, _, hh, _⟩ | ⟨rfl, _⟩
    · refine .inl ⟨rfl, ?_⟩
      have hh7b : Holds ((D4.plan 1099511627776 0).1.fail 0).start (1 - slot) b := fun j hj => by rw [l7]; exact hh j hj
      rw [c7.reads (1 - slot) b hns.1 hns.2.1 hb hh7b]
    · exact .inr rfl
  · have := c7.read 7 (by omega)
    rw [show ((7 : Nat) : Int) = 7 from rfl] at this
    rw [this, l7, a4 7 (by omega), l3, l2, a1 7 (by omega)]
    rfl

theorem new_read7 : (DiskM.new 40).read 7 = (zeros 64, 0) := by kernel_rfl
end Go.Proofs.Ytpcceinjifdgnaa
