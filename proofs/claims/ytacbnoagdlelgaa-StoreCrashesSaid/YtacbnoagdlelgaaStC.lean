/- Chapter 7: Open, walked. -/
import Derived.Test.YtacbnoagdlelgaaStB
import Derived.Deep.CutRange
namespace Go.Proofs.Ytacbnoagdlelgaa
open Go.RowKit Zb

def OpenPost (w : World) (b : Nat) (D : DiskM) (r : Ending) (w' : World) : Prop :=
  Below w.heap.size w w' ∧ ((openE D = 0 ∧ ∃ s, r = .returned (.tuple #[.pointer (some ⟨s, 0, none⟩), .int .i64 0]) ∧ w.heap.size ≤ s ∧ StAt w' s b (openS D)) ∨ (openE D ≠ 0 ∧ r = .returned (.tuple #[.pointer none, .int .i64 (openE D)])))
def newS : StoreM := ⟨KeptM.none, false, none⟩
set_option maxRecDepth 20000 in
set_option maxHeartbeats 2000000 in
theorem tOpen_calls {w : World} {b : Nat} {F : Nat → Prop} {D : DiskM} (h : DiskAt w b F D) (hf : Full64 D) (hW : D.waits.length ≤ 4294967290) : Calls Try.prog 8 #[.pointer (some ⟨b, 0, none⟩)] w (OpenPost w b D) := by
  have HL := hide (eLast_calls h hW)
  have HRD := hide (fun (w1 : World) (hb : Below w.heap.size w w1) (x : EntM) => tread_calls (h.below hb) hf hW x)
  have HOE : Hid (openE D = if scanE D ≠ 0 then scanE D else if lastIs D = false ∨ (lastM D).slot = 2 then 0 else (readK D (lastM D)).2.2) := hide rfl
  have HOS : Hid (openS D = if lastIs D = false ∨ (lastM D).slot = 2 then newS else ⟨(readK D (lastM D)).1, !(readK D (lastM D)).2.1, none⟩) := hide rfl
  clear h hf hW
  unfold LastPost at HL
  obtain ⟨X, hX⟩ : ∃ X, lastM D = X := ⟨_, rfl⟩
  obtain ⟨is, hi⟩ : ∃ is, lastIs D = is := ⟨_, rfl⟩
  obtain ⟨e, he⟩ : ∃ e, scanE D = e := ⟨_, rfl⟩
  rw [hX, hi, he] at HL
  rw [hX, hi, he] at HOE
  rw [hX, hi] at HOS
  clear hX hi he
  go_enter Try.func8, Try.ntmps8
  go_wp2_with fail
  refine HL.out.mono ?_
  rintro r w1 ⟨rfl, hb1⟩
  have HZ := hide (varW_new w1)
  have HB2 := hide (varW_blk w1 X)
  have HX2 := hide (hb1.trans ((varW_below w1 X).mono hb1.size))
  clear hb1 HL
  by_cases he : e = 0
  · subst he
    go_wp2_with (((with_reducible show wpList _ _ _ (⟨none, _, _, _, _, _⟩ :: _) _ _); refine wpList_store_row rfl _ _ _ rfl w1.heap.size X.cells.toArray rfl rfl 59 _ HZ.out (by kernel_rfl) rfl (by kernel_rfl) ?_; change wpList _ _ _ _ _ (varW w1 X); generalize varW w1 X = w2 at *))
    refine (tnone_calls _).mono ?_
    rintro r w3 ⟨rfl, hb3⟩
    have HB3 := hide (HB2.out.below hb3 HB2.out.lt)
    have HX3 := hide (HX2.out.trans (hb3.mono HX2.out.size))
    clear hb3
    generalize hw4 : w3.alloc (.cells (scells newS (.pointer (some ⟨b, 0, none⟩)) (.pointer none)).toArray 48) = w4
    have HH := hide hw4
    have HS4 : Hid (Blk w4 w3.heap.size 48 (scells newS (.pointer (some ⟨b, 0, none⟩)) (.pointer none)).toArray) := hide (hw4 ▸ Blk.new w3 48 _)
    have HB4 := hide (hw4 ▸ HB3.out.alloc (.cells (scells newS (.pointer (some ⟨b, 0, none⟩)) (.pointer none)).toArray 48))
    have HX4 := hide (hw4 ▸ HX3.out.alloc HX3.out.size (.cells (scells newS (.pointer (some ⟨b, 0, none⟩)) (.pointer none)).toArray 48))
    clear hw4
    obtain ⟨x0, x1, x2, x3, x4⟩ := ent_all HB4.out
    cases is
    · have HE : Hid (openE D = 0 ∧ openS D = newS) := hide ⟨by rw [HOE.out, if_neg (by decide), if_pos (.inl rfl)], by rw [HOS.out, if_pos (.inl rfl)]⟩
      go_wp2_with ((with_reducible show wpList _ _ _ (⟨some 21, _, _, _, _, _⟩ :: _) _ _); refine wpList_build_as rfl _ _ (scells newS (.pointer (some ⟨b, 0, none⟩)) (.pointer none)).toArray rfl (by kernel_rfl) ?_)
      rw [HH.out]
      go_ret2
      exact ⟨HX4.out, .inl ⟨HE.out.1, _, rfl, HX3.out.size, by rw [HE.out.2]; exact ⟨_, HS4.out, rfl⟩⟩⟩
    · by_cases h2 : X.slot = 2
      · have HE : Hid (openE D = 0 ∧ openS D = newS) := hide ⟨by rw [HOE.out, if_neg (by decide), if_pos (.inr h2)], by rw [HOS.out, if_pos (.inr h2)]⟩
        have h2b : (X.slot == 2) = true := by simp [h2]
        clear h2
        go_upto_region 5 with ((with_reducible show wpList _ _ _ (⟨some 21, _, _, _, _, _⟩ :: _) _ _); refine wpList_build_as rfl _ _ (scells newS (.pointer (some ⟨b, 0, none⟩)) (.pointer none)).toArray rfl (by kernel_rfl) ?_)
        rw [HH.out]
        go_wp2_with fail
        go_ret2
        exact ⟨HX4.out, .inl ⟨HE.out.1, _, rfl, HX3.out.size, by rw [HE.out.2]; exact ⟨_, HS4.out, rfl⟩⟩⟩
      · have h2b : (X.slot == 2) = false := by simp [h2]
        have HE : Hid (openE D = (readK D X).2.2 ∧ openS D = ⟨(readK D X).1, !(readK D X).2.1, none⟩) := hide ⟨by rw [HOE.out, if_neg (by decide), if_neg (by simp [h2])], by rw [HOS.out, if_neg (by simp [h2])]⟩
        have HRC := hide (HRD.out w4 HX4.out X)
        unfold ReadPost at HRC
        obtain ⟨R, hR⟩ : ∃ R, readK D X = R := ⟨_, rfl⟩
        rw [hR] at HE HRC
        clear hR h2
        obtain ⟨k, wh, f⟩ := R
        dsimp only at HE HRC
        go_upto_region 5 with ((with_reducible show wpList _ _ _ (⟨some 21, _, _, _, _, _⟩ :: _) _ _); refine wpList_build_as rfl _ _ (scells newS (.pointer (some ⟨b, 0, none⟩)) (.pointer none)).toArray rfl (by kernel_rfl) ?_)
        rw [HH.out]
        go_wp2_with (((with_reducible show wpList _ _ _ (⟨some 33, _, _, _, _, _⟩ :: _) _ _); refine wpList_load_row rfl _ _ rfl w1.heap.size rfl 59 _ (0, 0) _ HB4.out Try.underlying59 rfl (by kernel_rfl) ?_))
        refine HRC.out.mono ?_
        rintro r w5 ⟨rfl, hb5⟩
        have HS5 := hide (HS4.out.below hb5 HS4.out.lt)
        have HX5 := hide (HX4.out.trans (hb5.mono HX4.out.size))
        have HZ5 := hide (kvarW_new w5)
        have HK6 := hide (kvarW_blk w5 k)
        have HS6 := hide (HS5.out.below (kvarW_below w5 k) HS5.out.lt)
        have HX6 := hide (HX5.out.trans ((kvarW_below w5 k).mono HX5.out.size))
        have hge : w.heap.size ≤ w3.heap.size := HX3.out.size
        clear hb5 HS5 HX5 HS4 HB4 HX4 HRC x0 x1 x2 x3 x4 HB3 HX3 HX2 HB2 HZ
        by_cases hf : f = 0
        · subst hf
          have k0 : (kvarW w5 k).cell? ⟨w5.heap.size, 0, none⟩ = some (.int .i64 k.slot) := HK6.out.cell 0
          have k1 : (kvarW w5 k).cell? ⟨w5.heap.size, 1, none⟩ = some (.string k.text) := HK6.out.cell 1
          have k2 : (kvarW w5 k).cell? ⟨w5.heap.size, 2, none⟩ = some (.string k.sum) := HK6.out.cell 2
          have fz : ∀ j, (kvarW w5 k).frozen? ⟨w3.heap.size, j, none⟩ = false := fun j => HS6.out.frozen j
          have f0 := fz 0
          have f1 := fz 1
          have f2 := fz 2
          have f4 := fz 4
          obtain ⟨c0, c1, c2, c3, c4, c5⟩ := st_cells HS6.out
          clear fz
          go_wp2_with ((with_reducible show wpList _ _ _ (⟨none, _, _, _, _, _⟩ :: _) _ _); refine wpList_store_row rfl _ _ _ rfl w5.heap.size k.cells.toArray rfl rfl 45 _ HZ5.out (by kernel_rfl) rfl (by kernel_rfl) ?_; change wpList _ _ _ _ _ (kvarW w5 k); generalize kvarW w5 k = w6 at *)
          go_ret2
          exact ⟨(((HX6.out.setCell hge _).setCell hge _).setCell hge _).setCell hge _, .inl ⟨HE.out.1, _, rfl, hge, by rw [HE.out.2]; exact ⟨_, (((HS6.out.set_ 0 (.int .i64 k.slot)).set_ 1 (.string k.text)).set_ 2 (.string k.sum)).set_ 4 (.bool (!wh)), rfl⟩⟩⟩
        · have hfb : (f != 0) = true := by simp [hf]
          have HN := hide hf
          clear hf
          go_wp2_with ((with_reducible show wpList _ _ _ (⟨none, _, _, _, _, _⟩ :: _) _ _); refine wpList_store_row rfl _ _ _ rfl w5.heap.size k.cells.toArray rfl rfl 45 _ HZ5.out (by kernel_rfl) rfl (by kernel_rfl) ?_; change wpList _ _ _ _ _ (kvarW w5 k); generalize kvarW w5 k = w6 at *)
          go_ret2
          exact ⟨HX6.out, .inr ⟨by rw [HE.out.1]; exact HN.out, by rw [HE.out.1]; rfl⟩⟩
  · have HE : Hid (openE D = e) := hide (by rw [HOE.out, if_pos he])
    have heb : (e != 0) = true := by simp [he]
    have HN := hide he
    clear he
    go_wp2_with (((with_reducible show wpList _ _ _ (⟨none, _, _, _, _, _⟩ :: _) _ _); refine wpList_store_row rfl _ _ _ rfl w1.heap.size X.cells.toArray rfl rfl 59 _ HZ.out (by kernel_rfl) rfl (by kernel_rfl) ?_; change wpList _ _ _ _ _ (varW w1 X); generalize varW w1 X = w2 at *))
    go_ret2
    exact ⟨HX2.out, .inr ⟨by rw [HE.out]; exact HN.out, by rw [HE.out]; rfl⟩⟩
end Go.Proofs.Ytacbnoagdlelgaa
