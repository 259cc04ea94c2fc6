/- DiskLasts, the walk. -/
import Derived.Test.YtfdikdacknfoeaaLasts
namespace Go.Proofs.Ytfdikdacknfoeaa
open Go.RowKit Zb

theorem full0' : fullB 0 = zeros 64 := rfl
theorem keepsT {G : Nat → Prop} {w w' : World} (h : Turned (fun _ => False) w w') (hG : ∀ x, G x → x < w.heap.size) : Keeps G w w' := fun x hx => h.block x (hG x hx) (fun e => e)

set_option maxRecDepth 100000 in
set_option maxHeartbeats 4000000 in
theorem lDiskLasts_calls (A B : Option Addr) (capA capB : Nat) (la lb : List Int) (m : Int) (w : World) (hra : ReadsInts .u8 w A la) (hrb : ReadsInts .u8 w B lb) :
    Calls Try.prog 3 #[.slice A la.length capA, .slice B lb.length capB, .int .u64 m] w fun e w' => e = .returned (.bool true) ∧ Below w.heap.size w w' := by
  have HA := hide hra; clear hra
  have HB := hide hrb; clear hrb
  go_enter Try.func3, Try.ntmps3
  go_wp2_with fail
  refine (ds_new (B := w.heap.size) (w0 := w) 16 (by omega) (by omega) (Below.refl _ _) (Nat.le_refl _)).mono ?_
  rintro e w1 ⟨b, rfl, hd1⟩
  go_wp2_with fail
  have hs0 : Hid (Ls0Inv w b w1.heap.size (w1.heap.size + 1) 0 ((w1.alloc (.cells #[.string ⟨#[]⟩, .string ⟨#[]⟩, .string ⟨#[]⟩, .string ⟨#[]⟩, .string ⟨#[]⟩, .string ⟨#[]⟩, .string ⟨#[]⟩, .string ⟨#[]⟩, .string ⟨#[]⟩, .string ⟨#[]⟩, .string ⟨#[]⟩, .string ⟨#[]⟩, .string ⟨#[]⟩, .string ⟨#[]⟩, .string ⟨#[]⟩, .string ⟨#[]⟩] 28)).alloc (.cells #[.slice none 0 0, .slice none 0 0, .slice none 0 0, .slice none 0 0, .slice none 0 0, .slice none 0 0, .slice none 0 0, .slice none 0 0, .slice none 0 0, .slice none 0 0, .slice none 0 0, .slice none 0 0, .slice none 0 0, .slice none 0 0, .slice none 0 0, .slice none 0 0] 30))) := by
    refine hide ⟨(DO.of_ds hd1.out).more (((Turned.refl _ _).alloc _).alloc _) (fun x hx => .inr ?_), (Blk.new w1 28 _).alloc _, ?_⟩
    · simp only [World.size_alloc]
      omega
    · have := Blk.new (w1.alloc (.cells #[.string ⟨#[]⟩, .string ⟨#[]⟩, .string ⟨#[]⟩, .string ⟨#[]⟩, .string ⟨#[]⟩, .string ⟨#[]⟩, .string ⟨#[]⟩, .string ⟨#[]⟩, .string ⟨#[]⟩, .string ⟨#[]⟩, .string ⟨#[]⟩, .string ⟨#[]⟩, .string ⟨#[]⟩, .string ⟨#[]⟩, .string ⟨#[]⟩, .string ⟨#[]⟩] 28)) 30 #[.slice none 0 0, .slice none 0 0, .slice none 0 0, .slice none 0 0, .slice none 0 0, .slice none 0 0, .slice none 0 0, .slice none 0 0, .slice none 0 0, .slice none 0 0, .slice none 0 0, .slice none 0 0, .slice none 0 0, .slice none 0 0, .slice none 0 0, .slice none 0 0]
      rw [World.size_alloc] at this
      exact this
  clear hd1
  generalize hg : w1.heap.size = g at *
  clear hg
  have hgg : g ≠ g + 1 := by omega
  generalize hg2 : g + 1 = g2 at *
  clear hg2
  go_loopw [11] (fun i wr => ∃ k : Nat, k ≤ 16 ∧ i = .int .i64 k ∧ Hid (Ls0Inv w b g g2 k wr)) (fun i _ => 16 - (intOf i).toNat)
  case atStart => exact ⟨0, Nat.zero_le _, rfl, hs0⟩
  case round =>
    clear hs0
    obtain ⟨k, hk, rfl, hinv⟩ := hrel
    by_cases hlt : k < 16
    · go_wp2_with fail
      refine (lFull_calls 0 _).mono ?_
      rintro e w2 ⟨rfl, hb2⟩
      have hd2 := hide (hinv.out.d.below hb2)
      have hc2 := (hinv.out.d.keeps_below hb2).blk hinv.out.c (.inl rfl)
      have hc3 := (hinv.out.d.keeps_below hb2).blk hinv.out.c2 (.inr rfl)
      have hsz : (strs (List.replicate k (zeros 64) ++ List.replicate (16 - k) ⟨#[]⟩)).toArray.size = 16 := by simp [strs]; omega
      have ck : ∃ u, w2.cell? ⟨g, k, none⟩ = some u := ⟨_, (hc2.cell k).trans (Array.getElem?_eq_getElem (by omega))⟩
      have fk := hc2.frozen k
      have hs : Hid (Ls0Inv w b g g2 (k + 1) (w2.setCell ⟨g, k, none⟩ (.string (fullB 0)))) := by
        refine hide ⟨hd2.out.setCell (.inl rfl) _, ?_, hc3.far (p := ⟨g, k, none⟩) (Ne.symm hgg) _⟩
        have hc4 := hc2.set_ k (.string (fullB 0))
        rw [← replicate_step 16 k hlt, strs_set]
        rw [full0'] at hc4 ⊢
        simpa using hc4
      obtain ⟨u, ck⟩ := ck
      clear hc2 hb2 hsz hc3
      go_wp2_with fail
      go_roundw
      case rel => exact ⟨k + 1, by omega, by go_num, hs⟩
      case measure => simp [intOf]; omega
    · have hk16 : k = 16 := by omega
      rw [show ((k : Nat) : Int) = 16 by omega]
      subst hk16
      have hs1 : Hid (Ls1Inv w b g g2 0 wr) := hide ⟨[], 0, rfl, hinv.out.d, hinv.out.c, hinv.out.c2⟩
      clear hinv hk hlt
      obtain ⟨wo, rfl⟩ : ∃ wo : World, wo = wr := ⟨_, rfl⟩
      go_wp2_with fail
      go_loopw [12] (fun i wr => ∃ k : Nat, k ≤ 40 ∧ k ≤ la.length ∧ i = .int .i64 k ∧ Hid (Ls1Inv w b g g2 k wr)) (fun i _ => 40 - (intOf i).toNat)
      case atStart => exact ⟨0, by omega, by omega, rfl, hs1⟩
      case round =>
        clear hs1
        obtain ⟨k, hk, hk2, rfl, hinv⟩ := hrel
        by_cases hlt : k < la.length ∧ k < 40
        · have hk3 := hlt.1
          have hk4 := hlt.2
          clear hlt
          obtain ⟨W, o, hWl, hd, hc, hcb⟩ := hinv.out
          obtain ⟨ad, hA, hadl, hcc, hwf⟩ := HA.out k hk3
          subst hA
          have hx := bounds_u8 hwf
          have hc1 := (hd.bel.cell (p := ad.add k) (by rw [block_add]; exact hadl)).trans hcc
          generalize hx0 : la.getD k 0 = x at *
          have HWL := hide hWl
          have HD := hide hd
          have HC := hide hc
          have HCB := hide hcb
          clear hwf hcc hinv hWl hd hc hcb hx0
          go_wp2_with fail
          refine (lFull_int (k : Int) (by omega) (by omega) _).mono ?_
          rintro e w2 ⟨rfl, hb2⟩
          have hd2 := hide (HD.out.below hb2)
          have hc2 := hide ((HD.out.keeps_below hb2).blk HC.out (.inl rfl))
          have hcb2 := hide ((HD.out.keeps_below hb2).blk HCB.out (.inr rfl))
          clear hb2 HD HC HCB hc1
          have hsz : (strs (settleTo (fun _ => true) 0 W (List.replicate 16 (zeros 64)))).toArray.size = 16 := by simp [strs_len, settleTo_length]
          have ck : ∃ u, w2.cell? ⟨g, (x % 16).toNat, none⟩ = some u := ⟨_, (hc2.out.cell _).trans (Array.getElem?_eq_getElem (by omega))⟩
          have fk := hc2.out.frozen (x % 16).toNat
          obtain ⟨u, ck⟩ := ck
          have hxm0 : 0 ≤ x % 16 := by omega
          have hxm1 : x % 16 < 16 := by omega
          have hd3 := hide (hd2.out.setCell (p := ⟨g, (x % 16).toNat, none⟩) (.inl rfl) (.string (fullI (k : Int))))
          have hcb3 := hide (hcb2.out.far (p := ⟨g, (x % 16).toNat, none⟩) (Ne.symm hgg) (.string (fullI (k : Int))))
          have hc3 : Hid (Blk (w2.setCell ⟨g, (x % 16).toNat, none⟩ (.string (fullI (k : Int)))) g 28 (strs (settleTo (fun _ => true) 0 (W ++ [(x % 16, fullI (k : Int))]) (List.replicate 16 (zeros 64)))).toArray) := by
            refine hide ?_
            rw [settleTo_snoc, if_pos rfl, strs_set]
            have := hc2.out.set_ (x % 16).toNat (.string (fullI (k : Int)))
            simpa using this
          clear hc2 hcb2 hsz hd2
          go_wp2_with fail
          refine (do_write hd3 (by simp [mkD]; have := HWL.out; omega) (x % 16) _).mono ?_
          rintro e w3 ⟨rfl, hd4, hk4b⟩
          rw [mkD_write _ _ _ _ _ hxm0 (by simp; omega) (fullI_size _)] at hd4 ⊢
          have hs : Hid (Ls1Inv w b g g2 (k + 1) w3) := hide ⟨_, _, by simp [HWL.out], hd4.out, hk4b.out.blk hc3.out (.inl rfl), hk4b.out.blk hcb3.out (.inr rfl)⟩
          clear hd4 hk4b hc3 hcb3 hd3
          go_wp2_with fail
          go_roundw
          case rel => exact ⟨k + 1, by omega, by omega, by go_num, hs⟩
          case measure => simp [intOf]; omega
        · obtain ⟨W, o, hWl, hd, hc, hcb⟩ := hinv.out
          have hd0 := hide hd
          have hc0 := hide hc
          have hcb0 := hide hcb
          have hWl0 : W.length ≤ 40 := by omega
          clear hd hc hcb hWl hinv HA
          have hlt := hide hlt
          obtain ⟨wp, rfl⟩ : ∃ wp : World, wp = wr := ⟨_, rfl⟩
          by_cases hk3 : k < la.length
          case' pos =>
            have hk4 : k = 40 := by have := hlt.out; omega
            rw [show ((k : Nat) : Int) = 40 by omega]
            subst hk4
          all_goals
            go_wp2_with fail
            refine (do_sync hd0 (by simp [mkD]; omega)).mono ?_
            rintro e w4 ⟨rfl, hd4, hk4b⟩
            rw [mkD_sync _ _ _ (by simp)] at hd4 ⊢
            have hc4 := hide (hk4b.out.blk hc0.out (.inl rfl))
            have hcb4 := hide (hk4b.out.blk hcb0.out (.inr rfl))
            clear hd0 hc0 hcb0 hk4b
            go_wp2_with fail
            refine (do_waits hd4).mono ?_
            rintro e w' ⟨rfl, rfl⟩
            rw [show (mkD (settleTo (fun _ => true) 0 W (List.replicate 16 (zeros 64))) [] (wrap64 (o + 1))).waits.length = 0 from rfl]
            have hLl : (settleTo (fun _ => true) 0 W (List.replicate 16 (zeros 64))).length = 16 := by simp [settleTo_length]
            generalize settleTo (fun _ => true) 0 W (List.replicate 16 (zeros 64)) = L at *
            have HLL := hide hLl; clear hLl
            have hs3 : Hid (Ls2Inv w b g g2 L 0 w4) := by
              refine hide ⟨[], wrap64 (o + 1), fun _ => .slice none 0 0, rfl, by simp, hd4.out.more (Turned.refl _ _) (fun x hx => ?_), hc4.out, hcb4.out, fun k hk => row_nil _ _ _, by simp [Value.ownBlock]⟩
              rcases hx with h | h | ⟨k, _, h⟩
              · exact .inl (.inl h)
              · exact .inl (.inr h)
              · simp [Value.ownBlock] at h
            clear hd4 hc4 hcb4
            go_wp2_with fail
            go_loopw [14] (fun i wr => ∃ k : Nat, k ≤ 100 ∧ k ≤ lb.length ∧ i = .int .i64 k ∧ Hid (Ls2Inv w b g g2 L k wr)) (fun i _ => 100 - (intOf i).toNat)
            case atStart => exact ⟨0, by omega, by omega, rfl, hs3⟩
            case round =>
              clear hs3 hlt
              obtain ⟨j, hj, hj2, rfl, hinv⟩ := hrel
              by_cases hjl : j < lb.length ∧ j < 100
              · have hj3 := hjl.1
                have hj4 := hjl.2
                clear hjl
                obtain ⟨W, o, mv, hWl, hW0, hd, hc, hmr⟩ := hinv.out
                obtain ⟨ad, hA, hadl, hcc, hwf⟩ := HB.out j hj3
                subst hA
                have hx := bounds_u8 hwf
                have hc1 := (hd.bel.cell (p := ad.add j) (by rw [block_add]; exact hadl)).trans hcc
                generalize hx0 : lb.getD j 0 = x at *
                have hxm0 : 0 ≤ x % 16 := by omega
                have hxm1 : x % 16 < 16 := by omega
                have HWL := hide hWl
                have HW0 := hide hW0
                have HD := hide hd
                have HC := hide hc
                have HMR := hide hmr
                clear hwf hcc hinv hWl hd hc hmr hW0 hx0
                go_wp2_with fail
                refine (lFull_int (100 + (j : Int)) (by omega) (by omega) _).mono ?_
                rintro e w5 ⟨rfl, hb5⟩
                have hd5 := hide (HD.out.below hb5)
                have hc5 := hide ((HD.out.keeps_below hb5).blk HC.out (.inl rfl))
                have hm5 := hide (HMR.out.keeps (HD.out.keeps_below hb5))
                clear hb5 HD HC HMR hc1
                have hkk : (x % 16).toNat < 16 := by omega
                have hkI : (((x % 16).toNat : Nat) : Int) = x % 16 := by omega
                have HKI := hide hkI; clear hkI
                have ck : w5.cell? ⟨g2, (x % 16).toNat, none⟩ = some (mv (x % 16).toNat) := (hm5.out.c2.cell _).trans (by simp [hkk])
                have hrow := hide (hm5.out.rows _ hkk)
                have hmle := mayOf_le W (x % 16).toNat
                have hWl2 : W.length ≤ 100 := by have := HWL.out; omega
                obtain ⟨A5, c5, hmv, hc5c⟩ := row_slice hrow.out
                have HMV := hide hmv
                rw [hmv] at ck
                clear hmv
                generalize hsj : fullI (100 + (j : Int)) = sj at *
                have hsz : sj.size = 64 := by rw [← hsj]; exact fullI_size _
                have HSZ := hide hsz
                clear hsj hsz
                go_wp2_with (at_builtin; go_must (refine wpList_app (w5.alloc (.cells #[.string sj] 9)) rfl (.tmp 100) (.tmp 102) 29 9 rfl _ 1 16 Try.underlying29 info_string rfl (by omega) (.slice A5 (mayOf W (x % 16).toNat).length c5) (mayOf W (x % 16).toNat).length (strs (mayOf W (x % 16).toNat)) rfl (by rw [← HMV.out]; exact row_alloc hrow.out _) ⟨w5.heap.size, 0, none⟩ 1 1 [.string sj] rfl rfl (Blk.news (Blk.new w5 9 #[.string sj])) (by simp [Value.oneCell']) (by unfold maxLen; omega) (by omega) ?_); go_must (intro v' w6 hr6 hg6 hat); go_must (obtain ⟨A6, c6, rfl, hc6⟩ := row_slice hr6); have HAT := hide hat; clear hat; go_must (have hgx := hide (Blk.grown (hm5.out.c2.alloc (.cells #[.string sj] 9)) hg6 (fun e => row_blk_ne hrow.out hm5.out.c2 (by decide) (by rw [HMV.out]; exact e.symm)))); have fk6 := hgx.out.frozen (x % 16).toNat; go_must (have ck6 : ∃ u, w6.cell? ⟨g2, (x % 16).toNat, none⟩ = some u := ⟨_, (hgx.out.cell _).trans (Array.getElem?_eq_getElem (by simp; omega))⟩); obtain ⟨u6, ck6⟩ := ck6)
                have hm6 := hide (hm5.out.app hkk (s := sj) (wa := w5.alloc (.cells #[.string sj] 9)) (fun y hy => Below.heap_alloc _ _ _ hy) (by simp) (by rw [show strs (mayOf W (x % 16).toNat) ++ [.string sj] = strs (mayOf W (x % 16).toNat) ++ [.string sj] from rfl]; exact hr6) (by rw [HMV.out]; exact hg6) (by rw [HMV.out]; exact HAT.out))
                have tu6 : Turned (mayG g g2 mv) w5 (w6.setCell ⟨g2, (x % 16).toNat, none⟩ (.slice A6 ((mayOf W (x % 16).toNat).length + 1) c6)) := (((Turned.refl _ w5).alloc _).grown hg6 (fun k hk => .inl (.inr (.inr ⟨_, hkk, by rw [HMV.out]; exact hk⟩)))).setCell (.inl (.inr (.inl rfl))) _
                have hd6 := hide (hd5.out.more (G' := mayG g g2 (fun k => if k = (x % 16).toNat then .slice A6 ((mayOf W (x % 16).toNat).length + 1) c6 else mv k)) tu6 (fun y hy => by
                  rcases hy with h | h | ⟨k, hk, h⟩
                  · exact .inl (.inl h)
                  · exact .inl (.inr (.inl h))
                  · dsimp only at h
                    by_cases hke : k = (x % 16).toNat
                    · rw [if_pos hke] at h
                      rcases HAT.out with e | e
                      · rw [e] at h; exact .inl (.inr (.inr ⟨_, hkk, by rw [HMV.out]; exact h⟩))
                      · have hlt6 := row_lt hr6 y h
                        rw [e] at h
                        have : y = w5.heap.size + 1 := by simpa using h.symm
                        exact .inr ⟨by omega, by simpa [World.setCell] using hlt6⟩
                    · rw [if_neg hke] at h
                      exact .inl (.inr (.inr ⟨k, hk, h⟩))))
                have hgne : g ≠ g2 := hgg
                have hc6 := hide (((hc5.out.alloc (.cells #[.string sj] 9)).grown hg6 (fun e => row_blk_ne hrow.out hc5.out (by decide) (by rw [HMV.out]; exact e.symm))).far (p := ⟨g2, (x % 16).toNat, none⟩) hgne (.slice A6 ((mayOf W (x % 16).toNat).length + 1) c6))
                refine (do_write hd6 (by simp [mkD]; omega) (x % 16) _).mono ?_
                rintro e w7 ⟨rfl, hd7, hk7⟩
                rw [mkD_write _ _ _ _ _ hxm0 (by rw [HLL.out]; omega) HSZ.out] at hd7 ⊢
                have hc7 := hide (hk7.out.blk hc6.out (.inl rfl))
                have hm7 := hide (hm6.out.keeps hk7.out)
                clear hd6 hc6 hm6 hk7 tu6 hd5 hc5 hm5 hrow HMV HAT hgx fk6 ck6 hr6 hg6 ck
                go_wp2_with fail
                refine (do_read hd7 (by simp [mkD]; omega) (x % 16)).mono ?_
                rintro e w' ⟨rfl, rfl⟩
                rw [mkD_read _ _ _ _ hxm0 (by rw [HLL.out]; omega), seen_snoc, if_pos rfl]
                have hs : Hid (Ls2Inv w b g g2 L (j + 1) w7) := by
                  refine hide ⟨_, _, _, by simp [HWL.out], fun p hp => ?_, hd7.out, hc7.out, ?_⟩
                  · rcases List.mem_append.1 hp with hp | hp
                    · exact HW0.out p hp
                    · obtain rfl : p = (x % 16, sj) := by simpa using hp
                      exact hxm0
                  · have := hm7.out
                    rw [HKI.out] at this
                    exact this
                clear hd7 hc7 hm7
                go_wp2_with fail
                go_roundw
                case rel => exact ⟨j + 1, by omega, by omega, by go_num, hs⟩
                case measure => simp [intOf]; omega
              · obtain ⟨W2, o2, mv, hWl2, hW02, hd, hc, hmr⟩ := hinv.out
                have HD := hide hd
                have HC := hide hc
                have HMR := hide hmr
                have HW0 := hide hW02
                have hWlen : W2.length ≤ 100 := by omega
                clear hd hc hmr hWl2 hW02 hinv HB
                have hjl := hide hjl
                obtain ⟨wq, rfl⟩ : ∃ wq : World, wq = wr := ⟨_, rfl⟩
                by_cases hj3 : j < lb.length
                case' pos =>
                  have hj4 : j = 100 := by have := hjl.out; omega
                  rw [show ((j : Nat) : Int) = 100 by omega]
                  subst hj4
                all_goals
                  go_wp2_with fail
                  refine (do_fail HD (by simp [mkD]; omega) m).mono ?_
                  rintro e w8 ⟨rfl, hd8, hk8⟩
                  have hc8 := hide (hk8.out.blk HC.out (.inl rfl))
                  have hm8 := hide (HMR.out.keeps hk8.out)
                  clear HD HC HMR hk8
                  go_wp2_with fail
                  refine (do_on hd8).mono ?_
                  rintro e w' ⟨rfl, rfl⟩
                  rw [mkD_fail_off]
                  go_wp2_with fail
                  refine (do_start hd8).mono ?_
                  rintro e w9 ⟨rfl, hd9, hk9⟩
                  have hc9 := hide (hk9.out.blk hc8.out (.inl rfl))
                  have hm9 := hide (hm8.out.keeps hk9.out)
                  rw [mkD_fail] at hd9
                  clear hd8 hc8 hm8 hk9
                  go_wp2_with fail
                  have hH : Hid (∀ k : Nat, k < 16 → ∃ X : ByteArray, (mkD (settleTo (maskBit m) 0 W2 L) [] o2).read (k : Int) = (X, 0) ∧ (X = L.getD k ⟨#[]⟩ ∨ X ∈ mayOf W2 k) ∧ (m = 0 → X = L.getD k ⟨#[]⟩)) := by
                    refine hide (fun k hk => ⟨_, mkD_read _ _ _ _ (by omega) (by rw [settleTo_length, HLL.out]; omega), ?_, fun hm0 => ?_⟩)
                    · exact settle_may (maskBit m) W2 0 L k (by rw [HLL.out]; exact hk) HW0.out
                    · subst hm0
                      rw [settle_zero]
                      rfl
                  have hmle2 : ∀ k, (mayOf W2 k).length ≤ 100 := fun k => Nat.le_trans (mayOf_le W2 k) hWlen
                  have HMLE := hide hmle2; clear hmle2
                  go_loop [19] (fun i => ∃ k : Nat, k ≤ 16 ∧ i = .int .i64 k) (fun i => 16 - (intOf i).toNat)
                  case atStart => exact ⟨0, by omega, rfl⟩
                  case round =>
                    obtain ⟨k, hk, rfl⟩ := hrel
                    by_cases hk16 : k < 16
                    · obtain ⟨X, hrd, hor, hm0⟩ := hH.out k hk16
                      have ck : w9.cell? ⟨g, k, none⟩ = some (.string (L.getD k ⟨#[]⟩)) := (hc9.out.cell k).trans (by rw [List.getElem?_toArray]; exact strs_get _ k (by rw [HLL.out]; exact hk16))
                      have ck2 : w9.cell? ⟨g2, k, none⟩ = some (mv k) := (hm9.out.c2.cell _).trans (by simp [hk16])
                      have hrow := hide (hm9.out.rows k hk16)
                      obtain ⟨A9, c9, hmv, hc9c⟩ := row_slice hrow.out
                      have hML := HMLE.out k
                      have HMV := hide hmv
                      rw [hmv] at ck2
                      clear hmv
                      have HRD := hide hrd; clear hrd
                      have HOR := hide hor; clear hor
                      have hk160 : (k : Int) < 16 := by omega
                      generalize hLk : L.getD k ⟨#[]⟩ = Lk at *
                      generalize hMk : mayOf W2 k = Mk at *
                      clear hLk hMk
                      by_cases hmm : m = 0
                      case' pos =>
                        have hX := hm0 hmm
                        have heq : (X.toList == Lk.toList) = true := by rw [hX]; simp
                        clear hX
                        have hmm2 : (m == 0) = true := by simp [hmm]
                      case' neg =>
                        have hmm2 : (m == 0) = false := by simp [hmm]
                      all_goals
                        have HM0 := hide hm0
                        have HMM := hide hmm
                        clear hm0 hmm
                        go_wp2_with fail
                        refine (do_read hd9 (by simp [mkD]) (k : Int)).mono ?_
                        rintro e w' ⟨rfl, rfl⟩
                        rw [HRD.out]
                        go_wp2_with fail
                        go_loop [23, 22] (fun i ok => ∃ (p : Nat) (okb : Bool), p ≤ Mk.length ∧ i = .int .i64 p ∧ ok = .bool okb ∧ Hid (okb = false → X ≠ Lk ∧ ∀ q, q < p → Mk.getD q ⟨#[]⟩ ≠ X)) (fun i _ => Mk.length - (intOf i).toNat)
                        case atStart =>
                          refine ⟨0, X.toList == Lk.toList, by omega, rfl, by first | rfl | (rw [heq]; done) | simp [heq], hide (fun h => ⟨fun e => by rw [e] at h; simp at h, fun q hq => by omega⟩)⟩
                        case round =>
                          obtain ⟨p, okb, hp, rfl, rfl, hinv2⟩ := hrel
                          by_cases hpl : p < Mk.length
                          · obtain ⟨g9, cc9, hsl9, hcc9, _, _, hcells9⟩ := row_form hrow.out (by omega)
                            rw [HMV.out] at hsl9
                            obtain ⟨rfl, rfl⟩ : A9 = some ⟨g9, 0, none⟩ ∧ c9 = cc9 := by simpa using hsl9
                            have cp : w9.cell? ⟨g9, p, none⟩ = some (.string (Mk.getD p ⟨#[]⟩)) := (hcells9 p (by omega)).trans (strs_get _ p hpl)
                            have hpl0 : (p : Int) < Mk.length := by omega
                            clear hsl9 hcells9
                            generalize hMp : Mk.getD p ⟨#[]⟩ = Mp at *
                            have HMP := hide hMp; clear hMp
                            cases okb
                            · have hnew : Hid ((X.toList == Mp.toList) = false → X ≠ Lk ∧ ∀ q, q < p + 1 → Mk.getD q ⟨#[]⟩ ≠ X) := hide (fun h => by
                                obtain ⟨h1, h2⟩ := hinv2.out rfl
                                refine ⟨h1, fun q hq => ?_⟩
                                by_cases hqp : q = p
                                · subst hqp; rw [HMP.out]; intro e; rw [e] at h; simp at h
                                · exact h2 q (by omega))
                              go_wp2_with fail
                              go_round
                              case rel => exact ⟨p + 1, _, by omega, by go_num, rfl, hnew⟩
                              case measure => simp [intOf]; omega
                            · go_wp2_with fail
                              go_round
                              case rel => exact ⟨p + 1, true, by omega, by go_num, rfl, hide (fun h => by cases h)⟩
                              case measure => simp [intOf]; omega
                          · have hpl0 : ¬ (p : Int) < Mk.length := by omega
                            cases okb
                            · exfalso
                              obtain ⟨h1, h2⟩ := hinv2.out rfl
                              rcases HOR.out with h | h
                              · exact h1 h
                              · obtain ⟨q, hq, hqe⟩ := List.mem_iff_getElem.1 h
                                exact h2 q (by omega) (by rw [List.getD_eq_getElem?_getD, List.getElem?_eq_getElem hq]; exact hqe)
                            · go_wp2_with fail
                              go_round
                              case rel => exact ⟨k + 1, by omega, by go_num⟩
                              case measure => simp [intOf]; omega
                    · have hk160 : ¬ (k : Int) < 16 := by omega
                      go_wp2_with fail
                      refine (lknown4_calls _).mono ?_
                      rintro e w10 ⟨rfl, h10⟩
                      go_wp2_with fail
                      go_ret
                      exact ⟨rfl, hd9.out.bel.trans (h10.mono hd9.out.bel.size)⟩

theorem DiskLasts_walk (A0 : Option Addr) (cap0 : Nat) (l0 : List Int) (A1 : Option Addr) (cap1 : Nat) (l1 : List Int) (a2 : Int) (w : World) (_y0 : l0.length ≤ 9223372036854775807) (w0 : ReadsInts .u8 w A0 l0) (_y1 : l1.length ≤ 9223372036854775807) (w1 : ReadsInts .u8 w A1 l1) (_w2 : (Lit.int .u64 a2).wf = true) :
    Calls Try.prog 3 #[.slice A0 l0.length cap0, .slice A1 l1.length cap1, .int .u64 a2] w fun e w' => e = .returned (.bool true) ∧ Below w.heap.size w w' := lDiskLasts_calls A0 A1 cap0 cap1 l0 l1 a2 w w0 w1
end Go.Proofs.Ytfdikdacknfoeaa
