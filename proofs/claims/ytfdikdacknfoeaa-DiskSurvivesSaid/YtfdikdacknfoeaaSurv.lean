/- DiskSurvives, walked: behind a failure a block has the last of the writes to it that the mask lets last. -/
import Derived.Test.YtfdikdacknfoeaaDiskO
import Derived.Test.YtfdikdacknfoeaaArgs
namespace Go.Proofs.Ytfdikdacknfoeaa
open Go.RowKit Zb

/-- the first i writes of the statement -/
def svWrites (l : List Int) (i : Nat) : List (Int × ByteArray) := (List.range i).map fun j => (l.getD j 0 % 16, fullI (1 + (j : Int)))
theorem svWrites_succ (l : List Int) (i : Nat) : svWrites l (i + 1) = svWrites l i ++ [(l.getD i 0 % 16, fullI (1 + (i : Int)))] := by simp [svWrites, List.range_succ]
theorem svWrites_len (l : List Int) (i : Nat) : (svWrites l i).length = i := by simp [svWrites]
def svDisk (l : List Int) (i : Nat) : DiskM := { DiskM.new 16 with waits := svWrites l i, ops := i }
def svWant (l : List Int) (m : Int) (i : Nat) : List ByteArray := settleTo (maskBit m) 0 (svWrites l i) (List.replicate 16 (zeros 64))

theorem svDisk_write (l : List Int) (i : Nat) (hi : i < 64) : (svDisk l i).write (l.getD i 0 % 16) (fullI (1 + (i : Int))) = (svDisk l (i + 1), 0) := by
  have hk : 0 ≤ l.getD i 0 % 16 ∧ l.getD i 0 % 16 < 16 := by omega
  have hwr : (svDisk l i).wrong (l.getD i 0 % 16) = 0 := by
    unfold DiskM.wrong
    rw [if_neg (by simp [svDisk, DiskM.new]), if_neg (by simp only [svDisk, DiskM.new, List.length_replicate]; omega)]
  have hw : wrap64 ((i : Int) + 1) = (i : Int) + 1 := by unfold wrap64; omega
  unfold DiskM.write
  rw [if_neg (by rw [hwr]; omega), if_neg (by rw [fullI_size]; omega)]
  simp [DiskM.cut, svDisk, DiskM.new, svWrites_succ, hw]

structure SvInv (w : World) (b g : Nat) (l : List Int) (m : Int) (k : Nat) (wr : World) : Prop where
  d : DO w.heap.size w wr b (svDisk l k) (fun x => x = g)
  c : Blk wr g 28 (strs (svWant l m k)).toArray
structure Sv0Inv (w : World) (b g : Nat) (k : Nat) (wr : World) : Prop where
  d : DO w.heap.size w wr b (DiskM.new 16) (fun x => x = g)
  c : Blk wr g 28 (strs (List.replicate k (zeros 64) ++ List.replicate (16 - k) ⟨#[]⟩)).toArray
structure Sv2Inv (w : World) (b g : Nat) (D : DiskM) (L : List ByteArray) (wr : World) : Prop where
  d : DO w.heap.size w wr b D (fun x => x = g)
  c : Blk wr g 28 (strs L).toArray

theorem maskBit_lt (m : Int) (k : Nat) (h : k < 64) : maskBit m k = (bits BinOp.and IntKind.u64 (m / 2 ^ k) 1 == 1) := by unfold maskBit; rw [Nat.mod_eq_of_lt h]
theorem svWant_succ (l : List Int) (m : Int) (k : Nat) : svWant l m (k + 1) = if maskBit m k then (svWant l m k).set (l.getD k 0 % 16).toNat (fullI (1 + (k : Int))) else svWant l m k := by
  unfold svWant
  rw [svWrites_succ, settleTo_snoc, svWrites_len, Nat.zero_add]
theorem svWant_len (l : List Int) (m : Int) (k : Nat) : (svWant l m k).length = 16 := by unfold svWant; rw [settleTo_length]; simp
def svEnd (l : List Int) (m : Int) (k : Nat) : DiskM := ((svDisk l k).fail m).start
theorem svEnd_eq (l : List Int) (m : Int) (k : Nat) : svEnd l m k = { svDisk l k with lasts := svWant l m k, waits := [], off := false } := by
  simp [svEnd, DiskM.fail, DiskM.start, svDisk, DiskM.new, svWant]
theorem svEnd_read (l : List Int) (m : Int) (k j : Nat) (hj : j < 16) : (svEnd l m k).read (j : Int) = ((svWant l m k).getD j ⟨#[]⟩, 0) := by
  have hwr : (svEnd l m k).wrong (j : Int) = 0 := by
    unfold DiskM.wrong
    rw [svEnd_eq, if_neg (by simp), if_neg (by simp only [svWant_len]; omega)]
  unfold DiskM.read
  rw [if_pos hwr, svEnd_eq]
  simp [seen]
theorem full0 : fullB 0 = zeros 64 := rfl

set_option maxHeartbeats 2000000 in
theorem lDiskSurvives_calls (A : Option Addr) (cap : Nat) (l : List Int) (m : Int) (w : World) (hr : ReadsInts .u8 w A l) :
    Calls Try.prog 5 #[.slice A l.length cap, .int .u64 m] w fun e w' => e = .returned (.bool true) ∧ Below w.heap.size w w' := by
  have HR := hide hr; clear hr
  go_enter Try.func5, Try.ntmps5
  go_wp2_with fail
  refine (ds_new (B := w.heap.size) (w0 := w) 16 (by omega) (by omega) (Below.refl _ _) (Nat.le_refl _)).mono ?_
  rintro e w1 ⟨b, rfl, hd1⟩
  go_wp2_with fail
  have hs0 : Hid (Sv0Inv w b w1.heap.size 0 (w1.alloc (.cells #[.string ⟨#[]⟩, .string ⟨#[]⟩, .string ⟨#[]⟩, .string ⟨#[]⟩, .string ⟨#[]⟩, .string ⟨#[]⟩, .string ⟨#[]⟩, .string ⟨#[]⟩, .string ⟨#[]⟩, .string ⟨#[]⟩, .string ⟨#[]⟩, .string ⟨#[]⟩, .string ⟨#[]⟩, .string ⟨#[]⟩, .string ⟨#[]⟩, .string ⟨#[]⟩] 28))) := by
    refine hide ⟨(DO.of_ds hd1.out).more ((Turned.refl _ _).alloc _) (fun x hx => .inr ?_), Blk.new w1 28 _⟩
    simp only [World.size_alloc]
    omega
  have hle : w.heap.size ≤ w1.heap.size := hd1.out.2.1
  clear hd1
  generalize hg : w1.heap.size = g at *
  clear hg
  go_loopw [8] (fun i wr => ∃ k : Nat, k ≤ 16 ∧ i = .int .i64 k ∧ Hid (Sv0Inv w b g k wr)) (fun i _ => 16 - (intOf i).toNat)
  case atStart => exact ⟨0, Nat.zero_le _, rfl, hs0⟩
  case round =>
    clear hs0
    obtain ⟨k, hk, rfl, hinv⟩ := hrel
    by_cases hlt : k < 16
    · go_wp2_with fail
      refine (lFull_calls 0 _).mono ?_
      rintro e w2 ⟨rfl, hb2⟩
      have hd2 := hide (hinv.out.d.below hb2)
      have hc2 := (hinv.out.d.keeps_below hb2).blk hinv.out.c rfl
      have hsz : (strs (List.replicate k (zeros 64) ++ List.replicate (16 - k) ⟨#[]⟩)).toArray.size = 16 := by simp [strs]; omega
      have ck : ∃ u, w2.cell? ⟨g, k, none⟩ = some u := ⟨_, (hc2.cell k).trans (Array.getElem?_eq_getElem (by omega))⟩
      have fk := hc2.frozen k
      have hc3 := hc2.set_ k (.string (fullB 0))
      have hs : Hid (Sv0Inv w b g (k + 1) (w2.setCell ⟨g, k, none⟩ (.string (fullB 0)))) := by
        refine hide ⟨hd2.out.setCell (by rfl) _, ?_⟩
        rw [← replicate_step 16 k hlt, strs_set]
        rw [full0] at hc3 ⊢
        simpa using hc3
      obtain ⟨u, ck⟩ := ck
      have HC := hide hc2
      clear hc3 hc2 hb2 hsz
      go_wp2_with fail
      go_roundw
      case rel => exact ⟨k + 1, by omega, by go_num, hs⟩
      case measure => simp [intOf]; omega
    · have hk16 : k = 16 := by omega
      rw [show ((k : Nat) : Int) = 16 by omega]
      subst hk16
      have hs1 : Hid (SvInv w b g l m 0 wr) := hide ⟨hinv.out.d, hinv.out.c⟩
      clear hinv
      obtain ⟨wo, rfl⟩ : ∃ wo : World, wo = wr := ⟨_, rfl⟩
      go_wp2_with fail
      go_loopw [9] (fun i wr => ∃ k : Nat, k ≤ 64 ∧ k ≤ l.length ∧ i = .int .i64 k ∧ Hid (SvInv w b g l m k wr)) (fun i _ => 64 - (intOf i).toNat)
      case atStart => exact ⟨0, by omega, by omega, rfl, hs1⟩
      case round =>
        clear hs1
        obtain ⟨k, hk, hk2, rfl, hinv⟩ := hrel
        by_cases hlt : k < l.length ∧ k < 64
        · have hk3 := hlt.1
          have hk4 := hlt.2
          have hlt := hide hlt
          obtain ⟨ad, hA, hadl, hc, hwf⟩ := HR.out k hk3
          subst hA
          have hx := bounds_u8 hwf
          have hc1 := (hinv.out.d.bel.cell (p := ad.add k) (by rw [block_add]; exact hadl)).trans hc
          have hfin := svDisk_write l k hk4
          have HW := hide (svWant_succ l m k)
          generalize hx0 : l.getD k 0 = x at *
          clear hwf hc
          go_wp2_with fail
          refine (lFull_int (1 + (k : Int)) (by omega) (by omega) _).mono ?_
          rintro e w2 ⟨rfl, hb2⟩
          have hd2 := hide (hinv.out.d.below hb2)
          have hc2 := hide ((hinv.out.d.keeps_below hb2).blk hinv.out.c rfl)
          clear hb2
          go_wp2_with fail
          refine (do_write hd2 (by simp [svDisk, svWrites_len]; omega) (x % 16) _).mono ?_
          rintro e w3 ⟨rfl, hd3, hk3⟩
          rw [hfin] at hd3 ⊢
          have hc3 := hide (hk3.out.blk hc2.out rfl)
          clear hd2 hc2 hk3 hfin
          have hsz : (strs (svWant l m k)).toArray.size = 16 := by simp [strs_len, svWant_len]
          have ck : ∃ u, w3.cell? ⟨g, (x % 16).toNat, none⟩ = some u := ⟨_, (hc3.out.cell _).trans (Array.getElem?_eq_getElem (by omega))⟩
          have fk := hc3.out.frozen (x % 16).toNat
          have hc4 := hide (hc3.out.set_ (x % 16).toNat (.string (fullI (1 + (k : Int)))))
          obtain ⟨u, ck⟩ := ck
          clear hsz
          cases hbit : maskBit m k
          · have hs : Hid (SvInv w b g l m (k + 1) w3) := hide ⟨hd3.out, by rw [HW.out, hbit, if_neg (by simp)]; exact hc3.out⟩
            rw [maskBit_lt m k hk4] at hbit
            go_wp2_with fail
            go_roundw
            case rel => exact ⟨k + 1, by omega, by omega, by go_num, hs⟩
            case measure => simp [intOf]; omega
          · have hs : Hid (SvInv w b g l m (k + 1) (w3.setCell ⟨g, (x % 16).toNat, none⟩ (.string (fullI (1 + (k : Int)))))) := by
              refine hide ⟨hd3.out.setCell (by rfl) _, ?_⟩
              rw [HW.out, hbit, if_pos rfl, strs_set]
              have := hc4.out
              simpa using this
            rw [maskBit_lt m k hk4] at hbit
            go_wp2_with fail
            go_roundw
            case rel => exact ⟨k + 1, by omega, by omega, by go_num, hs⟩
            case measure => simp [intOf]; omega
        · have hs2 : Hid (Sv2Inv w b g (svDisk l k) (svWant l m k) wr) := hide ⟨hinv.out.d, hinv.out.c⟩
          have hwl : (svDisk l k).waits.length ≤ 4294967290 := by simp [svDisk, svWrites_len]; omega
          clear hinv
          obtain ⟨wp, rfl⟩ : ∃ wp : World, wp = wr := ⟨_, rfl⟩
          by_cases hk3 : k < l.length
          · have hk4 : k = 64 := by omega
            have hlt := hide hlt
            rw [show ((k : Nat) : Int) = 64 by omega]
            subst hk4
            go_wp2_with fail
            refine (do_fail hs2.out.d hwl m).mono ?_
            rintro e w4 ⟨rfl, hd4, hk4b⟩
            have hc4 := hide (hk4b.out.blk hs2.out.c rfl)
            clear hs2 hk4b hwl
            go_wp2_with fail
            refine (do_start hd4).mono ?_
            rintro e w5 ⟨rfl, hd5, hk5⟩
            have hc5 := hide (hk5.out.blk hc4.out rfl)
            clear hc4 hk5 hd4
            go_wp2_with fail
            go_loop [12] (fun i => ∃ j : Nat, j ≤ 16 ∧ i = .int .i64 j) (fun i => 16 - (intOf i).toNat)
            case atStart => exact ⟨0, by omega, rfl⟩
            case round =>
              obtain ⟨j, hj, rfl⟩ := hrel
              by_cases hjl : j < 16
              · have hE := hide (svEnd_read l m 64 j hjl)
                have cj : w5.cell? ⟨g, j, none⟩ = some (.string ((svWant l m 64).getD j ⟨#[]⟩)) := (hc5.out.cell j).trans (by rw [List.getElem?_toArray]; exact strs_get _ j (by rw [svWant_len]; exact hjl))
                generalize (svWant l m 64).getD j ⟨#[]⟩ = sj at *
                go_wp2_with fail
                refine (do_read (D := svEnd l m 64) hd5 (by rw [svEnd_eq]; simp) (j : Int)).mono ?_
                rintro e w' ⟨rfl, rfl⟩
                rw [hE.out]
                go_wp2_with fail
                go_round
                case rel => exact ⟨j + 1, by omega, by go_num⟩
                case measure => simp [intOf]; omega
              · go_wp2_with fail
                refine (do_waits (D := svEnd l m 64) hd5).mono ?_
                rintro e w' ⟨rfl, rfl⟩
                rw [show (svEnd l m 64).waits.length = 0 by rw [svEnd_eq]; rfl]
                go_wp2_with fail
                refine (lknown4_calls _).mono ?_
                rintro e w6 ⟨rfl, h6⟩
                go_wp2_with fail
                go_ret
                exact ⟨rfl, hd5.out.bel.trans (h6.mono hd5.out.bel.size)⟩
          · have hlt := hide hlt
            have hk4 : ¬ (k : Int) < l.length := by omega
            go_wp2_with fail
            refine (do_fail hs2.out.d hwl m).mono ?_
            rintro e w4 ⟨rfl, hd4, hk4b⟩
            have hc4 := hide (hk4b.out.blk hs2.out.c rfl)
            clear hs2 hk4b hwl
            go_wp2_with fail
            refine (do_start hd4).mono ?_
            rintro e w5 ⟨rfl, hd5, hk5⟩
            have hc5 := hide (hk5.out.blk hc4.out rfl)
            clear hc4 hk5 hd4
            go_wp2_with fail
            go_loop [12] (fun i => ∃ j : Nat, j ≤ 16 ∧ i = .int .i64 j) (fun i => 16 - (intOf i).toNat)
            case atStart => exact ⟨0, by omega, rfl⟩
            case round =>
              obtain ⟨j, hj, rfl⟩ := hrel
              by_cases hjl : j < 16
              · have hE := hide (svEnd_read l m k j hjl)
                have cj : w5.cell? ⟨g, j, none⟩ = some (.string ((svWant l m k).getD j ⟨#[]⟩)) := (hc5.out.cell j).trans (by rw [List.getElem?_toArray]; exact strs_get _ j (by rw [svWant_len]; exact hjl))
                generalize (svWant l m k).getD j ⟨#[]⟩ = sj at *
                go_wp2_with fail
                refine (do_read (D := svEnd l m k) hd5 (by rw [svEnd_eq]; simp) (j : Int)).mono ?_
                rintro e w' ⟨rfl, rfl⟩
                rw [hE.out]
                go_wp2_with fail
                go_round
                case rel => exact ⟨j + 1, by omega, by go_num⟩
                case measure => simp [intOf]; omega
              · go_wp2_with fail
                refine (do_waits (D := svEnd l m k) hd5).mono ?_
                rintro e w' ⟨rfl, rfl⟩
                rw [show (svEnd l m k).waits.length = 0 by rw [svEnd_eq]; rfl]
                go_wp2_with fail
                refine (lknown4_calls _).mono ?_
                rintro e w6 ⟨rfl, h6⟩
                go_wp2_with fail
                go_ret
                exact ⟨rfl, hd5.out.bel.trans (h6.mono hd5.out.bel.size)⟩

theorem DiskSurvives_walk (A0 : Option Addr) (cap0 : Nat) (l0 : List Int) (a1 : Int) (w : World) (_y0 : l0.length ≤ 9223372036854775807) (w0 : ReadsInts .u8 w A0 l0) (_w1 : (Lit.int .u64 a1).wf = true) :
    Calls Try.prog 5 #[.slice A0 l0.length cap0, .int .u64 a1] w fun e w' => e = .returned (.bool true) ∧ Below w.heap.size w w' := lDiskSurvives_calls A0 cap0 l0 a1 w w0
end Go.Proofs.Ytfdikdacknfoeaa
