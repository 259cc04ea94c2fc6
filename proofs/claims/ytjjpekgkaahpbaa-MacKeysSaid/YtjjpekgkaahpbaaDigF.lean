/- Chapter 2: spread (the 64 words of a block), walked. -/
import Derived.Test.YtjjpekgkaahpbaaDigE
import Derived.Deep.QuietTactic
import Derived.BigQuiet
import Derived.IntWalk
namespace Go.Proofs.Ytjjpekgkaahpbaa
open Go.RowKit Zb

def padTo (l : List Int) : List Int := l ++ List.replicate (64 - l.length) 0
theorem padTo_length (l : List Int) (h : l.length ≤ 64) : (padTo l).length = 64 := by unfold padTo; simp; omega
theorem padTo_set (l : List Int) (x : Int) (h : l.length < 64) : (padTo l).set l.length x = padTo (l ++ [x]) := by
  unfold padTo
  rw [List.set_append_right _ _ (Nat.le_refl _), Nat.sub_self, List.length_append, List.append_assoc]
  congr 1
  rw [show 64 - l.length = (64 - (l.length + [x].length)) + 1 by simp; omega, List.replicate_succ, List.set_cons_zero]
  rfl
theorem padTo_full (l : List Int) (h : l.length = 64) : padTo l = l := by unfold padTo; rw [h]; simp
theorem at0_padTo (l : List Int) (i : Nat) (h : i < l.length) : at0 (padTo l) i = at0 l i := by
  unfold padTo at0
  simp [List.getD, List.getElem?_append, h]
theorem wcs_length (l : List Int) : (wcs l).length = l.length := by simp [wcs]
theorem wcs_set (l : List Int) (i : Nat) (x : Int) : (wcs l).toArray.setIfInBounds i (.int .u32 x) = (wcs (l.set i x)).toArray := by simp [wcs, List.map_set]
theorem wcs_get (l : List Int) (i : Nat) (h : i < l.length) : (wcs l).toArray[i]? = some (.int .u32 (at0 l i)) := by
  simp [wcs, at0, h]
theorem wordsW_length (b : List UInt8) : ∀ n, (wordsW b n).length = n
  | 0 => rfl
  | n + 1 => by unfold wordsW; split <;> simp [wordsW_length b n]
theorem wordsW_lo (b : List UInt8) (n : Nat) (h : n < 16) : wordsW b (n + 1) = wordsW b n ++ [wordW b n] := by rw [wordsW, if_pos h]
theorem wordsW_hi (b : List UInt8) (n : Nat) (h : ¬ n < 16) : wordsW b (n + 1) = wordsW b n ++ [nextW (wordsW b n)] := by rw [wordsW, if_neg h]
theorem wordW_of (s : ByteArray) (k : Nat) (h : 4 * k + 4 ≤ s.size) :
    orW (orW (orW (((s[4 * k]'(by omega)).toNat : Int) * 2 ^ 24 % 4294967296) (((s[4 * k + 1]'(by omega)).toNat : Int) * 2 ^ 16 % 4294967296)) (((s[4 * k + 2]'(by omega)).toNat : Int) * 2 ^ 8 % 4294967296)) (((s[4 * k + 3]'(by omega)).toNat : Int)) = wordW s.data.toList k := by
  have e : ∀ j (hj : j < s.size), ((s[j]).toNat : Int) = byteI s.data.toList j := by
    intro j hj
    unfold byteI
    have hj' : j < s.data.toList.length := by simpa using hj
    rw [List.getD, List.getElem?_eq_getElem hj']
    rfl
  rw [e, e, e, e]
  rfl
theorem ext_get (s : ByteArray) (a b j : Nat) (h : a + j < b) (hb : b ≤ s.size) : (s.extract a b)[j]'(by rw [ByteArray.size_extract]; omega) = s[a + j]'(by omega) := by rw [ByteArray.getElem_extract]

theorem gword_at (s : ByteArray) (k : Nat) (h : 4 * k + 4 ≤ s.size) (hs : s.size ≤ 140737488351232) (w : World) :
    Calls Try.prog 38 #[.string (s.extract (4 * k) s.size)] w fun e w' => e = .returned (.int .u32 (wordW s.data.toList k)) ∧ Below w.heap.size w w' := by
  have hz : (s.extract (4 * k) s.size).size = s.size - 4 * k := by rw [ByteArray.size_extract]; omega
  have := gword_calls (s.extract (4 * k) s.size) _ _ _ _ (by omega) (by omega) (ext_get s (4 * k) s.size 0 (by omega) (Nat.le_refl _)) (ext_get s (4 * k) s.size 1 (by omega) (Nat.le_refl _)) (ext_get s (4 * k) s.size 2 (by omega) (Nat.le_refl _)) (ext_get s (4 * k) s.size 3 (by omega) (Nat.le_refl _)) w
  rw [← wordW_of s k h]
  exact this
theorem s0_of (x : Int) : bits .xor .u32 (bits .xor .u32 (rotW x 7) (rotW x 18)) (x / 8) = s0W x := rfl
theorem s1_of (x : Int) : bits .xor .u32 (bits .xor .u32 (rotW x 17) (rotW x 19)) (x / 1024) = s1W x := rfl

def SpR (w : World) (b : List UInt8) (k : Nat) (wr : World) : Prop :=
  Below w.heap.size w wr ∧ Blk wr w.heap.size 54 (wcs (padTo [])).toArray ∧ Blk wr (w.heap.size + 1) 54 (wcs (padTo (wordsW b k))).toArray

theorem SpR.start (w : World) (b : List UInt8) : SpR w b 0 ((w.alloc (.cells (wcs (padTo [])).toArray 54)).alloc (.cells (wcs (padTo [])).toArray 54)) :=
  ⟨((Below.refl _ _).alloc (Nat.le_refl _) _).alloc (by simp) _, (Blk.new w 54 _).alloc _, by
    have := Blk.new (w.alloc (.cells (wcs (padTo [])).toArray 54)) 54 (wcs (padTo [])).toArray
    have e : (w.alloc (.cells (wcs (padTo [])).toArray 54)).heap.size = w.heap.size + 1 := by simp
    rw [e] at this
    exact this⟩
theorem SpR.step {w : World} {b : List UInt8} {k : Nat} {wr : World} (h : SpR w b k wr) {w1 : World} (hb : Below wr.heap.size wr w1) (hk : k < 64) (x : Int) (hx : wordsW b (k + 1) = wordsW b k ++ [x]) : SpR w b (k + 1) (w1.setCell ⟨w.heap.size + 1, k, none⟩ (.int .u32 x)) := by
  obtain ⟨h1, h2, h3⟩ := h
  have s1 := h1.size
  refine ⟨(h1.trans (hb.mono s1)).setCell (by simp) _, (h2.below hb h2.lt).far (by simp) _, ?_⟩
  have := (h3.below hb h3.lt).set_ k (.int .u32 x)
  rw [wcs_set] at this
  have hl := wordsW_length b k
  have e := padTo_set (wordsW b k) x (by omega)
  rw [hl] at e
  rw [e, ← hx] at this
  exact this
theorem SpR.cell {w : World} {b : List UInt8} {k : Nat} {wr : World} (h : SpR w b k wr) (i : Nat) (hi : i < k) (hk : k ≤ 64) : wr.cell? ⟨w.heap.size + 1, i, none⟩ = some (.int .u32 (at0 (wordsW b k) i)) := by
  have hl := wordsW_length b k
  rw [h.2.2.cell, wcs_get _ _ (by rw [padTo_length _ (by omega)]; omega), at0_padTo _ _ (by omega)]
theorem SpR.any {w : World} {b : List UInt8} {k : Nat} {wr : World} (h : SpR w b k wr) (hk : k < 64) : ∃ x, wr.cell? ⟨w.heap.size + 1, k, none⟩ = some x := by
  have hl := wordsW_length b k
  exact ⟨_, by rw [h.2.2.cell, wcs_get _ _ (by rw [padTo_length _ (by omega)]; omega)]⟩

set_option maxRecDepth 20000 in
set_option maxHeartbeats 4000000 in
theorem gspread_calls (s : ByteArray) (h : s.size = 64) (w : World) : Calls Try.prog 35 #[.string s] w fun e w' => e = .returned (.agg (wcs (wordsW s.data.toList 64)).toArray) ∧ Below w.heap.size w w' := by
  have HI0 := hide (SpR.start w s.data.toList)
  have HS := hide h
  have hsz : s.size ≤ 64 := by omega
  have hsz2 : 64 ≤ s.size := by omega
  clear h
  go_enter Try.func35, Try.ntmps35
  go_wp2_with fail
  go_loopw [9] (fun i wr => ∃ k : Nat, k ≤ 64 ∧ i = .int .i64 k ∧ Hid (SpR w s.data.toList k wr)) (fun i _ => 64 - (intOf i).toNat)
  case atStart => exact ⟨0, Nat.zero_le _, rfl, HI0⟩
  case round =>
  clear HI0
  obtain ⟨k, hk, rfl, hinv⟩ := hrel
  by_cases hlt : k < 64
  · obtain ⟨xk, hxk⟩ := hinv.out.any hlt
    have hfz : wr.frozen? ⟨w.heap.size + 1, k, none⟩ = false := hinv.out.2.2.frozen k
    by_cases hlo : k < 16
    · have hkI : (k : Int) < 16 := by omega
      have h4 : (4 : Int) * k ≤ s.size := by omega
      go_wp2_with fail
      refine (gword_at s k (by have := HS.out; omega) (by omega) wr).mono ?_
      rintro e w2 ⟨rfl, hb2⟩
      have hx2 : w2.cell? ⟨w.heap.size + 1, k, none⟩ = some xk := (hb2.cell (p := ⟨w.heap.size + 1, k, none⟩) hinv.out.2.2.lt).trans hxk
      have hf2 : w2.frozen? ⟨w.heap.size + 1, k, none⟩ = false := (hb2.frozen (p := ⟨w.heap.size + 1, k, none⟩) hinv.out.2.2.lt).trans hfz
      have HN := hide (hinv.out.step hb2 hlt (wordW s.data.toList k) (wordsW_lo _ _ hlo))
      clear hb2 hxk hfz
      go_wp2_with fail
      go_roundw
      case rel => exact ⟨k + 1, by omega, by go_num, HN⟩
      case measure => simp [intOf]; omega
    · obtain ⟨p15, hp15⟩ : ∃ p, p + 15 = k := ⟨k - 15, by omega⟩
      obtain ⟨p2, hp2⟩ : ∃ p, p + 2 = k := ⟨k - 2, by omega⟩
      obtain ⟨p16, hp16⟩ : ∃ p, p + 16 = k := ⟨k - 16, by omega⟩
      obtain ⟨p7, hp7⟩ : ∃ p, p + 7 = k := ⟨k - 7, by omega⟩
      have hgt : decide ((k : Int) < 16) = false := by simp; omega
      have y15 := hinv.out.cell p15 (by omega) hk
      have y2 := hinv.out.cell p2 (by omega) hk
      have y16 := hinv.out.cell p16 (by omega) hk
      have y7 := hinv.out.cell p7 (by omega) hk
      have hw := wordsW_hi s.data.toList k hlo
      have hl := wordsW_length s.data.toList k
      unfold nextW at hw
      rw [hl, show k - 15 = p15 by omega, show k - 2 = p2 by omega, show k - 16 = p16 by omega, show k - 7 = p7 by omega] at hw
      have i15 : p15 < 64 := by omega
      have i2 : p2 < 64 := by omega
      have i16 : p16 < 64 := by omega
      have i7 : p7 < 64 := by omega
      have j15 : (p15 : Int) < 64 := by omega
      have j2 : (p2 : Int) < 64 := by omega
      have j16 : (p16 : Int) < 64 := by omega
      have j7 : (p7 : Int) < 64 := by omega
      have s15 : IntKind.i64.wrap ((k : Int) - 15) = (p15 : Int) := by rw [IntWalk.i64_in _ (by omega)]; omega
      have s2 : IntKind.i64.wrap ((k : Int) - 2) = (p2 : Int) := by rw [IntWalk.i64_in _ (by omega)]; omega
      have s16 : IntKind.i64.wrap ((k : Int) - 16) = (p16 : Int) := by rw [IntWalk.i64_in _ (by omega)]; omega
      have s7 : IntKind.i64.wrap ((k : Int) - 7) = (p7 : Int) := by rw [IntWalk.i64_in _ (by omega)]; omega
      generalize at0 (wordsW s.data.toList k) p15 = x15 at *
      generalize at0 (wordsW s.data.toList k) p2 = x2 at *
      generalize at0 (wordsW s.data.toList k) p16 = x16 at *
      generalize at0 (wordsW s.data.toList k) p7 = x7 at *
      have HW := hide hw
      clear hw hl hp15 hp2 hp16 hp7 hlo
      go_wp2_with fail
      go_quiet (fail)
      clear s15 s2
      go_wp2_with fail
      refine (gright_calls x15 7 (by omega) (by omega) _).mono ?_
      rintro e w' ⟨rfl, rfl⟩
      go_wp2_with fail
      refine (gright_calls x15 18 (by omega) (by omega) _).mono ?_
      rintro e w' ⟨rfl, rfl⟩
      go_wp2_with fail
      refine (gright_calls x2 17 (by omega) (by omega) _).mono ?_
      rintro e w' ⟨rfl, rfl⟩
      go_wp2_with fail
      refine (gright_calls x2 19 (by omega) (by omega) _).mono ?_
      rintro e w' ⟨rfl, rfl⟩
      go_wp2_with fail
      rw [s0_of, s1_of]
      refine wp_region_tail 15 rfl (by kernel_rfl) ?_
      repeat still_step
      refine wpStill_nil ?_
      have HN := fun x hx => hide (hinv.out.step (show Below wr.heap.size wr (wr.drewN nq).drew from ⟨rfl, rfl, rfl, Nat.le_refl _, fun _ _ => rfl⟩) hlt x hx)
      generalize s0W x15 = s0 at *
      generalize s1W x2 = s1 at *
      rw [show addW (addW (addW x16 s0) x7) s1 = (x16 + s0 + x7 + s1) % 4294967296 by unfold addW; omega] at HW
      go_wp2_with fail
      go_roundw
      case rel => exact ⟨k + 1, by omega, by go_num, HN _ HW.out⟩
      case measure => simp [intOf]; omega
  · obtain rfl : k = 64 := by omega
    have HF := hide (padTo_full _ (wordsW_length s.data.toList 64))
    obtain ⟨hb, h0, h1⟩ := hinv.out
    have h2 : Blk (wr.setRow w.heap.size (wcs (wordsW s.data.toList 64)).toArray) w.heap.size 54 (wcs (wordsW s.data.toList 64)).toArray := setRow_heap wr _ _ _ _ _ h0
    have HB2 : Hid (Below w.heap.size w (wr.setRow w.heap.size (wcs (wordsW s.data.toList 64)).toArray)) := hide (below_setRow hb (Nat.le_refl _) _)
    have HR2 := hide h2
    have H0 := hide h0
    have H1 := hide h1
    rw [HF.out] at H1
    clear hb h0 h1 h2
    have hln : (wcs (wordsW s.data.toList 64)).toArray.size = 64 := by rw [List.size_toArray, wcs_length, wordsW_length]
    have hone : (wcs (wordsW s.data.toList 64)).toArray.all (·.oneCell') = true := by simp [wcs]; intro _ _; rfl
    have HLN := hide hln
    have HONE := hide hone
    clear hln hone
    go_wp2_with ((with_reducible show wpList _ _ _ (⟨some 61, _, _, _, _, _⟩ :: _) _ _); refine wpList_load_row rfl _ _ rfl (w.heap.size + 1) rfl 54 _ (0, 0) _ H1.out Try.underlying54 rfl (by rw [HLN.out]; kernel_rfl) ?_; refine wpList_store_row rfl _ _ _ rfl w.heap.size _ rfl rfl 54 _ H0.out (by rw [HLN.out]; kernel_rfl) (by rw [HLN.out]; rfl) HONE.out ?_)
    generalize wr.setRow w.heap.size (wcs (wordsW s.data.toList 64)).toArray = w2 at *
    repeat go_step
    exact ret_cell1 rfl rfl rfl HR2.out Try.underlying54 rfl (by rw [HLN.out]; kernel_rfl) ⟨rfl, HB2.out⟩
end Go.Proofs.Ytjjpekgkaahpbaa
