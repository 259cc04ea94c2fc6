/- Chapter 2: word, walked. -/
import Derived.Test.YtjjpekgkaahpbaaDigA
import Derived.Test.YtjjpekgkaahpbaaHeld
namespace Go.Proofs.Ytjjpekgkaahpbaa
open Go.RowKit Zb

theorem wrap_u32 (z : Int) : IntKind.u32.wrap z = z % 4294967296 := rfl
theorem p24 : (2 : Int) ^ 24 = 16777216 := rfl
theorem p16 : (2 : Int) ^ 16 = 65536 := rfl
theorem p8 : (2 : Int) ^ 8 = 256 := rfl
set_option maxRecDepth 20000 in
theorem gword_calls (s : ByteArray) (a b c d : UInt8) (h : 4 ≤ s.size) (hs : s.size ≤ 140737488351232) (h0 : s[0]'(by omega) = a) (h1 : s[1]'(by omega) = b) (h2 : s[2]'(by omega) = c) (h3 : s[3]'(by omega) = d) (w : World) :
    Calls Try.prog 38 #[.string s] w fun e w' => e = .returned (.int .u32 (orW (orW (orW ((a.toNat : Int) * 2 ^ 24 % 4294967296) ((b.toNat : Int) * 2 ^ 16 % 4294967296)) ((c.toNat : Int) * 2 ^ 8 % 4294967296)) (d.toNat : Int))) ∧ Below w.heap.size w w' := by
  have l0 : 0 < s.size := by omega
  have l1 : 1 < s.size := by omega
  have l2 : 2 < s.size := by omega
  have l3 : 3 < s.size := by omega
  have m0 : (0 : Int) < s.size := by omega
  have m1 : (1 : Int) < s.size := by omega
  have m2 : (2 : Int) < s.size := by omega
  have m3 : (3 : Int) < s.size := by omega
  have ha : (a.toNat : Int) < 256 := by have := a.toNat_lt; omega
  have hb : (b.toNat : Int) < 256 := by have := b.toNat_lt; omega
  have hc : (c.toNat : Int) < 256 := by have := c.toNat_lt; omega
  have hd : (d.toNat : Int) < 256 := by have := d.toNat_lt; omega
  go_enter Try.func38, Try.ntmps38
  go_wp2_with fail
  refine wp_region_heads [0, 1, 2, 3, 4, 5, 6, 7, 8, 9, 10, 11, 12, 13, 14, 15, 16, 17] 1 (fun _ => True) (by kernel_rfl) rfl (by kernel_rfl) (by kernel_rfl) (fun _ _ d _ _ h => by cases d <;> exact h) trivial ?_
  iterate 18
    refine' Heads.step rfl (by rfl) ?_ ?_
    rotate_left
    · intro w' hSw
      go_simp
      try with_reducible rfl
    simp only [Act.put, List.setIfInBounds_toArray, List.set_cons_zero, List.set_cons_succ]
  refine Heads.done ?_
  refine wpAnyH_ready (rs := [18]) (by kernel_rfl) (by simp) (AllReadyH.cons rfl (fun K hK => ?_) AllReadyH.nil)
  go_simp
  refine hK.out _ _ trivial (fun hHeld1 => ?_)
  clear hK K
  refine wpAnyH_done (by kernel_rfl) ?_ _
  go_wp2_with fail
  go_ret
  refine ⟨ret_u32 ?_, ?_⟩
  · have e : ∀ z : Int, 0 ≤ z → z < 256 → z % 4294967296 = z := fun z _ _ => by omega
    simp only [wrap_u32, e _ (Int.natCast_nonneg _) ha, e _ (Int.natCast_nonneg _) hb, e _ (Int.natCast_nonneg _) hc, e _ (Int.natCast_nonneg _) hd, p24, p16, p8]
  exact (Below.refl _ _).drew
end Go.Proofs.Ytjjpekgkaahpbaa
