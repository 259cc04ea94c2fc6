/- Chapter 13: an instruction's wide number and its bytes. -/
import Derived.Test.YtagmoldiolabfaaInstD
import Derived.IntWalk
namespace Go.Proofs.Ytagmoldiolabfaa.Zb
open Go.RowKit
/-- bytes of numbers -/
def bytesI (xs : List Int) : ByteArray := ⟨(xs.map fun x => UInt8.ofNat x.toNat).toArray⟩
theorem conv_made {P : Program} (w : World) (src dst e : TypeId) (xs : List Int) (hx : ∀ x ∈ xs, 0 ≤ x ∧ x < 256) (hs : P.underlying src = some (.slice e)) (he : P.underlying e = some (.int .u8)) (hd : P.underlying dst = some .string) :
    (convert src dst (.slice (some ⟨w.heap.size, 0, none⟩) xs.length xs.length)).run P (w.alloc (.cells (xs.map (Value.int .u8)).toArray e)) = .ok (.string (bytesI xs)) (w.alloc (.cells (xs.map (Value.int .u8)).toArray e)) := by
  have hl : (xs.map fun x => UInt8.ofNat x.toNat).length = xs.length := List.length_map _
  have := conv_bytes (P := P) (w.alloc (.cells (xs.map (Value.int .u8)).toArray e)) src dst e ⟨w.heap.size, 0, none⟩ xs.length (xs.map fun x => UInt8.ofNat x.toNat) hs he hd (fun j hj => by
    rw [add_plain, (Blk.new w e _).cell j]
    simp only [bytesVals, List.map_map, List.getElem?_toArray, List.getElem?_map]
    cases hq : xs[j]? with
    | none => rfl
    | some x =>
      obtain ⟨h0, h1⟩ := hx x (List.mem_of_getElem? hq)
      simp
      omega)
  rw [hl] at this
  exact this
theorem or_low (b c : Int) (hb0 : 0 ≤ b) (hb1 : b ≤ 255) (hc0 : 0 ≤ c) (hc1 : c ≤ 255) : bits .or .i64 b (wrap64 (c * 256)) = b + 256 * c := by
  have e : wrap64 (c * 256) = c * 256 := by unfold wrap64; omega
  have hc : bits .or .i64 b (c * 256) = bits .or .i64 (c * 256) b := by simp only [bits, BitVec.or_comm]
  rw [e, hc, bits_join .i64 63 (by decide) (fun n h0 h1 => IntWalk.i64_in n (by omega)) 8 (c * 256) b (by omega) (by omega) (by omega) hb0 (by omega) (by omega)]
  omega
theorem fitsB_lim {n c : Int} (h : fitsB n c = true) : 0 ≤ n ∧ n ≤ 255 := by
  unfold fitsB at h
  split at h
  · simp at h; omega
  · simp at h; omega
theorem rightB_lim {op a b c : Int} (h : rightB op a b c = true) : (0 ≤ op ∧ op < 38) ∧ (0 ≤ a ∧ a ≤ 255) ∧ (0 ≤ b ∧ b ≤ 255) ∧ (0 ≤ c ∧ c ≤ 255) := by
  simp only [rightB, Bool.and_eq_true] at h
  obtain ⟨h0, ⟨h1, h2⟩, h3⟩ := h
  simp [isOp] at h0
  exact ⟨h0, fitsB_lim h1, fitsB_lim h2, fitsB_lim h3⟩
end Go.Proofs.Ytagmoldiolabfaa.Zb
namespace Go.Proofs.Ytagmoldiolabfaa
open Go.RowKit Zb

theorem iWide_calls (op a b c : Int) (w : World) : Calls Try.prog 12 #[instV op a b c] w fun e w' => e = .returned (.int .i64 (if rightB op a b c then b + 256 * c else 0)) ∧ Below w.heap.size w w' := by
  cases hR : rightB op a b c
  · go_enter Try.func12, Try.ntmps12
    go_wp2_with fail
    refine (iRight_calls _ _ _ _ _).mono ?_
    rintro e w1 ⟨rfl, hbw⟩
    rw [hR]
    have HBW := hide hbw
    clear hbw
    go_wp2_with fail
    go_ret
    exact ⟨rfl, below_alloc_then HBW.out 0⟩
  · obtain ⟨h1, h2, ⟨h30, h31⟩, h40, h41⟩ := rightB_lim hR
    have hor := or_low b c h30 h31 h40 h41
    clear h1 h2 h30 h31 h40 h41
    go_enter Try.func12, Try.ntmps12
    go_wp2_with fail
    refine (iRight_calls _ _ _ _ _).mono ?_
    rintro e w1 ⟨rfl, hbw⟩
    rw [hR]
    have K := (Blk.new w 23 #[.int .i64 op, .int .i64 a, .int .i64 b, .int .i64 c]).below hbw (by simp)
    have K1 := K.cell 2
    have K2 := K.cell 3
    have HBW := hide hbw
    clear hbw K
    go_wp2_with fail
    go_ret
    exact ⟨rfl, below_alloc_then HBW.out 0⟩

theorem riWide_calls (op a b c : Int) (w : World) : Calls Try.prog 13 #[instV op a b c] w fun e w' => e = .returned (.int .i64 (if rightB op a b c then b + 256 * c else 0)) ∧ Below w.heap.size w w' := by
  cases hR : rightB op a b c
  · go_enter Try.func13, Try.ntmps13
    go_wp2_with fail
    refine (riRight_calls _ _ _ _ _).mono ?_
    rintro e w1 ⟨rfl, hbw⟩
    rw [hR]
    have HBW := hide hbw
    clear hbw
    go_wp2_with fail
    go_ret
    exact ⟨rfl, below_alloc_then HBW.out 0⟩
  · obtain ⟨h1, h2, ⟨h30, h31⟩, h40, h41⟩ := rightB_lim hR
    have hor : wrap64 (b + wrap64 (256 * c)) = b + 256 * c := by unfold wrap64; omega
    have hor2 : wrap64 (b + 256 * c) = b + 256 * c := by unfold wrap64; omega
    clear h1 h2
    go_enter Try.func13, Try.ntmps13
    go_wp2_with fail
    refine (riRight_calls _ _ _ _ _).mono ?_
    rintro e w1 ⟨rfl, hbw⟩
    rw [hR]
    have K := (Blk.new w 23 #[.int .i64 op, .int .i64 a, .int .i64 b, .int .i64 c]).below hbw (by simp)
    have K1 := K.cell 2
    have K2 := K.cell 3
    have HBW := hide hbw
    clear hbw K
    go_wp2_with fail
    go_ret
    exact ⟨rfl, below_alloc_then HBW.out 0⟩

/-- an instruction's bytes -/
def buildB (op a b c : Int) : ByteArray := if rightB op a b c then bytesI [op, a, b, c] else ⟨#[]⟩
def buildE (op a b c : Int) : Int := if rightB op a b c then 0 else 4

theorem iBuild_calls (op a b c : Int) (w : World) : Calls Try.prog 8 #[instV op a b c] w fun e w' => e = .returned (.tuple #[.string (buildB op a b c), .int .i64 (buildE op a b c)]) ∧ Below w.heap.size w w' := by
  unfold buildB buildE
  cases hR : rightB op a b c
  · go_enter Try.func8, Try.ntmps8
    go_wp2_with fail
    refine (iRight_calls _ _ _ _ _).mono ?_
    rintro e w1 ⟨rfl, hbw⟩
    rw [hR]
    have HBW := hide hbw
    clear hbw
    go_wp2_with fail
    go_ret2
    exact ⟨rfl, below_alloc_then HBW.out 0⟩
  · obtain ⟨⟨h10, h11⟩, ⟨h20, h21⟩, ⟨h30, h31⟩, h40, h41⟩ := rightB_lim hR
    go_enter Try.func8, Try.ntmps8
    go_wp2_with fail
    refine (iRight_calls _ _ _ _ _).mono ?_
    rintro e w1 ⟨rfl, hbw⟩
    rw [hR]
    have K := (Blk.new w 23 #[.int .i64 op, .int .i64 a, .int .i64 b, .int .i64 c]).below hbw (by simp)
    have K0 := K.cell 0
    have K1 := K.cell 1
    have K2 := K.cell 2
    have K3 := K.cell 3
    have hcv := conv_made (P := Try.prog) w1 37 9 5 [op, a, b, c] (by intro x hx; simp at hx; omega) Try.underlying37 Try.underlying5 Try.underlying9
    simp only [List.length_cons, List.length_nil, List.map_cons, List.map_nil] at hcv
    have m1 : op % 256 = op := by omega
    have m2 : a % 256 = a := by omega
    have m3 : b % 256 = b := by omega
    have m4 : c % 256 = c := by omega
    have HBW := hide hbw
    clear hbw K
    go_wp2_with fail
    go_ret2
    exact ⟨rfl, ((((Turned.refl (fun _ => False) w).alloc _).then_below HBW.out).alloc _).below (Nat.le_refl _) (fun _ h => h.elim)⟩

theorem riBuild_calls (op a b c : Int) (w : World) : Calls Try.prog 9 #[instV op a b c] w fun e w' => e = .returned (.tuple #[.string (buildB op a b c), .int .i64 (buildE op a b c)]) ∧ Below w.heap.size w w' := by
  unfold buildB buildE
  cases hR : rightB op a b c
  · go_enter Try.func9, Try.ntmps9
    go_wp2_with fail
    refine (riRight_calls _ _ _ _ _).mono ?_
    rintro e w1 ⟨rfl, hbw⟩
    rw [hR]
    have HBW := hide hbw
    clear hbw
    go_wp2_with fail
    go_ret2
    exact ⟨rfl, below_alloc_then HBW.out 0⟩
  · obtain ⟨⟨h10, h11⟩, ⟨h20, h21⟩, ⟨h30, h31⟩, h40, h41⟩ := rightB_lim hR
    go_enter Try.func9, Try.ntmps9
    go_wp2_with fail
    refine (riRight_calls _ _ _ _ _).mono ?_
    rintro e w1 ⟨rfl, hbw⟩
    rw [hR]
    have K := (Blk.new w 23 #[.int .i64 op, .int .i64 a, .int .i64 b, .int .i64 c]).below hbw (by simp)
    have K0 := K.cell 0
    have K1 := K.cell 1
    have K2 := K.cell 2
    have K3 := K.cell 3
    have hcv := conv_made (P := Try.prog) w1 37 9 5 [op, a, b, c] (by intro x hx; simp at hx; omega) Try.underlying37 Try.underlying5 Try.underlying9
    simp only [List.length_cons, List.length_nil, List.map_cons, List.map_nil] at hcv
    have m1 : op % 256 = op := by omega
    have m2 : a % 256 = a := by omega
    have m3 : b % 256 = b := by omega
    have m4 : c % 256 = c := by omega
    have HBW := hide hbw
    clear hbw K
    go_wp2_with fail
    go_ret2
    exact ⟨rfl, ((((Turned.refl (fun _ => False) w).alloc _).then_below HBW.out).alloc _).below (Nat.le_refl _) (fun _ h => h.elim)⟩
end Go.Proofs.Ytagmoldiolabfaa
