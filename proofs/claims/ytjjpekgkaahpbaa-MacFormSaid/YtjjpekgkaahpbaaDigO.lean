/- Chapter 2: the document's tables: a slice of words of a call's own; constants, padded. -/
import Derived.Test.YtjjpekgkaahpbaaDigN
import Derived.Test.YtjjpekgkaahpbaaApp
import Derived.Test.YtjjpekgkaahpbaaBufQ
namespace Go.Proofs.Ytjjpekgkaahpbaa
open Go.RowKit Zb

theorem info_u32 : (Try.prog.info? 41).map (fun i => (i.zero, i.size, i.bytes)) = some (some (.int .u32 0), 1, 4) := by kernel_rfl
/-- Below w0's heap nothing has turned since w0; v is a slice of the words l, in a block that is newer. -/
structure WBuf (w0 w : World) (v : Value) (l : List Int) : Prop where
  bel : Below w0.heap.size w0 w
  row : Row w 41 1 v l.length (wcs l)
  own : ∀ g, v.ownBlock = some g → w0.heap.size ≤ g
section
variable {w0 w : World} {v : Value} {l : List Int}
theorem WBuf.nil (h : Below w0.heap.size w0 w) : WBuf w0 w (.slice none 0 0) [] := ⟨h, row_nil _ _ _, fun g hg => by simp [Value.ownBlock] at hg⟩
theorem WBuf.below {w' : World} (h : WBuf w0 w v l) (k : Below w.heap.size w w') : WBuf w0 w' v l :=
  ⟨h.bel.trans (k.mono h.bel.size), row_of h.row fun g hg => k.block g (row_lt h.row g hg), h.own⟩
theorem WBuf.alloc (h : WBuf w0 w v l) (o : Obj) : WBuf w0 (w.alloc o) v l := h.below ((Below.refl _ _).alloc (Nat.le_refl _) o)
theorem WBuf.drew (h : WBuf w0 w v l) : WBuf w0 w.drew v l := h.below (Below.refl _ _).drew
theorem WBuf.grown {w' : World} {v' : Value} {l' : List Int} (h : WBuf w0 w v l) (hr : Row w' 41 1 v' l'.length (wcs l')) (hg : w.grownBy w' v.ownBlock) (ha : v'.ownBlock = v.ownBlock ∨ v'.ownBlock = some w.heap.size) : WBuf w0 w' v' l' :=
  ⟨h.bel.grown hg h.bel.size (fun k hk => h.own k hk), hr, fun g hg' => by
    rcases ha with e | e
    · exact h.own g (e.symm.trans hg')
    · rw [e] at hg'
      have := h.bel.size
      cases hg'
      omega⟩
theorem WBuf.slice (h : WBuf w0 w v l) : ∃ A c, v = .slice A l.length c ∧ l.length ≤ c := row_slice h.row
theorem WBuf.form (h : WBuf w0 w v l) (hn : 0 < l.length) : ∃ g c, v = .slice (some ⟨g, 0, none⟩) l.length c ∧ g < w.heap.size ∧ ∀ j, j < l.length → w.cell? ⟨g, j, none⟩ = some (.int .u32 (at0 l j)) := by
  obtain ⟨g, c, hv, _, hg, _, hc⟩ := row_form h.row hn
  refine ⟨g, c, hv, hg, fun j hj => ?_⟩
  rw [hc j (by omega)]
  have := wcs_get l j hj
  simpa using this
theorem WBuf.lit (w : World) (cs : Array Value) (l : List Int) (hc : cs.toList = wcs l) (hl : l.length ≤ 1000000) : WBuf w (w.alloc (.cells cs 41)) (.slice (some ⟨w.heap.size, 0, none⟩) l.length l.length) l := by
  have hs : cs.size = l.length * 1 := by rw [← Array.length_toList, hc, wcs_length, Nat.mul_one]
  refine ⟨(Below.refl _ _).alloc (Nat.le_refl _) _, ?_, fun g hg => ?_⟩
  · have := World.ownsRow_lit (base := 0) (e := 41) (size := 1) w cs l.length (Nat.zero_le _) (by unfold maxLen; omega) hs
    rw [hc] at this
    exact this
  · simp [Value.ownBlock] at hg; omega
theorem BytesAt.bufq {w0 w : World} {v : Value} {b : List UInt8} (h : BufQ w0 w v b) : BytesAt w v b := by
  rcases h.row with h | ⟨g, cap, cur, fz, rfl, hg, h1, h2, h3, h4, h5⟩
  · exact .inl h
  · exact .inr ⟨g, 0, cap, cur, rfl, h1, h2, ⟨fz, hg⟩, by omega, fun j hj => by rw [Nat.zero_add]; exact h5 j hj⟩
/-- bytes beside words stay -/
theorem BytesAt.beside {w' : World} {u : Value} {b : List UInt8} (h : BytesAt w u b) (hr : WBuf w0 w v l) (hg : w.grownBy w' v.ownBlock) : BytesAt w' u b :=
  h.of_block fun g hgu => hg.block g (h.lt g hgu) (fun e => by
    rcases hr.row.2 with ⟨rfl, _⟩ | ⟨g', cap, cur, rfl, _, hh, _⟩
    · simp [Value.ownBlock] at e
    · have : g = g' := by simpa [Value.ownBlock] using e
      subst this
      exact h.ne (t := 41) hh (by decide) hgu)
end
section
variable {o : Oper} {a : Act} {Q : Exit → Act → World → Prop} {w0 W : World} {v : Value} {l : List Int}
theorem wbuf_app_op (s x : Operand) (ho : o.op = .call { callee := .builtin .append, args := #[s, x], argTypes := #[49, 49] }) (hb : Hid (WBuf w0 W v l)) (y : Int)
    (hs : a.eval s = v) (hx : a.eval x = .slice (some ⟨W.heap.size, 0, none⟩) 1 1) (hlen : l.length ≤ 100000) {K : Act → World → Prop}
    (h : ∀ v' w', Hid (WBuf w0 w' v' (l ++ [y])) → Hid (W.grownBy w' v.ownBlock) → K (a.put o.dst v') w') : Oper.wp Try.prog o a (W.alloc (.cells #[.int .u32 y] 41)) K Q := by
  have hB := hb.out.alloc (.cells #[.int .u32 y] 41)
  refine app_op s x 49 41 ho (.int .u32 0) 1 4 Try.underlying49 info_u32 rfl (by decide) v l.length (wcs l) hs hB.row _ 1 [.int .u32 y] hx (Src.blk (Blk.new W 41 #[.int .u32 y])) rfl (by simp [Value.oneCell']) (by unfold maxLen; omega) (by omega) ?_
  intro v' w' h2 hg hat
  have hg' : W.grownBy w' v.ownBlock := ⟨hg.out.os, hg.out.tape, hg.out.output, Nat.le_trans (by simp) hg.out.size, fun k hk hkn => (hg.out.block k (by simp; omega) hkn).trans (Below.heap_alloc W _ k hk)⟩
  refine h v' w' (hide ?_) (hide hg')
  refine hB.grown ?_ hg.out hat.out
  rw [List.length_append]
  have e : wcs (l ++ [y]) = wcs l ++ [.int .u32 y] := by simp [wcs]
  rw [e]
  exact h2.out
theorem wbuf_app {ops : Array Oper} {rest : List Oper} (hgd : o.guard = none) (s x : Operand) (ho : o.op = .call { callee := .builtin .append, args := #[s, x], argTypes := #[49, 49] }) (hb : Hid (WBuf w0 W v l)) (y : Int)
    (hs : a.eval s = v) (hx : a.eval x = .slice (some ⟨W.heap.size, 0, none⟩) 1 1) (hlen : l.length ≤ 100000)
    (h : ∀ v' w', Hid (WBuf w0 w' v' (l ++ [y])) → Hid (W.grownBy w' v.ownBlock) → wpList Try.prog ops Q rest (a.put o.dst v') w') : wpList Try.prog ops Q (o :: rest) a (W.alloc (.cells #[.int .u32 y] 41)) :=
  wpList_plain hgd fun _ hK => wbuf_app_op s x ho hb y hs hx hlen fun v' w' h1 h2 => hK _ _ (h v' w' h1 h2)
end
set_option maxRecDepth 20000 in
set_option maxHeartbeats 2000000 in
theorem rgconst_calls (w : World) : Calls Try.prog 30 #[] w fun e w' => ∃ v, e = .returned v ∧ WBuf w w' v kW := by
  have HB := hide (WBuf.lit w (wcs kW).toArray kW rfl (by decide))
  go_enter Try.func30, Try.ntmps30
  go_wp2_with fail
  go_ret
  exact ⟨_, rfl, HB.out⟩
theorem pad_byte2 (n i : Nat) (hi : i < 8) (s : Nat) (hs : s = 56 - 8 * i) : ((UInt8.ofNat (8 * n / 256 ^ (7 - i) % 256)).toNat : Int) = 8 * (n : Int) / 2 ^ s % 256 := by rw [pad_byte n i hi s hs, Int.mul_comm]
set_option maxRecDepth 20000 in
set_option maxHeartbeats 2000000 in
theorem rgpadded_calls (s : ByteArray) (hn : s.size ≤ 100000000000) (w : World) : Calls Try.prog 31 #[.string s] w fun e w' => ∃ v, e = .returned v ∧ BufQ w w' v (s.data.toList ++ padW s.size) := by
  have HZ := zerosN_le s.size
  have hsl : s.data.toList.length = s.size := rfl
  have HSL := hide hsl
  clear hsl
  generalize hn0 : s.size = n at *
  have HN := hide hn0
  clear hn0
  go_enter Try.func31, Try.ntmps31
  go_wp2_with (first | ((with_reducible show wpList _ _ _ (⟨some 7, _, _, _, _, _⟩ :: _) _ _); refine bufq_conv rfl (.tmp 6) rfl (Below.refl w.heap.size w) s rfl (by rw [HN.out]; omega) ?_; intro v1 w1 hb1 _) | (at_builtin; refine bufq_app rfl (.tmp 7) (.tmp 8) rfl hb1 #[.int .u8 128] [128] 1 rfl rfl rfl (by rw [HSL.out]; simp; omega) ?_; intro v2 w2 hb2 _; clear hb1))
  have HB0 : Hid (BufQ w w2 v2 (s.data.toList ++ padZ n 0)) := hb2
  go_loopw [3] (fun b wr => ∃ j : Nat, j ≤ zerosN n ∧ Hid (BufQ w wr b (s.data.toList ++ padZ n j))) (fun b _ => n + 100 - (match b with | .slice _ l _ => l | _ => 0))
  case atStart => exact ⟨0, Nat.zero_le _, HB0⟩
  case round =>
  clear HB0 hb2
  obtain ⟨j, hj, hinv⟩ := hrel
  obtain ⟨A, c, rfl, hc⟩ := hinv.out.slice
  have hL : (s.data.toList ++ padZ n j).length = n + (1 + j) := by rw [List.length_append, HSL.out, padZ_length]
  have hz := zerosN_is n j hj
  by_cases hlt : j < zerosN n
  · have hq : (((s.data.toList ++ padZ n j).length : Int) % 64 == 56) = false := by
      rw [beq_eq_false_iff_ne]
      intro e
      have : (n + (1 + j)) % 64 = 56 := by omega
      omega
    have HS : Hid (s.data.toList ++ padZ n (j + 1) = s.data.toList ++ padZ n j ++ [0]) := hide (by rw [padZ_succ, List.append_assoc])
    have HL := hide hL
    have hl9 : (s.data.toList ++ padZ n j).length ≤ 200000000000 := by omega
    have hl8 : ((s.data.toList ++ padZ n j).length : Int) ≤ 200000000000 := by omega
    clear hL hz hj
    generalize hp : (s.data.toList ++ padZ n j).length = L at *
    have HP := hide hp
    clear hp
    go_wp2_with (at_builtin; refine bufq_app rfl (.tmp 14) (.tmp 15) rfl hinv #[.int .u8 0] [0] 1 rfl rfl rfl (by rw [HP.out]; simp; omega) ?_; intro v' w' hb' hg'; rw [← HS.out] at hb'; clear hg')
    obtain ⟨A', c', rfl, _⟩ := hb'.out.slice
    have hL2 : (s.data.toList ++ padZ n (j + 1)).length = n + (1 + (j + 1)) := by rw [List.length_append, HSL.out, padZ_length]
    have HL3 := HL.out
    go_roundw
    case rel => exact ⟨j + 1, by omega, hb'⟩
    case measure => simp only; omega
  · obtain rfl : j = zerosN n := by omega
    have hz := hz.2 rfl
    have hq : (((s.data.toList ++ padZ n (zerosN n)).length : Int) % 64 == 56) = true := by
      rw [beq_iff_eq]
      omega
    have hl8 : ((s.data.toList ++ padZ n (zerosN n)).length : Int) ≤ 200000000000 := by omega
    have hi : Hid (BufQ w wr (.slice A (s.data.toList ++ padZ n (zerosN n)).length c) (s.data.toList ++ padS n 0)) := hide (by
      have := hinv.out
      simp only [padS, List.range_zero, List.map_nil, List.append_nil]
      exact this)
    clear hL hz hj hlt hinv hc
    have hn0 : IntKind.u64.wrap (8 * (n : Int)) = 8 * (n : Int) := by show 8 * (n : Int) % 18446744073709551616 = _; omega
    have hn2 : 0 ≤ 8 * (n : Int) := by omega
    have hn3 : 8 * (n : Int) ≤ 800000000000 := by omega
    have hns : (s.size : Int) = (n : Int) := by rw [HN.out]
    generalize (s.data.toList ++ padZ n (zerosN n)).length = L at *
    go_wp2_with fail
    clear hq hl8 hns hn0
    go_loopw [3, 5] (fun b s' wr => ∃ i : Nat, i ≤ 8 ∧ s' = .int .i64 (7 - (i : Int)) ∧ Hid (BufQ w wr b (s.data.toList ++ padS n i))) (fun _ s _ => (intOf s + 1).toNat)
    case atStart => exact ⟨0, Nat.zero_le _, rfl, hi⟩
    case round =>
    clear hi
    obtain ⟨i, hi, rfl, hinv⟩ := hrel
    by_cases hlt : i < 8
    · have HS : Hid (s.data.toList ++ padS n (i + 1) = s.data.toList ++ padS n i ++ [UInt8.ofNat (8 * n / 256 ^ (7 - i) % 256)]) := hide (by rw [padS_succ, List.append_assoc])
      have HL : Hid ((s.data.toList ++ padS n i).length = n + (1 + zerosN n + i)) := hide (by rw [List.length_append, HSL.out, padS_length])
      obtain ⟨sh, hsh⟩ : ∃ sh : Nat, sh = 56 - 8 * i := ⟨_, rfl⟩
      obtain ⟨m, hm⟩ : ∃ m : Nat, m = 7 - i := ⟨_, rfl⟩
      have HPB := hide (pad_byte2 n i hlt sh hsh)
      have e : (7 : Int) - (i : Int) = (m : Int) := by omega
      have e8 : 8 * (m : Int) = (sh : Int) := by omega
      have hs9 : sh ≤ 56 := by omega
      have hsI : (sh : Int) ≤ 56 := by omega
      have hmI : (m : Int) ≤ 7 := by omega
      have hw0 : IntKind.u64.wrap (sh : Int) = (sh : Int) := by show (sh : Int) % 18446744073709551616 = _; omega
      rw [e]
      have HSH := hide hsh
      have HM := hide hm
      have HE := hide e
      clear hsh e hm
      generalize UInt8.ofNat (8 * n / 256 ^ (7 - i) % 256) = x at *
      go_wp2_with (at_builtin; refine bufq_app rfl (.tmp 25) (.tmp 32) rfl hinv #[.int .u8 (8 * (n : Int) / 2 ^ sh % 256)] [x] 1 rfl rfl (by rw [← HPB.out]; rfl) (by rw [HL.out]; simp; omega) ?_; intro v' w' hb' hg'; rw [← HS.out] at hb'; clear hg')
      have hsh := HSH.out
      have hm := HM.out
      clear e8
      go_roundw
      case rel => exact ⟨i + 1, by omega, by go_num, ‹_›⟩
      case measure => simp [intOf]
    · obtain rfl : i = 8 := by omega
      go_wp2_with fail
      go_ret
      exact ⟨_, rfl, hinv.out⟩
end Go.Proofs.Ytjjpekgkaahpbaa
