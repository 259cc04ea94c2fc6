/- Several texts in one: DigUx, BufC, MacM, MacA, BufS, MacB, MacC, MacD, MacE. -/
import Derived.Test.YtkipmbnmmbeeaaaDg3
import Derived.Test.YtkipmbnmmbeeaaaOc1
import Derived.Test.YtkipmbnmmbeeaaaBuf
import Derived.Laws.CopyRow
import Derived.Test.YtkipmbnmmbeeaaaDg1
/- Chapter 2: words that the laws of several chapters use: two Hashes beside each other; a digest's length; its digits. -/
namespace Go.Proofs.Ytkipmbnmmbeeaaa
open Go.RowKit Zb

set_option maxRecDepth 20000 in
theorem HashOf.beside {w w' : World} {b c : Nat} {s t : List UInt8} (hc : HashOf w c t) (hb : HashOf w b s) (hne : c ≠ b) (k : Turned (· = b) w w') : HashOf w' c t :=
  hc.turned k hne fun x hx => by
    subst hx
    obtain ⟨rs, h⟩ := hb
    exact ⟨_, _, h.hb, by decide⟩
set_option maxRecDepth 20000 in
theorem outW_length (v : List Int) : (outW v).length = 32 := by rw [outW_eq, outN_length]
set_option maxRecDepth 20000 in
theorem digW_length (s : List UInt8) : (digW s).length = 32 := outW_length _
end Go.Proofs.Ytkipmbnmmbeeaaa

/- copy(b, s) of a string into a call's own bytes. -/
namespace Go.Proofs.Ytkipmbnmmbeeaaa
open Go.RowKit Zb

section
variable {ops : Array Oper} {rest : List Oper} {o : Oper} {a : Act} {Q : Exit → Act → World → Prop} {w0 W : World} {l : List UInt8}
def copied (l t : List UInt8) : List UInt8 := t.take l.length ++ l.drop (t.take l.length).length
set_option maxRecDepth 20000 in
theorem copied_length (l t : List UInt8) : (copied l t).length = l.length := by
  unfold copied
  simp only [List.length_append, List.length_take, List.length_drop]
  omega
set_option maxRecDepth 20000 in
theorem buf_copys (hgd : o.guard = none) (d x : Operand) (ho : o.op = .call { callee := .builtin .copy, args := #[d, x], argTypes := #[40, 9] }) (g c : Nat) (hb : Hid (Buf w0 W (.slice (some ⟨g, 0, none⟩) l.length c) l)) (t : ByteArray)
    (hd : a.eval d = .slice (some ⟨g, 0, none⟩) l.length c) (hx : a.eval x = .string t)
    (h : ∀ (m : Int) w', Hid (Buf w0 w' (.slice (some ⟨g, 0, none⟩) l.length c) (copied l t.data.toList)) → Hid (W.grownBy w' (some g)) → wpList Try.prog ops Q rest (a.put o.dst (.int .i64 m)) w') : wpList Try.prog ops Q (o :: rest) a W := by
  refine wpList_plain hgd fun K hK => ?_
  obtain ⟨i, hi, hz0, hz1, hz2⟩ := info_parts binfo_u8
  obtain ⟨h1, h2, h3⟩ := hb.out
  rcases h2.2 with ⟨hn, _⟩ | ⟨g', cap, cur, hv, _, hg, hnc, hcm, hcs, htake⟩
  · simp at hn
  · obtain ⟨rfl, rfl⟩ : g = g' ∧ c = cap := by simpa using hv
    have htl : t.data.toList.length = t.size := rfl
    have hlen : (bytesVals (t.data.toList.take l.length)).length = Nat.min t.size l.length := by rw [bytesVals_length, List.length_take, htl]; exact Nat.min_comm _ _
    have hst := run_storeCells_at Try.prog g 0 5 (bytesVals (t.data.toList.take l.length)) 0 cur W hg (by
      rw [hlen]
      have : Nat.min t.size l.length ≤ l.length := Nat.min_le_right _ _
      omega) (bytesVals_one _)
    rw [hlen] at hst
    simp only [Nat.add_zero, Nat.zero_add, List.take_zero, List.nil_append] at hst
    have htk : List.take (Nat.min t.size l.length) (List.map (fun b : UInt8 => Value.int IntKind.u8 (b.toNat : Int)) t.data.toList) = bytesVals (t.data.toList.take l.length) := by
      unfold bytesVals
      rw [← List.map_take]
      congr 1
      rcases Nat.le_total t.size l.length with hle | hle
      · rw [List.take_of_length_le (by rw [htl]; exact Nat.le_min.2 ⟨Nat.le_refl _, hle⟩), List.take_of_length_le (by omega)]
      · rw [show Nat.min t.size l.length = l.length from Nat.min_eq_right hle]
    have hrun : (Builtin.copy_ #[40, 9] o.type #[.slice (some ⟨g, 0, none⟩) l.length c, .string t]).run Try.prog W = .ok (goInt (Nat.min t.size l.length)) (W.setRow g (bytesVals (t.data.toList.take l.length) ++ cur.toList.drop (Nat.min t.size l.length)).toArray) := by
      simp [Builtin.copy_, run_underlying Try.underlying40, Builtin.lenOf, Builtin.firstCells, sizeOf, typeInfo, hi]
      rw [htk, hst]
      simp [Result.andThen]
    have hgr : W.grownBy (W.setRow g (bytesVals (t.data.toList.take l.length) ++ cur.toList.drop (Nat.min t.size l.length)).toArray) (some g) :=
      ⟨rfl, rfl, rfl, by simp, fun k _ hk => setRow_other W g k _ (fun e => hk (by rw [e]))⟩
    have hbuf : Buf w0 (W.setRow g (bytesVals (t.data.toList.take l.length) ++ cur.toList.drop (Nat.min t.size l.length)).toArray) (.slice (some ⟨g, 0, none⟩) l.length c) (copied l t.data.toList) := by
      refine ⟨h1.grown hgr h1.size (fun k hk => by cases hk; exact h3 g rfl), ?_, h3⟩
      rw [copied_length]
      refine ⟨by rw [bytesVals_length, copied_length, Nat.mul_one], .inr ⟨g, c, _, rfl, Nat.zero_le _, setRow_heap W g cur _ 5 _ hg, hnc, hcm, ?_, ?_⟩⟩
      · simp only [List.size_toArray, List.length_append, hlen, List.length_drop, Array.length_toList, hcs]
        have : Nat.min t.size l.length ≤ l.length := Nat.min_le_right _ _
        omega
      · have hdrop : (cur.toList.drop (Nat.min t.size l.length)).take (l.length - Nat.min t.size l.length) = bytesVals (l.drop (Nat.min t.size l.length)) := by
          rw [← List.drop_take, ← Nat.mul_one l.length, htake]
          simp [bytesVals, List.map_drop]
        have hll : (t.data.toList.take l.length).length = Nat.min t.size l.length := by rw [List.length_take, htl]; exact Nat.min_comm _ _
        rw [Nat.mul_one, copied, bytesVals_append, hll, ← hdrop, List.take_append, hlen]
        congr 1
        exact List.take_of_length_le (by rw [hlen]; exact Nat.min_le_right _ _)
    unfold Oper.wp execOp
    simp only [ho, resolve, invoke, builtin, Sem.run_bind, Sem.run_pure, Result.andThen_ok, List.map_toArray, List.map_cons, List.map_nil, hd, hx, hrun]
    exact hK _ _ (h _ _ (hide hbuf) (hide hgr))
end
end Go.Proofs.Ytkipmbnmmbeeaaa

/- Chapter 3: the tag as a model in plain Lean. No program's text. -/
namespace Go.Proofs.Ytkipmbnmmbeeaaa
open Go.RowKit Zb

def longK (k : List UInt8) : List UInt8 := if 64 < k.length then digW k else k
def padK (k : List UInt8) : List UInt8 := k ++ List.replicate (64 - k.length) 0
/-- a key as it is used -/
def keyM (k : List UInt8) : List UInt8 := padK (longK k)
def mixL (k : List UInt8) (c : UInt8) : List UInt8 := k.map (· ^^^ c)
/-- a text's tag under a key -/
def macM (k s : List UInt8) : List UInt8 := digW (mixL (keyM k) 0x5c ++ digW (mixL (keyM k) 0x36 ++ s))
set_option maxRecDepth 20000 in
theorem mixL_length (k : List UInt8) (c : UInt8) : (mixL k c).length = k.length := by simp [mixL]
set_option maxRecDepth 20000 in
theorem padK_length (k : List UInt8) (h : k.length ≤ 64) : (padK k).length = 64 := by simp [padK]; omega
set_option maxRecDepth 20000 in
theorem wrap_u8 (z : Int) : IntKind.u8.wrap z = z % 256 := rfl
set_option maxRecDepth 20000 in
theorem wrap_bv8 (x : BitVec 8) : IntKind.u8.wrap (x.toNat : Int) = (x.toNat : Int) := by
  have := x.isLt
  show (x.toNat : Int) % 256 = _
  omega
set_option maxRecDepth 20000 in
theorem xor_bv8 (x y : Int) : bits .xor .u8 x y = ((BitVec.ofInt 8 x ^^^ BitVec.ofInt 8 y).toNat : Int) := wrap_bv8 _
set_option maxRecDepth 20000 in
theorem or_bv8 (x y : Int) : bits .or .u8 x y = ((BitVec.ofInt 8 x ||| BitVec.ofInt 8 y).toNat : Int) := wrap_bv8 _
set_option maxRecDepth 20000 in
theorem ofInt_u8 (a : UInt8) : BitVec.ofInt 8 (a.toNat : Int) = a.toBitVec := by
  apply BitVec.eq_of_toNat_eq
  have := a.toNat_lt
  rw [BitVec.toNat_ofInt]
  show ((a.toNat : Int) % 256).toNat = a.toNat
  omega
set_option maxRecDepth 20000 in
theorem xor_u8 (a c : UInt8) : bits .xor .u8 (a.toNat : Int) (c.toNat : Int) = ((a ^^^ c).toNat : Int) := by
  rw [xor_bv8, ofInt_u8, ofInt_u8]
  rfl
set_option maxRecDepth 20000 in
theorem or_u8 (a c : UInt8) : bits .or .u8 (a.toNat : Int) (c.toNat : Int) = ((a ||| c).toNat : Int) := by
  rw [or_bv8, ofInt_u8, ofInt_u8]
  rfl
set_option maxRecDepth 20000 in
theorem mixL_take_succ (k : List UInt8) (c : UInt8) (i : Nat) (h : i < k.length) : mixL (k.take (i + 1)) c = mixL (k.take i) c ++ [k[i] ^^^ c] := by
  rw [List.take_succ_eq_append_getElem h, mixL, List.map_append]
  rfl
/-- the bytes gone through so far are combined, the others not yet -/
def mixAt (k : List UInt8) (c : UInt8) (i : Nat) : List UInt8 := mixL (k.take i) c ++ k.drop i
set_option maxRecDepth 20000 in
theorem mixAt_length (k : List UInt8) (c : UInt8) (i : Nat) (h : i ≤ k.length) : (mixAt k c i).length = k.length := by
  simp [mixAt, mixL]
  omega
set_option maxRecDepth 20000 in
theorem mixAt_get (k : List UInt8) (c : UInt8) (i : Nat) (h : i < k.length) : (mixAt k c i)[i]? = some k[i] := by
  unfold mixAt
  rw [List.getElem?_append_right (by rw [mixL_length, List.length_take]; omega), mixL_length, List.length_take, List.getElem?_drop]
  rw [show i + (i - min i k.length) = i by omega]
  exact List.getElem?_eq_getElem h
set_option maxRecDepth 20000 in
theorem mixAt_set (k : List UInt8) (c : UInt8) (i : Nat) (h : i < k.length) : (mixAt k c i).set i (k[i] ^^^ c) = mixAt k c (i + 1) := by
  unfold mixAt
  have hl : (mixL (k.take i) c).length = i := by rw [mixL_length, List.length_take]; omega
  rw [List.set_append_right _ _ (by omega), hl, Nat.sub_self, mixL_take_succ k c i h, List.append_assoc]
  congr 1
  rw [List.drop_eq_getElem_cons h, List.set_cons_zero]
  rfl
set_option maxRecDepth 20000 in
theorem mixAt_end (k : List UInt8) (c : UInt8) : mixAt k c k.length = mixL k c := by simp [mixAt]
end Go.Proofs.Ytkipmbnmmbeeaaa

/- Chapter 3: the key as it is used, and the mixers, walked. -/
namespace Go.Proofs.Ytkipmbnmmbeeaaa
open Go.RowKit Zb

set_option maxRecDepth 20000 in
theorem toList_append (a b : ByteArray) : (a ++ b).data.toList = a.data.toList ++ b.data.toList := by
  rw [ByteArray.data_append, Array.toList_append]
set_option maxRecDepth 20000 in
theorem size_toList' (a : ByteArray) : a.data.toList.length = a.size := rfl
set_option maxRecDepth 20000 in
theorem copied_zero (k : List UInt8) (h : k.length ≤ 64) : copied (List.replicate 64 (0 : UInt8)) k = padK k := by
  unfold copied padK
  rw [List.length_replicate, List.take_of_length_le h, List.drop_replicate]
def KeyPost (w : World) (s : ByteArray) (e : Ending) (w' : World) : Prop := e = .returned (.string ⟨(keyM s.data.toList).toArray⟩) ∧ Below w.heap.size w w'
set_option maxRecDepth 20000 in
theorem long_size (s : ByteArray) : (⟨(longK s.data.toList).toArray⟩ : ByteArray).data.toList.length ≤ 64 := by
  show (longK s.data.toList).length ≤ 64
  unfold longK
  split
  · rw [digW_length]; omega
  · omega
set_option maxRecDepth 20000 in
theorem keyM_length (k : List UInt8) : (keyM k).length = 64 := by
  unfold keyM
  refine padK_length _ ?_
  unfold longK
  split
  · rw [digW_length]; omega
  · omega
set_option maxRecDepth 20000 in
set_option maxHeartbeats 2000000 in
theorem mKey_calls (s : ByteArray) (hs : s.size ≤ 50000000000) (w : World) : Calls Try.prog 61 #[.string s] w (KeyPost w s) := by
  by_cases hl : 64 < s.size
  · have hlI : (64 : Int) < (s.size : Int) := by omega
    have HK : Hid (keyM s.data.toList = padK (digW s.data.toList)) := hide (by unfold keyM longK; rw [if_pos (show 64 < s.data.toList.length from hl)])
    have HO := hide (gOf_calls s hs)
    clear hs hl
    obtain ⟨d, hd⟩ : ∃ d : ByteArray, (⟨(digW s.data.toList).toArray⟩ : ByteArray) = d := ⟨_, rfl⟩
    have hds : d.size = 32 := by
      rw [← hd]
      show (digW s.data.toList).toArray.size = 32
      rw [List.size_toArray, digW_length]
    have HDS := hide hds
    have HDL : Hid (d.data.toList = digW s.data.toList) := hide (by rw [← hd])
    have HD := hide hd
    clear hds hd
    go_enter Try.func61, Try.ntmps61
    go_wp2_with fail
    refine (HO.out _).mono ?_
    rintro e w1 ⟨rfl, hb1⟩
    rw [HD.out]
    have HB1 := hide hb1
    clear hb1
    have B0 := hide (Buf.made (Below.refl w1.heap.size w1) 64 (by unfold maxLen; omega))
    have HL := hide (show (List.replicate 64 (0 : UInt8)).length = 64 from List.length_replicate)
    have HCP := hide (copied_zero d.data.toList (by rw [size_toList']; rw [HDS.out]; omega))
    generalize List.replicate 64 (0 : UInt8) = l0 at *
    have hmk : ∀ W : World, (Instr.makeSlice 40 (.int .i64 64) (.int .i64 64)).run Try.prog W = .ok (.slice (some ⟨W.heap.size, 0, none⟩) 64 64) (W.alloc (.cells (madeCells #[.int .u8 0] 64) 5)) := fun W => make_row (P := Try.prog) 40 5 _ 1 Try.underlying40 binfo_u8 rfl .i64 .i64 64 (by omega) (by omega) W
    go_wp2_with ((with_reducible show wpList _ _ _ (⟨some 12, _, _, _, _, _⟩ :: _) _ _); clear hmk; refine buf_copys rfl (.tmp 10) (.tmp 11) rfl w1.heap.size 64 (l := l0) (hide (by have := B0.out; rw [HL.out]; exact this)) d (by rw [HL.out]; rfl) rfl ?_; intro m2 w2 hb2 hg2; rw [HL.out, HCP.out] at hb2; have hcv := hb2.out.conv)
    go_ret
    refine ⟨?_, HB1.out.trans (hb2.out.bel.mono HB1.out.size)⟩
    rw [HK.out, ← HDL.out]
    rfl
  · have hlI : (s.size : Int) ≤ 64 := by omega
    have HSZ := hide (show s.size ≤ 64 by omega)
    have HK : Hid (keyM s.data.toList = padK s.data.toList) := hide (by unfold keyM longK; rw [if_neg (show ¬ 64 < s.data.toList.length from hl)])
    clear hs hl
    go_enter Try.func61, Try.ntmps61
    have B0 := hide (Buf.made (Below.refl w.heap.size w) 64 (by unfold maxLen; omega))
    have HL := hide (show (List.replicate 64 (0 : UInt8)).length = 64 from List.length_replicate)
    have HCP := hide (copied_zero s.data.toList (by rw [size_toList']; exact HSZ.out))
    generalize List.replicate 64 (0 : UInt8) = l0 at *
    have hmk : ∀ W : World, (Instr.makeSlice 40 (.int .i64 64) (.int .i64 64)).run Try.prog W = .ok (.slice (some ⟨W.heap.size, 0, none⟩) 64 64) (W.alloc (.cells (madeCells #[.int .u8 0] 64) 5)) := fun W => make_row (P := Try.prog) 40 5 _ 1 Try.underlying40 binfo_u8 rfl .i64 .i64 64 (by omega) (by omega) W
    go_wp2_with ((with_reducible show wpList _ _ _ (⟨some 12, _, _, _, _, _⟩ :: _) _ _); clear hmk; refine buf_copys rfl (.tmp 10) (.tmp 11) rfl w.heap.size 64 (l := l0) (hide (by have := B0.out; rw [HL.out]; exact this)) s (by rw [HL.out]; rfl) rfl ?_; intro m2 w2 hb2 hg2; rw [HL.out, HCP.out] at hb2; have hcv := hb2.out.conv)
    go_ret
    refine ⟨?_, hb2.out.bel⟩
    rw [HK.out]
    rfl
end Go.Proofs.Ytkipmbnmmbeeaaa

/- A slice of bytes of a call's own that came of a conversion: its cells are written one by one. No program's text but types' numbers. -/
namespace Go.Proofs.Ytkipmbnmmbeeaaa
open Go.RowKit Zb

section
variable {w0 w w' : World} {v : Value} {l : List UInt8}
set_option maxRecDepth 20000 in
theorem BufQ.form (h : BufQ w0 w v l) (hl : 0 < l.length) : ∃ g c, v = .slice (some ⟨g, 0, none⟩) l.length c := by
  rcases h.row with ⟨_, rfl⟩ | ⟨g, cap, cur, fz, rfl, _⟩
  · simp at hl
  · exact ⟨g, cap, rfl⟩
set_option maxRecDepth 20000 in
theorem BufQ.formN {n : Nat} (h : BufQ w0 w v l) (hn : l.length = n) (h0 : 0 < n) : ∃ g c, v = .slice (some ⟨g, 0, none⟩) n c := by
  subst hn
  exact h.form h0
set_option maxRecDepth 20000 in
theorem BufQ.frozen {g n c : Nat} (h : BufQ w0 w (.slice (some ⟨g, 0, none⟩) n c) l) (j : Nat) (hj : j < l.length) : w.frozen? ⟨g, j, none⟩ = false := by
  rcases h.row with ⟨hv, _⟩ | ⟨g', cap, cur, fz, hv, hg, h1, h2, h3, h4, h5⟩
  · simp at hv
  · obtain ⟨rfl, _⟩ : g = g' ∧ _ := by simpa using hv
    obtain ⟨lo, hi⟩ := fz
    simp only [World.frozen?, hg]
    rcases h4 with hf | hf
    · cases hf; simp
    · have : ¬ lo ≤ j := by have : cap ≤ lo := hf; omega
      simp [this]
set_option maxRecDepth 20000 in
theorem BufQ.set {g n c : Nat} (h : BufQ w0 w (.slice (some ⟨g, 0, none⟩) n c) l) (j : Nat) (b : UInt8) : BufQ w0 (w.setCell ⟨g, j, none⟩ (.int .u8 (b.toNat : Int))) (.slice (some ⟨g, 0, none⟩) n c) (l.set j b) := by
  refine ⟨h.bel.setCell (h.own g rfl).1 _, ?_, fun g' hg' => ⟨(h.own g' hg').1, by have := (h.own g' hg').2; simpa [World.setCell] using this⟩⟩
  rcases h.row with ⟨hv, _⟩ | ⟨g', cap, cur, fz, hv, hg, h1, h2, h3, h4, h5⟩
  · simp at hv
  · obtain ⟨rfl, hn, rfl⟩ : g = g' ∧ n = l.length ∧ c = cap := by simpa using hv
    refine .inr ⟨g, c, cur.setIfInBounds j (.int .u8 (b.toNat : Int)), fz, by rw [hn, List.length_set], by simp [World.setCell, Array.getElem?_modify, hg], by rw [List.length_set]; exact h1, h2, by simpa using h3, h4, fun i hi => ?_⟩
    rw [List.length_set] at hi
    have e : bytesVals (l.set j b) = (bytesVals l).set j (.int .u8 (b.toNat : Int)) := by simp [bytesVals, List.map_set]
    rw [e, Array.getElem?_setIfInBounds, List.getElem?_set, h5 i hi]
    have hlen : (bytesVals l).length = l.length := bytesVals_length l
    by_cases hij : j = i
    · subst hij
      rw [if_pos rfl, if_pos rfl, if_pos (by omega), if_pos (by omega)]
    · rw [if_neg hij, if_neg hij]
end
end Go.Proofs.Ytkipmbnmmbeeaaa

/- Chapter 3: the closure that combines, and the document's mixed, walked. -/
namespace Go.Proofs.Ytkipmbnmmbeeaaa
open Go.RowKit Zb

def MixPost (w : World) (k : List UInt8) (c : UInt8) (e : Ending) (w' : World) : Prop := e = .returned (.string ⟨(mixL k c).toArray⟩) ∧ Below w.heap.size w w'
set_option maxRecDepth 20000 in
set_option maxHeartbeats 2000000 in
theorem mmixer1_calls (c : UInt8) (k : ByteArray) (h0 : 0 < k.size) (hk : k.size ≤ 1000) (bx : Nat) (w : World) (h : w.cell? ⟨bx, 0, none⟩ = some (.string k)) :
    Calls Try.prog 62 #[.int .u8 (c.toNat : Int), .pointer (some ⟨bx, 0, none⟩)] w (MixPost w k.data.toList c) := by
  have hkI : (k.size : Int) ≤ 1000 := by omega
  have HSZ := hide hk
  have H0 := hide h0
  clear hk h0
  go_enter Try.func62, Try.ntmps62
  go_wp2_with ((with_reducible show wpList _ _ _ (⟨some 7, _, _, _, _, _⟩ :: _) _ _); refine bufq_conv rfl (.tmp 6) rfl (Below.refl w.heap.size w) k rfl (by have h1 := HSZ.out; omega) ?_; intro v1 w1 hb1 _; obtain ⟨g, cp, rfl⟩ := hb1.out.formN (size_toList' k) H0.out)
  have hb2 : Hid (BufQ w w1 (.slice (some ⟨g, 0, none⟩) k.size cp) (mixAt k.data.toList c 0)) := hb1
  have HN := hide (size_toList' k)
  have hnI := hkI
  clear hb1 HSZ H0
  generalize k.size = n at *
  generalize k.data.toList = l at *
  clear hkI h
  go_loopw [10] (fun i wr => ∃ j : Nat, j ≤ n ∧ i = .int .i64 j ∧ Hid (BufQ w wr (.slice (some ⟨g, 0, none⟩) n cp) (mixAt l c j))) (fun i _ => n - (intOf i).toNat)
  case atStart => exact ⟨0, by omega, rfl, hb2⟩
  case round =>
  clear hb2
  obtain ⟨j, hj, rfl, hinv⟩ := hrel
  by_cases hlt : j < n
  · have hjl : j < l.length := by rw [HN.out]; exact hlt
    have hml := mixAt_length l c j (by omega)
    have yc := hinv.out.cell j (by omega)
    have yf := hinv.out.frozen j (by omega)
    have hs := hinv.out.set j (l[j] ^^^ c)
    rw [mixAt_set l c j hjl] at hs
    have hg := mixAt_get l c j hjl
    rw [List.getElem?_eq_getElem (by omega)] at hg
    rw [Option.some.inj hg] at yc
    have hx := xor_u8 l[j] c
    have HS := hide hs
    have hjI : (j : Int) < (n : Int) := by omega
    generalize l[j] ^^^ c = z at *
    generalize l[j] = y at *
    clear hs hg hml hinv hjl
    go_wp2_with fail
    go_roundw
    case rel => exact ⟨j + 1, by omega, by go_num, HS⟩
    case measure => simp [intOf]; omega
  · obtain rfl : j = n := by omega
    have hcv := hinv.out.conv
    rw [show mixAt l c j = mixL l c by rw [← HN.out, mixAt_end]] at hcv
    have HB := hide hinv.out.bel
    clear hinv
    go_wp2_with fail
    go_ret
    exact ⟨rfl, HB.out⟩
set_option maxRecDepth 20000 in
set_option maxHeartbeats 2000000 in
theorem rmmixed_calls (c : UInt8) (k : ByteArray) (hk : k.size ≤ 1000) (w : World) : Calls Try.prog 33 #[.string k, .int .u8 (c.toNat : Int)] w (MixPost w k.data.toList c) := by
  have hkI : (k.size : Int) ≤ 1000 := by omega
  have HSZ := hide hk
  have hb2 : Hid (Buf w w (.slice none 0 0) (mixL (k.data.toList.take 0) c)) := hide (Buf.nil (Below.refl _ _))
  clear hk
  go_enter Try.func33, Try.ntmps33
  go_wp2_with fail
  go_loopw [5, 6] (fun v i wr => ∃ j : Nat, j ≤ k.size ∧ i = .int .i64 j ∧ Hid (Buf w wr v (mixL (k.data.toList.take j) c))) (fun _ i _ => k.size - (intOf i).toNat)
  case atStart => exact ⟨0, by omega, rfl, hb2⟩
  case round =>
  clear hb2
  obtain ⟨j, hj, rfl, hinv⟩ := hrel
  by_cases hlt : j < k.size
  · have hjl : j < k.data.toList.length := hlt
    have HS := hide (mixL_take_succ k.data.toList c j hjl)
    have HL : Hid ((mixL (k.data.toList.take j) c).length ≤ 1000) := hide (by rw [mixL_length, List.length_take]; have h1 := HSZ.out; rw [size_toList']; omega)
    obtain ⟨y, hy⟩ : ∃ y, k[j]'hlt = y := ⟨_, rfl⟩
    have e : k.data.toList[j]'hjl = y := by rw [← hy]; rfl
    rw [e] at HS
    have hx := xor_u8 y c
    have hjI : (j : Int) < (k.size : Int) := by omega
    generalize y ^^^ c = z at *
    clear e hjl
    go_wp2_with (at_builtin; refine buf_app rfl (.tmp 13) (.tmp 19) rfl hinv #[.int .u8 (z.toNat : Int)] [z] 1 rfl rfl rfl (by have h1 := HL.out; simp; omega) ?_; intro v' w' hb' hg'; rw [← HS.out] at hb'; clear hg')
    go_roundw
    case rel => exact ⟨j + 1, by omega, by go_num, ‹_›⟩
    case measure => simp [intOf]; omega
  · obtain rfl : j = k.size := by omega
    have hcv := hinv.out.conv
    rw [show k.data.toList.take k.size = k.data.toList from List.take_of_length_le (Nat.le_of_eq (size_toList' k))] at hcv
    have HB := hide hinv.out.bel
    clear hinv
    go_wp2_with fail
    go_ret
    exact ⟨rfl, HB.out⟩
end Go.Proofs.Ytkipmbnmmbeeaaa

/- Chapter 3: mixer, mac's Of, walked. -/
namespace Go.Proofs.Ytkipmbnmmbeeaaa
open Go.RowKit Zb

def MixerPost (w : World) (s : ByteArray) (e : Ending) (w' : World) : Prop :=
  ∃ bx, e = .returned (.func (.func 62) #[] #[.pointer (some ⟨bx, 0, none⟩)]) ∧ w'.cell? ⟨bx, 0, none⟩ = some (.string ⟨(keyM s.data.toList).toArray⟩) ∧ Below w.heap.size w w'
set_option maxRecDepth 20000 in
theorem mmixer_calls (s : ByteArray) (hs : s.size ≤ 50000000000) (w : World) : Calls Try.prog 39 #[.string s] w (MixerPost w s) := by
  have HK := hide (mKey_calls s hs)
  clear hs
  go_enter Try.func39, Try.ntmps39
  go_wp2_with fail
  refine (HK.out _).mono ?_
  rintro e w1 ⟨rfl, hb1⟩
  have HB1 := hide hb1
  clear hb1
  go_wp2_with fail
  go_ret
  exact ⟨w1.heap.size, rfl, (Blk.new w1 9 _).cell 0, HB1.out.alloc HB1.out.size _⟩
set_option maxRecDepth 20000 in
theorem mix_of (bx : Nat) (c : UInt8) (k : List UInt8) (hk : k.length = 64) (w : World) (h : w.cell? ⟨bx, 0, none⟩ = some (.string ⟨k.toArray⟩)) :
    Calls Try.prog 62 #[.int .u8 (c.toNat : Int), .pointer (some ⟨bx, 0, none⟩)] w (MixPost w k c) :=
  mmixer1_calls c ⟨k.toArray⟩ (by show 0 < k.toArray.size; rw [List.size_toArray]; omega) (by show k.toArray.size ≤ 1000; rw [List.size_toArray]; omega) bx w h
set_option maxRecDepth 20000 in
theorem mix_of54 (bx : Nat) (k : List UInt8) (hk : k.length = 64) (w : World) (h : w.cell? ⟨bx, 0, none⟩ = some (.string ⟨k.toArray⟩)) :
    Calls Try.prog 62 #[.int .u8 54, .pointer (some ⟨bx, 0, none⟩)] w (MixPost w k 0x36) := mix_of bx 0x36 k hk w h
set_option maxRecDepth 20000 in
theorem mix_of92 (bx : Nat) (k : List UInt8) (hk : k.length = 64) (w : World) (h : w.cell? ⟨bx, 0, none⟩ = some (.string ⟨k.toArray⟩)) :
    Calls Try.prog 62 #[.int .u8 92, .pointer (some ⟨bx, 0, none⟩)] w (MixPost w k 0x5c) := mix_of bx 0x5c k hk w h
def MacPost (w : World) (k s : List UInt8) (e : Ending) (w' : World) : Prop := e = .returned (.string ⟨(macM k s).toArray⟩) ∧ Below w.heap.size w w'
set_option maxRecDepth 20000 in
set_option maxHeartbeats 2000000 in
theorem mOf_calls (k s : ByteArray) (hk : k.size ≤ 50000000000) (hs : s.size ≤ 1000000000) (w : World) : Calls Try.prog 23 #[.string k, .string s] w (MacPost w k.data.toList s.data.toList) := by
  have HK := hide (mmixer_calls k hk)
  have HKL := hide (keyM_length k.data.toList)
  have HM : Hid (macM k.data.toList s.data.toList = digW (mixL (keyM k.data.toList) 0x5c ++ digW (mixL (keyM k.data.toList) 0x36 ++ s.data.toList))) := hide rfl
  have HSS := hide hs
  obtain ⟨kk, hkk⟩ : ∃ kk, keyM k.data.toList = kk := ⟨_, rfl⟩
  have HKK := hide hkk
  rw [hkk] at HKL HM
  clear hk hs hkk
  go_enter Try.func23, Try.ntmps23
  go_wp2_with fail
  refine (HK.out _).mono ?_
  rintro e w1 ⟨bx, rfl, hc1, hb1⟩
  rw [HKK.out] at hc1
  have HC1 := hide hc1
  have HB1 := hide hb1
  clear hc1 hb1
  go_wp2_with fail
  refine (gNew_calls _).mono ?_
  rintro e w2 ⟨b, rfl, hge, hh2, hb2⟩
  have HH2 := hide hh2
  have HC2 := hide ((hb2.cell (p := ⟨bx, 0, none⟩) (lt_of_cell HC1.out)).trans HC1.out)
  have HB2 := hide (HB1.out.trans (hb2.mono HB1.out.size))
  have HGE : Hid (w.heap.size ≤ b ∧ bx ≠ b) := hide ⟨Nat.le_trans HB1.out.size hge, by have := lt_of_cell HC1.out; omega⟩
  clear hge hh2 hb2 HB1 HC1
  go_wp2_with fail
  refine (mix_of54 bx kk HKL.out _ HC2.out).mono ?_
  rintro e w3 ⟨rfl, hb3⟩
  have HH3 := hide (HH2.out.below hb3)
  have HC3 := hide ((hb3.cell (p := ⟨bx, 0, none⟩) (lt_of_cell HC2.out)).trans HC2.out)
  have HB3 := hide (HB2.out.trans (hb3.mono HB2.out.size))
  clear hb3 HH2 HC2 HB2
  go_wp2_with fail
  refine (hWrite_calls HH3.out ⟨(mixL kk 0x36).toArray⟩ (by
    show 0 + (mixL kk 0x36).toArray.size ≤ _
    rw [List.size_toArray, mixL_length, HKL.out]
    omega)).mono ?_
  rintro e w4 ⟨rfl, ht4, hh4⟩
  have HH4 : Hid (HashOf w4 b (mixL kk 0x36)) := hide hh4
  have HC4 := hide ((World.cell?_of_block (a := ⟨bx, 0, none⟩) (ht4.block bx (lt_of_cell HC3.out) (fun e => HGE.out.2 e))).trans HC3.out)
  have HB4 := hide (HB3.out.trans (ht4.below HB3.out.size (fun y hy => by rw [hy]; exact HGE.out.1)))
  clear ht4 hh4 HH3 HC3 HB3
  go_wp2_with fail
  refine (hWrite_calls HH4.out s (by rw [mixL_length, HKL.out]; have h1 := HSS.out; omega)).mono ?_
  rintro e w5 ⟨rfl, ht5, hh5⟩
  have HH5 := hide hh5
  have HC5 := hide ((World.cell?_of_block (a := ⟨bx, 0, none⟩) (ht5.block bx (lt_of_cell HC4.out) (fun e => HGE.out.2 e))).trans HC4.out)
  have HB5 := hide (HB4.out.trans (ht5.below HB4.out.size (fun y hy => by rw [hy]; exact HGE.out.1)))
  clear ht5 hh5 HH4 HC4 HB4
  go_wp2_with fail
  refine (mix_of92 bx kk HKL.out _ HC5.out).mono ?_
  rintro e w6 ⟨rfl, hb6⟩
  have HH6 := hide (HH5.out.below hb6)
  have HB6 := hide (HB5.out.trans (hb6.mono HB5.out.size))
  clear hb6 HH5 HC5 HB5
  obtain ⟨P1, hP1⟩ : ∃ P1 : ByteArray, (⟨(mixL kk 0x5c).toArray⟩ : ByteArray) = P1 := ⟨_, rfl⟩
  have HP1 : Hid (P1.data.toList = mixL kk 0x5c) := hide (by rw [← hP1])
  have hP1s : P1.size ≤ 64 := by rw [← size_toList', HP1.out, mixL_length, HKL.out]; omega
  rw [hP1]
  clear hP1
  go_wp2_with fail
  refine (gSum_calls HH6.out (by rw [List.length_append, mixL_length, HKL.out, size_toList']; have h1 := HSS.out; omega)).mono ?_
  rintro e w7 ⟨rfl, hb7⟩
  have HB7 := hide (HB6.out.trans (hb7.mono HB6.out.size))
  clear hb7 HH6 HB6
  obtain ⟨P2, hP2⟩ : ∃ P2 : ByteArray, (⟨(digW (mixL kk 0x36 ++ s.data.toList)).toArray⟩ : ByteArray) = P2 := ⟨_, rfl⟩
  have HP2 : Hid (P2.data.toList = digW (mixL kk 0x36 ++ s.data.toList)) := hide (by rw [← hP2])
  have hP2s : P2.size ≤ 32 := by rw [← size_toList', HP2.out, digW_length]; omega
  rw [hP2]
  clear hP2
  obtain ⟨X, hX⟩ : ∃ X : ByteArray, P1 ++ P2 = X := ⟨_, rfl⟩
  have HXL : Hid (X.data.toList = mixL kk 0x5c ++ digW (mixL kk 0x36 ++ s.data.toList)) := hide (by rw [← hX, toList_append, HP1.out, HP2.out])
  have HXS : Hid (X.size ≤ 1000) := hide (by rw [← hX, ByteArray.size_append]; omega)
  go_wp2_with fail
  refine (gOf_calls X (by have h1 := HXS.out; omega) _).mono ?_
  rintro e w8 ⟨rfl, hb8⟩
  have HB8 := hide (HB7.out.trans (hb8.mono HB7.out.size))
  clear hb8
  go_wp2_with fail
  go_ret
  refine ⟨?_, HB8.out⟩
  rw [HM.out, ← HXL.out]
  rfl
end Go.Proofs.Ytkipmbnmmbeeaaa

/- Chapter 3: Right, walked. -/
namespace Go.Proofs.Ytkipmbnmmbeeaaa
open Go.RowKit Zb

set_option maxRecDepth 20000 in
theorem u8_or_zero (a b : UInt8) : a ||| b = 0 ↔ a = 0 ∧ b = 0 := by
  rw [← UInt8.toBitVec_inj, ← UInt8.toBitVec_inj, ← UInt8.toBitVec_inj, UInt8.toBitVec_or]
  exact BitVec.or_eq_zero_iff
set_option maxRecDepth 20000 in
theorem u8_xor_zero (a b : UInt8) : a ^^^ b = 0 ↔ a = b := by
  rw [← UInt8.toBitVec_inj, ← UInt8.toBitVec_inj (a := a), UInt8.toBitVec_xor]
  exact BitVec.xor_eq_zero_iff
set_option maxRecDepth 20000 in
theorem u8_zero_int (o : UInt8) : ((o.toNat : Int) == 0) = decide (o = 0) := by
  rw [Bool.eq_iff_iff, beq_iff_eq, decide_eq_true_iff, ← UInt8.toNat_inj]
  show (o.toNat : Int) = 0 ↔ o.toNat = 0
  omega
set_option maxRecDepth 20000 in
theorem bytes_ext {a b : ByteArray} (h : a.size = b.size) (hj : ∀ j, (h1 : j < a.size) → (h2 : j < b.size) → a[j] = b[j]) : a = b := ByteArray.ext_getElem h (fun j h1 h2 => hj j h1 h2)
def OddR (want tag : ByteArray) (i : Nat) (o : UInt8) : Prop := o = 0 ↔ ∀ j, (h1 : j < want.size) → (h2 : j < tag.size) → j < i → want[j] = tag[j]
set_option maxRecDepth 20000 in
theorem OddR.step {want tag : ByteArray} {i : Nat} {o : UInt8} (h : OddR want tag i o) (h1 : i < want.size) (h2 : i < tag.size) {x y : UInt8} (hx : want[i] = x) (hy : tag[i] = y) : OddR want tag (i + 1) (o ||| (x ^^^ y)) := by
  subst hx
  subst hy
  unfold OddR at *
  rw [u8_or_zero, u8_xor_zero, h]
  constructor
  · rintro ⟨ha, hb⟩ j hj1 hj2 hj
    rcases Nat.lt_or_eq_of_le (Nat.le_of_lt_succ hj) with hlt | rfl
    · exact ha j hj1 hj2 hlt
    · exact hb
  · intro ha
    exact ⟨fun j hj1 hj2 hj => ha j hj1 hj2 (by omega), ha i h1 h2 (by omega)⟩
set_option maxRecDepth 20000 in
theorem OddR.end_ {want tag : ByteArray} {o : UInt8} (h : OddR want tag want.size o) (hs : want.size = tag.size) : o = 0 ↔ tag = want := by
  unfold OddR at h
  rw [h]
  constructor
  · intro ha
    exact (bytes_ext hs (fun j h1 h2 => ha j h1 h2 h1)).symm
  · rintro rfl j h1 h2 _
    rfl
def macB (k s : ByteArray) : ByteArray := ⟨(macM k.data.toList s.data.toList).toArray⟩
set_option maxRecDepth 20000 in
theorem macB_size (k s : ByteArray) : (macB k s).size = 32 := by
  show (macM k.data.toList s.data.toList).toArray.size = 32
  rw [List.size_toArray, macM, digW_length]
set_option maxRecDepth 20000 in
theorem mOf_macB (k s : ByteArray) (hk : k.size ≤ 50000000000) (hs : s.size ≤ 1000000000) (w : World) : Calls Try.prog 23 #[.string k, .string s] w fun e w' => e = .returned (.string (macB k s)) ∧ Below w.heap.size w w' := mOf_calls k s hk hs w
set_option maxRecDepth 20000 in
set_option maxHeartbeats 2000000 in
theorem mRight_calls (k s t : ByteArray) (hk : k.size ≤ 50000000000) (hs : s.size ≤ 1000000000) (w : World) : Calls Try.prog 28 #[.string k, .string s, .string t] w fun e w' => e = .returned (.bool (decide (t = macB k s))) ∧ Below w.heap.size w w' := by
  have HO := hide (mOf_macB k s hk hs)
  have HMS := hide (macB_size k s)
  generalize macB k s = m at *
  clear hk hs
  by_cases hl : t.size = 32
  · have HTS := hide hl
    have h1 : ((t.size : Int) != (m.size : Int)) = false := by rw [hl, HMS.out]; rfl
    have hmI : (m.size : Int) = 32 := by rw [HMS.out]; rfl
    have htI : (t.size : Int) = 32 := by rw [hl]; rfl
    clear hl h1
    have HI0 : Hid (OddR m t 0 0) := hide ⟨fun _ j _ _ hj => by omega, fun _ => rfl⟩
    go_enter Try.func28, Try.ntmps28
    go_wp2_with fail
    refine (HO.out _).mono ?_
    rintro e w1 ⟨rfl, hb1⟩
    have HB1 := hide hb1
    clear hb1
    go_wp2_with fail
    go_loopw [8, 20] (fun o i wr => ∃ (k : Nat) (z : UInt8), k ≤ 32 ∧ i = .int .i64 k ∧ o = .int .u8 (z.toNat : Int) ∧ Hid (OddR m t k z ∧ Below w.heap.size w wr)) (fun _ i _ => 32 - (intOf i).toNat)
    case atStart => exact ⟨0, 0, by omega, rfl, rfl, hide ⟨HI0.out, HB1.out⟩⟩
    case round =>
    clear HI0 HB1
    obtain ⟨i, z, hi, rfl, rfl, hinv⟩ := hrel
    by_cases hlt : i < 32
    · have l1 : i < m.size := by rw [HMS.out]; exact hlt
      have l2 : i < t.size := by rw [HTS.out]; exact hlt
      have hiI : (i : Int) < 32 := by omega
      have m1 : (i : Int) < (m.size : Int) := by omega
      have m2 : (i : Int) < (t.size : Int) := by omega
      obtain ⟨x, hx⟩ : ∃ x, m[i] = x := ⟨_, rfl⟩
      obtain ⟨y, hy⟩ : ∃ y, t[i] = y := ⟨_, rfl⟩
      have hx1 := xor_u8 x y
      have hx2 := or_u8 z (x ^^^ y)
      have HN := hide (hinv.out.1.step l1 l2 hx hy)
      have HB := hide hinv.out.2
      generalize x ^^^ y = q at *
      generalize z ||| q = z2 at *
      clear hinv hmI htI
      go_wp2_with fail
      refine wp_region_heads [0, 1, 2, 3, 4, 5, 6, 7, 8, 9] 0 (fun _ => True) (by kernel_rfl) rfl (by kernel_rfl) (by kernel_rfl) (fun _ _ d _ _ h => by cases d <;> exact h) trivial ?_
      iterate 10
        refine' Heads.step rfl (by rfl) ?_ ?_
        rotate_left
        · intro w' hSw
          go_simp
          try with_reducible rfl
        simp only [Act.put, List.setIfInBounds_toArray, List.set_cons_zero, List.set_cons_succ]
      refine Heads.done ?_
      refine wpAnyH_done (by kernel_rfl) ?_ _
      have HNN : Hid (OddR m t (i + 1) z2 ∧ Below w.heap.size w wr.drew) := hide ⟨HN.out, HB.out.drew⟩
      clear HN HB hx1 hx2
      go_wp2_with fail
      go_roundw
      case rel => exact ⟨i + 1, z2, by omega, by go_num, rfl, HNN⟩
      case measure => simp [intOf]; omega
    · obtain rfl : i = 32 := by omega
      have hz := u8_zero_int z
      have HE : Hid (z = 0 ↔ t = m) := hide (OddR.end_ (by rw [HMS.out]; exact hinv.out.1) (by rw [HMS.out, HTS.out]))
      have HB := hide hinv.out.2
      clear hinv
      by_cases hq : t = m
      · have hz0 : ((z.toNat : Int) == 0) = true := by rw [hz]; simpa using HE.out.2 hq
        have HD : Hid (decide (t = m) = true) := hide (by simpa using hq)
        clear hz hq
        go_wp2_with fail
        go_ret
        rw [HD.out]
        exact ⟨rfl, HB.out⟩
      · have hz0 : ((z.toNat : Int) == 0) = false := by rw [hz]; simpa using fun e => hq (HE.out.1 e)
        have HD : Hid (decide (t = m) = false) := hide (by simpa using hq)
        clear hz hq
        go_wp2_with fail
        go_ret
        rw [HD.out]
        exact ⟨rfl, HB.out⟩
  · have HD : Hid (decide (t = m) = false) := hide (by
      rw [decide_eq_false_iff_not]
      rintro rfl
      exact hl HMS.out)
    have hmI : (m.size : Int) = 32 := by rw [HMS.out]; rfl
    have hne : ((t.size : Int) == 32) = false := by rw [beq_eq_false_iff_ne]; omega
    clear hl
    go_enter Try.func28, Try.ntmps28
    go_wp2_with fail
    refine (HO.out _).mono ?_
    rintro e w1 ⟨rfl, hb1⟩
    have HB1 := hide hb1
    clear hb1
    go_wp2_with fail
    go_ret
    rw [HD.out]
    exact ⟨rfl, HB1.out⟩
end Go.Proofs.Ytkipmbnmmbeeaaa

/- Chapter 3: the document's Key and Of, walked. -/
namespace Go.Proofs.Ytkipmbnmmbeeaaa
open Go.RowKit Zb

set_option maxRecDepth 20000 in
set_option maxHeartbeats 2000000 in
theorem rmKey_calls (s : ByteArray) (hs : s.size ≤ 50000000000) (w : World) : Calls Try.prog 19 #[.string s] w (KeyPost w s) := by
  by_cases hl : 64 < s.size
  · have hlI : (64 : Int) < (s.size : Int) := by omega
    have HK : Hid (keyM s.data.toList = padK (digW s.data.toList)) := hide (by unfold keyM longK; rw [if_pos (show 64 < s.data.toList.length from hl)])
    have HO := hide (rgOf_calls s hs)
    have HDL := hide (digW_length s.data.toList)
    clear hs hl
    go_enter Try.func19, Try.ntmps19
    go_wp2_with fail
    refine (HO.out _).mono ?_
    rintro e w1 ⟨rfl, hb1⟩
    have HI0 : ∃ (j : Nat) (T : ByteArray), Value.string ⟨(digW s.data.toList).toArray⟩ = .string T ∧ T.size ≤ 64 ∧ Hid (T.data.toList = digW s.data.toList ++ List.replicate j 0) ∧ Hid (Below w.heap.size w w1) :=
      ⟨0, _, rfl, by show (digW s.data.toList).toArray.size ≤ 64; rw [List.size_toArray, HDL.out]; omega, hide (by simp), hide hb1⟩
    have HB1 := hide hb1
    clear hb1
    go_wp2_with fail
    go_loopw [0] (fun v wr => ∃ (j : Nat) (T : ByteArray), v = .string T ∧ T.size ≤ 64 ∧ Hid (T.data.toList = digW s.data.toList ++ List.replicate j 0) ∧ Hid (Below w.heap.size w wr)) (fun v _ => 64 - (match v with | .string s => s.size | _ => 0))
    case atStart => exact HI0
    case round =>
    clear HI0
    obtain ⟨j, T, rfl, hT, hTL, HB⟩ := hrel
    by_cases hlt : T.size < 64
    · have hI : (T.size : Int) < 64 := by omega
      obtain ⟨X, hX⟩ : ∃ X : ByteArray, T ++ ⟨#[0]⟩ = X := ⟨_, rfl⟩
      have hXs : X.size = T.size + 1 := by rw [← hX, ByteArray.size_append]; rfl
      have HXS := hide hXs
      have HXL : Hid (X.data.toList = digW s.data.toList ++ List.replicate (j + 1) 0) := hide (by rw [← hX, toList_append, hTL.out, List.replicate_succ', List.append_assoc])
      clear hXs
      go_wp2_with fail
      have hXs := HXS.out
      go_roundw
      case rel => exact ⟨j + 1, X, rfl, by omega, HXL, HB⟩
      case measure => simp only; omega
    · have hI : (64 : Int) ≤ (T.size : Int) := by omega
      have HE : Hid (padK (digW s.data.toList) = T.data.toList) := hide (by
        have h1 : T.size = 64 := by omega
        have h2 : (digW s.data.toList).length + j = 64 := by rw [← h1, ← size_toList', hTL.out, List.length_append, List.length_replicate]
        rw [hTL.out, padK]
        congr 2
        omega)
      clear hlt
      go_wp2_with fail
      go_ret
      refine ⟨?_, HB.out⟩
      rw [HK.out, HE.out]
      rfl
  · have hlI : (s.size : Int) ≤ 64 := by omega
    have HK : Hid (keyM s.data.toList = padK s.data.toList) := hide (by unfold keyM longK; rw [if_neg (show ¬ 64 < s.data.toList.length from hl)])
    have HI0 : ∃ (j : Nat) (T : ByteArray), Value.string s = .string T ∧ T.size ≤ 64 ∧ Hid (T.data.toList = s.data.toList ++ List.replicate j 0) ∧ Hid (Below w.heap.size w w) :=
      ⟨0, _, rfl, by omega, hide (by simp), hide (Below.refl _ _)⟩
    clear hs hl
    go_enter Try.func19, Try.ntmps19
    go_wp2_with fail
    go_loopw [0] (fun v wr => ∃ (j : Nat) (T : ByteArray), v = .string T ∧ T.size ≤ 64 ∧ Hid (T.data.toList = s.data.toList ++ List.replicate j 0) ∧ Hid (Below w.heap.size w wr)) (fun v _ => 64 - (match v with | .string s => s.size | _ => 0))
    case atStart => exact HI0
    case round =>
    clear HI0
    obtain ⟨j, T, rfl, hT, hTL, HB⟩ := hrel
    by_cases hlt : T.size < 64
    · have hI : (T.size : Int) < 64 := by omega
      obtain ⟨X, hX⟩ : ∃ X : ByteArray, T ++ ⟨#[0]⟩ = X := ⟨_, rfl⟩
      have hXs : X.size = T.size + 1 := by rw [← hX, ByteArray.size_append]; rfl
      have HXS := hide hXs
      have HXL : Hid (X.data.toList = s.data.toList ++ List.replicate (j + 1) 0) := hide (by rw [← hX, toList_append, hTL.out, List.replicate_succ', List.append_assoc])
      clear hXs
      go_wp2_with fail
      have hXs := HXS.out
      go_roundw
      case rel => exact ⟨j + 1, X, rfl, by omega, HXL, HB⟩
      case measure => simp only; omega
    · have hI : (64 : Int) ≤ (T.size : Int) := by omega
      have HE : Hid (padK s.data.toList = T.data.toList) := hide (by
        have h1 : T.size = 64 := by omega
        have h2 : (s.data.toList).length + j = 64 := by rw [← h1, ← size_toList', hTL.out, List.length_append, List.length_replicate]
        rw [hTL.out, padK]
        congr 2
        omega)
      clear hlt
      go_wp2_with fail
      go_ret
      refine ⟨?_, HB.out⟩
      rw [HK.out, HE.out]
      rfl

def keyB (k : ByteArray) : ByteArray := ⟨(keyM k.data.toList).toArray⟩
set_option maxRecDepth 20000 in
theorem keyB_size (k : ByteArray) : (keyB k).size = 64 := by
  show (keyM k.data.toList).toArray.size = 64
  rw [List.size_toArray, keyM_length]
set_option maxRecDepth 20000 in
theorem keyB_list (k : ByteArray) : (keyB k).data.toList = keyM k.data.toList := rfl
set_option maxRecDepth 20000 in
theorem mKey_keyB (k : ByteArray) (hk : k.size ≤ 50000000000) (w : World) : Calls Try.prog 61 #[.string k] w fun e w' => e = .returned (.string (keyB k)) ∧ Below w.heap.size w w' := mKey_calls k hk w
set_option maxRecDepth 20000 in
theorem rmKey_keyB (k : ByteArray) (hk : k.size ≤ 50000000000) (w : World) : Calls Try.prog 19 #[.string k] w fun e w' => e = .returned (.string (keyB k)) ∧ Below w.heap.size w w' := rmKey_calls k hk w
def mixB (k : ByteArray) (c : UInt8) : ByteArray := ⟨(mixL k.data.toList c).toArray⟩
set_option maxRecDepth 20000 in
theorem mixB_size (k : ByteArray) (c : UInt8) : (mixB k c).size = k.size := by
  show (mixL k.data.toList c).toArray.size = k.size
  rw [List.size_toArray, mixL_length, size_toList']
set_option maxRecDepth 20000 in
theorem rmix92 (k : ByteArray) (hk : k.size ≤ 1000) (w : World) : Calls Try.prog 33 #[.string k, .int .u8 92] w fun e w' => e = .returned (.string (mixB k 0x5c)) ∧ Below w.heap.size w w' := rmmixed_calls 0x5c k hk w
set_option maxRecDepth 20000 in
theorem rmix54 (k : ByteArray) (hk : k.size ≤ 1000) (w : World) : Calls Try.prog 33 #[.string k, .int .u8 54] w fun e w' => e = .returned (.string (mixB k 0x36)) ∧ Below w.heap.size w w' := rmmixed_calls 0x36 k hk w
def digB (s : ByteArray) : ByteArray := ⟨(digW s.data.toList).toArray⟩
set_option maxRecDepth 20000 in
theorem digB_size (s : ByteArray) : (digB s).size = 32 := by
  show (digW s.data.toList).toArray.size = 32
  rw [List.size_toArray, digW_length]
set_option maxRecDepth 20000 in
theorem macB_eq (k s : ByteArray) : macB k s = digB (mixB (keyB k) 0x5c ++ digB (mixB (keyB k) 0x36 ++ s)) := by
  unfold macB macM digB
  rw [toList_append, toList_append]
  rfl
set_option maxRecDepth 20000 in
theorem rgOf_digB (s : ByteArray) (hs : s.size ≤ 50000000000) (w : World) : Calls Try.prog 32 #[.string s] w fun e w' => e = .returned (.string (digB s)) ∧ Below w.heap.size w w' := rgOf_calls s hs w
set_option maxRecDepth 20000 in
theorem gOf_digB (s : ByteArray) (hs : s.size ≤ 50000000000) (w : World) : Calls Try.prog 22 #[.string s] w fun e w' => e = .returned (.string (digB s)) ∧ Below w.heap.size w w' := gOf_calls s hs w
set_option maxRecDepth 20000 in
set_option maxHeartbeats 2000000 in
theorem rmOf_calls (k s : ByteArray) (hk : k.size ≤ 50000000000) (hs : s.size ≤ 1000000000) (w : World) : Calls Try.prog 16 #[.string k, .string s] w fun e w' => e = .returned (.string (macB k s)) ∧ Below w.heap.size w w' := by
  have HK := hide (rmKey_keyB k hk)
  have HKS := hide (keyB_size k)
  have HM := hide (macB_eq k s)
  have hsI : (s.size : Int) ≤ 1000000000 := by omega
  generalize keyB k = kk at *
  have HM1 := hide (rmix92 kk (by rw [HKS.out]; omega))
  have HM2 := hide (rmix54 kk (by rw [HKS.out]; omega))
  have HS1 := hide (mixB_size kk 0x5c)
  have HS2 := hide (mixB_size kk 0x36)
  clear hk
  go_enter Try.func16, Try.ntmps16
  go_wp2_with fail
  refine (HK.out _).mono ?_
  rintro e w1 ⟨rfl, hb1⟩
  have HB1 := hide hb1
  clear hb1
  go_wp2_with fail
  refine (HM1.out _).mono ?_
  rintro e w2 ⟨rfl, hb2⟩
  have HB2 := hide (HB1.out.trans (hb2.mono HB1.out.size))
  clear hb2 HB1
  go_wp2_with fail
  refine (HM2.out _).mono ?_
  rintro e w3 ⟨rfl, hb3⟩
  have HB3 := hide (HB2.out.trans (hb3.mono HB2.out.size))
  clear hb3 HB2
  generalize mixB kk 0x5c = P1 at *
  generalize mixB kk 0x36 = P2 at *
  have hP1 : P1.size ≤ 64 := by rw [HS1.out, HKS.out]; omega
  have hP2 : P2.size ≤ 64 := by rw [HS2.out, HKS.out]; omega
  obtain ⟨X, hX⟩ : ∃ X : ByteArray, P2 ++ s = X := ⟨_, rfl⟩
  have HXS : Hid (X.size ≤ 50000000000) := hide (by rw [← hX, ByteArray.size_append]; omega)
  have HD := hide (rgOf_digB X HXS.out)
  have HDS := hide (digB_size X)
  rw [hX] at HM
  go_wp2_with fail
  refine (HD.out _).mono ?_
  rintro e w4 ⟨rfl, hb4⟩
  have HB4 := hide (HB3.out.trans (hb4.mono HB3.out.size))
  clear hb4 HB3 HD hX
  generalize digB X = D at *
  have hDs : D.size ≤ 32 := by rw [HDS.out]; omega
  obtain ⟨Y, hY⟩ : ∃ Y : ByteArray, P1 ++ D = Y := ⟨_, rfl⟩
  have HYS : Hid (Y.size ≤ 50000000000) := hide (by rw [← hY, ByteArray.size_append]; omega)
  rw [hY] at HM
  go_wp2_with fail
  refine (rgOf_digB Y HYS.out _).mono ?_
  rintro e w5 ⟨rfl, hb5⟩
  have HB5 := hide (HB4.out.trans (hb5.mono HB4.out.size))
  clear hb5 HB4
  go_wp2_with fail
  go_ret
  exact ⟨by rw [HM.out]; rfl, HB5.out⟩
end Go.Proofs.Ytkipmbnmmbeeaaa
