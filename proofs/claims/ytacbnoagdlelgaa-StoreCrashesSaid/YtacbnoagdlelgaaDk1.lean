/- Several texts in one: DiskM, DiskA, DiskB, DiskC, DiskD, DiskE. -/
import Derived.Test.YtacbnoagdlelgaaBase
import Derived.Test.YtacbnoagdlelgaaProg
import Derived.WalkLawsBesides
import Derived.Outline
import Derived.LoopTactic
import Derived.Deep.LoopGhost
import Derived.Deep.RegionHeld3
import Derived.Deep.DrawnRows
import Derived.Laws.MakeOwn
import Derived.Laws.OwnMore
import Derived.Laws.IdiomStrings
import Derived.Carry
/- The disk as a model in plain Lean: lists, no memory, no program. -/
namespace Go.Proofs.Ytacbnoagdlelgaa
open Go.RowKit Zb

/-! ### the disk's model -/
structure DiskM where
  lasts : List ByteArray
  waits : List (Int × ByteArray)
  off : Bool
  ops : Int
  pon : Bool
  after : Int
  mask : Int

/-- the number of the last write to x, the first of the list having number k -/
def lastIdx : Nat → List (Int × ByteArray) → Int → Option Int
  | _, [], _ => none
  | k, p :: r, x => match lastIdx (k + 1) r x with
    | some j => some j
    | none => if x = p.1 then some (k : Int) else none

set_option maxRecDepth 20000 in
theorem lastIdx_snoc : ∀ (k : Nat) (l : List (Int × ByteArray)) (p : Int × ByteArray) (x : Int), lastIdx k (l ++ [p]) x = if x = p.1 then some ((k : Int) + l.length) else lastIdx k l x
  | k, [], p, x => by simp [lastIdx]
  | k, q :: r, p, x => by
    simp only [List.cons_append, lastIdx]
    rw [lastIdx_snoc (k + 1) r p x]
    by_cases h : x = p.1
    · simp only [if_pos h, List.length_cons]
      congr 1
      omega
    · simp only [if_neg h]

set_option maxRecDepth 20000 in
theorem lastIdx_some : ∀ (k : Nat) (l : List (Int × ByteArray)) (x : Int) (j : Int), lastIdx k l x = some j → ∃ i : Nat, j = k + i ∧ i < l.length ∧ ∃ s, l[i]? = some (x, s)
  | k, [], x, j, h => by simp [lastIdx] at h
  | k, p :: r, x, j, h => by
    simp only [lastIdx] at h
    cases hr : lastIdx (k + 1) r x with
    | some j' =>
      rw [hr] at h
      obtain rfl : j' = j := by simpa using h
      obtain ⟨i, rfl, hi, s, hs⟩ := lastIdx_some (k + 1) r x j' hr
      exact ⟨i + 1, by omega, by simp; omega, s, by simpa using hs⟩
    | none =>
      rw [hr] at h
      by_cases hx : x = p.1
      · simp only [if_pos hx, Option.some.injEq] at h
        exact ⟨0, by omega, by simp, p.2, by simp [hx]⟩
      · simp only [if_neg hx] at h
        cases h

/-- what x holds behind these writes, s ahead of them -/
def seen (x : Int) : List (Int × ByteArray) → ByteArray → ByteArray
  | [], s => s
  | p :: r, s => seen x r (if p.1 = x then p.2 else s)
set_option maxRecDepth 20000 in
theorem seen_snoc (x : Int) : ∀ (l : List (Int × ByteArray)) (p : Int × ByteArray) (s : ByteArray), seen x (l ++ [p]) s = if p.1 = x then p.2 else seen x l s
  | [], p, s => rfl
  | q :: r, p, s => by simp only [List.cons_append, seen]; rw [seen_snoc x r p]
set_option maxRecDepth 20000 in
theorem lastIdx_seen : ∀ (k : Nat) (l : List (Int × ByteArray)) (x : Int) (s : ByteArray), match lastIdx k l x with
    | some j => ∃ i : Nat, j = k + i ∧ l[i]? = some (x, seen x l s)
    | none => seen x l s = s
  | k, [], x, s => by simp [lastIdx, seen]
  | k, p :: r, x, s => by
    simp only [lastIdx, seen]
    have ih := lastIdx_seen (k + 1) r x (if p.1 = x then p.2 else s)
    cases hr : lastIdx (k + 1) r x with
    | some j =>
      rw [hr] at ih
      obtain ⟨i, rfl, hi⟩ := ih
      exact ⟨i + 1, by omega, by simpa using hi⟩
    | none =>
      rw [hr] at ih
      by_cases hx : x = p.1
      · subst hx
        simp only [if_true] at ih ⊢
        exact ⟨0, by omega, by simp [ih]⟩
      · simp only [if_neg hx]
        rw [if_neg (fun e => hx e.symm)] at ih ⊢
        exact ih

/-- the writes become what lasts, as far as f says so of their numbers -/
def settleTo (f : Nat → Bool) : Nat → List (Int × ByteArray) → List ByteArray → List ByteArray
  | _, [], L => L
  | k, p :: r, L => settleTo f (k + 1) r (if f k then L.set p.1.toNat p.2 else L)
set_option maxRecDepth 20000 in
theorem settleTo_snoc (f : Nat → Bool) : ∀ (k : Nat) (l : List (Int × ByteArray)) (p : Int × ByteArray) (L : List ByteArray), settleTo f k (l ++ [p]) L = if f (k + l.length) then (settleTo f k l L).set p.1.toNat p.2 else settleTo f k l L
  | k, [], p, L => by simp [settleTo]
  | k, q :: r, p, L => by
    simp only [List.cons_append, settleTo]
    rw [settleTo_snoc f (k + 1) r p]
    simp only [List.length_cons]
    rw [show k + 1 + r.length = k + (r.length + 1) by omega]
set_option maxRecDepth 20000 in
theorem settleTo_length (f : Nat → Bool) : ∀ (k : Nat) (l : List (Int × ByteArray)) (L : List ByteArray), (settleTo f k l L).length = L.length
  | _, [], _ => rfl
  | k, p :: r, L => by
    simp only [settleTo]
    rw [settleTo_length f (k + 1) r]
    split <;> simp

def maskBit (m : Int) (k : Nat) : Bool := bits BinOp.and IntKind.u64 (m / 2 ^ (k % 64)) 1 == 1

/-! ### the operations -/
def DiskM.wrong (D : DiskM) (i : Int) : Int := if D.off then 7 else if i < 0 ∨ D.lasts.length ≤ i then 1 else 0
def DiskM.read (D : DiskM) (i : Int) : ByteArray × Int := if D.wrong i = 0 then (seen i D.waits (D.lasts.getD i.toNat ⟨#[]⟩), 0) else (⟨#[]⟩, D.wrong i)
def DiskM.fail (D : DiskM) (m : Int) : DiskM := if D.off then D else { D with lasts := settleTo (maskBit m) 0 D.waits D.lasts, waits := [], off := true }
def DiskM.cut (D : DiskM) : DiskM × Bool :=
  if D.pon = false then ({ D with ops := wrap64 (D.ops + 1) }, false)
  else if 0 < D.after then ({ D with ops := wrap64 (D.ops + 1), after := wrap64 (D.after - 1) }, false)
  else (({ D with ops := wrap64 (D.ops + 1), pon := false } : DiskM).fail D.mask, true)
def DiskM.write (D : DiskM) (i : Int) (s : ByteArray) : DiskM × Int :=
  if D.wrong i ≠ 0 then (D, D.wrong i) else if s.size ≠ 64 then (D, 1)
  else ((({ D with waits := D.waits ++ [(i, s)] } : DiskM).cut).1, if (({ D with waits := D.waits ++ [(i, s)] } : DiskM).cut).2 then 7 else 0)
def DiskM.sync (D : DiskM) : DiskM × Int :=
  if D.wrong 0 ≠ 0 then (D, D.wrong 0)
  else if D.cut.2 then (D.cut.1, 7)
  else ({ D.cut.1 with lasts := settleTo (fun _ => true) 0 D.cut.1.waits D.cut.1.lasts, waits := [] }, 0)
def DiskM.plan (D : DiskM) (k m : Int) : DiskM × Int := if k < 0 then (D, 1) else ({ D with pon := true, after := k, mask := m }, 0)
def DiskM.start (D : DiskM) : DiskM := { D with off := false }
def zeros (n : Nat) : ByteArray := ⟨Array.replicate n 0⟩
def DiskM.new (n : Nat) : DiskM := ⟨List.replicate n (zeros 64), [], false, 0, false, 0, 0⟩

/-- What holds of every disk that New gave, whatever was done. -/
structure DiskM.Ok (D : DiskM) : Prop where
  len : 16 ≤ D.lasts.length ∧ D.lasts.length ≤ 512
  inr : ∀ p ∈ D.waits, 0 ≤ p.1 ∧ p.1 < D.lasts.length

/-! ### cells -/
def strs (l : List ByteArray) : List Value := l.map fun s => .string s
def wcells (l : List (Int × ByteArray)) : List Value := l.flatMap fun p => [.int .i64 p.1, .string p.2]
set_option maxRecDepth 20000 in
theorem strs_len (l : List ByteArray) : (strs l).length = l.length := by simp [strs]
set_option maxRecDepth 20000 in
theorem strs_get (l : List ByteArray) (k : Nat) (h : k < l.length) : (strs l)[k]? = some (.string (l.getD k ⟨#[]⟩)) := by
  simp [strs, h]
set_option maxRecDepth 20000 in
theorem wcells_len : ∀ l : List (Int × ByteArray), (wcells l).length = l.length * 2
  | [] => rfl
  | p :: r => by simp [wcells] at *; have := wcells_len r; simp [wcells] at this; omega
set_option maxRecDepth 20000 in
theorem wcells_get : ∀ (l : List (Int × ByteArray)) (k : Nat) (p : Int × ByteArray), l[k]? = some p → (wcells l)[k * 2]? = some (.int .i64 p.1) ∧ (wcells l)[k * 2 + 1]? = some (.string p.2)
  | [], k, p, h => by simp at h
  | q :: r, 0, p, h => by simp at h; subst h; simp [wcells]
  | q :: r, k + 1, p, h => by
    have := wcells_get r k p (by simpa using h)
    have e1 : (k + 1) * 2 = k * 2 + 2 := by omega
    have e2 : (k + 1) * 2 + 1 = k * 2 + 1 + 2 := by omega
    rw [e2, e1]
    simpa [wcells] using this
set_option maxRecDepth 20000 in
theorem wcells_snoc (l : List (Int × ByteArray)) (i : Int) (s : ByteArray) : wcells (l ++ [(i, s)]) = wcells l ++ [.int .i64 i, .string s] := by simp [wcells]
set_option maxRecDepth 20000 in
theorem strs_set (l : List ByteArray) (k : Nat) (s : ByteArray) : strs (l.set k s) = (strs l).set k (.string s) := by simp [strs, List.map_set]
end Go.Proofs.Ytacbnoagdlelgaa

/- The disk's inner functions, walked: what waits becomes what lasts (settle, with either of its two tests). -/
namespace Go.Proofs.Ytacbnoagdlelgaa
open Go.RowKit Zb

set_option maxRecDepth 20000 in
theorem dq_map (w : World) (r : Option Nat) : (binOp .neq 52 (.map r) (.map none)).run Try.prog w = .ok (.bool !r.isNone) w := run_neq_map_nil w _ _ _ r Try.underlying52

set_option maxRecDepth 20000 in
theorem dSync1_calls (k : Int) (w : World) : Calls Try.prog 57 #[.int .i64 k] w fun e w' => e = .returned (.bool true) ∧ w = w' := by
  go_enter Try.func57, Try.ntmps57
  go_wp2
  go_ret
  exact ⟨rfl, rfl⟩

set_option maxRecDepth 20000 in
theorem dFail1_calls (k : Nat) (hk : (k : Int) ≤ 4294967296) (m : Int) (bx : Nat) (w : World) (h : w.cell? ⟨bx, 0, none⟩ = some (.int .u64 m)) :
    Calls Try.prog 33 #[.int .i64 k, .pointer (some ⟨bx, 0, none⟩)] w fun e w' => e = .returned (.bool (maskBit m k)) ∧ w = w' := by
  go_enter Try.func33, Try.ntmps33
  go_wp2
  go_ret
  exact ⟨rfl, rfl⟩

structure SettleInv (F : Nat → Prop) (b bm : Nat) (lv wv : Value) (f : Nat → Bool) (L : List ByteArray) (W : List (Int × ByteArray)) (P : Prs) (off pon : Bool) (ops after mask : Int) (w : World) (k : Nat) (wr : World) : Prop where
  tu : Turned F w wr
  hb : Blk wr b 57 #[lv, wv, .map (some bm), .bool off, .int .i64 ops, .bool pon, .int .i64 after, .int .u64 mask]
  hl : Row wr 9 1 lv L.length (strs (settleTo f 0 (W.take k) L))
  hw : Row wr 92 2 wv W.length (wcells W)
  hm : ∃ Pk, MapAt wr bm Pk ∧ ∀ x, Prs.look Pk x = if x ∈ (W.take k).map (·.1) then none else Prs.look P x

section
variable {F : Nat → Prop} {b bm : Nat} {lv wv : Value} {f : Nat → Bool} {L : List ByteArray} {W : List (Int × ByteArray)} {P : Prs} {off pon : Bool} {ops after mask : Int} {w : World} {k : Nat} {wr : World}
set_option maxRecDepth 20000 in
theorem SettleInv.moved {w1 : World} (h : SettleInv F b bm lv wv f L W P off pon ops after mask w k wr) (hk : ∀ x, x < wr.heap.size → w1.heap[x]? = wr.heap[x]?) (ht : Turned F w w1) : SettleInv F b bm lv wv f L W P off pon ops after mask w k w1 := by
  obtain ⟨Pk, hP, hx⟩ := h.hm
  exact ⟨ht, (hk _ h.hb.lt).trans h.hb, row_of h.hl fun g hg => hk g (row_lt h.hl g hg), row_of h.hw fun g hg => hk g (row_lt h.hw g hg), Pk, hP.of_block (hk _ hP.lt), hx⟩
/-- the store of a block's new bytes -/
theorem SettleInv.store {i : Int} {s : ByteArray} {g : Nat} {c : Nat} (h : SettleInv F b bm lv wv f L W P off pon ops after mask w k wr) (hF : ∀ g, lv.ownBlock = some g → F g) (hlv : lv = .slice (some ⟨g, 0, none⟩) L.length c)
    (hp : W[k]? = some (i, s)) (hf : f k = true) :
    Turned F w (wr.setCell ⟨g, i.toNat, none⟩ (.string s)) ∧
    Blk (wr.setCell ⟨g, i.toNat, none⟩ (.string s)) b 57 #[lv, wv, .map (some bm), .bool off, .int .i64 ops, .bool pon, .int .i64 after, .int .u64 mask] ∧
    Row (wr.setCell ⟨g, i.toNat, none⟩ (.string s)) 9 1 lv L.length (strs (settleTo f 0 (W.take (k + 1)) L)) ∧
    Row (wr.setCell ⟨g, i.toNat, none⟩ (.string s)) 92 2 wv W.length (wcells W) ∧
    ∃ Pk, MapAt (wr.setCell ⟨g, i.toNat, none⟩ (.string s)) bm Pk ∧ ∀ x, Prs.look Pk x = if x ∈ (W.take k).map (·.1) then none else Prs.look P x := by
  subst hlv
  obtain ⟨Pk, hP, hx⟩ := h.hm
  have hgb : g ≠ b := by
    intro e
    subst e
    exact row_blk_ne h.hl h.hb (by decide) rfl
  have hgm : g ≠ bm := by
    intro e
    subst e
    obtain ⟨es, cl, hh, _⟩ := hP
    exact row_obj_ne h.hl hh (by intros; simp) rfl
  have hgw := row_types h.hl h.hw (by decide) g rfl
  have hkl : k < W.length := by
    rcases Nat.lt_or_ge k W.length with h | h
    · exact h
    · rw [List.getElem?_eq_none h] at hp; cases hp
  have hlen := settleTo_length f 0 (W.take k) L
  refine ⟨h.tu.setCell (.inl (hF g rfl)) _, h.hb.far (Ne.symm hgb) _, ?_, row_set h.hw hgw _, Pk, hP.of_block (Below.heap_setCell _ _ _ _ (Ne.symm hgm)), hx⟩
  have e : W.take (k + 1) = W.take k ++ [(i, s)] := by
    rw [List.take_add_one, hp]; rfl
  rw [e, settleTo_snoc]
  simp only [List.length_take, Nat.zero_add, Nat.min_eq_left (Nat.le_of_lt hkl), hf, if_true]
  rw [strs_set]
  have := World.ownsRow.stored (w := wr) (base := 0) (e := 9) (size := 1) h.hl i.toNat (.string s)
  simpa using this.1
set_option maxRecDepth 20000 in
theorem SettleInv.step {w1 : World} {i : Int} {s : ByteArray} (ht : Turned F w wr)
    (hb : Blk wr b 57 #[lv, wv, .map (some bm), .bool off, .int .i64 ops, .bool pon, .int .i64 after, .int .u64 mask])
    (hl : Row wr 9 1 lv L.length (strs (settleTo f 0 (W.take (k + 1)) L))) (hw : Row wr 92 2 wv W.length (wcells W)) {Pk : Prs} (hm : MapAt wr bm Pk)
    (hx : ∀ x, Prs.look Pk x = if x ∈ (W.take k).map (·.1) then none else Prs.look P x)
    (hp : W[k]? = some (i, s)) (hFm : F bm) (hm1 : MapAt w1 bm (Prs.del Pk i)) (hg : wr.grownBy w1 (some bm)) : SettleInv F b bm lv wv f L W P off pon ops after mask w (k + 1) w1 := by
  obtain ⟨es, cl, hh, _, hOk⟩ := hm
  have hbm : b ≠ bm := by
    intro e
    subst e
    unfold Blk at hb
    rw [hb] at hh
    cases hh
  have hlm := row_obj_ne hl hh (by intros; simp)
  have hwm := row_obj_ne hw hh (by intros; simp)
  refine ⟨ht.grown hg (fun k hk => .inl (by cases hk; exact hFm)), hb.grown hg (by simpa using hbm), row_of hl fun g hg' => hg.block g (row_lt hl g hg') (fun e => hlm (hg'.trans e)), row_of hw fun g hg' => hg.block g (row_lt hw g hg') (fun e => hwm (hg'.trans e)), _, hm1, fun x => ?_⟩
  rw [Prs.look_del _ _ _ hOk, hx]
  have e : W.take (k + 1) = W.take k ++ [(i, s)] := by
    rw [List.take_add_one, hp]; rfl
  rw [e]
  by_cases h1 : x = i
  · simp [h1]
  · rw [if_neg h1]
    simp [h1]
end

set_option maxHeartbeats 1000000 in
set_option maxRecDepth 20000 in
theorem dsettle_calls (F : Nat → Prop) (b bm : Nat) (lv wv : Value) (c : Nat) (caps : Array Value) (f : Nat → Bool) (L : List ByteArray) (W : List (Int × ByteArray)) (P : Prs) (off pon : Bool) (ops after mask : Int) (w : World)
    (hb : Blk w b 57 #[lv, wv, .map (some bm), .bool off, .int .i64 ops, .bool pon, .int .i64 after, .int .u64 mask])
    (hl : Row w 9 1 lv L.length (strs L)) (hw : Row w 92 2 wv W.length (wcells W)) (hm : MapAt w bm P)
    (hi : ∀ p ∈ W, 0 ≤ p.1 ∧ p.1 < L.length) (hL : L.length ≤ 512)
    (hF : F b ∧ F bm ∧ (∀ g, lv.ownBlock = some g → F g)) (hW : W.length ≤ 4294967296)
    (hcf : ∀ (x : Value) (w1 : World), (callFunc c (#[x] ++ caps)).run Try.prog w1 = .ok (.enter c (#[x] ++ caps)) w1)
    (hc : ∀ (k : Nat) (w1 : World), k < W.length → Turned F w w1 → Calls Try.prog c (#[.int .i64 k] ++ caps) w1 fun e w' => e = .returned (.bool (f k)) ∧ w1 = w') :
    Calls Try.prog 32 #[.pointer (some ⟨b, 0, none⟩), .func (.func c) #[] caps] w fun e w' => e = .returned (.tuple #[]) ∧
      Turned F w w' ∧ Blk w' b 57 #[lv, .slice none 0 0, .map (some bm), .bool off, .int .i64 ops, .bool pon, .int .i64 after, .int .u64 mask] ∧
      Row w' 9 1 lv L.length (strs (settleTo f 0 W L)) ∧ ∃ Pk, MapAt w' bm Pk ∧ ∀ x, Prs.look Pk x = if x ∈ W.map (·.1) then none else Prs.look P x := by
  have c1 : w.cell? ⟨b, 1, none⟩ = some wv := hb.cell 1
  obtain ⟨wA, wc, rfl, hwc⟩ := row_slice hw
  have Hs : SettleInv F b bm lv (.slice wA W.length wc) f L W P off pon ops after mask w 0 w := ⟨.refl _ _, hb, hl, hw, P, hm, fun x => by simp⟩
  have HI := hide hi; clear hi
  have HF := hide hF; clear hF
  have HC := hide hc; clear hc
  clear hb hl hw hm
  go_enter Try.func32, Try.ntmps32
  go_wp2_with fail
  go_loopw [11] (fun i wr => ∃ k : Nat, k ≤ W.length ∧ i = .int .i64 k ∧ SettleInv F b bm lv (.slice wA W.length wc) f L W P off pon ops after mask w k wr) (fun i _ => W.length - (intOf i).toNat)
  case atStart => exact ⟨0, Nat.zero_le _, rfl, Hs⟩
  case round =>
    obtain ⟨k, hk, rfl, hinv⟩ := hrel
    clear Hs c1
    by_cases hlt : k < W.length
    · obtain ⟨g, cc, hsl, hcc, hg, hfz, hcells⟩ := row_form hinv.hw (by omega)
      obtain ⟨rfl, rfl⟩ : wA = some ⟨g, 0, none⟩ ∧ wc = cc := by simpa using hsl
      clear hsl
      obtain ⟨p, hp⟩ : ∃ p, W[k]? = some p := ⟨_, List.getElem?_eq_getElem hlt⟩
      obtain ⟨i, s⟩ := p
      have hwc2 := wcells_get W k _ hp
      have d0 : wr.cell? ⟨g, k * 2, none⟩ = some (.int .i64 i) := (hcells _ (by omega)).trans hwc2.1
      have d1 : wr.cell? ⟨g, k * 2 + 1, none⟩ = some (.string s) := (hcells _ (by omega)).trans hwc2.2
      have hgd : g < wr.heap.size := hg
      have hi0 : 0 ≤ i := (HI.out _ (List.mem_of_getElem? hp)).1
      have hi1 : i < L.length := (HI.out _ (List.mem_of_getElem? hp)).2
      have hbl := hinv.hb.lt
      obtain ⟨g2, c2, hlv, hc2, hg2, hfz2, hcells2⟩ := row_form hinv.hl (by omega)
      have HLV := hide hlv; clear hlv
      have HC2 := hide (HC.out k)
      have f2 := hfz2 i.toNat
      have l2 : ∃ u, wr.cell? ⟨g2, i.toNat, none⟩ = some u := ⟨_, (hcells2 i.toNat (by omega)).trans (strs_get _ _ (by rw [settleTo_length]; omega))⟩
      clear hwc2 hcells hfz hcells2 hfz2 hg hc2
      have HP := hide hp; clear hp
      cases hf : f k
      · have HF0 := hide hf; clear hf
        go_wp2_with fail
        refine (HC2.out _ hlt ?_).mono ?_
        · exact hinv.tu.alloc _
        rintro e w' ⟨rfl, rfl⟩
        rw [HF0.out]
        have hinv1 := hinv.moved (w1 := wr.alloc (.cells #[.int .i64 i, .string s] 92)) (fun x hx => Below.heap_alloc _ _ _ hx) (hinv.tu.alloc _)
        have n0 : (wr.alloc (.cells #[.int .i64 i, .string s] 92)).cell? ⟨wr.heap.size, 0, none⟩ = some (.int .i64 i) := (Blk.new wr 92 _).cell 0
        generalize hwa : wr.alloc (.cells #[.int .i64 i, .string s] 92) = wa at *
        generalize hq : wr.heap.size = q at *
        have b2 : wa.cell? ⟨b, 2, none⟩ = some (.map (some bm)) := hinv1.hb.cell 2
        obtain ⟨Pk, hPk, hxk⟩ := hinv1.hm
        have HX := hide hxk; clear hxk
        clear hwa hq
        go_wp2_with fail
        refine wp_region_tail 6 (by kernel_rfl) (by kernel_rfl) ?_
        simp only [List.take_succ_cons, List.take_zero, List.drop_succ_cons, List.drop_zero]
        repeat still_step
        refine wpStill_nil ?_
        refine wpList_del wa.drew rfl (.tmp 31) (.tmp 33) 52 3 3 rfl Try.underlying52 Try.underlying3 bm Pk hPk i rfl rfl ?_
        intro w1 hm1 hg1
        have hs := SettleInv.step (f := f) (k := k) (hinv1.tu.drew) hinv1.hb (L := L) (W := W) (s := s) (by
          have e : W.take (k + 1) = W.take k ++ [(i, s)] := by rw [List.take_add_one, HP.out]; rfl
          rw [e, settleTo_snoc, if_neg (by rw [List.length_take, Nat.min_eq_left hk, Nat.zero_add, HF0.out]; simp)]
          exact hinv1.hl) hinv1.hw hPk HX.out HP.out HF.out.2.1 hm1 hg1
        go_wp2_with fail
        go_roundw
        case rel => exact ⟨k + 1, by omega, by go_num, hs⟩
        case measure => simp [intOf]; omega
      · have HF0 := hide hf; clear hf
        go_wp2_with fail
        refine (HC2.out _ hlt ?_).mono ?_
        · exact hinv.tu.alloc _
        rintro e w' ⟨rfl, rfl⟩
        rw [HF0.out]
        have hinv1 := hinv.moved (w1 := wr.alloc (.cells #[.int .i64 i, .string s] 92)) (fun x hx => Below.heap_alloc _ _ _ hx) (hinv.tu.alloc _)
        have hn := Blk.new wr 92 #[.int .i64 i, .string s]
        have f3 : (wr.alloc (.cells #[.int .i64 i, .string s] 92)).frozen? ⟨g2, i.toNat, none⟩ = false := (World.frozen?_of_block (a := ⟨g2, i.toNat, none⟩) (Below.heap_alloc wr _ g2 hg2)).trans f2
        have l3 : ∃ u, (wr.alloc (.cells #[.int .i64 i, .string s] 92)).cell? ⟨g2, i.toNat, none⟩ = some u := by
          obtain ⟨u, hu⟩ := l2
          exact ⟨u, (World.cell?_of_block (a := ⟨g2, i.toNat, none⟩) (Below.heap_alloc wr _ g2 hg2)).trans hu⟩
        have hgq : g2 ≠ wr.heap.size := by omega
        generalize hwa : wr.alloc (.cells #[.int .i64 i, .string s] 92) = wa at *
        generalize hq : wr.heap.size = q at *
        have n0 : wa.cell? ⟨q, 0, none⟩ = some (.int .i64 i) := hn.cell 0
        have n1 : wa.cell? ⟨q, 1, none⟩ = some (.string s) := hn.cell 1
        have b0 : wa.cell? ⟨b, 0, none⟩ = some (.slice (some ⟨g2, 0, none⟩) L.length c2) := by rw [← HLV.out]; exact hinv1.hb.cell 0
        clear hwa hq f2 l2 d0 d1
        obtain ⟨u3, l3⟩ := l3
        have HST := hide (hinv1.store (fun g hg => HF.out.2.2 g hg) HLV.out HP.out HF0.out)
        have n0' : (wa.setCell ⟨g2, i.toNat, none⟩ (.string s)).cell? ⟨q, 0, none⟩ = some (.int .i64 i) := (World.cell?_setCell_other wa ⟨g2, i.toNat, none⟩ ⟨q, 0, none⟩ _ (fun e => hgq (by simpa using congrArg Addr.block e))).trans n0
        have b2' : (wa.setCell ⟨g2, i.toNat, none⟩ (.string s)).cell? ⟨b, 2, none⟩ = some (.map (some bm)) := HST.out.2.1.cell 2
        go_wp2_with fail
        refine wp_region_tail 9 (by kernel_rfl) (by kernel_rfl) ?_
        simp only [List.take_succ_cons, List.take_zero, List.drop_succ_cons, List.drop_zero]
        repeat still_step
        refine wpStill_nil ?_
        clear n1 b0
        obtain ⟨tu2, hb2, hl2, hw2, Pk, hPk, hxk⟩ := HST.out
        have HX := hide hxk; clear hxk
        go_wp2_with fail
        refine wp_region_tail 6 (by kernel_rfl) (by kernel_rfl) ?_
        simp only [List.take_succ_cons, List.take_zero, List.drop_succ_cons, List.drop_zero]
        repeat still_step
        refine wpStill_nil ?_
        refine wpList_del (wa.setCell ⟨g2, i.toNat, none⟩ (.string s)).drew.drew rfl (.tmp 31) (.tmp 33) 52 3 3 rfl Try.underlying52 Try.underlying3 bm Pk hPk i rfl rfl ?_
        intro w1 hm1 hg1
        have hs := SettleInv.step (f := f) (k := k) (wr := (wa.setCell ⟨g2, i.toNat, none⟩ (.string s)).drew.drew) tu2.drew.drew hb2 hl2 hw2 hPk HX.out HP.out HF.out.2.1 hm1 hg1
        go_wp2_with fail
        go_roundw
        case rel => exact ⟨k + 1, by omega, by go_num, hs⟩
        case measure => simp [intOf]; omega
    · have b1 := (hinv.hb.cell 1)
      have f1 := (hinv.hb.frozen 1)
      simp only [List.getElem?_toArray, List.getElem?_cons_succ, List.getElem?_cons_zero] at b1
      obtain rfl : k = W.length := by omega
      have hfin := hide (And.intro hinv.tu (And.intro hinv.hb (And.intro hinv.hl hinv.hm)))
      go_wp2_with fail
      go_end0
      obtain ⟨tu, hb, hl, Pk, hPk, hx⟩ := hfin.out
      rw [List.take_length] at hl hx
      have hlb : lv.ownBlock ≠ some b := row_blk_ne hl hb (by decide)
      have hmb : bm ≠ b := by
        intro e
        subst e
        obtain ⟨es, cl, hh, _⟩ := hPk
        unfold Blk at hb
        rw [hb] at hh
        cases hh
      refine ⟨rfl, tu.setCell (.inl HF.out.1) _, by simpa using hb.set_ 1 (.slice none 0 0), row_set hl hlb _, Pk, hPk.of_block (Below.heap_setCell _ _ _ _ hmb), hx⟩
end Go.Proofs.Ytacbnoagdlelgaa

/- The disk as it lies in memory, and its failures: Fail and cut do what the model's fail and cut do. -/
namespace Go.Proofs.Ytacbnoagdlelgaa
open Go.RowKit Zb

/-- The disk D lies at block b; all its blocks are among F. -/
structure DiskRep (w : World) (b : Nat) (F : Nat → Prop) (D : DiskM) (lv wv : Value) (bm : Nat) (P : Prs) : Prop where
  hb : Blk w b 57 #[lv, wv, .map (some bm), .bool D.off, .int .i64 D.ops, .bool D.pon, .int .i64 D.after, .int .u64 D.mask]
  hl : Row w 9 1 lv D.lasts.length (strs D.lasts)
  hw : Row w 92 2 wv D.waits.length (wcells D.waits)
  hm : MapAt w bm P
  hP : ∀ x, Prs.look P x = lastIdx 0 D.waits x
  Fb : F b
  Fm : F bm
  Fl : ∀ g, lv.ownBlock = some g → F g
  Fw : ∀ g, wv.ownBlock = some g → F g
  Fx : ∀ x, F x → x < w.heap.size
  ok : D.Ok
def DiskAt (w : World) (b : Nat) (F : Nat → Prop) (D : DiskM) : Prop := ∃ lv wv bm P, DiskRep w b F D lv wv bm P

set_option maxRecDepth 20000 in
theorem DiskRep.moved {w w1 : World} {b : Nat} {F : Nat → Prop} {D : DiskM} {lv wv : Value} {bm : Nat} {P : Prs} (h : DiskRep w b F D lv wv bm P) (hs : w.heap.size ≤ w1.heap.size) (hk : ∀ x, F x → w1.heap[x]? = w.heap[x]?) : DiskRep w1 b F D lv wv bm P :=
  ⟨(hk _ h.Fb).trans h.hb, row_of h.hl fun g hg => hk g (h.Fl g hg), row_of h.hw fun g hg => hk g (h.Fw g hg), h.hm.of_block (hk _ h.Fm), h.hP, h.Fb, h.Fm, h.Fl, h.Fw, fun x hx => Nat.lt_of_lt_of_le (h.Fx x hx) hs, h.ok⟩
set_option maxRecDepth 20000 in
theorem DiskAt.moved {w w1 : World} {b : Nat} {F : Nat → Prop} {D : DiskM} (h : DiskAt w b F D) (hs : w.heap.size ≤ w1.heap.size) (hk : ∀ x, F x → w1.heap[x]? = w.heap[x]?) : DiskAt w1 b F D := by
  obtain ⟨lv, wv, bm, P, h⟩ := h
  exact ⟨lv, wv, bm, P, h.moved hs hk⟩
set_option maxRecDepth 20000 in
theorem DiskAt.alloc {w : World} {b : Nat} {F : Nat → Prop} {D : DiskM} (h : DiskAt w b F D) (o : Obj) : DiskAt (w.alloc o) b F D :=
  h.moved (by simp) fun x hx => Below.heap_alloc _ _ _ (by obtain ⟨_, _, _, _, h⟩ := h; exact h.Fx x hx)
set_option maxRecDepth 20000 in
theorem DiskAt.turned {w w1 : World} {b : Nat} {F G : Nat → Prop} {D : DiskM} (h : DiskAt w b F D) (k : Turned G w w1) (hG : ∀ x, F x → ¬ G x) : DiskAt w1 b F D :=
  h.moved k.size fun x hx => k.block x (by obtain ⟨_, _, _, _, h⟩ := h; exact h.Fx x hx) (hG x hx)
set_option maxRecDepth 20000 in
theorem DiskAt.below {w w1 : World} {b : Nat} {F : Nat → Prop} {D : DiskM} (h : DiskAt w b F D) (k : Below w.heap.size w w1) : DiskAt w1 b F D :=
  h.turned (Turned.of_below (F := fun _ => False) k) fun _ _ h => h
set_option maxRecDepth 20000 in
theorem DiskAt.lt {w : World} {b : Nat} {F : Nat → Prop} {D : DiskM} (h : DiskAt w b F D) (x : Nat) (hx : F x) : x < w.heap.size := by
  obtain ⟨_, _, _, _, h⟩ := h; exact h.Fx x hx
set_option maxRecDepth 20000 in
theorem DiskAt.ok {w : World} {b : Nat} {F : Nat → Prop} {D : DiskM} (h : DiskAt w b F D) : D.Ok := by
  obtain ⟨_, _, _, _, h⟩ := h; exact h.ok

/-- What an operation of the disk leaves. -/
def DPost (F : Nat → Prop) (w : World) (b : Nat) (v : Value) (D' : DiskM) (e : Ending) (w' : World) : Prop :=
  e = .returned v ∧ Turned F w w' ∧ ∃ F', (∀ x, F' x → F x ∨ w.heap.size ≤ x) ∧ DiskAt w' b F' D'

set_option maxRecDepth 20000 in
theorem dthere_calls (b bm : Nat) (w : World) (h : w.cell? ⟨b, 2, none⟩ = some (.map (some bm))) : Calls Try.prog 31 #[.pointer (some ⟨b, 0, none⟩)] w fun e w' => e = .returned (.bool true) ∧ w = w' := by
  have hq := dq_map
  go_enter Try.func31, Try.ntmps31
  go_wp2
  go_ret
  exact ⟨rfl, rfl⟩

set_option maxRecDepth 20000 in
theorem dthere_nil (w : World) : Calls Try.prog 31 #[.pointer none] w fun e w' => e = .returned (.bool false) ∧ w = w' := by
  go_enter Try.func31, Try.ntmps31
  go_wp2
  go_ret
  exact ⟨rfl, rfl⟩

set_option maxRecDepth 20000 in
theorem dthere_zero (b : Nat) (w : World) (h : w.cell? ⟨b, 2, none⟩ = some (.map none)) : Calls Try.prog 31 #[.pointer (some ⟨b, 0, none⟩)] w fun e w' => e = .returned (.bool false) ∧ w = w' := by
  have hq := dq_map
  go_enter Try.func31, Try.ntmps31
  go_wp2
  go_ret
  exact ⟨rfl, rfl⟩

def wrongM (off : Bool) (n i : Int) : Int := if off then 7 else if i < 0 ∨ n ≤ i then 1 else 0
set_option maxRecDepth 20000 in
theorem dwrong_core (b m : Nat) (w : World) (i : Int) (a : Option Addr) (n c : Nat) (off : Bool)
    (h0 : w.cell? ⟨b, 0, none⟩ = some (.slice a n c)) (h2 : w.cell? ⟨b, 2, none⟩ = some (.map (some m))) (h3 : w.cell? ⟨b, 3, none⟩ = some (.bool off)) :
    Calls Try.prog 55 #[.pointer (some ⟨b, 0, none⟩), .int .i64 i] w fun e w' => e = .returned (.int .i64 (wrongM off n i)) ∧ w = w' := by
  cases off
  · by_cases hi : i < 0
    · go_enter Try.func55, Try.ntmps55
      go_wp2_with (go_at_call 31; refine (dthere_calls _ _ _ h2).mono ?_; rintro e w' ⟨rfl, rfl⟩)
      go_ret
      simp [wrongM, hi]
    · by_cases hn : i < n
      · go_enter Try.func55, Try.ntmps55
        go_wp2_with (go_at_call 31; refine (dthere_calls _ _ _ h2).mono ?_; rintro e w' ⟨rfl, rfl⟩)
        go_ret
        have : ¬ (i < 0 ∨ (n:Int) ≤ i) := by omega
        simp [wrongM, this]
      · go_enter Try.func55, Try.ntmps55
        go_wp2_with (go_at_call 31; refine (dthere_calls _ _ _ h2).mono ?_; rintro e w' ⟨rfl, rfl⟩)
        go_ret
        have : (i < 0 ∨ (n:Int) ≤ i) := by omega
        simp [wrongM, this]
  · go_enter Try.func55, Try.ntmps55
    go_wp2_with (go_at_call 31; refine (dthere_calls _ _ _ h2).mono ?_; rintro e w' ⟨rfl, rfl⟩)
    go_ret
    simp [wrongM]
set_option maxRecDepth 20000 in
theorem dwrong_calls {w : World} {b : Nat} {F : Nat → Prop} {D : DiskM} (h : DiskAt w b F D) (i : Int) : Calls Try.prog 55 #[.pointer (some ⟨b, 0, none⟩), .int .i64 i] w fun e w' => e = .returned (.int .i64 (D.wrong i)) ∧ w = w' := by
  obtain ⟨lv, wv, bm, P, h⟩ := h
  obtain ⟨A, c, rfl, hc⟩ := row_slice h.hl
  exact dwrong_core b bm w i A D.lasts.length c D.off (h.hb.cell 0) (h.hb.cell 2) (h.hb.cell 3)

set_option maxRecDepth 20000 in
theorem dfail_calls {w : World} {b : Nat} {F : Nat → Prop} {D : DiskM} (h : DiskAt w b F D) (m : Int) (hW : D.waits.length ≤ 4294967296) :
    Calls Try.prog 17 #[.pointer (some ⟨b, 0, none⟩), .int .u64 m] w (DPost F w b (.tuple #[]) (D.fail m)) := by
  have hA := h.alloc (.cells #[.int .u64 m] 37)
  obtain ⟨lv, wv, bm, P, h⟩ := h
  have hb1 : (w.alloc (.cells #[.int .u64 m] 37)).cell? ⟨b, 2, none⟩ = some (.map (some bm)) := (h.hb.alloc _).cell 2
  have hb2 : (w.alloc (.cells #[.int .u64 m] 37)).cell? ⟨b, 3, none⟩ = some (.bool D.off) := (h.hb.alloc _).cell 3
  cases hoff : D.off
  · have HO := hide hoff; clear hoff
    rw [HO.out] at hb2
    have h1 := DiskRep.moved h (w1 := w.alloc (.cells #[.int .u64 m] 37)) (by simp) (fun x hx => Below.heap_alloc _ _ _ (h.Fx x hx))
    have hq : ¬ F w.heap.size := fun hx => by have := h.Fx _ hx; omega
    have hn := Blk.new w 37 #[.int .u64 m]
    have HS := hide (fun hc => dsettle_calls F b bm lv wv 33 #[.pointer (some ⟨w.heap.size, 0, none⟩)] (maskBit m) D.lasts D.waits P D.off D.pon D.ops D.after D.mask (w.alloc (.cells #[.int .u64 m] 37)) h1.hb h1.hl h1.hw h1.hm h1.ok.inr h1.ok.len.2 ⟨h1.Fb, h1.Fm, h1.Fl⟩ hW (fun x w1 => by kernel_rfl) hc)
    go_enter Try.func17, Try.ntmps17
    go_wp2_with (go_at_call 31; refine (dthere_calls _ _ _ hb1).mono ?_; rintro e w' ⟨rfl, rfl⟩)
    refine (HS.out ?_).mono ?_
    · intro k w1 hk ht
      refine dFail1_calls k (by omega) m _ w1 ?_
      exact (hn.turned ht hq).cell 0
    rintro e w1 ⟨rfl, tu, hb3, hl3, Pk, hPk, hx⟩
    have HX := hide hx; clear hx
    have c3 := hb3.cell 3
    have f3 := hb3.frozen 3
    simp only [List.getElem?_toArray, List.getElem?_cons_succ, List.getElem?_cons_zero] at c3
    go_wp2_with fail
    go_end0
    have hlb : lv.ownBlock ≠ some b := row_blk_ne hl3 hb3 (by decide)
    have hmb : bm ≠ b := by
      intro e
      subst e
      obtain ⟨es, cl, hh, _⟩ := hPk
      unfold Blk at hb3
      rw [hb3] at hh
      cases hh
    have hsz : w.heap.size ≤ w1.heap.size := Nat.le_trans (by simp) tu.size
    refine ⟨rfl, ((Turned.refl F w).alloc _).trans (tu.setCell (.inl h.Fb) _) (fun x hx => .inl hx), F, fun x hx => .inl hx, lv, .slice none 0 0, bm, Pk, ?_⟩
    have e : D.fail m = { D with lasts := settleTo (maskBit m) 0 D.waits D.lasts, waits := [], off := true } := by simp [DiskM.fail, HO.out]
    rw [e]
    refine ⟨by simpa using hb3.set_ 3 (.bool true), ?_, row_nil _ _ _, hPk.of_block (Below.heap_setCell _ _ _ _ hmb), ?_, h.Fb, h.Fm, h.Fl, fun g hg => by simp [Value.ownBlock] at hg, fun x hx => ?_, ?_⟩
    · simp only [settleTo_length]
      exact row_set hl3 hlb _
    · intro x
      rw [HX.out, h.hP]
      simp only [lastIdx]
      split
      · rfl
      · rename_i hnot
        cases hli : lastIdx 0 D.waits x with
        | none => rfl
        | some j =>
          obtain ⟨i, _, _, s, hs⟩ := lastIdx_some 0 _ x j hli
          exact absurd (List.mem_map.2 ⟨_, List.mem_of_getElem? hs, rfl⟩) hnot
    · have := h.Fx x hx
      simp only [World.setCell, Array.size_modify]
      omega
    · exact ⟨by simp only [settleTo_length]; exact h.ok.len, by simp⟩
  · have HO := hide hoff; clear hoff
    rw [HO.out] at hb2
    go_enter Try.func17, Try.ntmps17
    go_wp2_with (go_at_call 31; refine (dthere_calls _ _ _ hb1).mono ?_; rintro e w' ⟨rfl, rfl⟩)
    refine bodyPost_ret (results_none rfl _ _ _) rfl ?_
    refine ⟨rfl, (Turned.refl F w).alloc _, F, fun x hx => .inl hx, ?_⟩
    rw [show D.fail m = D by simp [DiskM.fail, HO.out]]
    exact hA
end Go.Proofs.Ytacbnoagdlelgaa

/- The disk's operations, walked: each does what the model's does. -/
namespace Go.Proofs.Ytacbnoagdlelgaa
open Go.RowKit Zb

section
variable {w : World} {b : Nat} {F : Nat → Prop} {D : DiskM} {lv wv : Value} {bm : Nat} {P : Prs}
set_option maxRecDepth 20000 in
theorem DiskRep.ne_ (h : DiskRep w b F D lv wv bm P) : lv.ownBlock ≠ some b ∧ wv.ownBlock ≠ some b ∧ bm ≠ b := by
  refine ⟨row_blk_ne h.hl h.hb (by decide), row_blk_ne h.hw h.hb (by decide), ?_⟩
  intro e
  subst e
  obtain ⟨es, cl, hh, _⟩ := h.hm
  have hb := h.hb
  unfold Blk at hb
  rw [hb] at hh
  cases hh
/-- a store into one of the struct's own cells -/
theorem DiskRep.put (h : DiskRep w b F D lv wv bm P) {D' : DiskM} {i : Nat} {u : Value} (hl : D'.lasts = D.lasts) (hw : D'.waits = D.waits)
    (hc : #[lv, wv, .map (some bm), .bool D.off, .int .i64 D.ops, .bool D.pon, .int .i64 D.after, .int .u64 D.mask].setIfInBounds i u = #[lv, wv, .map (some bm), .bool D'.off, .int .i64 D'.ops, .bool D'.pon, .int .i64 D'.after, .int .u64 D'.mask]) :
    DiskRep (w.setCell ⟨b, i, none⟩ u) b F D' lv wv bm P := by
  obtain ⟨n1, n2, n3⟩ := h.ne_
  refine ⟨by rw [← hc]; exact h.hb.set_ i u, by rw [hl]; exact row_set h.hl n1 _, by rw [hw]; exact row_set h.hw n2 _, h.hm.of_block (Below.heap_setCell _ _ _ _ n3), by rw [hw]; exact h.hP, h.Fb, h.Fm, h.Fl, h.Fw, fun x hx => ?_, ?_⟩
  · have := h.Fx x hx
    simpa [World.setCell] using this
  · exact ⟨by rw [hl]; exact h.ok.len, by rw [hl, hw]; exact h.ok.inr⟩
set_option maxRecDepth 20000 in
theorem DiskRep.at_ (h : DiskRep w b F D lv wv bm P) : DiskAt w b F D := ⟨_, _, _, _, h⟩
end

set_option maxRecDepth 20000 in
theorem dcut_calls {w : World} {b : Nat} {F : Nat → Prop} {D : DiskM} (h : DiskAt w b F D) (hW : D.waits.length ≤ 4294967296) :
    Calls Try.prog 56 #[.pointer (some ⟨b, 0, none⟩)] w (DPost F w b (.bool D.cut.2) D.cut.1) := by
  obtain ⟨lv, wv, bm, P, h⟩ := h
  have c4 : w.cell? ⟨b, 4, none⟩ = some (.int .i64 D.ops) := h.hb.cell 4
  have c5 : w.cell? ⟨b, 5, none⟩ = some (.bool D.pon) := h.hb.cell 5
  have c6 : w.cell? ⟨b, 6, none⟩ = some (.int .i64 D.after) := h.hb.cell 6
  have c7 : w.cell? ⟨b, 7, none⟩ = some (.int .u64 D.mask) := h.hb.cell 7
  have f4 := h.hb.frozen 4
  have f5 := h.hb.frozen 5
  have f6 := h.hb.frozen 6
  have h1 := h.put (D' := { D with ops := wrap64 (D.ops + 1) }) (i := 4) (u := .int .i64 (wrap64 (D.ops + 1))) rfl rfl rfl
  cases hp : D.pon
  · have HO := hide hp; clear hp
    rw [HO.out] at c5
    go_enter Try.func56, Try.ntmps56
    go_wp2_with fail
    go_ret
    have e : D.cut = ({ D with ops := wrap64 (D.ops + 1) }, false) := by simp [DiskM.cut, HO.out]
    rw [e]
    exact ⟨rfl, (Turned.refl F w).setCell (.inl h.Fb) _, F, fun x hx => .inl hx, h1.at_⟩
  · have HO := hide hp; clear hp
    rw [HO.out] at c5
    by_cases ha : 0 < D.after
    · go_enter Try.func56, Try.ntmps56
      go_wp2_with fail
      go_ret
      have e : D.cut = ({ D with ops := wrap64 (D.ops + 1), after := wrap64 (D.after - 1) }, false) := by simp [DiskM.cut, HO.out, ha]
      rw [e]
      have h2 := h1.put (D' := { D with ops := wrap64 (D.ops + 1), after := wrap64 (D.after - 1) }) (i := 6) (u := .int .i64 (wrap64 (D.after - 1))) rfl rfl rfl
      exact ⟨rfl, ((Turned.refl F w).setCell (.inl h.Fb) _).setCell (.inl h.Fb) _, F, fun x hx => .inl hx, h2.at_⟩
    · have h2 := h1.put (D' := { D with ops := wrap64 (D.ops + 1), pon := false }) (i := 5) (u := .bool false) rfl rfl rfl
      have HF := hide (dfail_calls h2.at_ D.mask hW)
      go_enter Try.func56, Try.ntmps56
      go_wp2_with fail
      refine HF.out.mono ?_
      rintro e w1 ⟨rfl, tu, F', hF', hd⟩
      go_wp2_with fail
      go_ret
      have e : D.cut = (({ D with ops := wrap64 (D.ops + 1), pon := false } : DiskM).fail D.mask, true) := by simp [DiskM.cut, HO.out, ha]
      rw [e]
      exact ⟨rfl, (((Turned.refl F w).setCell (.inl h.Fb) _).setCell (.inl h.Fb) _).trans tu (fun x hx => .inl hx), F', fun x hx => by rcases hF' x hx with h | h; exact .inl h; exact .inr (by simpa [World.setCell] using h), hd⟩

set_option maxRecDepth 20000 in
theorem info_write : (Try.prog.info? 92).map (fun i => (i.zero, i.size, i.bytes)) = some (some (.agg #[.int .i64 0, .string ⟨#[]⟩]), 2, 24) := by kernel_rfl

set_option maxRecDepth 20000 in
theorem dwrite_calls {w : World} {b : Nat} {F : Nat → Prop} {D : DiskM} (h : DiskAt w b F D) (hW : D.waits.length ≤ 4294967290) (i : Int) (s : ByteArray) :
    Calls Try.prog 43 #[.pointer (some ⟨b, 0, none⟩), .int .i64 i, .string s] w (DPost F w b (.int .i64 (D.write i s).2) (D.write i s).1) := by
  have HWR := hide (dwrong_calls h i)
  have h0 := h
  obtain ⟨lv, wv, bm, P, h⟩ := h
  by_cases hwr : D.wrong i = 0
  · by_cases hs : s.size = 64
    · have hi : 0 ≤ i ∧ i < D.lasts.length := by
        unfold DiskM.wrong at hwr
        split at hwr
        · omega
        · split at hwr
          · omega
          · omega
      have HWR0 := hide hwr; clear hwr
      obtain ⟨A, c, rfl, hc⟩ := row_slice h.hw
      have c1 : w.cell? ⟨b, 1, none⟩ = some (.slice A D.waits.length c) := h.hb.cell 1
      have c2 : w.cell? ⟨b, 2, none⟩ = some (.map (some bm)) := h.hb.cell 2
      have hs1 : (s.size : Int) = 64 := by omega
      have HS := hide hs1
      have hs2 : ((s.size : Int) != 64) = false := by simp [hs1]
      clear hs hs1
      go_enter Try.func43, Try.ntmps43
      go_wp2_with fail
      refine HWR.out.mono ?_
      rintro e w' ⟨rfl, rfl⟩
      rw [HWR0.out]
      go_wp2_with fail
      refine wp_region_tail 10 (by kernel_rfl) (by kernel_rfl) ?_
      simp only [List.take_succ_cons, List.take_zero, List.drop_succ_cons, List.drop_zero]
      repeat still_step
      refine wpStill_nil ?_
      refine wpList_mapUpd w.drew rfl (.tmp 20) (.tmp 21) (.tmp 26) 52 rfl 3 3 Try.underlying52 Try.underlying3 bm P h.hm i D.waits.length rfl rfl rfl ?_
      intro w1 hm1 hg1
      obtain ⟨n1, n2, n3⟩ := h.ne_
      have hb1 : Blk w1 b 57 _ := Blk.grown (w := w.drew) h.hb hg1 (by simpa using Ne.symm n3)
      have hmw : (Value.slice A D.waits.length c).ownBlock ≠ some bm := by
        obtain ⟨es, cl, hh, _⟩ := h.hm
        exact row_obj_ne h.hw hh (by intros; simp)
      have hml : lv.ownBlock ≠ some bm := by
        obtain ⟨es, cl, hh, _⟩ := h.hm
        exact row_obj_ne h.hl hh (by intros; simp)
      have hl1 : Row w1 9 1 lv D.lasts.length (strs D.lasts) := row_of h.hl fun g hg => hg1.block g (row_lt h.hl g hg) (fun e => hml (hg.trans e))
      have hw1 : Row w1 92 2 (.slice A D.waits.length c) D.waits.length (wcells D.waits) := row_of h.hw fun g hg => hg1.block g (row_lt h.hw g hg) (fun e => hmw (hg.trans e))
      have hsz1 : w.heap.size ≤ w1.heap.size := hg1.size
      clear c1 c2
      have c1 : w1.cell? ⟨b, 1, none⟩ = some (.slice A D.waits.length c) := hb1.cell 1
      have HB := hide hb1; clear hb1
      have HNE := hide (And.intro n1 (And.intro n2 n3)); clear n1 n2 n3
      have HM := hide (And.intro hmw hml); clear hmw hml
      go_wp2_with (at_builtin; refine wpList_app (w1.alloc (.cells #[.int .i64 i, .string s] 92)) rfl (.tmp 31) (.tmp 35) 53 92 rfl _ 2 24 Try.underlying53 info_write rfl (by omega) (.slice A D.waits.length c) D.waits.length (wcells D.waits) rfl (row_alloc hw1 _) ⟨w1.heap.size, 0, none⟩ 1 1 [.int .i64 i, .string s] rfl rfl (Blk.news (Blk.new w1 92 #[.int .i64 i, .string s])) (by simp [Value.oneCell']) (by unfold maxLen; omega) (by omega) ?_; intro v' w2 hr2 hg2 hat; obtain ⟨A2, c2, rfl, hc2⟩ := row_slice hr2; have HAT := hide hat; clear hat; have hb2 := hide (Blk.grown (HB.out.alloc (.cells #[.int .i64 i, .string s] 92)) hg2 (fun e => HNE.out.2.1 e.symm)); have c1' := hb2.out.cell 1; have f1' := hb2.out.frozen 1; simp only [List.getElem?_toArray, List.getElem?_cons_succ, List.getElem?_cons_zero] at c1')
      have hsz2 : w1.heap.size + 1 ≤ w2.heap.size := by simpa using hg2.size
      obtain ⟨n1, n2, n3⟩ := HNE.out
      have hl2 : Row w2 9 1 lv D.lasts.length (strs D.lasts) := row_of (row_alloc hl1 _) fun g hg => hg2.block g (row_lt (row_alloc hl1 _) g hg) (fun e => row_types hl1 hw1 (by decide) g hg e.symm)
      have hm2 : MapAt w2 bm (Prs.put P i D.waits.length) := (hm1.of_block (w' := w1.alloc (.cells #[.int .i64 i, .string s] 92)) (Below.heap_alloc _ _ _ hm1.lt)).of_block (hg2.block bm (by have := hm1.lt; simp; omega) (fun e => HM.out.1 e.symm))
      have hx2 : ∀ x, Prs.look (Prs.put P i D.waits.length) x = lastIdx 0 (D.waits ++ [(i, s)]) x := fun x => by
        rw [Prs.look_put, lastIdx_snoc, h.hP]; simp
      have tu2 : Turned F w w2 := (((Turned.refl F w).drew.grown hg1 (fun k hk => .inl (by cases hk; exact h.Fm))).alloc _).grown hg2 (fun k hk => .inl (h.Fw k hk))
      have hown : ∀ g, (Value.slice A2 (D.waits.length + 1) c2).ownBlock = some g → F g ∨ (w.heap.size ≤ g ∧ g < w2.heap.size) := by
        intro g hg
        rcases HAT.out with e | e
        · rw [hg] at e; exact .inl (h.Fw g e.symm)
        · rw [hg] at e
          have : g = w1.heap.size + 1 := by simpa using e
          have := row_lt hr2 g hg
          exact .inr ⟨by omega, this⟩
      have hrep : DiskRep (w2.setCell ⟨b, 1, none⟩ (.slice A2 (D.waits.length + 1) c2)) b (fun x => F x ∨ (w.heap.size ≤ x ∧ x < w2.heap.size)) { D with waits := D.waits ++ [(i, s)] } lv (.slice A2 (D.waits.length + 1) c2) bm (Prs.put P i D.waits.length) := by
        refine ⟨by simpa using hb2.out.set_ 1 (.slice A2 (D.waits.length + 1) c2), row_set hl2 n1 _, ?_, hm2.of_block (Below.heap_setCell _ _ _ _ n3), hx2, .inl h.Fb, .inl h.Fm, fun g hg => .inl (h.Fl g hg), hown, ?_, ?_⟩
        · have e := row_set (p := ⟨b, 1, none⟩) hr2 (row_blk_ne hr2 hb2.out (by decide)) (.slice A2 (D.waits.length + 1) c2)
          rw [wcells_snoc, show (({ D with waits := D.waits ++ [(i, s)] } : DiskM).waits).length = D.waits.length + 1 by simp]
          exact e
        · rintro x (hx | hx)
          · have := h.Fx x hx
            simp only [World.setCell, Array.size_modify]; omega
          · simpa [World.setCell] using hx.2
        · refine ⟨h.ok.len, fun p hp => ?_⟩
          rcases List.mem_append.1 hp with hp | hp
          · exact h.ok.inr p hp
          · obtain rfl : p = (i, s) := by simpa using hp
            exact hi
      have HC := hide (dcut_calls hrep.at_ (by simp; omega))
      refine HC.out.mono ?_
      rintro e w3 ⟨rfl, tu3, F', hF', hd⟩
      have e : D.write i s = (({ D with waits := D.waits ++ [(i, s)] } : DiskM).cut.1, if ({ D with waits := D.waits ++ [(i, s)] } : DiskM).cut.2 then 7 else 0) := by
        unfold DiskM.write
        rw [if_neg (by simp [HWR0.out]), if_neg (by have := HS.out; omega)]
      have hF2 : ∀ x, F' x → F x ∨ w.heap.size ≤ x := by
        intro x hx
        rcases hF' x hx with (h | h) | h
        · exact .inl h
        · exact .inr h.1
        · exact .inr (by simp only [World.setCell, Array.size_modify] at h; omega)
      have tu4 : Turned F w w3 := (tu2.setCell (.inl h.Fb) _).trans tu3 (fun x hx => by rcases hx with h | h; exact .inl h; exact .inr h.1)
      cases hcc : ({ D with waits := D.waits ++ [(i, s)] } : DiskM).cut.2
      · have HCC := hide hcc; clear hcc
        have E := hide e; clear e
        go_wp2_with fail
        go_ret
        rw [E.out, HCC.out]
        exact ⟨rfl, tu4, F', hF2, hd⟩
      · have HCC := hide hcc; clear hcc
        have E := hide e; clear e
        go_wp2_with fail
        go_ret
        rw [E.out, HCC.out]
        exact ⟨rfl, tu4, F', hF2, hd⟩
    · have hs2 : ((s.size : Int) != 64) = true := by simp; omega
      have HS := hide hs; clear hs
      have HWR0 := hide hwr; clear hwr
      go_enter Try.func43, Try.ntmps43
      go_wp2_with fail
      refine HWR.out.mono ?_
      rintro e w' ⟨rfl, rfl⟩
      rw [HWR0.out]
      go_wp2_with fail
      go_ret
      rw [show D.write i s = (D, 1) by unfold DiskM.write; rw [if_neg (by simp [HWR0.out]), if_pos HS.out]]
      exact ⟨rfl, .refl _ _, F, fun x hx => .inl hx, h0⟩
  · have hs2 : (D.wrong i != 0) = true := by simp [hwr]
    have HWR0 := hide hwr; clear hwr
    go_enter Try.func43, Try.ntmps43
    go_wp2_with fail
    refine HWR.out.mono ?_
    rintro e w' ⟨rfl, rfl⟩
    go_wp2_with fail
    go_ret
    rw [show D.write i s = (D, D.wrong i) by unfold DiskM.write; rw [if_pos HWR0.out]]
    exact ⟨rfl, .refl _ _, F, fun x hx => .inl hx, h0⟩
end Go.Proofs.Ytacbnoagdlelgaa

/- The disk's operations, walked: what reads, plans and starts. -/
namespace Go.Proofs.Ytacbnoagdlelgaa
open Go.RowKit Zb

section
variable {w : World} {b : Nat} {F : Nat → Prop} {D : DiskM}

set_option maxRecDepth 20000 in
theorem dsync_calls (h : DiskAt w b F D) (hW : D.waits.length ≤ 4294967290) : Calls Try.prog 45 #[.pointer (some ⟨b, 0, none⟩)] w (DPost F w b (.int .i64 D.sync.2) D.sync.1) := by
  have HWR := hide (dwrong_calls h 0)
  have HC := hide (dcut_calls h (by omega))
  have h0 := h
  obtain ⟨lv, wv, bm, P, h⟩ := h
  by_cases hwr : D.wrong 0 = 0
  · have HWR0 := hide hwr; clear hwr
    cases hcc : D.cut.2
    · have HCC := hide hcc; clear hcc
      have e : D.sync = ({ D.cut.1 with lasts := settleTo (fun _ => true) 0 D.cut.1.waits D.cut.1.lasts, waits := [] }, 0) := by
        unfold DiskM.sync; rw [if_neg (by simp [HWR0.out]), if_neg (by simp [HCC.out])]
      have hwl : D.cut.1.waits.length ≤ 4294967296 := by
        unfold DiskM.cut
        split
        · simp; omega
        · split
          · simp; omega
          · simp only [DiskM.fail]; split <;> simp; omega
      have E := hide e; clear e
      go_enter Try.func45, Try.ntmps45
      go_wp2_with fail
      refine HWR.out.mono ?_
      rintro e w' ⟨rfl, rfl⟩
      rw [HWR0.out]
      go_wp2_with fail
      refine HC.out.mono ?_
      rintro e w1 ⟨rfl, tu1, F1, hF1, hd1⟩
      rw [HCC.out]
      obtain ⟨lv1, wv1, bm1, P1, h1⟩ := hd1
      have HS := hide (dsettle_calls F1 b bm1 lv1 wv1 57 #[] (fun _ => true) D.cut.1.lasts D.cut.1.waits P1 _ _ _ _ _ w1 h1.hb h1.hl h1.hw h1.hm h1.ok.inr h1.ok.len.2 ⟨h1.Fb, h1.Fm, h1.Fl⟩ hwl (fun x w1 => by kernel_rfl) (fun k w1 _ _ => dSync1_calls k w1))
      go_wp2_with fail
      refine HS.out.mono ?_
      rintro e w2 ⟨rfl, tu2, hb2, hl2, Pk, hPk, hx⟩
      have HX := hide hx; clear hx
      go_wp2_with fail
      go_ret
      rw [E.out]
      have hfw : ∀ x, F1 x → F x ∨ w.heap.size ≤ x := hF1
      refine ⟨rfl, tu1.trans tu2 hfw, F1, hfw, lv1, .slice none 0 0, bm1, Pk, hb2, ?_, row_nil _ _ _, hPk, ?_, h1.Fb, h1.Fm, h1.Fl, fun g hg => by simp [Value.ownBlock] at hg, fun x hx => Nat.lt_of_lt_of_le (h1.Fx x hx) tu2.size, ?_⟩
      · simp only [settleTo_length]
        exact hl2
      · intro x
        rw [HX.out, h1.hP]
        simp only [lastIdx]
        split
        · rfl
        · rename_i hnot
          cases hli : lastIdx 0 D.cut.1.waits x with
          | none => rfl
          | some j =>
            obtain ⟨i, _, _, s, hs⟩ := lastIdx_some 0 _ x j hli
            exact absurd (List.mem_map.2 ⟨_, List.mem_of_getElem? hs, rfl⟩) hnot
      · exact ⟨by simp only [settleTo_length]; exact h1.ok.len, by simp⟩
    · have HCC := hide hcc; clear hcc
      have e : D.sync = (D.cut.1, 7) := by
        unfold DiskM.sync; rw [if_neg (by simp [HWR0.out]), if_pos (by simp [HCC.out])]
      have E := hide e; clear e
      go_enter Try.func45, Try.ntmps45
      go_wp2_with fail
      refine HWR.out.mono ?_
      rintro e w' ⟨rfl, rfl⟩
      rw [HWR0.out]
      go_wp2_with fail
      refine HC.out.mono ?_
      rintro e w1 ⟨rfl, tu1, F1, hF1, hd1⟩
      rw [HCC.out]
      go_wp2_with fail
      go_ret
      rw [E.out]
      exact ⟨rfl, tu1, F1, hF1, hd1⟩
  · have hs2 : (D.wrong 0 != 0) = true := by simp [hwr]
    have HWR0 := hide hwr; clear hwr
    go_enter Try.func45, Try.ntmps45
    go_wp2_with fail
    refine HWR.out.mono ?_
    rintro e w' ⟨rfl, rfl⟩
    go_wp2_with fail
    go_ret
    rw [show D.sync = (D, D.wrong 0) by unfold DiskM.sync; rw [if_pos HWR0.out]]
    exact ⟨rfl, .refl _ _, F, fun x hx => .inl hx, h0⟩

set_option maxRecDepth 20000 in
theorem dq_look (w : World) (bm : Nat) (P : Prs) (h : MapAt w bm P) (x : Int) : (Instr.lookup 52 (.map (some bm)) (.int .i64 x) true).run Try.prog w = .ok (.tuple #[.int .i64 ((Prs.look P x).getD 0), .bool (Prs.look P x).isSome]) w :=
  h.lookup Try.underlying52 Try.underlying3 (fun w => by kernel_rfl) x

set_option maxRecDepth 20000 in
theorem dread_calls (h : DiskAt w b F D) (hW : D.waits.length ≤ 4294967290) (i : Int) : Calls Try.prog 47 #[.pointer (some ⟨b, 0, none⟩), .int .i64 i] w fun e w' => e = .returned (.tuple #[.string (D.read i).1, .int .i64 (D.read i).2]) ∧ w = w' := by
  have HWR := hide (dwrong_calls h i)
  obtain ⟨lv, wv, bm, P, h⟩ := h
  by_cases hwr : D.wrong i = 0
  · have hi : 0 ≤ i ∧ i < D.lasts.length := by
      unfold DiskM.wrong at hwr
      split at hwr
      · omega
      · split at hwr
        · omega
        · omega
    have E := hide (show D.read i = (seen i D.waits (D.lasts.getD i.toNat ⟨#[]⟩), 0) by unfold DiskM.read; rw [if_pos hwr])
    have HWR0 := hide hwr; clear hwr
    have hq := dq_look w bm P h.hm i
    have hs := lastIdx_seen 0 D.waits i (D.lasts.getD i.toNat ⟨#[]⟩)
    have hstr := strs_get D.lasts i.toNat (by omega)
    generalize hL : D.lasts.getD i.toNat ⟨#[]⟩ = s0 at *
    generalize hS : seen i D.waits s0 = s1 at *
    clear hL
    have c0 : w.cell? ⟨b, 0, none⟩ = some lv := h.hb.cell 0
    have c1 : w.cell? ⟨b, 1, none⟩ = some wv := h.hb.cell 1
    have c2 : w.cell? ⟨b, 2, none⟩ = some (.map (some bm)) := h.hb.cell 2
    rw [h.hP] at hq
    cases hli : lastIdx 0 D.waits i with
    | some j =>
      rw [hli] at hq hs
      obtain ⟨k, rfl, hk⟩ := hs
      have hkl : k < D.waits.length := by
        rcases Nat.lt_or_ge k D.waits.length with h | h
        · exact h
        · rw [List.getElem?_eq_none h] at hk; cases hk
      obtain ⟨g, c, hwv, hc, hg, _, hcells⟩ := row_form h.hw (by omega)
      subst hwv
      have hd := (hcells (k * 2 + 1) (by omega)).trans (wcells_get _ k _ hk).2
      have HK := hide hk; clear hk hcells hli hS hstr
      simp only [Option.getD_some, Option.isSome_some, Int.natCast_zero, Int.zero_add] at hq
      go_enter Try.func47, Try.ntmps47
      go_wp2_with fail
      refine HWR.out.mono ?_
      rintro e w' ⟨rfl, rfl⟩
      rw [HWR0.out]
      go_wp2_with fail
      go_ret2
      rw [E.out]
      exact ⟨rfl, rfl⟩
    | none =>
      rw [hli] at hq hs
      obtain ⟨g, c, hlv, hc, hg, _, hcells⟩ := row_form h.hl (by omega)
      subst hlv
      have hd := (hcells i.toNat (by omega)).trans hstr
      have HS := hide hs; clear hs hcells hli hS hstr
      simp only [Option.getD_none, Option.isSome_none] at hq
      go_enter Try.func47, Try.ntmps47
      go_wp2_with fail
      refine HWR.out.mono ?_
      rintro e w' ⟨rfl, rfl⟩
      rw [HWR0.out]
      go_wp2_with fail
      go_ret2
      rw [E.out, HS.out]
      exact ⟨rfl, rfl⟩
  · have hs2 : (D.wrong i != 0) = true := by simp [hwr]
    have E := hide (show D.read i = (⟨#[]⟩, D.wrong i) by unfold DiskM.read; rw [if_neg hwr])
    clear hwr
    go_enter Try.func47, Try.ntmps47
    go_wp2_with fail
    refine HWR.out.mono ?_
    rintro e w' ⟨rfl, rfl⟩
    go_wp2_with fail
    go_ret2
    rw [E.out]
    exact ⟨rfl, rfl⟩

set_option maxRecDepth 20000 in
theorem dplan_calls (h : DiskAt w b F D) (k m : Int) : Calls Try.prog 15 #[.pointer (some ⟨b, 0, none⟩), .int .i64 k, .int .u64 m] w (DPost F w b (.int .i64 (D.plan k m).2) (D.plan k m).1) := by
  have h0 := h
  obtain ⟨lv, wv, bm, P, h⟩ := h
  have c2 : w.cell? ⟨b, 2, none⟩ = some (.map (some bm)) := h.hb.cell 2
  have c5 : w.cell? ⟨b, 5, none⟩ = some (.bool D.pon) := h.hb.cell 5
  have c6 : w.cell? ⟨b, 6, none⟩ = some (.int .i64 D.after) := h.hb.cell 6
  have c7 : w.cell? ⟨b, 7, none⟩ = some (.int .u64 D.mask) := h.hb.cell 7
  have f5 := h.hb.frozen 5
  have f6 := h.hb.frozen 6
  have f7 := h.hb.frozen 7
  by_cases hk : k < 0
  · go_enter Try.func15, Try.ntmps15
    go_wp2_with (go_at_call 31; refine (dthere_calls _ _ _ c2).mono ?_; rintro e w' ⟨rfl, rfl⟩)
    go_ret
    rw [show D.plan k m = (D, 1) by unfold DiskM.plan; rw [if_pos hk]]
    exact ⟨rfl, .refl _ _, F, fun x hx => .inl hx, h0⟩
  · go_enter Try.func15, Try.ntmps15
    go_wp2_with (go_at_call 31; refine (dthere_calls _ _ _ c2).mono ?_; rintro e w' ⟨rfl, rfl⟩)
    go_ret
    rw [show D.plan k m = ({ D with pon := true, after := k, mask := m }, 0) by unfold DiskM.plan; rw [if_neg (by omega)]]
    have h1 := h.put (D' := { D with pon := true }) (i := 5) (u := .bool true) rfl rfl rfl
    have h2 := h1.put (D' := { D with pon := true, after := k }) (i := 6) (u := .int .i64 k) rfl rfl rfl
    have h3 := h2.put (D' := { D with pon := true, after := k, mask := m }) (i := 7) (u := .int .u64 m) rfl rfl rfl
    exact ⟨rfl, (((Turned.refl F w).setCell (.inl h.Fb) _).setCell (.inl h.Fb) _).setCell (.inl h.Fb) _, F, fun x hx => .inl hx, h3.at_⟩

set_option maxRecDepth 20000 in
theorem dstart_calls (h : DiskAt w b F D) : Calls Try.prog 18 #[.pointer (some ⟨b, 0, none⟩)] w (DPost F w b (.tuple #[]) D.start) := by
  obtain ⟨lv, wv, bm, P, h⟩ := h
  have c2 : w.cell? ⟨b, 2, none⟩ = some (.map (some bm)) := h.hb.cell 2
  have c3 : w.cell? ⟨b, 3, none⟩ = some (.bool D.off) := h.hb.cell 3
  have f3 := h.hb.frozen 3
  go_enter Try.func18, Try.ntmps18
  go_wp2_with (go_at_call 31; refine (dthere_calls _ _ _ c2).mono ?_; rintro e w' ⟨rfl, rfl⟩)
  go_end0
  have h1 := h.put (D' := { D with off := false }) (i := 3) (u := .bool false) rfl rfl rfl
  exact ⟨rfl, (Turned.refl F w).setCell (.inl h.Fb) _, F, fun x hx => .inl hx, h1.at_⟩

set_option maxRecDepth 20000 in
theorem dblocks_calls (h : DiskAt w b F D) : Calls Try.prog 34 #[.pointer (some ⟨b, 0, none⟩)] w fun e w' => e = .returned (.int .i64 D.lasts.length) ∧ w = w' := by
  obtain ⟨lv, wv, bm, P, h⟩ := h
  obtain ⟨A, c, rfl, hc⟩ := row_slice h.hl
  have c2 : w.cell? ⟨b, 2, none⟩ = some (.map (some bm)) := h.hb.cell 2
  have c0 : w.cell? ⟨b, 0, none⟩ = some (.slice A D.lasts.length c) := h.hb.cell 0
  go_enter Try.func34, Try.ntmps34
  go_wp2_with (go_at_call 31; refine (dthere_calls _ _ _ c2).mono ?_; rintro e w' ⟨rfl, rfl⟩)
  go_ret
  exact ⟨rfl, rfl⟩
end
end Go.Proofs.Ytacbnoagdlelgaa

/- New and Copy of the disk, walked. -/
namespace Go.Proofs.Ytacbnoagdlelgaa
open Go.RowKit Zb

set_option maxRecDepth 20000 in
theorem info_string : (Try.prog.info? 9).map (fun i => (i.zero, i.size, i.bytes)) = some (some (.string ⟨#[]⟩), 1, 16) := by kernel_rfl
set_option maxRecDepth 20000 in
theorem info_u8 : (Try.prog.info? 5).map (fun i => (i.zero, i.size, i.bytes)) = some (some (.int .u8 0), 1, 1) := by kernel_rfl

set_option maxRecDepth 20000 in
theorem replicate_step (n k : Nat) (hk : k < n) (z e : ByteArray) : (List.replicate k z ++ List.replicate (n - k) e).set k z = List.replicate (k + 1) z ++ List.replicate (n - (k + 1)) e := by
  rw [show n - k = (n - (k + 1)) + 1 by omega, List.replicate_succ, List.set_append_right _ _ (by simp)]
  simp [List.replicate_succ']

structure NewInv (w : World) (s0 sm b n : Nat) (k : Nat) (wr : World) : Prop where
  bel : Below w.heap.size w wr
  hb : Blk wr b 57 #[.slice (some ⟨s0, 0, none⟩) n n, .slice none 0 0, .map (some sm), .bool false, .int .i64 0, .bool false, .int .i64 0, .int .u64 0]
  hl : Row wr 9 1 (.slice (some ⟨s0, 0, none⟩) n n) n (strs (List.replicate k (zeros 64) ++ List.replicate (n - k) ⟨#[]⟩))
  hm : MapAt wr sm []

set_option maxRecDepth 20000 in
theorem dnew_bad (n : Int) (hn : n < 16 ∨ 512 < n) (w : World) : Calls Try.prog 7 #[.int .i64 n] w fun e w' => e = .returned (.tuple #[.pointer none, .int .i64 1]) ∧ w = w' := by
  rcases hn with h | h
  · go_enter Try.func7, Try.ntmps7
    go_wp2
    go_ret2
    exact ⟨rfl, rfl⟩
  · have h' : ¬ n < 16 := by omega
    go_enter Try.func7, Try.ntmps7
    go_wp2
    go_ret2
    exact ⟨rfl, rfl⟩

def NewPost (n : Nat) (w : World) (e : Ending) (w' : World) : Prop :=
  ∃ b F, e = .returned (.tuple #[.pointer (some ⟨b, 0, none⟩), .int .i64 0]) ∧ Below w.heap.size w w' ∧ (∀ x, F x → w.heap.size ≤ x) ∧ DiskAt w' b F (DiskM.new n)

set_option maxHeartbeats 1000000 in
set_option maxRecDepth 20000 in
theorem dnew_calls (n : Nat) (h0 : 16 ≤ n) (h1 : n ≤ 512) (w : World) : Calls Try.prog 7 #[.int .i64 n] w (NewPost n w) := by
  have hmk := fun W => make_row (P := Try.prog) 51 9 _ 16 Try.underlying51 info_string rfl .i64 .i64 n (by omega) (by omega) W
  have hmk2 : ∀ W : World, (Instr.makeSlice 32 (.int .i64 64) (.int .i64 64)).run Try.prog W = .ok (.slice (some ⟨W.heap.size, 0, none⟩) 64 64) (W.alloc (.cells (madeCells #[.int .u8 0] 64) 5)) := fun W => make_row (P := Try.prog) 32 5 _ 1 Try.underlying32 info_u8 rfl .i64 .i64 64 (by omega) (by omega) W
  have hcv : ∀ W : World, (convert 32 9 (.slice (some ⟨W.heap.size, 0, none⟩) 64 64)).run Try.prog (W.alloc (.cells (madeCells #[.int .u8 0] 64) 5)).drew = .ok (.string (zeros 64)) (W.alloc (.cells (madeCells #[.int .u8 0] 64) 5)).drew := fun W => by
    have hr := row_made W 5 (.int .u8 0) 64 (by unfold maxLen; omega)
    refine conv_bytes _ 32 9 5 _ 64 (List.replicate 64 0) Try.underlying32 Try.underlying5 Try.underlying9 ?_
    intro j hj
    rw [add_plain]
    refine (World.ownsRow.cellAt hr j (by simpa using hj)).trans ?_
    simp [bytesVals]
  have hmm := @run_makeMap Try.prog
  have hn0 : ¬ (n : Int) < 16 := by omega
  have hn1 : ¬ (n : Int) > 512 := by omega
  have Hs : NewInv w w.heap.size (w.heap.size + 1) (w.heap.size + 1 + 1) n 0 (((w.alloc (.cells (madeCells #[.string ⟨#[]⟩] n) 9)).alloc (.map #[] 0)).alloc (.cells #[.slice (some ⟨w.heap.size, 0, none⟩) n n, .slice none 0 0, .map (some (w.heap.size + 1)), .bool false, .int .i64 0, .bool false, .int .i64 0, .int .u64 0] 57)) := by
    refine ⟨(((Below.refl _ _).alloc (Nat.le_refl _) _).alloc (by simp) _).alloc (by simp; omega) _, ?_, ?_, ?_⟩
    · have := Blk.new ((w.alloc (.cells (madeCells #[.string ⟨#[]⟩] n) 9)).alloc (.map #[] 0)) 57 #[.slice (some ⟨w.heap.size, 0, none⟩) n n, .slice none 0 0, .map (some (w.heap.size + 1)), .bool false, .int .i64 0, .bool false, .int .i64 0, .int .u64 0]
      simpa using this
    · have := row_alloc (row_alloc (row_made w 9 (.string ⟨#[]⟩) n (by unfold maxLen; omega)) (.map #[] 0)) (.cells #[.slice (some ⟨w.heap.size, 0, none⟩) n n, .slice none 0 0, .map (some (w.heap.size + 1)), .bool false, .int .i64 0, .bool false, .int .i64 0, .int .u64 0] 57)
      simpa [strs] using this
    · have := MapAt.new (w.alloc (.cells (madeCells #[.string ⟨#[]⟩] n) 9))
      have h2 := this.of_block (Below.heap_alloc _ (.cells #[.slice (some ⟨w.heap.size, 0, none⟩) n n, .slice none 0 0, .map (some (w.heap.size + 1)), .bool false, .int .i64 0, .bool false, .int .i64 0, .int .u64 0] 57) _ this.lt)
      simpa using h2
  have HS := hide Hs; clear Hs
  have hq0 : w.heap.size + 1 + 1 ≠ w.heap.size := by omega
  go_enter Try.func7, Try.ntmps7
  go_wp2_with fail
  go_loopw [22] (fun i wr => ∃ k : Nat, k ≤ n ∧ i = .int .i64 k ∧ NewInv w w.heap.size (w.heap.size + 1) (w.heap.size + 1 + 1) n k wr) (fun i _ => n - (intOf i).toNat)
  case atStart => exact ⟨0, Nat.zero_le _, rfl, HS.out⟩
  case round =>
    obtain ⟨k, hk, rfl, hinv⟩ := hrel
    generalize hs0 : w.heap.size = q at *
    by_cases hlt : k < n
    · have c0 : wr.cell? ⟨q + 1 + 1, 0, none⟩ = some (.slice (some ⟨q, 0, none⟩) n n) := hinv.hb.cell 0
      have hlq := row_lt hinv.hl q rfl
      have hbq := hinv.hb.lt
      have hll : k < (List.replicate k (zeros 64) ++ List.replicate (n - k) (⟨#[]⟩ : ByteArray)).length := by simp; omega
      have ck : wr.cell? ⟨q, k, none⟩ = some (.string ((List.replicate k (zeros 64) ++ List.replicate (n - k) (⟨#[]⟩ : ByteArray)).getD k ⟨#[]⟩)) := (World.ownsRow.cellAt hinv.hl k (by omega)).trans (strs_get _ k hll)
      clear hll
      have fk := World.ownsRow.frozenAt hinv.hl k
      generalize (List.replicate k (zeros 64) ++ List.replicate (n - k) (⟨#[]⟩ : ByteArray)).getD k ⟨#[]⟩ = sk at ck
      have hne : q ≠ q + 1 + 1 := by omega
      go_wp2_with fail
      go_region_held (fun w' => w'.cell? ⟨q + 1 + 1, 0, none⟩ = some (.slice (some ⟨q, 0, none⟩) n n)) (go_keep) (fail)
      have hs : NewInv w q (q + 1) (q + 1 + 1) n (k + 1) (((wr.setCell ⟨q, k, none⟩ (.string (zeros 64))).alloc (.cells (madeCells #[.int .u8 0] 64) 5)).drew) := by
        have hsz : w.heap.size ≤ wr.heap.size := hinv.bel.size
        refine ⟨((hinv.bel.setCell (p := ⟨q, k, none⟩) (by rw [hs0]; exact Nat.le_refl _) _).alloc (by simpa [World.setCell] using hsz) _).drew, ?_, ?_, ?_⟩
        · exact (hinv.hb.far (p := ⟨q, k, none⟩) (Ne.symm hne) _).alloc _
        · rw [← replicate_step n k hlt, strs_set]
          exact row_alloc (World.ownsRow.stored hinv.hl k (.string (zeros 64))).1 _
        · have hm := hinv.hm.of_block (w' := wr.setCell ⟨q, k, none⟩ (.string (zeros 64))) (Below.heap_setCell _ _ _ _ (show q + 1 ≠ q by omega))
          exact hm.of_block (Below.heap_alloc _ _ _ hm.lt)
      have HS2 := hide hs; clear hs
      go_wp2_with fail
      go_roundw
      case rel => exact ⟨k + 1, by omega, by go_num, HS2.out⟩
      case measure => simp [intOf]; omega
    · obtain rfl : k = n := by omega
      have HI := hide hinv; clear hinv
      go_wp2_with fail
      go_ret2
      have hinv := HI.out
      have e : strs (List.replicate k (zeros 64) ++ List.replicate (k - k) ⟨#[]⟩) = strs (DiskM.new k).lasts := by simp [DiskM.new]
      have hl := hinv.hl
      rw [e] at hl
      have hlq := row_lt hinv.hl q rfl
      refine ⟨q + 1 + 1, fun x => x = q ∨ x = q + 1 ∨ x = q + 1 + 1, rfl, hinv.bel, ?_, _, _, q + 1, [], hinv.hb, ?_, row_nil _ _ _, hinv.hm, fun x => rfl, by simp, by simp, ?_, ?_, ?_, ?_⟩
      · rintro x (rfl | rfl | rfl) <;> omega
      · simpa [DiskM.new] using hl
      · intro g hg
        have : g = q := by simpa [Value.ownBlock] using hg.symm
        exact .inl this
      · intro g hg
        simp [Value.ownBlock] at hg
      · have := hinv.hb.lt
        rintro x (rfl | rfl | rfl) <;> omega
      · exact ⟨by simp [DiskM.new]; omega, by simp [DiskM.new]⟩
end Go.Proofs.Ytacbnoagdlelgaa
