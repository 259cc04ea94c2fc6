/- The disk as it lies in memory, and its failures: Fail and cut do what the model's fail and cut do. -/
import Derived.Test.YtpcceinjifdgnaaDiskA
namespace Go.Proofs.Ytpcceinjifdgnaa
open Go.RowKit Zb

/-- The disk D lies at block b; all its blocks are among F. -/
structure DiskRep (w : World) (b : Nat) (F : Nat → Prop) (D : DiskM) (lv wv : Value) (bm : Nat) (P : Prs) : Prop where
  hb : Blk w b 68 #[lv, wv, .map (some bm), .bool D.off, .int .i64 D.ops, .bool D.pon, .int .i64 D.after, .int .u64 D.mask]
  hl : Row w 9 1 lv D.lasts.length (strs D.lasts)
  hw : Row w 72 2 wv D.waits.length (wcells D.waits)
  hm : MapAt w bm P
  hP : ∀ x, Prs.look P x = lastIdx 0 D.waits x
  Fb : F b
  Fm : F bm
  Fl : ∀ g, lv.ownBlock = some g → F g
  Fw : ∀ g, wv.ownBlock = some g → F g
  Fx : ∀ x, F x → x < w.heap.size
  ok : D.Ok
def DiskAt (w : World) (b : Nat) (F : Nat → Prop) (D : DiskM) : Prop := ∃ lv wv bm P, DiskRep w b F D lv wv bm P

theorem DiskRep.moved {w w1 : World} {b : Nat} {F : Nat → Prop} {D : DiskM} {lv wv : Value} {bm : Nat} {P : Prs} (h : DiskRep w b F D lv wv bm P) (hs : w.heap.size ≤ w1.heap.size) (hk : ∀ x, F x → w1.heap[x]? = w.heap[x]?) : DiskRep w1 b F D lv wv bm P :=
  ⟨(hk _ h.Fb).trans h.hb, row_of h.hl fun g hg => hk g (h.Fl g hg), row_of h.hw fun g hg => hk g (h.Fw g hg), h.hm.of_block (hk _ h.Fm), h.hP, h.Fb, h.Fm, h.Fl, h.Fw, fun x hx => Nat.lt_of_lt_of_le (h.Fx x hx) hs, h.ok⟩
theorem DiskAt.moved {w w1 : World} {b : Nat} {F : Nat → Prop} {D : DiskM} (h : DiskAt w b F D) (hs : w.heap.size ≤ w1.heap.size) (hk : ∀ x, F x → w1.heap[x]? = w.heap[x]?) : DiskAt w1 b F D := by
  obtain ⟨lv, wv, bm, P, h⟩ := h
  exact ⟨lv, wv, bm, P, h.moved hs hk⟩
theorem DiskAt.alloc {w : World} {b : Nat} {F : Nat → Prop} {D : DiskM} (h : DiskAt w b F D) (o : Obj) : DiskAt (w.alloc o) b F D :=
  h.moved (by simp) fun x hx => Below.heap_alloc _ _ _ (by obtain ⟨_, _, _, _, h⟩ := h; exact h.Fx x hx)
theorem DiskAt.turned {w w1 : World} {b : Nat} {F G : Nat → Prop} {D : DiskM} (h : DiskAt w b F D) (k : Turned G w w1) (hG : ∀ x, F x → ¬ G x) : DiskAt w1 b F D :=
  h.moved k.size fun x hx => k.block x (by obtain ⟨_, _, _, _, h⟩ := h; exact h.Fx x hx) (hG x hx)
theorem DiskAt.below {w w1 : World} {b : Nat} {F : Nat → Prop} {D : DiskM} (h : DiskAt w b F D) (k : Below w.heap.size w w1) : DiskAt w1 b F D :=
  h.turned (Turned.of_below (F := fun _ => False) k) fun _ _ h => h
theorem DiskAt.lt {w : World} {b : Nat} {F : Nat → Prop} {D : DiskM} (h : DiskAt w b F D) (x : Nat) (hx : F x) : x < w.heap.size := by
  obtain ⟨_, _, _, _, h⟩ := h; exact h.Fx x hx
theorem DiskAt.ok {w : World} {b : Nat} {F : Nat → Prop} {D : DiskM} (h : DiskAt w b F D) : D.Ok := by
  obtain ⟨_, _, _, _, h⟩ := h; exact h.ok

/-- What an operation of the disk leaves. -/
def DPost (F : Nat → Prop) (w : World) (b : Nat) (v : Value) (D' : DiskM) (e : Ending) (w' : World) : Prop :=
  e = .returned v ∧ Turned F w w' ∧ ∃ F', (∀ x, F' x → F x ∨ w.heap.size ≤ x) ∧ DiskAt w' b F' D'

theorem dthere_calls (b bm : Nat) (w : World) (h : w.cell? ⟨b, 2, none⟩ = some (.map (some bm))) : Calls Try.prog 32 #[.pointer (some ⟨b, 0, none⟩)] w fun e w' => e = .returned (.bool true) ∧ w = w' := by
  have hq := dq_map
  go_enter Try.func32, Try.ntmps32
  go_wp2
  go_ret
  exact ⟨rfl, rfl⟩

theorem dthere_nil (w : World) : Calls Try.prog 32 #[.pointer none] w fun e w' => e = .returned (.bool false) ∧ w = w' := by
  go_enter Try.func32, Try.ntmps32
  go_wp2
  go_ret
  exact ⟨rfl, rfl⟩

theorem dthere_zero (b : Nat) (w : World) (h : w.cell? ⟨b, 2, none⟩ = some (.map none)) : Calls Try.prog 32 #[.pointer (some ⟨b, 0, none⟩)] w fun e w' => e = .returned (.bool false) ∧ w = w' := by
  have hq := dq_map
  go_enter Try.func32, Try.ntmps32
  go_wp2
  go_ret
  exact ⟨rfl, rfl⟩

def wrongM (off : Bool) (n i : Int) : Int := if off then 7 else if i < 0 ∨ n ≤ i then 1 else 0
theorem dwrong_core (b m : Nat) (w : World) (i : Int) (a : Option Addr) (n c : Nat) (off : Bool)
    (h0 : w.cell? ⟨b, 0, none⟩ = some (.slice a n c)) (h2 : w.cell? ⟨b, 2, none⟩ = some (.map (some m))) (h3 : w.cell? ⟨b, 3, none⟩ = some (.bool off)) :
    Calls Try.prog 30 #[.pointer (some ⟨b, 0, none⟩), .int .i64 i] w fun e w' => e = .returned (.int .i64 (wrongM off n i)) ∧ w = w' := by
  cases off
  · by_cases hi : i < 0
    · go_enter Try.func30, Try.ntmps30
      go_wp2_with (go_at_call 32; refine (dthere_calls _ _ _ h2).mono ?_; rintro e w' ⟨rfl, rfl⟩)
      go_ret
      simp [wrongM, hi]
    · by_cases hn : i < n
      · go_enter Try.func30, Try.ntmps30
        go_wp2_with (go_at_call 32; refine (dthere_calls _ _ _ h2).mono ?_; rintro e w' ⟨rfl, rfl⟩)
        go_ret
        have : ¬ (i < 0 ∨ (n:Int) ≤ i) := by omega
        simp [wrongM, this]
      · go_enter Try.func30, Try.ntmps30
        go_wp2_with (go_at_call 32; refine (dthere_calls _ _ _ h2).mono ?_; rintro e w' ⟨rfl, rfl⟩)
        go_ret
        have : (i < 0 ∨ (n:Int) ≤ i) := by omega
        simp [wrongM, this]
  · go_enter Try.func30, Try.ntmps30
    go_wp2_with (go_at_call 32; refine (dthere_calls _ _ _ h2).mono ?_; rintro e w' ⟨rfl, rfl⟩)
    go_ret
    simp [wrongM]
theorem dwrong_calls {w : World} {b : Nat} {F : Nat → Prop} {D : DiskM} (h : DiskAt w b F D) (i : Int) : Calls Try.prog 30 #[.pointer (some ⟨b, 0, none⟩), .int .i64 i] w fun e w' => e = .returned (.int .i64 (D.wrong i)) ∧ w = w' := by
  obtain ⟨lv, wv, bm, P, h⟩ := h
  obtain ⟨A, c, rfl, hc⟩ := row_slice h.hl
  exact dwrong_core b bm w i A D.lasts.length c D.off (h.hb.cell 0) (h.hb.cell 2) (h.hb.cell 3)

theorem dfail_calls {w : World} {b : Nat} {F : Nat → Prop} {D : DiskM} (h : DiskAt w b F D) (m : Int) (hW : D.waits.length ≤ 4294967296) :
    Calls Try.prog 17 #[.pointer (some ⟨b, 0, none⟩), .int .u64 m] w (DPost F w b (.tuple #[]) (D.fail m)) := by
  have hA := h.alloc (.cells #[.int .u64 m] 39)
  obtain ⟨lv, wv, bm, P, h⟩ := h
  have hb1 : (w.alloc (.cells #[.int .u64 m] 39)).cell? ⟨b, 2, none⟩ = some (.map (some bm)) := (h.hb.alloc _).cell 2
  have hb2 : (w.alloc (.cells #[.int .u64 m] 39)).cell? ⟨b, 3, none⟩ = some (.bool D.off) := (h.hb.alloc _).cell 3
  cases hoff : D.off
  · have HO := hide hoff; clear hoff
    rw [HO.out] at hb2
    have h1 := DiskRep.moved h (w1 := w.alloc (.cells #[.int .u64 m] 39)) (by simp) (fun x hx => Below.heap_alloc _ _ _ (h.Fx x hx))
    have hq : ¬ F w.heap.size := fun hx => by have := h.Fx _ hx; omega
    have hn := Blk.new w 39 #[.int .u64 m]
    have HS := hide (fun hc => dsettle_calls F b bm lv wv 34 #[.pointer (some ⟨w.heap.size, 0, none⟩)] (maskBit m) D.lasts D.waits P D.off D.pon D.ops D.after D.mask (w.alloc (.cells #[.int .u64 m] 39)) h1.hb h1.hl h1.hw h1.hm h1.ok.inr h1.ok.len.2 ⟨h1.Fb, h1.Fm, h1.Fl⟩ hW (fun x w1 => by kernel_rfl) hc)
    go_enter Try.func17, Try.ntmps17
    go_wp2_with (go_at_call 32; refine (dthere_calls _ _ _ hb1).mono ?_; rintro e w' ⟨rfl, rfl⟩)
    refine (HS.out ?_).mono ?_
    · intro k w1 hk ht
      refine dFail1_calls k (by omega) m _ w1 ?_
      exact (hn.turned ht hq).cell 0
    rintro e w1 ⟨rfl, tu, hb3, hl3, Pk, hPk, hx⟩
    have HX := hide hx; clear hx
    have c3 := hb3.cell 3
    have f3 := hb3.frozen 3
    simp only [List.getElem?_toArray, List.getElem?_cons_succ, List.getElem?_cons_zero] at c3
    go_wp2_with fail
    go_end0
    have hlb : lv.ownBlock ≠ some b := row_blk_ne hl3 hb3 (by decide)
    have hmb : bm ≠ b := by
      intro e
      subst e
      obtain ⟨es, cl, hh, _⟩ := hPk
      unfold Blk at hb3
      rw [hb3] at hh
      cases hh
    have hsz : w.heap.size ≤ w1.heap.size := Nat.le_trans (by simp) tu.size
    refine ⟨rfl, ((Turned.refl F w).alloc _).trans (tu.setCell (.inl h.Fb) _) (fun x hx => .inl hx), F, fun x hx => .inl hx, lv, .slice none 0 0, bm, Pk, ?_⟩
    have e : D.fail m = { D with lasts := settleTo (maskBit m) 0 D.waits D.lasts, waits := [], off := true } := by simp [DiskM.fail, HO.out]
    rw [e]
    refine ⟨by simpa using hb3.set_ 3 (.bool true), ?_, row_nil _ _ _, hPk.of_block (Below.heap_setCell _ _ _ _ hmb), ?_, h.Fb, h.Fm, h.Fl, fun g hg => by simp [Value.ownBlock] at hg, fun x hx => ?_, ?_⟩
    · simp only [settleTo_length]
      exact row_set hl3 hlb _
    · intro x
      rw [HX.out, h.hP]
      simp only [lastIdx]
      split
      · rfl
      · rename_i hnot
        cases hli : lastIdx 0 D.waits x with
        | none => rfl
        | some j =>
          obtain ⟨i, _, _, s, hs⟩ := lastIdx_some 0 _ x j hli
          exact absurd (List.mem_map.2 ⟨_, List.mem_of_getElem? hs, rfl⟩) hnot
    · have := h.Fx x hx
      simp only [World.setCell, Array.size_modify]
      omega
    · exact ⟨by simp only [settleTo_length]; exact h.ok.len, by simp⟩
  · have HO := hide hoff; clear hoff
    rw [HO.out] at hb2
    go_enter Try.func17, Try.ntmps17
    go_wp2_with (go_at_call 32; refine (dthere_calls _ _ _ hb1).mono ?_; rintro e w' ⟨rfl, rfl⟩)
    refine bodyPost_ret (results_none rfl _ _ _) rfl ?_
    refine ⟨rfl, (Turned.refl F w).alloc _, F, fun x hx => .inl hx, ?_⟩
    rw [show D.fail m = D by simp [DiskM.fail, HO.out]]
    exact hA
end Go.Proofs.Ytpcceinjifdgnaa
