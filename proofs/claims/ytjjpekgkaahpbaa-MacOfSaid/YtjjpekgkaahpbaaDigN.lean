/- Chapter 2: New, Copy, Len, Sum, Of, walked. -/
import Derived.Test.YtjjpekgkaahpbaaDigL
namespace Go.Proofs.Ytjjpekgkaahpbaa
open Go.RowKit Zb

/-- Block b is a Hash of the text s. -/
def HashOf (w : World) (b : Nat) (s : List UInt8) : Prop := ∃ rs, HashIn w b (eatA firstW s).1 (eatA firstW s).2 (s.length : Nat) rs
theorem firstW_length : firstW.length = 8 := rfl
section
variable {w w' : World} {b : Nat} {s : List UInt8}
theorem HashOf.below (h : HashOf w b s) (k : Below w.heap.size w w') : HashOf w' b s := by
  obtain ⟨rs, h⟩ := h
  exact ⟨rs, h.below k⟩
theorem HashOf.lt (h : HashOf w b s) : b < w.heap.size := by
  obtain ⟨rs, h⟩ := h
  exact h.hb.lt
/-- the rest's block is no Hash -/
theorem HashOf.turned {F : Nat → Prop} (h : HashOf w b s) (k : Turned F w w') (hF : ¬ F b) (hG : ∀ x, F x → ∃ t cs, Blk w x t cs ∧ t ≠ 5) : HashOf w' b s := by
  obtain ⟨rs, h⟩ := h
  refine ⟨rs, h.turned k hF fun g hg hx => ?_⟩
  obtain ⟨t, cs, hb, ht⟩ := hG g hx
  exact h.hs.ne hb (Ne.symm ht) hg
end
def NewPost (w : World) (e : Ending) (w' : World) : Prop := ∃ b, e = .returned (.pointer (some ⟨b, 0, none⟩)) ∧ w.heap.size ≤ b ∧ HashOf w' b [] ∧ Below w.heap.size w w'
theorem gNew_calls (w : World) : Calls Try.prog 19 #[] w (NewPost w) := by
  go_enter Try.func19, Try.ntmps19
  go_wp2_with fail
  refine (gfirst_calls _).mono ?_
  rintro e w1 ⟨rfl, hb1⟩
  have HB1 := hide hb1
  clear hb1
  go_wp2_with ((with_reducible show wpList _ _ _ (⟨some 2, _, _, _, _, _⟩ :: _) _ _); refine wpList_build rfl _ _ rfl (by kernel_rfl) ?_)
  rw [show (Try.prog.built 46 [(0, Value.bool true), (1, Value.agg (wcs firstW).toArray)]).getD #[] = hcells true firstW (.slice none 0 0) 0 by kernel_rfl]
  go_ret
  exact ⟨w1.heap.size, rfl, HB1.out.size, ⟨.slice none 0 0, by rw [eatA_stop (by decide)]; exact ⟨Blk.new w1 46 _, rfl, .inl ⟨rfl, rfl⟩⟩⟩, HB1.out.alloc HB1.out.size _⟩
theorem hcells_info (v : List Int) (hv : v.length = 8) (rs : Value) (n : Int) : (Try.prog.info? 46).map (·.size) = some (hcells true v rs n).size := by rw [hcells_size true hv]; kernel_rfl
theorem hcells_one (v : List Int) {rs : Value} (hrs : rs.oneCell' = true) (n : Int) : (hcells true v rs n).all (·.oneCell') = true := by
  unfold hcells
  simp only [List.all_toArray, List.all_cons, List.all_append, List.all_nil, Bool.and_true, Bool.and_eq_true, List.all_eq_true, hrs]
  refine ⟨by first | trivial | rfl, wcs_one v, by first | trivial | rfl | exact ⟨rfl, rfl⟩⟩
theorem BytesAt.one {w : World} {v : Value} {l : List UInt8} (h : BytesAt w v l) : v.oneCell' = true := by
  rcases h with ⟨rfl, _⟩ | ⟨g, off, cap, cs, rfl, _⟩ <;> rfl
def hzero : Array Value := #[.bool false, .int .u32 0, .int .u32 0, .int .u32 0, .int .u32 0, .int .u32 0, .int .u32 0, .int .u32 0, .int .u32 0, .slice none 0 0, .int .i64 0]
theorem copy_facts {w : World} {b : Nat} {s : List UInt8} (h : HashOf w b s) : ∃ cs, Blk w b 46 cs ∧ cs[0]? = some (.bool true) ∧ cs[10]? = some (.int .i64 (s.length : Nat)) ∧ (Try.prog.info? 46).map (·.size) = some cs.size ∧ hzero.size = cs.size ∧ cs.all (·.oneCell') = true ∧
    ∀ w' c, Below w.heap.size w w' → Blk w' c 46 cs → HashOf w' c s := by
  obtain ⟨rs, h⟩ := h
  refine ⟨_, h.hb, hcells_0 _ _ _ _, hcells_10 _ h.hv _ _, hcells_info _ h.hv _ _, by rw [hcells_size true h.hv]; rfl, hcells_one _ h.hs.one _, fun w' c hb hc => ⟨rs, hc, h.hv, h.hs.below hb⟩⟩
def CopyPost (w : World) (s : List UInt8) (e : Ending) (w' : World) : Prop := ∃ c, e = .returned (.pointer (some ⟨c, 0, none⟩)) ∧ w.heap.size ≤ c ∧ HashOf w' c s ∧ Below w.heap.size w w'
/-- Write -/
def WritePost (w : World) (b : Nat) (s : List UInt8) (e : Ending) (w' : World) : Prop := e = .returned (.tuple #[]) ∧ Turned (· = b) w w' ∧ HashOf w' b s
theorem hWrite_calls {w : World} {b : Nat} {s : List UInt8} (h : HashOf w b s) (t : ByteArray) (hn : s.length + t.size ≤ 100000000000) : Calls Try.prog 20 #[.pointer (some ⟨b, 0, none⟩), .string t] w (WritePost w b (s ++ t.data.toList)) := by
  obtain ⟨rs, h⟩ := h
  refine (gWrite_calls h t (eatA_rest _ _ rfl) hn).mono ?_
  rintro e w' ⟨rfl, h2, r2, h3⟩
  refine ⟨rfl, h2, r2, ?_⟩
  rw [eatA_join'] at h3
  rw [List.length_append]
  exact h3
theorem HashOf.state {w : World} {b : Nat} {s : List UInt8} (h : HashOf w b s) : (loadVar 43 ⟨b, 1, none⟩).run Try.prog w = .ok (.agg (wcs (eatA firstW s).1).toArray) w := by
  obtain ⟨rs, h⟩ := h
  exact run_load_state h.hb h.hv
theorem wpList_load_hash {ops : Array Oper} {rest : List Oper} {o : Oper} {a : Act} {Q : Exit → Act → World → Prop} {w : World} (hgd : o.guard = none) (x : Operand) (ho : o.op = .load 43 x) {b : Nat} (hx : a.eval x = .pointer (some ⟨b, 1, none⟩)) {s : List UInt8} (hb : HashOf w b s)
    (h : wpList Try.prog ops Q rest (a.put o.dst (.agg (wcs (eatA firstW s).1).toArray)) w) : wpList Try.prog ops Q (o :: rest) a w := by
  refine wpList_plain hgd fun K hK => ?_
  unfold Oper.wp execOp
  simp only [ho, hx, Instr.loadAt, Instr.sureAddr, Sem.run_bind, Sem.run_pure, Result.andThen_ok, hb.state]
  exact hK _ _ h
def SumPost (w : World) (s : List UInt8) (e : Ending) (w' : World) : Prop := e = .returned (.string ⟨(digW s).toArray⟩) ∧ Below w.heap.size w w'
theorem gSum_calls {w : World} {b : Nat} {s : List UInt8} (h : HashOf w b s) (hlen : s.length ≤ 50000000000) : Calls Try.prog 21 #[.pointer (some ⟨b, 0, none⟩)] w (SumPost w s) := by
  obtain ⟨cs, hb, h0, h10, hi, hz, h1, hN⟩ := copy_facts h
  have c0 : w.cell? ⟨b, 0, none⟩ = some (.bool true) := (hb.cell 0).trans h0
  have HB := hide hb
  have HI := hide hi
  have HZ := hide hz
  have H1 := hide h1
  have HNB : Hid (Blk (w.alloc (.cells hzero 46)) w.heap.size 46 hzero) := hide (Blk.new w 46 _)
  have hb2 : Below w.heap.size w ((w.alloc (.cells hzero 46)).setRow w.heap.size cs) := below_setRow ((Below.refl _ _).alloc (Nat.le_refl _) _) (Nat.le_refl _) _
  have HC : Hid (HashOf ((w.alloc (.cells hzero 46)).setRow w.heap.size cs) w.heap.size s) := hide (hN _ _ hb2 (setRow_heap _ _ _ _ _ _ HNB.out))
  have HB2 := hide hb2
  have c10 : ((w.alloc (.cells hzero 46)).setRow w.heap.size cs).cell? ⟨b, 10, none⟩ = some (.int .i64 (s.length : Nat)) := (hb2.cell (p := ⟨b, 10, none⟩) hb.lt).trans ((hb.cell 10).trans h10)
  clear hb h0 h10 hi hz h1 hN h hb2
  go_enter Try.func21, Try.ntmps21
  go_wp2_with fail
  refine (gthere_calls b true _ c0).mono ?_
  rintro e w' ⟨rfl, rfl⟩
  go_wp2_with (first | ((with_reducible show wpList _ _ _ (⟨some 9, _, _, _, _, _⟩ :: _) _ _); refine wpList_load_row rfl _ _ rfl b rfl 46 _ (0, 0) _ HB.out Try.underlying46 rfl HI.out ?_) | ((with_reducible show wpList _ _ _ (⟨none, _, _, _, _, _⟩ :: _) _ _); refine wpList_store_row rfl _ _ _ rfl w.heap.size cs rfl rfl 46 _ HNB.out HI.out HZ.out H1.out ?_; change wpList _ _ _ _ _ (World.setRow (w.alloc (.cells hzero 46)) w.heap.size cs); generalize World.setRow (w.alloc (.cells hzero 46)) w.heap.size cs = W at *))
  refine (gending_calls s.length (by omega) _).mono ?_
  rintro e w2 ⟨v, rfl, hbuf⟩
  have hcv := hbuf.conv
  have HBF := hide hbuf
  have hpl := padW_length s.length
  have hzl := zerosN_le s.length
  have HPL := hide hpl
  clear hbuf hpl
  go_wp2_with fail
  refine (hWrite_calls (HC.out.below HBF.out.bel) ⟨(padW s.length).toArray⟩ (by
    show s.length + (padW s.length).toArray.size ≤ _
    rw [List.size_toArray, HPL.out]
    omega)).mono ?_
  rintro e w3 ⟨rfl, ht3, hh3⟩
  have HH3 : Hid (HashOf w3 w.heap.size (s ++ padW s.length)) := hide hh3
  have HT3 := hide ht3
  clear ht3 hh3 hcv
  go_wp2_with ((with_reducible show wpList _ _ _ (⟨some 18, _, _, _, _, _⟩ :: _) _ _); refine wpList_load_hash rfl (.tmp 17) rfl rfl HH3.out ?_)
  refine (gtext_calls _ (eatA_len _ _ rfl) _).mono ?_
  rintro e w4 ⟨rfl, hb4⟩
  have HB4 := hide hb4
  clear hb4
  go_wp2_with fail
  go_ret
  refine ⟨by rw [digW_eq]; rfl, ?_⟩
  have s2 := HB2.out.size
  have s3 := HBF.out.bel.size
  have s4 := HT3.out.size
  exact ((HB2.out.trans (HBF.out.bel.mono s2)).trans (HT3.out.below (by omega) (fun x hx => by rw [hx]; exact Nat.le_refl _))).trans (HB4.out.mono (by omega))
theorem gOf_calls (s : ByteArray) (hlen : s.size ≤ 50000000000) (w : World) : Calls Try.prog 15 #[.string s] w (SumPost w s.data.toList) := by
  go_enter Try.func15, Try.ntmps15
  go_wp2_with fail
  refine (gNew_calls _).mono ?_
  rintro e w1 ⟨b, rfl, hge, hh, hb1⟩
  have HH := hide hh
  have HB1 := hide hb1
  clear hh hb1
  go_wp2_with fail
  refine (hWrite_calls HH.out s (by show 0 + s.size ≤ _; omega)).mono ?_
  rintro e w2 ⟨rfl, ht2, hh2⟩
  have HT2 := hide ht2
  have HH2 : Hid (HashOf w2 b s.data.toList) := hide hh2
  clear ht2 hh2
  go_wp2_with fail
  refine (gSum_calls HH2.out (by show s.size ≤ _; omega)).mono ?_
  rintro e w3 ⟨rfl, hb3⟩
  have HB3 := hide hb3
  clear hb3
  go_wp2_with fail
  go_ret
  have s1 := HB1.out.size
  have s2 := HT2.out.size
  exact ⟨rfl, (HB1.out.trans (HT2.out.below s1 (fun x hx => by rw [hx]; exact hge))).trans (HB3.out.mono (by omega))⟩
end Go.Proofs.Ytjjpekgkaahpbaa
