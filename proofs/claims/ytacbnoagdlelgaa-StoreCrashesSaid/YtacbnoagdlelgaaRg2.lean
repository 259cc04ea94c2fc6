/- Several texts in one: RingN, RingF, RingH, RingI, RingJ, RingT. -/
import Derived.Test.YtacbnoagdlelgaaRg1
import Derived.Test.YtacbnoagdlelgaaApp
import Derived.ArgAppend
import Derived.Test.YtacbnoagdlelgaaDk1
import Derived.WalkMore
import Derived.Laws.StructEq
import Derived.ChangeKeysEq
/- Chapter 5: lists of entries as cells; what a scan goes through. No program's text. -/
namespace Go.Proofs.Ytacbnoagdlelgaa
open Go.RowKit Zb

/-! ### cells -/
def ecells (L : List EntM) : List Value := L.flatMap EntM.cells
set_option maxRecDepth 20000 in
theorem ecells_len : ∀ L : List EntM, (ecells L).length = L.length * 5
  | [] => rfl
  | p :: r => by
    have := ecells_len r
    simp only [ecells, List.flatMap_cons, List.length_append, List.length_cons] at *
    rw [this]
    show 5 + _ = _
    omega
set_option maxRecDepth 20000 in
theorem ecells_app (a b : List EntM) : ecells (a ++ b) = ecells a ++ ecells b := by simp [ecells]
set_option maxRecDepth 20000 in
theorem ecells_snoc (L : List EntM) (e : EntM) : ecells (L ++ [e]) = ecells L ++ e.cells := by simp [ecells]
set_option maxRecDepth 20000 in
theorem ecells_take : ∀ (L : List EntM) (k : Nat), ecells (L.take k) = (ecells L).take (k * 5)
  | [], k => by simp [ecells]
  | e :: r, 0 => by simp [ecells]
  | e :: r, k + 1 => by
    have ih := ecells_take r k
    have h : ecells (e :: r) = e.cells ++ ecells r := by simp [ecells]
    have h2 : (e :: r).take (k + 1) = e :: r.take k := rfl
    rw [h2, h, show ecells (e :: r.take k) = e.cells ++ ecells (r.take k) by simp [ecells], ih]
    have e5 : e.cells.length = 5 := rfl
    rw [List.take_append, List.take_of_length_le (l := e.cells) (by omega), e5, show (k + 1) * 5 - 5 = k * 5 by omega]
set_option maxRecDepth 20000 in
theorem ecells_drop : ∀ (L : List EntM) (k : Nat), ecells (L.drop k) = (ecells L).drop (k * 5)
  | [], k => by simp [ecells]
  | e :: r, 0 => by simp
  | e :: r, k + 1 => by
    have ih := ecells_drop r k
    have h : ecells (e :: r) = e.cells ++ ecells r := by simp [ecells]
    have e5 : e.cells.length = 5 := rfl
    rw [List.drop_succ_cons, h, ih, List.drop_append, List.drop_of_length_le (l := e.cells) (by omega), List.nil_append, e5, show (k + 1) * 5 - 5 = k * 5 by omega]
set_option maxRecDepth 20000 in
theorem ecells_get (L : List EntM) (k : Nat) (e : EntM) (h : L[k]? = some e) (j : Nat) (hj : j < 5) : (ecells L)[k * 5 + j]? = e.cells[j]? := by
  have hk : k < L.length := (List.getElem?_eq_some_iff.1 h).1
  have e1 : (ecells L)[k * 5 + j]? = (ecells (L.drop k))[j]? := by rw [ecells_drop, List.getElem?_drop]
  have e2 : L.drop k = e :: L.drop (k + 1) := by
    rw [List.drop_eq_getElem_cons hk]
    rw [List.getElem?_eq_getElem hk, Option.some.injEq] at h
    rw [h]
  rw [e1, e2]
  show (e.cells ++ ecells (L.drop (k + 1)))[j]? = _
  rw [List.getElem?_append_left (by show j < 5; exact hj)]
set_option maxRecDepth 20000 in
theorem ecells_one (e : EntM) : ∀ u ∈ e.cells, u.oneCell' = true := by
  intro u hu
  simp only [EntM.cells, List.mem_cons, List.not_mem_nil, or_false] at hu
  rcases hu with rfl | rfl | rfl | rfl | rfl <;> rfl
set_option maxRecDepth 20000 in
theorem ecells_ones (L : List EntM) : ∀ u ∈ ecells L, u.oneCell' = true := by
  intro u hu
  simp only [ecells, List.mem_flatMap] at hu
  obtain ⟨e, _, h⟩ := hu
  exact ecells_one e u h

/-! ### the insertion -/
theorem insE_len : ∀ (L : List EntM) (e : EntM), (insE L e).length = L.length + 1
  | [], _ => rfl
  | x :: l, e => by
    unfold insE
    split
    · simp
    · simp [insE_len l e]
set_option maxRecDepth 20000 in
theorem insE_at : ∀ (L : List EntM) (e : EntM) (k : Nat) (x : EntM), L[k]? = some x → e.number < x.number → (∀ (j : Nat) (y : EntM), j < k → L[j]? = some y → y.number ≤ e.number) → insE L e = L.take k ++ e :: L.drop k
  | [], e, k, x, h, _, _ => by simp at h
  | y :: l, e, 0, x, h, hx, _ => by
    obtain rfl : y = x := by simpa using h
    simp [insE, hx]
  | y :: l, e, k + 1, x, h, hx, hl => by
    have h0 := hl 0 y (by omega) rfl
    have ih := insE_at l e k x (by simpa using h) hx (fun j z hj hz => hl (j + 1) z (by omega) (by simpa using hz))
    simp only [insE, if_neg (Int.not_lt.2 h0), ih, List.take_succ_cons, List.drop_succ_cons, List.cons_append]
set_option maxRecDepth 20000 in
theorem insE_end : ∀ (L : List EntM) (e : EntM), (∀ (j : Nat) (y : EntM), L[j]? = some y → y.number ≤ e.number) → insE L e = L ++ [e]
  | [], e, _ => rfl
  | y :: l, e, hl => by
    have h0 := hl 0 y rfl
    have ih := insE_end l e (fun j z hz => hl (j + 1) z (by simpa using hz))
    simp only [insE, if_neg (Int.not_lt.2 h0), ih, List.cons_append]
set_option maxRecDepth 20000 in
theorem scanTo_len (D : DiskM) : ∀ n, (scanTo D n).length ≤ n
  | 0 => Nat.le_refl 0
  | n + 1 => by
    have := scanTo_len D n
    unfold scanTo scanStep
    split
    · rw [insE_len]; omega
    · omega
set_option maxRecDepth 20000 in
theorem read_err {D : DiskM} (hL : 8 ≤ D.lasts.length) {i : Nat} (hi : i < 8) : (D.read i).2 = scanE D := by
  have h1 : D.wrong (i : Int) = D.wrong 0 := by
    unfold DiskM.wrong
    have e1 : ¬ ((i : Int) < 0 ∨ (D.lasts.length : Int) ≤ (i : Int)) := by omega
    have e0 : ¬ ((0 : Int) < 0 ∨ (D.lasts.length : Int) ≤ 0) := by omega
    rw [if_neg e1, if_neg e0]
  unfold scanE DiskM.read
  rw [h1]
  split <;> rfl

/-! ### append onto a shut slice -/
theorem run_append_shut {P : Program} {W : World} {e t : TypeId} {size : Nat} (ty : TypeId) {z : Value} {bytes : Nat} (ht : P.underlying t = some (.slice e)) (hinfo : (P.info? e).map (fun i => (i.zero, i.size, i.bytes)) = some (some z, size, bytes)) (hzs : z.cells.size = size) (hsz : 0 < size)
    {b : Addr} {n m : Nat} {olds news : List Value} {src : Value} (hlo : olds.length = n * size) (holds : ∀ j u, olds[j]? = some u → W.cell? (b.add j) = some u) (hsrc : Zb.Src W src m news) (hl : news.length = m * size) (hm : 0 < m) (h63 : n + m ≤ maxLen) (hbytes : (n + m) * bytes ≤ 140737488355328) :
    ∃ v' w', (Builtin.append_ #[t, t] ty #[.slice (some b) n n, src]).run P W = .ok v' w' ∧ w'.ownsRow W.heap.size e size v' (n + m) (olds ++ news) ∧ W.grownBy w' none := by
  obtain ⟨i, hi, hz0, hz1, hz2⟩ := info_parts hinfo
  rcases hsrc with ⟨ad, c, rfl, hn⟩ | ⟨rfl, rfl, rfl⟩
  · exact run_append_arg_grows (P := P) (w := W) t ty e i z size bytes ht hi hz0 hz1 hz2 hzs hsz b n n olds hlo holds ad m c news hl hn (by omega) h63 hbytes
  · omega
set_option maxRecDepth 20000 in
theorem row_base {w : World} {base : Nat} {e : TypeId} {size : Nat} {v : Value} {n : Nat} {xs : List Value} (h : w.ownsRow base e size v n xs) : Row w e size v n xs := by
  refine ⟨h.1, ?_⟩
  rcases h.2 with h1 | ⟨g, cap, cur, e1, _, rest⟩
  · exact .inl h1
  · exact .inr ⟨g, cap, cur, e1, Nat.zero_le _, rest⟩
set_option maxRecDepth 20000 in
theorem app_shut {P : Program} {o : Oper} {a : Act} {Q : Exit → Act → World → Prop} {W : World} {e t : TypeId} {size : Nat} (s x : Operand) (ho : o.op = .call { callee := .builtin .append, args := #[s, x], argTypes := #[t, t] }) (z : Value) (bytes : Nat) (ht : P.underlying t = some (.slice e)) (hinfo : (P.info? e).map (fun i => (i.zero, i.size, i.bytes)) = some (some z, size, bytes)) (hzs : z.cells.size = size) (hsz : 0 < size)
    (b : Addr) (n m : Nat) (olds news : List Value) (src : Value) (hs : a.eval s = .slice (some b) n n) (hx : a.eval x = src) (hlo : olds.length = n * size) (holds : ∀ j u, olds[j]? = some u → W.cell? (b.add j) = some u) (hsrc : Zb.Src W src m news) (hl : news.length = m * size) (hm : 0 < m) (h63 : n + m ≤ maxLen) (hbytes : (n + m) * bytes ≤ 140737488355328)
    {K : Act → World → Prop} (h : ∀ v' w', Hid (Row w' e size v' (n + m) (olds ++ news)) → Hid (W.grownBy w' none) → Hid (OwnNew W v') → K (a.put o.dst v') w') : Oper.wp P o a W K Q := by
  obtain ⟨v', w', hr, h2, hg⟩ := run_append_shut (P := P) o.type ht hinfo hzs hsz hlo holds hsrc hl hm h63 hbytes
  unfold Oper.wp execOp
  simp only [ho, resolve, invoke, builtin, Sem.run_bind, Sem.run_pure, Result.andThen_ok, List.map_toArray, List.map_cons, List.map_nil, hs, hx, hr]
  exact h v' w' (hide (row_base h2)) (hide hg) (hide fun g hh => (h2.lt g hh).1)
end Go.Proofs.Ytacbnoagdlelgaa

/- Chapter 5: Scan, walked. -/
namespace Go.Proofs.Ytacbnoagdlelgaa
open Go.RowKit Zb

structure ScInv (T : TypeId) (w wr : World) (v : Value) (D : DiskM) (k : Nat) : Prop where
  bel : Below w.heap.size w wr
  row : Row wr T 5 v (scanTo D k).length (ecells (scanTo D k))
  own : OwnNew w v
  err : 0 < k → scanE D = 0
set_option maxRecDepth 20000 in
theorem ScInv.below {T : TypeId} {w wr w1 : World} {v : Value} {D : DiskM} {k : Nat} (h : ScInv T w wr v D k) (hb : Below wr.heap.size wr w1) : ScInv T w w1 v D k :=
  ⟨h.bel.trans (hb.mono h.bel.size), row_of h.row fun g hg => hb.block g (row_lt h.row g hg), h.own, h.err⟩
set_option maxRecDepth 20000 in
theorem ScInv.same {T : TypeId} {w wr : World} {v : Value} {D : DiskM} {k : Nat} (h : ScInv T w wr v D k) (hs : scanTo D (k + 1) = scanTo D k) (h0 : scanE D = 0) : ScInv T w wr v D (k + 1) :=
  ⟨h.bel, by rw [hs]; exact h.row, h.own, fun _ => h0⟩
set_option maxRecDepth 20000 in
theorem entinfo : (Try.prog.info? 59).map (fun i => (i.zero, i.size, i.bytes)) = some (some (.agg EntM.zero.cells.toArray), 5, 48) := by kernel_rfl
set_option maxRecDepth 20000 in
theorem src_tail {w : World} {T : TypeId} {g n c c' : Nat} {L : List EntM} (h : Row w T 5 (.slice (some ⟨g, 0, none⟩) n c) n (ecells L)) (m p q : Nat) (hp : p = m * 5) : Zb.Src w (.slice (some ⟨g, p, none⟩) q c') q (ecells (L.drop m)) := by
  refine .inl ⟨_, _, rfl, fun j u hu => ?_⟩
  rw [ecells_drop, List.getElem?_drop] at hu
  have := World.ownsRow.cells h rfl (m * 5 + j) u hu
  subst hp
  rw [← this]
  rw [Addr.add_lit, Addr.add_lit, Nat.zero_add]
set_option maxRecDepth 20000 in
theorem row_head {w : World} {T : TypeId} {g n c : Nat} {L : List EntM} (h : Row w T 5 (.slice (some ⟨g, 0, none⟩) n c) n (ecells L)) (m : Nat) : ∀ j u, (ecells (L.take m))[j]? = some u → w.cell? ((⟨g, 0, none⟩ : Addr).add j) = some u := by
  intro j u hu
  rw [ecells_take, List.getElem?_take] at hu
  split at hu
  · exact World.ownsRow.cells h rfl j u hu
  · cases hu
structure InInv (w3 wr : World) (L : List EntM) (e : EntM) (m : Nat) : Prop where
  bel : Below w3.heap.size w3 wr
  le : ∀ (j : Nat) (y : EntM), j < m → L[j]? = some y → y.number ≤ e.number
def ScanPost (T : TypeId) (w : World) (D : DiskM) (r : Ending) (w' : World) : Prop := ∃ v, r = .returned (.tuple #[v, .int .i64 (scanE D)]) ∧ Below w.heap.size w w' ∧ Row w' T 5 v (scanL D).length (ecells (scanL D)) ∧ OwnNew w v
set_option maxRecDepth 20000 in
theorem own_nil (w : World) : OwnNew w (.slice none 0 0) := fun g hg => by simp [Value.ownBlock] at hg
set_option maxRecDepth 20000 in
set_option maxHeartbeats 2000000 in
theorem eScan_calls {w : World} {b : Nat} {F : Nat → Prop} {D : DiskM} (h : DiskAt w b F D) (hW : D.waits.length ≤ 4294967290) : Calls Try.prog 35 #[.pointer (some ⟨b, 0, none⟩)] w (ScanPost 59 w D) := by
  have HD := hide (fun w1 (hb : Below w.heap.size w w1) (i : Int) => dread_calls (h.below hb) hW i)
  have HL8 : 8 ≤ D.lasts.length := by have := h.ok.len; omega
  have HERR := hide (fun (i : Nat) (hi : i < 8) => read_err HL8 hi)
  have HS0 : Hid (ScInv 59 w w (.slice none 0 0) D 0) := hide ⟨Below.refl _ _, row_nil _ _ _, own_nil w, fun h => by omega⟩
  clear h hW HL8
  go_enter Try.func35, Try.ntmps35
  go_wp2_with fail
  go_step3
  go_wp2_with fail
  go_step3
  go_wp2_with fail
  go_loopw [4, 12] (fun v i wr => ∃ (k : Nat), k ≤ 8 ∧ i = .int .i64 (k : Int) ∧ Hid (ScInv 59 w wr v D k)) (fun _ i _ => 8 - (intOf i).toNat)
  case atStart => exact ⟨0, by omega, rfl, HS0⟩
  case round =>
  obtain ⟨k, hk, rfl, HI⟩ := hrel
  by_cases hk8 : k < 8
  · have hkI : (k : Int) < 8 := by omega
    have HE := hide (HERR.out k hk8)
    go_wp2_with fail
    refine (HD.out _ HI.out.bel _).mono ?_
    rintro r w1 ⟨rfl, rfl⟩
    rw [HE.out]
    by_cases hf : scanE D = 0
    · rw [hf]
      have HF := hide hf
      have HSC : Hid (scanTo D (k + 1) = scanStep D (scanTo D k) k) := hide rfl
      unfold scanStep at HSC
      clear hf HE
      generalize (D.read (k : Int)).1 = s at *
      go_wp2_with fail
      refine (eParse_calls s _).mono ?_
      rintro r w2 ⟨rfl, hb2⟩
      have HI2 := hide (HI.out.below hb2)
      have HZ : Hid (Blk (w2.alloc (.cells #[.int .i64 0, .int .i64 0, .int .i64 0, .int .i64 0, .string ⟨#[]⟩] 59)) w2.heap.size 59 EntM.zero.cells.toArray) := hide (Blk.new w2 59 _)
      have HB3 : Hid (Blk ((w2.alloc (.cells #[.int .i64 0, .int .i64 0, .int .i64 0, .int .i64 0, .string ⟨#[]⟩] 59)).setRow w2.heap.size (parseM s).cells.toArray) w2.heap.size 59 (parseM s).cells.toArray) := hide (setRow_heap _ _ _ _ _ _ HZ.out)
      have HI3 : Hid (ScInv 59 w ((w2.alloc (.cells #[.int .i64 0, .int .i64 0, .int .i64 0, .int .i64 0, .string ⟨#[]⟩] 59)).setRow w2.heap.size (parseM s).cells.toArray) u4 D k) := hide (HI2.out.below (below_setRow ((Below.refl _ _).alloc (Nat.le_refl _) _) (Nat.le_refl _) _))
      clear hb2 HI HI2
      have z1 : ((w2.alloc (.cells #[.int .i64 0, .int .i64 0, .int .i64 0, .int .i64 0, .string ⟨#[]⟩] 59)).setRow w2.heap.size (parseM s).cells.toArray).cell? ⟨w2.heap.size, 1, none⟩ = some (.int .i64 (parseM s).number) := HB3.out.cell 1
      cases hp : parseOk s
      · have HI4 := hide (HI3.out.same (by rw [HSC.out, hp]; rfl) HF.out)
        clear hp
        go_wp2_with ((with_reducible show wpList _ _ _ (⟨none, _, _, _, _, _⟩ :: _) _ _); refine wpList_store_row rfl _ _ _ rfl w2.heap.size (parseM s).cells.toArray rfl rfl 59 _ HZ.out (ent_info _) rfl (by kernel_rfl) ?_; change wpList _ _ _ _ _ (World.setRow (w2.alloc (.cells #[.int .i64 0, .int .i64 0, .int .i64 0, .int .i64 0, .string ⟨#[]⟩] 59)) w2.heap.size (parseM s).cells.toArray); generalize World.setRow (w2.alloc (.cells #[.int .i64 0, .int .i64 0, .int .i64 0, .int .i64 0, .string ⟨#[]⟩] 59)) w2.heap.size (parseM s).cells.toArray = w3 at *)
        refine ⟨⟨k + 1, by omega, by go_num, HI4⟩, ?_⟩
        simp [intOf]; omega
      · have hR := (parse_right hp).1
        have htm : (parseM s).number.tmod 8 = (parseM s).number % 8 := Int.tmod_eq_emod_of_nonneg (by have := hR.n0; omega)
        clear hR
        by_cases hn : (parseM s).number % 8 = k
        · rw [← htm] at hn
          have HIN : Hid (scanTo D (k + 1) = insE (scanTo D k) (parseM s)) := hide (by rw [HSC.out, hp, ← htm, hn]; simp)
          have HTM := hide htm
          clear hp htm HSC
          have hROW := HI3.out.row
          have hlen8 := scanTo_len D k
          have hn1 : ((parseM s).number.tmod 8 != (k : Int)) = false := by simpa using hn
          go_wp2_with ((with_reducible show wpList _ _ _ (⟨none, _, _, _, _, _⟩ :: _) _ _); refine wpList_store_row rfl _ _ _ rfl w2.heap.size (parseM s).cells.toArray rfl rfl 59 _ HZ.out (ent_info _) rfl (by kernel_rfl) ?_; change wpList _ _ _ _ _ (World.setRow (w2.alloc (.cells #[.int .i64 0, .int .i64 0, .int .i64 0, .int .i64 0, .string ⟨#[]⟩] 59)) w2.heap.size (parseM s).cells.toArray); generalize World.setRow (w2.alloc (.cells #[.int .i64 0, .int .i64 0, .int .i64 0, .int .i64 0, .string ⟨#[]⟩] 59)) w2.heap.size (parseM s).cells.toArray = w3 at *)
          obtain ⟨A, c, rfl, hc⟩ := row_slice HI3.out.row
          obtain ⟨n, hn⟩ : ∃ n, (scanTo D k).length = n := ⟨_, rfl⟩
          rw [hn] at hlen8 hc
          have HNL := hide hn
          rw [hn]
          clear hn hROW
          go_wp2_with fail
          generalize parseM s = x at *
          go_simp
          go_wp2_with fail
          have HB3 := hide HB3.out
          have HROW : Hid (Row w3 59 5 (.slice A n c) n (ecells (scanTo D k))) := hide (by have := HI3.out.row; rw [HNL.out] at this; exact this)
          have HOWN : Hid (OwnNew w (.slice A n c)) := hide (by have := HI3.out.own; rw [HNL.out] at this; exact this)
          go_loopw [4, 40] (fun v i wr' => ∃ (m : Nat), m ≤ n ∧ v = .slice A n c ∧ i = .int .i64 (m : Int) ∧ Hid (InInv w3 wr' (scanTo D k) x m)) (fun _ i _ => n - (intOf i).toNat)
          case atStart => exact ⟨0, by omega, rfl, rfl, hide ⟨Below.refl _ _, fun j y hj _ => by omega⟩⟩
          case round =>
          obtain ⟨m, hm, rfl, rfl, HJ⟩ := hrel
          by_cases hmn : m < n
          · have hmnI : (m : Int) < (n : Int) := by omega
            obtain ⟨g, c', he, _, hgl, _, hcell⟩ := row_form HROW.out (by omega)
            obtain ⟨rfl, -⟩ : A = some ⟨g, 0, none⟩ ∧ True := by
              simp only [Value.slice.injEq] at he
              exact ⟨he.1, trivial⟩
            have hlm : m < (scanTo D k).length := by rw [HNL.out]; exact hmn
            obtain ⟨y, hy⟩ : ∃ y, (scanTo D k)[m]? = some y := ⟨_, List.getElem?_eq_getElem hlm⟩
            have hc5 : ∀ j, j < 5 → wr.cell? ⟨g, m * 5 + j, none⟩ = y.cells[j]? := fun j hj => by
              rw [World.cell?_of_block (w := w3) (HJ.out.bel.block g hgl), hcell _ (by omega), ecells_get _ _ _ hy j hj]
            have y0 : wr.cell? ⟨g, m * 5, none⟩ = some (.int .i64 y.kind) := hc5 0 (by omega)
            have y1 : wr.cell? ⟨g, m * 5 + 1, none⟩ = some (.int .i64 y.number) := hc5 1 (by omega)
            have y2 : wr.cell? ⟨g, m * 5 + 2, none⟩ = some (.int .i64 y.slot) := hc5 2 (by omega)
            have y3 : wr.cell? ⟨g, m * 5 + 3, none⟩ = some (.int .i64 y.size) := hc5 3 (by omega)
            have y4 : wr.cell? ⟨g, m * 5 + 4, none⟩ = some (.string y.sum) := hc5 4 (by omega)
            have HY := hide hy
            clear he hcell hlm hc5 hy
            have HX1 : Hid (Blk (wr.alloc (.cells #[.int .i64 y.kind, .int .i64 y.number, .int .i64 y.slot, .int .i64 y.size, .string y.sum] 59)) w2.heap.size 59 x.cells.toArray) := hide ((HB3.out.below HJ.out.bel HB3.out.lt).alloc _)
            have HBJ : Hid (Below w3.heap.size w3 (wr.alloc (.cells #[.int .i64 y.kind, .int .i64 y.number, .int .i64 y.slot, .int .i64 y.size, .string y.sum] 59))) := hide (HJ.out.bel.alloc HJ.out.bel.size _)
            have x1 : (wr.alloc (.cells #[.int .i64 y.kind, .int .i64 y.number, .int .i64 y.slot, .int .i64 y.size, .string y.sum] 59)).cell? ⟨w2.heap.size, 1, none⟩ = some (.int .i64 x.number) := HX1.out.cell 1
            by_cases hgt : x.number < y.number
            · have hgt1 : y.number > x.number := hgt
              have HINS := hide (insE_at (scanTo D k) x m y HY.out hgt HJ.out.le)
              go_wp2_with fail
              clear hgt hgt1 x1 y0 y1 y2 y3 y4
              generalize wr.alloc (.cells #[.int .i64 y.kind, .int .i64 y.number, .int .i64 y.slot, .int .i64 y.size, .string y.sum] 59) = W1 at *
              have hcm : m ≤ c := by omega
              have hcm2 : ¬ c = m := by omega
              have HROW1 : Hid (Row W1 59 5 (.slice (some ⟨g, 0, none⟩) n c) n (ecells (scanTo D k))) := hide (row_of HROW.out fun q hq => HBJ.out.block q (row_lt HROW.out q hq))
              refine wp_region_heads [0, 1, 2, 3, 4, 6, 7, 8] 4 (fun w' => Blk w' w2.heap.size 59 x.cells.toArray) (by kernel_rfl) rfl (by kernel_rfl) (by kernel_rfl) (fun _ _ d _ _ h => by cases d <;> exact h) HX1.out ?_
              iterate 8
                refine' Heads.step rfl (by rfl) ?_ ?_
                rotate_left
                · intro w' hSw
                  obtain ⟨s0, s1, s2, s3, s4⟩ := ent_all hSw
                  go_simp
                  try with_reducible rfl
                simp only [Act.put, List.setIfInBounds_toArray, List.set_cons_zero, List.set_cons_succ]
              refine Heads.done ?_
              refine wpAnyH_ready (rs := [5]) (by kernel_rfl) (by simp) (AllReadyH.cons rfl (fun K hK => ?_) AllReadyH.nil)
              go_simp
              refine hK.out _ _ (Blk.alloc (w := W1.drew) HX1.out _) (fun hHeld1 => ?_)
              clear hK K
              refine wpAnyH_ready (rs := [9]) (by kernel_rfl) (by simp) (AllReadyH.cons rfl (fun K hK => ?_) AllReadyH.nil)
              rw [if_pos (by rfl)]
              refine app_op (.tmp 55) (.tmp 58) 76 59 rfl _ 5 48 Try.underlying76 entinfo rfl (by decide) (.slice (some ⟨W1.heap.size, 0, none⟩) 1 1) 1 x.cells rfl (World.ownsRow_lit (base := 0) W1.drew x.cells.toArray 1 (Nat.zero_le _) (by unfold maxLen; omega) rfl) _ (n - m) (ecells ((scanTo D k).drop m)) rfl (src_tail (row_alloc (w := W1.drew) HROW1.out _) m _ _ rfl) (by rw [ecells_len, List.length_drop, HNL.out]) (ecells_ones _) (by unfold maxLen; omega) (by omega) ?_
              intro v1 w4 hr4 hg4 ha4
              refine hK.out _ _ ((Blk.alloc (w := W1.drew) HX1.out (.cells x.cells.toArray 59)).grown hg4.out (fun e => by have := HX1.out.lt; have e' : w2.heap.size = W1.heap.size := Option.some.inj e; omega)) (fun hHeld2 => ?_)
              clear hK K
              have HROW4 : Hid (Row w4 59 5 (.slice (some ⟨g, 0, none⟩) n c) n (ecells (scanTo D k))) := hide (World.ownsRow.kept (row_alloc (w := W1.drew) HROW1.out _) hg4.out (.inr (fun e => by have := row_lt HROW1.out g rfl; have e' : g = W1.heap.size := Option.some.inj e; omega)))
              refine wpAnyH_ready (rs := [10]) (by kernel_rfl) (by simp) (AllReadyH.cons rfl (fun K hK => ?_) AllReadyH.nil)
              rw [if_pos (by rfl)]
              refine app_shut (.tmp 53) (.tmp 59) rfl _ 48 Try.underlying76 entinfo rfl (by decide) ⟨g, 0, none⟩ m (1 + (n - m)) (ecells ((scanTo D k).take m)) (x.cells ++ ecells ((scanTo D k).drop m)) v1 rfl rfl (by rw [ecells_len, List.length_take, HNL.out, Nat.min_eq_left (by omega)]) (row_head HROW4.out m) (Zb.Src.row hr4.out) (by rw [List.length_append, ecells_len, List.length_drop, HNL.out]; show 5 + _ = _; omega) (by omega) (by unfold maxLen; omega) (by omega) ?_
              intro v2 w5 hr5 hg5 ho5
              refine hK.out _ _ (hHeld2.grown hg5.out (by simp)) (fun hHeld3 => ?_)
              clear hK K
              refine wpAnyH_ready (rs := [11]) (by kernel_rfl) (by simp) (AllReadyH.cons rfl (fun K hK => ?_) AllReadyH.nil)
              go_simp
              refine hK.out _ _ hHeld3 (fun hHeld4 => ?_)
              clear hK K
              refine wpAnyH_done (by kernel_rfl) ?_ _
              have HB5 : Hid (Below w.heap.size w w5 ∧ w.heap.size ≤ w4.heap.size) := hide (by
                have hs3 := HI3.out.bel.size
                have h1 := (HI3.out.bel.trans (HBJ.out.mono hs3)).drew
                have h2 := h1.alloc h1.size (.cells x.cells.toArray 59)
                have h3 := h2.grown hg4.out h2.size (fun q hq => by have e' : W1.heap.size = q := Option.some.inj hq; have := h1.size; rw [← e']; exact this)
                exact ⟨h3.grown hg5.out h3.size (fun q hq => by cases hq), h3.size⟩)
              have HI5 : Hid (ScInv 59 w w5 v2 D (k + 1)) := hide (by
                have e1 : scanTo D (k + 1) = (scanTo D k).take m ++ x :: (scanTo D k).drop m := HIN.out.trans HINS.out
                have e2 : ecells ((scanTo D k).take m ++ x :: (scanTo D k).drop m) = ecells ((scanTo D k).take m) ++ (x.cells ++ ecells ((scanTo D k).drop m)) := by rw [ecells_app]; simp [ecells]
                have e3 : ((scanTo D k).take m ++ x :: (scanTo D k).drop m).length = m + (1 + (n - m)) := by
                  rw [List.length_append, List.length_take, List.length_cons, List.length_drop, HNL.out, Nat.min_eq_left (by omega)]
                  omega
                exact ⟨HB5.out.1, by rw [e1, e2, e3]; exact hr5.out, fun q hq => Nat.le_trans HB5.out.2 (ho5.out q hq), fun _ => HF.out⟩)
              clear hr4 hg4 ha4 hr5 hg5 ho5 HROW4 hHeld1 hHeld2 hHeld3 hHeld4
              go_wp2_with fail
              refine ⟨⟨k + 1, by omega, by go_num, HI5⟩, ?_⟩
              simp [intOf]; omega
            · have HJ2 : Hid (InInv w3 (wr.alloc (.cells #[.int .i64 y.kind, .int .i64 y.number, .int .i64 y.slot, .int .i64 y.size, .string y.sum] 59)) (scanTo D k) x (m + 1)) := hide ⟨HBJ.out, fun j z hj hz => by
                by_cases hjm : j < m
                · exact HJ.out.le j z hjm hz
                · obtain rfl : j = m := by omega
                  rw [HY.out, Option.some.injEq] at hz
                  rw [← hz]; omega⟩
              have hgt1 : ¬ y.number > x.number := hgt
              go_wp2_with fail
              go_roundw
              case rel => exact ⟨m + 1, by omega, rfl, by go_num, HJ2⟩
              case measure => simp [intOf]; omega
          · obtain rfl : m = n := by omega
            have HIE : Hid (scanTo D (k + 1) = scanTo D k ++ [x]) := hide (HIN.out.trans (insE_end _ _ fun j y hy => HJ.out.le j y (by have := (List.getElem?_eq_some_iff.1 hy).1; rw [HNL.out] at this; exact this) hy))
            have HXW : Hid (Blk wr w2.heap.size 59 x.cells.toArray) := hide (HB3.out.below HJ.out.bel HB3.out.lt)
            have HRW : Hid (Row wr 59 5 (.slice A m c) m (ecells (scanTo D k))) := hide (row_of HROW.out fun q hq => HJ.out.bel.block q (row_lt HROW.out q hq))
            obtain ⟨s0, s1, s2, s3, s4⟩ := ent_all HXW.out
            go_wp2_with (at_builtin; refine app_list rfl (.tmp 62) (.tmp 64) 76 59 rfl _ 5 48 Try.underlying76 entinfo rfl (by decide) (.slice A m c) m (ecells (scanTo D k)) rfl (row_alloc HRW.out _) (.slice (some ⟨wr.heap.size, 0, none⟩) 1 1) 1 x.cells rfl (Zb.Src.blk (Blk.new wr 59 x.cells.toArray)) rfl (ecells_one x) (by unfold maxLen; omega) (by omega) ?_; intro v1 w4 hr4 hg4 ha4)
            have HI5 : Hid (ScInv 59 w w4 v1 D (k + 1)) := hide (by
              have hs3 := HI3.out.bel.size
              have h1 := HI3.out.bel.trans (HJ.out.bel.mono hs3)
              have h2 := h1.alloc h1.size (.cells #[.int .i64 x.kind, .int .i64 x.number, .int .i64 x.slot, .int .i64 x.size, .string x.sum] 59)
              have h3 := h2.grown hg4.out h2.size (fun q hq => HOWN.out q hq)
              refine ⟨h3, by rw [HIE.out, ecells_snoc, List.length_append, HNL.out]; exact hr4.out, fun q hq => ?_, fun _ => HF.out⟩
              rcases ha4.out with e | e
              · exact HOWN.out q (e ▸ hq)
              · rw [e] at hq
                have := h1.size
                cases hq
                exact Nat.le_trans this (by simp))
            refine ⟨⟨k + 1, by omega, by go_num, HI5⟩, ?_⟩
            simp [intOf]; omega
        · have HI4 := hide (HI3.out.same (by rw [HSC.out, hp]; simp [hn]) HF.out)
          rw [← htm] at hn
          have hn1 : ((parseM s).number.tmod 8 != (k : Int)) = true := by simpa using hn
          clear hp htm
          go_wp2_with ((with_reducible show wpList _ _ _ (⟨none, _, _, _, _, _⟩ :: _) _ _); refine wpList_store_row rfl _ _ _ rfl w2.heap.size (parseM s).cells.toArray rfl rfl 59 _ HZ.out (ent_info _) rfl (by kernel_rfl) ?_; change wpList _ _ _ _ _ (World.setRow (w2.alloc (.cells #[.int .i64 0, .int .i64 0, .int .i64 0, .int .i64 0, .string ⟨#[]⟩] 59)) w2.heap.size (parseM s).cells.toArray); generalize World.setRow (w2.alloc (.cells #[.int .i64 0, .int .i64 0, .int .i64 0, .int .i64 0, .string ⟨#[]⟩] 59)) w2.heap.size (parseM s).cells.toArray = w3 at *)
          refine ⟨⟨k + 1, by omega, by go_num, HI4⟩, ?_⟩
          simp [intOf]; omega
    · have HF := hide hf
      have HSL : Hid (scanL D = []) := hide (by unfold scanL; rw [if_neg hf])
      obtain ⟨f, hfe⟩ : ∃ f, scanE D = f := ⟨_, rfl⟩
      rw [hfe]
      rw [hfe] at hf
      have hf1 : (f != 0) = true := by simpa using hf
      have HFE := hide hfe
      clear hfe
      go_wp2_with fail
      rw [Exit.noGoto_ret]
      go_ret2
      exact ⟨_, by rw [HFE.out]; rfl, HI.out.bel, by rw [HSL.out]; exact row_nil _ _ _, own_nil w⟩
  · obtain rfl : k = 8 := by omega
    have hs0 := HI.out.err (by omega)
    have HS0 := hide hs0
    have HSL : Hid (scanL D = scanTo D 8) := hide (by unfold scanL; rw [if_pos hs0])
    clear hs0 hk8
    go_wp2_with fail
    try rw [Exit.noGoto_ret]
    go_ret2
    exact ⟨_, by rw [HS0.out]; rfl, HI.out.bel, by rw [HSL.out]; exact HI.out.row, HI.out.own⟩
end Go.Proofs.Ytacbnoagdlelgaa

/- Chapter 5: Last, walked. -/
namespace Go.Proofs.Ytacbnoagdlelgaa
open Go.RowKit Zb

set_option maxRecDepth 20000 in
theorem results_cell_tmp2 {fn : Func} {p u v : Tmp} {ty : TypeId} (h : fn.results = #[.cell p ty, .tmp u, .tmp v]) (tmps : Array Value) (P : Program) (w : World) :
    (results fn tmps).run P w =
      ((asAddr (tmps.getD p undef)).run P w).andThen fun a w₁ => ((loadVar ty a).run P w₁).andThen fun x w₂ => .ok (.tuple #[x, tmps.getD u undef, tmps.getD v undef]) w₂ := by
  simp only [results, h]
  simp [Sem.run_bind, Result.andThen]
set_option maxRecDepth 20000 in
theorem ret_cell2 {P : Program} {fn : Func} {p u v : Tmp} {ty t : TypeId} {R : Ending → World → Prop} {a : Act} {w : World} {g : Nat} {cs : Array Value} {d : TypeDesc} (h : fn.results = #[.cell p ty, .tmp u, .tmp v]) (hd : a.defers = [])
    (hp : a.tmps.getD p undef = .pointer (some ⟨g, 0, none⟩)) (hg : Blk w g t cs) (hu : P.underlying ty = some d) (hs : (match d with | .struct _ | .array _ _ => true | _ => false) = true) (hi : (P.info? ty).map (·.size) = some cs.size)
    (hR : R (.returned (.tuple #[.agg cs, a.tmps.getD u undef, a.tmps.getD v undef])) w) : bodyPost P fn R .ret a w := by
  refine bodyPost_ret (v := .tuple #[.agg cs, a.tmps.getD u undef, a.tmps.getD v undef]) ?_ hd hR
  rw [results_cell_tmp2 h, hp]
  have e : (asAddr (.pointer (some ⟨g, 0, none⟩))).run P w = .ok ⟨g, 0, none⟩ w := rfl
  rw [e]
  simp only [Result.andThen]
  rw [run_loadVar_row w g t ty cs (0, 0) d hg hu hs hi]
def LastPost (w : World) (D : DiskM) (r : Ending) (w' : World) : Prop := r = .returned (.tuple #[.agg (lastM D).cells.toArray, .bool (lastIs D), .int .i64 (scanE D)]) ∧ Below w.heap.size w w'
set_option maxRecDepth 20000 in
theorem last_nil {D : DiskM} (h : scanL D = []) : lastM D = EntM.zero ∧ lastIs D = false := by unfold lastM lastIs; rw [h]; exact ⟨rfl, rfl⟩
set_option maxRecDepth 20000 in
theorem last_at {D : DiskM} {n : Nat} (h : (scanL D).length = n + 1) : (scanL D)[n]? = some (lastM D) ∧ lastIs D = true := by
  constructor
  · unfold lastM
    rw [List.getLastD_eq_getLast?, List.getLast?_eq_getElem?, h]
    show _ = some (((scanL D)[n]?).getD _)
    rw [List.getElem?_eq_getElem (by omega)]
    rfl
  · unfold lastIs
    cases hl : scanL D
    · rw [hl] at h; simp at h
    · rfl
set_option maxRecDepth 20000 in
set_option maxHeartbeats 2000000 in
theorem eLast_of {w : World} {b : Nat} {D : DiskM} (hS : Calls Try.prog 35 #[.pointer (some ⟨b, 0, none⟩)] (w.alloc (.cells #[.int .i64 0, .int .i64 0, .int .i64 0, .int .i64 0, .string ⟨#[]⟩] 59)) (ScanPost 59 (w.alloc (.cells #[.int .i64 0, .int .i64 0, .int .i64 0, .int .i64 0, .string ⟨#[]⟩] 59)) D)) : Calls Try.prog 21 #[.pointer (some ⟨b, 0, none⟩)] w (LastPost w D) := by
  have HS := hide hS
  clear hS
  have HB0 := hide (Blk.new w 59 EntM.zero.cells.toArray)
  have HW0 := hide ((Below.refl w.heap.size w).alloc (Nat.le_refl _) (.cells #[.int .i64 0, .int .i64 0, .int .i64 0, .int .i64 0, .string ⟨#[]⟩] 59))
  go_enter Try.func21, Try.ntmps21
  go_wp2_with fail
  refine HS.out.mono ?_
  rintro r w1 ⟨v, rfl, hb1, hr1, ho1⟩
  have HR := hide hr1
  have HB1 := hide (HB0.out.below hb1 HB0.out.lt)
  have HW1 := hide (HW0.out.trans (hb1.mono HW0.out.size))
  have HZR : Hid (Blk (w1.setRow w.heap.size EntM.zero.cells.toArray) w.heap.size 59 EntM.zero.cells.toArray) := hide (setRow_heap _ _ _ _ _ _ HB1.out)
  have HZW := hide (below_setRow HW1.out (Nat.le_refl _) EntM.zero.cells.toArray)
  obtain ⟨A, c, rfl, hc⟩ := row_slice hr1
  have HSN : Hid (scanE D ≠ 0 → scanL D = []) := hide (fun h => by unfold scanL; rw [if_neg h])
  clear hb1 hr1 ho1
  by_cases hf : scanE D = 0
  · rw [hf]
    have HF := hide hf
    clear hf
    cases hl : (scanL D).length with
    | zero =>
      have HN := hide (last_nil (List.eq_nil_of_length_eq_zero hl))
      clear hl hc
      go_wp2_with (first | ((with_reducible show wpList _ _ _ (⟨some 19, _, _, _, _, _⟩ :: _) _ _); refine wpList_build rfl _ _ rfl (by kernel_rfl) ?_) | ((with_reducible show wpList _ _ _ (⟨none, _, _, _, _, _⟩ :: _) _ _); refine wpList_store_row rfl _ _ _ rfl w.heap.size EntM.zero.cells.toArray rfl (by kernel_rfl) 59 _ HB1.out (by kernel_rfl) rfl (by kernel_rfl) ?_))
      exact ret_cell2 rfl rfl rfl HZR.out Try.underlying59 rfl (ent_info _) ⟨by rw [HN.out.1, HN.out.2, HF.out]; rfl, HZW.out⟩
    | succ m =>
      rw [hl] at HR hc
      have HRR : Hid (Blk (w1.setRow w.heap.size (lastM D).cells.toArray) w.heap.size 59 (lastM D).cells.toArray) := hide (setRow_heap _ _ _ _ _ _ HB1.out)
      have HRW := hide (below_setRow HW1.out (Nat.le_refl _) (lastM D).cells.toArray)
      obtain ⟨hy, HIS⟩ := last_at hl
      obtain ⟨g, c', he, _, hgl, _, hcell⟩ := row_form HR.out (by omega)
      obtain ⟨rfl, -⟩ : A = some ⟨g, 0, none⟩ ∧ True := by
        simp only [Value.slice.injEq] at he
        exact ⟨he.1, trivial⟩
      have hm8 : m < 8 := by have h1 := scanTo_len D 8; have h2 : scanL D = scanTo D 8 := by { unfold scanL; rw [if_pos HF.out] }; rw [h2] at hl; omega
      have hm0 : ¬ ((m : Int) + 1 = 0) := by omega
      have hc5 : ∀ j, j < 5 → w1.cell? ⟨g, m * 5 + j, none⟩ = (lastM D).cells[j]? := fun j hj => by
        rw [hcell _ (by omega), ecells_get _ _ _ hy j hj]
      have y0 : w1.cell? ⟨g, m * 5, none⟩ = some (.int .i64 (lastM D).kind) := hc5 0 (by omega)
      have y1 : w1.cell? ⟨g, m * 5 + 1, none⟩ = some (.int .i64 (lastM D).number) := hc5 1 (by omega)
      have y2 : w1.cell? ⟨g, m * 5 + 2, none⟩ = some (.int .i64 (lastM D).slot) := hc5 2 (by omega)
      have y3 : w1.cell? ⟨g, m * 5 + 3, none⟩ = some (.int .i64 (lastM D).size) := hc5 3 (by omega)
      have y4 : w1.cell? ⟨g, m * 5 + 4, none⟩ = some (.string (lastM D).sum) := hc5 4 (by omega)
      have HIS := hide HIS
      clear he hcell hc5 hy hl
      go_wp2_with ((with_reducible show wpList _ _ _ (⟨none, _, _, _, _, _⟩ :: _) _ _); refine wpList_store_row rfl _ _ _ rfl w.heap.size (lastM D).cells.toArray rfl (by kernel_rfl) 59 _ HB1.out (ent_info _) rfl (by kernel_rfl) ?_)
      exact ret_cell2 rfl rfl rfl HRR.out Try.underlying59 rfl (ent_info _) ⟨by rw [HIS.out, HF.out]; rfl, HRW.out⟩
  · have HN := hide (last_nil (HSN.out hf))
    obtain ⟨f, hfe⟩ : ∃ f, scanE D = f := ⟨_, rfl⟩
    have HFE := hide hfe
    rw [hfe]
    rw [hfe] at hf
    clear hfe
    go_wp2_with (first | ((with_reducible show wpList _ _ _ (⟨some 19, _, _, _, _, _⟩ :: _) _ _); refine wpList_build rfl _ _ rfl (by kernel_rfl) ?_) | ((with_reducible show wpList _ _ _ (⟨none, _, _, _, _, _⟩ :: _) _ _); refine wpList_store_row rfl _ _ _ rfl w.heap.size EntM.zero.cells.toArray rfl (by kernel_rfl) 59 _ HB1.out (by kernel_rfl) rfl (by kernel_rfl) ?_))
    exact ret_cell2 rfl rfl rfl HZR.out Try.underlying59 rfl (ent_info _) ⟨by rw [HN.out.1, HN.out.2, HFE.out]; rfl, HZW.out⟩
set_option maxRecDepth 20000 in
theorem eLast_calls {w : World} {b : Nat} {F : Nat → Prop} {D : DiskM} (h : DiskAt w b F D) (hW : D.waits.length ≤ 4294967290) : Calls Try.prog 21 #[.pointer (some ⟨b, 0, none⟩)] w (LastPost w D) :=
  eLast_of (eScan_calls (h.alloc _) hW)
end Go.Proofs.Ytacbnoagdlelgaa

/- Chapter 5: what Append keeps while it works. No program's text. -/
namespace Go.Proofs.Ytacbnoagdlelgaa
open Go.RowKit Zb

/-- a disk's place in memory, the program's or the document's -/
structure Mv (At : World → Nat → (Nat → Prop) → DiskM → Prop) : Prop where
  mv : ∀ {w w1 : World} {b : Nat} {F : Nat → Prop} {D : DiskM}, At w b F D → w.heap.size ≤ w1.heap.size → (∀ x, F x → w1.heap[x]? = w.heap[x]?) → At w1 b F D
  lt : ∀ {w : World} {b : Nat} {F : Nat → Prop} {D : DiskM}, At w b F D → ∀ x, F x → x < w.heap.size
set_option maxRecDepth 20000 in
theorem mvD : Mv DiskAt := ⟨fun h => h.moved, fun h => h.lt⟩
def MPost (At : World → Nat → (Nat → Prop) → DiskM → Prop) (F : Nat → Prop) (w : World) (b : Nat) (v : Value) (D' : DiskM) (e : Ending) (w' : World) : Prop :=
  e = .returned v ∧ Turned F w w' ∧ ∃ F', (∀ x, F' x → F x ∨ w.heap.size ≤ x) ∧ At w' b F' D'
structure ApS (At : World → Nat → (Nat → Prop) → DiskM → Prop) (T : TypeId) (w wr : World) (b : Nat) (F : Nat → Prop) (D : DiskM) (e : EntM) : Prop where
  tur : Turned F w wr
  dk : ∃ F', (∀ x, F' x → (F x ∨ w.heap.size ≤ x) ∧ x ≠ w.heap.size ∧ x ≠ w.heap.size + 1) ∧ At wr b F' D
  b3 : Blk wr w.heap.size T e.cells.toArray
  b4 : Blk wr (w.heap.size + 1) T EntM.zero.cells.toArray
section
variable {At : World → Nat → (Nat → Prop) → DiskM → Prop} {T : TypeId} {w wr w1 : World} {b : Nat} {F : Nat → Prop} {D D' : DiskM} {e : EntM}
set_option maxRecDepth 20000 in
theorem ApS.start (M : Mv At) (h : At w b F D) (T : TypeId) (e : EntM) : ApS At T w ((w.alloc (.cells e.cells.toArray T)).alloc (.cells EntM.zero.cells.toArray T)) b F D e := by
  have h1 : Below w.heap.size w ((w.alloc (.cells e.cells.toArray T)).alloc (.cells EntM.zero.cells.toArray T)) := ((Below.refl _ _).alloc (Nat.le_refl _) _).alloc (by simp) _
  refine ⟨Turned.of_below h1, ⟨F, fun x hx => ⟨.inl hx, ?_⟩, M.mv h h1.size fun x hx => h1.block x (M.lt h x hx)⟩, (Blk.new w T _).alloc _, ?_⟩
  · have := M.lt h x hx; omega
  · have := Blk.new (w.alloc (.cells e.cells.toArray T)) T EntM.zero.cells.toArray
    simpa using this
set_option maxRecDepth 20000 in
theorem ApS.sz (h : ApS At T w wr b F D e) : w.heap.size + 1 < wr.heap.size := h.b4.lt
set_option maxRecDepth 20000 in
theorem ApS.below (M : Mv At) (h : ApS At T w wr b F D e) (k : Below wr.heap.size wr w1) : ApS At T w w1 b F D e := by
  obtain ⟨F', hF, hd⟩ := h.dk
  exact ⟨h.tur.then_below k, ⟨F', hF, M.mv hd k.size fun x hx => k.block x (M.lt hd x hx)⟩, h.b3.below k h.b3.lt, h.b4.below k h.b4.lt⟩
set_option maxRecDepth 20000 in
theorem ApS.num (M : Mv At) (h : ApS At T w wr b F D e) (n : Int) : ApS At T w (wr.setCell ⟨w.heap.size, 1, none⟩ (.int .i64 n)) b F D { e with number := n } := by
  obtain ⟨F', hF, hd⟩ := h.dk
  refine ⟨h.tur.setCell (.inr (Nat.le_refl _)) _, ⟨F', hF, M.mv hd (by simp [World.setCell]) fun x hx => Below.heap_setCell _ _ _ _ (hF x hx).2.1⟩, h.b3.set_ 1 _, ?_⟩
  exact (Below.heap_setCell _ _ _ _ (by simp)).trans h.b4
set_option maxRecDepth 20000 in
theorem ApS.call {f : FuncId} {args : Array Value} {v : Value} (h : ApS At T w wr b F D e) (hc : ∀ F', At wr b F' D → Calls Try.prog f args wr (MPost At F' wr b v D')) : Calls Try.prog f args wr fun r w' => r = .returned v ∧ Hid (ApS At T w w' b F D' e) := by
  obtain ⟨F', hF, hd⟩ := h.dk
  have hs := h.tur.size
  have hz := h.sz
  refine (hc F' hd).mono ?_
  rintro r w' ⟨rfl, tu, F2, hF2, hd2⟩
  refine ⟨rfl, hide ⟨h.tur.trans tu fun x hx => (hF x hx).1, ⟨F2, fun x hx => ?_, hd2⟩, (tu.block _ (by omega) fun hx => (hF _ hx).2.1 rfl).trans h.b3, (tu.block _ (by omega) fun hx => (hF _ hx).2.2 rfl).trans h.b4⟩⟩
  rcases hF2 x hx with h1 | h1
  · exact hF x h1
  · exact ⟨.inr (by omega), by omega, by omega⟩
set_option maxRecDepth 20000 in
theorem ApS.fin (M : Mv At) (h : ApS At T w wr b F D e) (cs : Array Value) : Turned F w (wr.setRow (w.heap.size + 1) cs) ∧ ∃ F', (∀ x, F' x → F x ∨ w.heap.size ≤ x) ∧ At (wr.setRow (w.heap.size + 1) cs) b F' D := by
  obtain ⟨F', hF, hd⟩ := h.dk
  have hb : Below (w.heap.size + 1) wr (wr.setRow (w.heap.size + 1) cs) := below_setRow (Below.refl _ _) (Nat.le_refl _) cs
  refine ⟨h.tur.trans (G := fun x => w.heap.size ≤ x) ⟨hb.os, hb.tape, hb.output, hb.size, fun i hi hg => hb.block i (by omega)⟩ (fun x hx => .inr hx), F', fun x hx => (hF x hx).1, M.mv hd hb.size fun x hx => setRow_other _ _ _ _ (hF x hx).2.2⟩
end
/-! ### what Append answers -/
section
variable {D : DiskM} {e : EntM}
set_option maxRecDepth 20000 in
theorem write_waits (D : DiskM) (i : Int) (s : ByteArray) : (D.write i s).1.waits.length ≤ D.waits.length + 1 := by
  have hc : ∀ E : DiskM, E.cut.1.waits.length ≤ E.waits.length := fun E => by
    unfold DiskM.cut DiskM.fail
    split
    · exact Nat.le_refl _
    · split
      · exact Nat.le_refl _
      · split
        · exact Nat.le_refl _
        · exact Nat.zero_le _
  unfold DiskM.write
  split
  · simp
  · split
    · simp
    · refine Nat.le_trans (hc _) ?_
      simp
set_option maxRecDepth 20000 in
theorem ap_err (h : scanE D ≠ 0) : appendM D e = (D, EntM.zero, scanE D) := by unfold appendM; rw [if_pos h]
set_option maxRecDepth 20000 in
theorem ap_full (h : scanE D = 0) (h1 : (lastM D).number = 4294967295) : appendM D e = (D, EntM.zero, 6) := by unfold appendM; rw [if_neg (by simpa using h), if_pos h1]
set_option maxRecDepth 20000 in
theorem ap_bad (h : scanE D = 0) (h1 : (lastM D).number ≠ 4294967295) (h2 : ({ e with number := (lastM D).number + 1 } : EntM).right = false) : appendM D e = (D, EntM.zero, 1) := by
  unfold appendM; rw [if_neg (by simpa using h), if_neg h1]; dsimp only; rw [if_pos h2]
set_option maxRecDepth 20000 in
theorem ap_write (h : scanE D = 0) (h1 : (lastM D).number ≠ 4294967295) {E : EntM} (hE : { e with number := (lastM D).number + 1 } = E) (h2 : E.right = true) (h3 : (D.write (E.number % 8) E.block).2 ≠ 0) : appendM D e = ((D.write (E.number % 8) E.block).1, EntM.zero, (D.write (E.number % 8) E.block).2) := by
  subst hE
  unfold appendM; rw [if_neg (by simpa using h), if_neg h1]; dsimp only; rw [if_neg (by rw [h2]; decide), if_pos h3]
set_option maxRecDepth 20000 in
theorem ap_sync (h : scanE D = 0) (h1 : (lastM D).number ≠ 4294967295) {E : EntM} (hE : { e with number := (lastM D).number + 1 } = E) (h2 : E.right = true) (h3 : (D.write (E.number % 8) E.block).2 = 0) (h4 : (D.write (E.number % 8) E.block).1.sync.2 ≠ 0) :
    appendM D e = ((D.write (E.number % 8) E.block).1.sync.1, EntM.zero, (D.write (E.number % 8) E.block).1.sync.2) := by
  subst hE
  unfold appendM; rw [if_neg (by simpa using h), if_neg h1]; dsimp only; rw [if_neg (by rw [h2]; decide), if_neg (by simpa using h3), if_pos h4]
set_option maxRecDepth 20000 in
theorem ap_ok (h : scanE D = 0) (h1 : (lastM D).number ≠ 4294967295) {E : EntM} (hE : { e with number := (lastM D).number + 1 } = E) (h2 : E.right = true) (h3 : (D.write (E.number % 8) E.block).2 = 0) (h4 : (D.write (E.number % 8) E.block).1.sync.2 = 0) :
    appendM D e = ((D.write (E.number % 8) E.block).1.sync.1, E, 0) := by
  subst hE
  unfold appendM; rw [if_neg (by simpa using h), if_neg h1]; dsimp only; rw [if_neg (by rw [h2]; decide), if_neg (by simpa using h3), if_neg (by simpa using h4)]
set_option maxRecDepth 20000 in
theorem insE_all {p : EntM → Prop} {e : EntM} (he : p e) : ∀ L : List EntM, (∀ x ∈ L, p x) → ∀ x ∈ insE L e, p x
  | [], _, x, hx => by simp [insE] at hx; rw [hx]; exact he
  | y :: l, hL, x, hx => by
    unfold insE at hx
    split at hx
    · rcases List.mem_cons.1 hx with rfl | hx
      · exact he
      · exact hL x hx
    · rcases List.mem_cons.1 hx with rfl | hx
      · exact hL _ (by simp)
      · exact insE_all he l (fun z hz => hL z (by simp [hz])) x hx
set_option maxRecDepth 20000 in
theorem scanTo_right (D : DiskM) : ∀ n, ∀ x ∈ scanTo D n, RightE x
  | 0, x, hx => by simp [scanTo] at hx
  | n + 1, x, hx => by
    unfold scanTo scanStep at hx
    split at hx
    · next h =>
      rw [Bool.and_eq_true] at h
      exact insE_all (p := RightE) (parse_right h.1).1 _ (scanTo_right D n) x hx
    · exact scanTo_right D n x hx
set_option maxRecDepth 20000 in
theorem lastM_range (D : DiskM) : 0 ≤ (lastM D).number ∧ (lastM D).number ≤ 4294967295 := by
  unfold lastM scanL
  split
  · rw [List.getLastD_eq_getLast?]
    cases h : (scanTo D 8).getLast? with
    | none => decide
    | some x =>
      have := scanTo_right D 8 x (List.mem_of_getLast? h)
      exact ⟨by have := this.n0; show 0 ≤ x.number; omega, this.n1⟩
  · decide
end
end Go.Proofs.Ytacbnoagdlelgaa

/- Chapter 5: Append, walked. -/
namespace Go.Proofs.Ytacbnoagdlelgaa
open Go.RowKit Zb

set_option maxRecDepth 20000 in
theorem ApS.callD {T : TypeId} {w wr : World} {b : Nat} {F : Nat → Prop} {D D' : DiskM} {e : EntM} {f : FuncId} {args : Array Value} {v : Value} (h : ApS DiskAt T w wr b F D e) (hc : ∀ F', DiskAt wr b F' D → Calls Try.prog f args wr (DPost F' wr b v D')) : Calls Try.prog f args wr fun r w' => r = .returned v ∧ Hid (ApS DiskAt T w w' b F D' e) := h.call hc
set_option maxRecDepth 20000 in
set_option maxHeartbeats 1000000 in
theorem eAppend_calls {w : World} {b : Nat} {F : Nat → Prop} {D : DiskM} (h : DiskAt w b F D) (hW : D.waits.length ≤ 4294967200) (e : EntM) : Calls Try.prog 28 #[.pointer (some ⟨b, 0, none⟩), .agg #[.int .i64 e.kind, .int .i64 e.number, .int .i64 e.slot, .int .i64 e.size, .string e.sum]] w (DPost F w b (.tuple #[.agg (appendM D e).2.1.cells.toArray, .int .i64 (appendM D e).2.2]) (appendM D e).1) := by
  have HA0 : Hid (ApS DiskAt 59 w ((w.alloc (.cells #[.int .i64 e.kind, .int .i64 e.number, .int .i64 e.slot, .int .i64 e.size, .string e.sum] 59)).alloc (.cells #[.int .i64 0, .int .i64 0, .int .i64 0, .int .i64 0, .string ⟨#[]⟩] 59)) b F D e) := hide (ApS.start mvD h 59 e)
  have HL : Hid (Calls Try.prog 21 #[.pointer (some ⟨b, 0, none⟩)] ((w.alloc (.cells #[.int .i64 e.kind, .int .i64 e.number, .int .i64 e.slot, .int .i64 e.size, .string e.sum] 59)).alloc (.cells #[.int .i64 0, .int .i64 0, .int .i64 0, .int .i64 0, .string ⟨#[]⟩] 59)) (LastPost ((w.alloc (.cells #[.int .i64 e.kind, .int .i64 e.number, .int .i64 e.slot, .int .i64 e.size, .string e.sum] 59)).alloc (.cells #[.int .i64 0, .int .i64 0, .int .i64 0, .int .i64 0, .string ⟨#[]⟩] 59)) D)) := hide (by
    obtain ⟨F', _, hd⟩ := HA0.out.dk
    exact eLast_calls hd (by omega))
  have HR := hide (lastM_range D)
  clear h
  go_enter Try.func28, Try.ntmps28
  go_wp2_with fail
  refine HL.out.mono ?_
  rintro r w1 ⟨rfl, hb1⟩
  have HA1 := hide (HA0.out.below mvD hb1)
  clear hb1
  have HZ6 : Hid (Blk (w1.alloc (.cells #[.int .i64 0, .int .i64 0, .int .i64 0, .int .i64 0, .string ⟨#[]⟩] 59)) w1.heap.size 59 EntM.zero.cells.toArray) := hide (Blk.new w1 59 _)
  have HB6 : Hid (Blk ((w1.alloc (.cells #[.int .i64 0, .int .i64 0, .int .i64 0, .int .i64 0, .string ⟨#[]⟩] 59)).setRow w1.heap.size (lastM D).cells.toArray) w1.heap.size 59 (lastM D).cells.toArray) := hide (setRow_heap _ _ _ _ _ _ HZ6.out)
  have HA2 : Hid (ApS DiskAt 59 w ((w1.alloc (.cells #[.int .i64 0, .int .i64 0, .int .i64 0, .int .i64 0, .string ⟨#[]⟩] 59)).setRow w1.heap.size (lastM D).cells.toArray) b F D e) := hide (HA1.out.below mvD (below_setRow ((Below.refl _ _).alloc (Nat.le_refl _) _) (Nat.le_refl _) _))
  have HB4 := hide (HA2.out.b4)
  have z6 : ((w1.alloc (.cells #[.int .i64 0, .int .i64 0, .int .i64 0, .int .i64 0, .string ⟨#[]⟩] 59)).setRow w1.heap.size (lastM D).cells.toArray).cell? ⟨w1.heap.size, 1, none⟩ = some (.int .i64 (lastM D).number) := HB6.out.cell 1
  have HZR : Hid (Blk (((w1.alloc (.cells #[.int .i64 0, .int .i64 0, .int .i64 0, .int .i64 0, .string ⟨#[]⟩] 59)).setRow w1.heap.size (lastM D).cells.toArray).setRow (w.heap.size + 1) EntM.zero.cells.toArray) (w.heap.size + 1) 59 EntM.zero.cells.toArray) := hide (setRow_heap _ _ _ _ _ _ HB4.out)
  by_cases hf : scanE D = 0
  · rw [hf]
    have HF := hide hf
    clear hf
    by_cases hn : (lastM D).number = 4294967295
    · have HAP := hide (ap_full (e := e) HF.out hn)
      go_wp2_with (first | ((with_reducible show wpList _ _ _ (⟨none, _, _, _, _, _⟩ :: _) _ _); refine wpList_store_row rfl _ _ _ rfl w1.heap.size (lastM D).cells.toArray rfl rfl 59 _ HZ6.out (ent_info _) rfl (by kernel_rfl) ?_; change wpList _ _ _ _ _ ((w1.alloc (.cells #[.int .i64 0, .int .i64 0, .int .i64 0, .int .i64 0, .string ⟨#[]⟩] 59)).setRow w1.heap.size (lastM D).cells.toArray); generalize ((w1.alloc (.cells #[.int .i64 0, .int .i64 0, .int .i64 0, .int .i64 0, .string ⟨#[]⟩] 59)).setRow w1.heap.size (lastM D).cells.toArray) = w2 at *) | ((with_reducible show wpList _ _ _ (⟨some 25, _, _, _, _, _⟩ :: _) _ _); refine wpList_build rfl _ _ rfl (by kernel_rfl) ?_) | ((with_reducible show wpList _ _ _ (⟨none, _, _, _, _, _⟩ :: _) _ _); refine wpList_store_row rfl _ _ _ rfl (w.heap.size + 1) EntM.zero.cells.toArray rfl (by kernel_rfl) 59 _ HB4.out (by kernel_rfl) rfl (by kernel_rfl) ?_))
      exact ret_cell rfl rfl rfl HZR.out Try.underlying59 rfl (ent_info _) (by rw [HAP.out]; exact ⟨rfl, HA2.out.fin mvD _⟩)
    · have HN := hide hn
      obtain ⟨N, hNe⟩ : ∃ N, (lastM D).number + 1 = N := ⟨_, rfl⟩
      obtain ⟨E, hE⟩ : ∃ E : EntM, { e with number := N } = E := ⟨_, rfl⟩
      have hNr : 1 ≤ N ∧ N ≤ 4294967296 := by have := HR.out; omega
      have hwr : IntKind.i64.wrap ((lastM D).number + 1) = N := by rw [IntWalk.i64_in _ (by have := HR.out; omega)]; exact hNe
      have HA3 : Hid (ApS DiskAt 59 w (((w1.alloc (.cells #[.int .i64 0, .int .i64 0, .int .i64 0, .int .i64 0, .string ⟨#[]⟩] 59)).setRow w1.heap.size (lastM D).cells.toArray).setCell ⟨w.heap.size, 1, none⟩ (.int .i64 N)) b F D E) := hide (hE ▸ HA2.out.num mvD N)
      have eN : E.number = N := by rw [← hE]
      have HEE : Hid ({ e with number := (lastM D).number + 1 } = E) := hide (by rw [hNe]; exact hE)
      have HTM : Hid (N % 8 = E.number % 8) := hide (by rw [eN])
      have HBU := hide (eBuild_calls E)
      have s2 : ((w1.alloc (.cells #[.int .i64 0, .int .i64 0, .int .i64 0, .int .i64 0, .string ⟨#[]⟩] 59)).setRow w1.heap.size (lastM D).cells.toArray).frozen? ⟨w.heap.size, 1, none⟩ = false := HA2.out.b3.frozen 1
      have sc : ∃ u, ((w1.alloc (.cells #[.int .i64 0, .int .i64 0, .int .i64 0, .int .i64 0, .string ⟨#[]⟩] 59)).setRow w1.heap.size (lastM D).cells.toArray).cell? ⟨w.heap.size, 1, none⟩ = some u := ⟨_, HA2.out.b3.cell 1⟩
      obtain ⟨u1, hu1⟩ := sc
      obtain ⟨t0, t1, t2, t3, t4⟩ := ent_all HA3.out.b3
      rw [eN] at t1 HBU
      have HEN := hide eN
      clear hE hNe eN
      go_wp2_with (first | ((with_reducible show wpList _ _ _ (⟨none, _, _, _, _, _⟩ :: _) _ _); refine wpList_store_row rfl _ _ _ rfl w1.heap.size (lastM D).cells.toArray rfl rfl 59 _ HZ6.out (ent_info _) rfl (by kernel_rfl) ?_; change wpList _ _ _ _ _ ((w1.alloc (.cells #[.int .i64 0, .int .i64 0, .int .i64 0, .int .i64 0, .string ⟨#[]⟩] 59)).setRow w1.heap.size (lastM D).cells.toArray); generalize ((w1.alloc (.cells #[.int .i64 0, .int .i64 0, .int .i64 0, .int .i64 0, .string ⟨#[]⟩] 59)).setRow w1.heap.size (lastM D).cells.toArray) = w2 at *))
      refine (HBU.out _).mono ?_
      rintro r w3 ⟨rfl, hb3⟩
      have HA4 := hide (HA3.out.below mvD hb3)
      clear hb3 t0 t1 t2 t3 t4 s2 hu1 z6 hwr
      cases hr : E.right
      · have HAP := hide (ap_bad HF.out HN.out (HEE.out ▸ hr))
        have e1 : buildB E = ⟨#[]⟩ := by unfold buildB; rw [hr]; rfl
        have e2 : buildE E = 1 := by unfold buildE; rw [hr]; rfl
        have HB4 := hide (HA4.out.b4)
        have HZR : Hid (Blk (w3.setRow (w.heap.size + 1) EntM.zero.cells.toArray) (w.heap.size + 1) 59 EntM.zero.cells.toArray) := hide (setRow_heap _ _ _ _ _ _ HB4.out)
        rw [e1, e2]
        clear e1 e2 hr
        go_wp2_with (first | ((with_reducible show wpList _ _ _ (⟨some 49, _, _, _, _, _⟩ :: _) _ _); refine wpList_build rfl _ _ rfl (by kernel_rfl) ?_) | ((with_reducible show wpList _ _ _ (⟨none, _, _, _, _, _⟩ :: _) _ _); refine wpList_store_row rfl _ _ _ rfl (w.heap.size + 1) EntM.zero.cells.toArray rfl (by kernel_rfl) 59 _ HB4.out (by kernel_rfl) rfl (by kernel_rfl) ?_))
        exact ret_cell rfl rfl rfl HZR.out Try.underlying59 rfl (ent_info _) (by rw [HAP.out]; exact ⟨rfl, HA4.out.fin mvD _⟩)
      · have e1 : buildB E = E.block := by unfold buildB; rw [hr]; rfl
        have e2 : buildE E = 0 := by unfold buildE; rw [hr]; rfl
        have HRT := hide hr
        rw [e1, e2]
        have v1 : w3.cell? ⟨w.heap.size, 1, none⟩ = some (.int .i64 N) := by rw [← HEN.out]; exact HA4.out.b3.cell 1
        clear e1 e2 hr
        obtain ⟨V, hV⟩ : ∃ V, D.write (N % 8) E.block = V := ⟨_, rfl⟩
        have HWC := hide (HA4.out.callD (fun F' hd => dwrite_calls hd (by omega) (N % 8) E.block))
        rw [hV] at HWC
        go_wp2_with fail
        refine HWC.out.mono ?_
        rintro r w4 ⟨rfl, HA5⟩
        have HV : Hid (D.write (E.number % 8) E.block = V) := hide (by rw [← HTM.out]; exact hV)
        have hVW : V.1.waits.length ≤ 4294967290 := by rw [← hV]; have := write_waits D (N % 8) E.block; omega
        clear hV v1
        have HB4 := hide (HA5.out.b4)
        have HZR : Hid (Blk (w4.setRow (w.heap.size + 1) EntM.zero.cells.toArray) (w.heap.size + 1) 59 EntM.zero.cells.toArray) := hide (setRow_heap _ _ _ _ _ _ HB4.out)
        by_cases h3 : V.2 = 0
        · have H3 := hide h3
          rw [h3]
          clear h3
          have HSC := hide (HA5.out.callD (fun F' hd => dsync_calls hd hVW))
          go_wp2_with fail
          refine HSC.out.mono ?_
          rintro r w5 ⟨rfl, HA6⟩
          have HB4 := hide (HA6.out.b4)
          obtain ⟨t0, t1, t2, t3, t4⟩ := ent_all HA6.out.b3
          by_cases h4 : V.1.sync.2 = 0
          · have HAP : Hid (appendM D e = (V.1.sync.1, E, 0)) := hide (by
              have := ap_ok HF.out HN.out HEE.out HRT.out (by rw [HV.out]; exact H3.out) (by rw [HV.out]; exact h4)
              rw [HV.out] at this; exact this)
            have HRR : Hid (Blk (w5.setRow (w.heap.size + 1) E.cells.toArray) (w.heap.size + 1) 59 E.cells.toArray) := hide (setRow_heap _ _ _ _ _ _ HB4.out)
            rw [h4]
            clear h4
            go_wp2_with ((with_reducible show wpList _ _ _ (⟨none, _, _, _, _, _⟩ :: _) _ _); refine wpList_store_row rfl _ _ _ rfl (w.heap.size + 1) E.cells.toArray rfl rfl 59 _ HB4.out (ent_info _) rfl (by kernel_rfl) ?_)
            exact ret_cell rfl rfl rfl HRR.out Try.underlying59 rfl (ent_info _) (by rw [HAP.out]; exact ⟨rfl, HA6.out.fin mvD _⟩)
          · have HAP : Hid (appendM D e = (V.1.sync.1, EntM.zero, V.1.sync.2)) := hide (by
              have := ap_sync HF.out HN.out HEE.out HRT.out (by rw [HV.out]; exact H3.out) (by rw [HV.out]; exact h4)
              rw [HV.out] at this; exact this)
            have HZR : Hid (Blk (w5.setRow (w.heap.size + 1) EntM.zero.cells.toArray) (w.heap.size + 1) 59 EntM.zero.cells.toArray) := hide (setRow_heap _ _ _ _ _ _ HB4.out)
            obtain ⟨f, hfe⟩ : ∃ f, V.1.sync.2 = f := ⟨_, rfl⟩
            have HFE := hide hfe
            rw [hfe] at h4 ⊢
            clear hfe
            go_wp2_with (first | ((with_reducible show wpList _ _ _ (⟨some 49, _, _, _, _, _⟩ :: _) _ _); refine wpList_build rfl _ _ rfl (by kernel_rfl) ?_) | ((with_reducible show wpList _ _ _ (⟨none, _, _, _, _, _⟩ :: _) _ _); refine wpList_store_row rfl _ _ _ rfl (w.heap.size + 1) EntM.zero.cells.toArray rfl (by kernel_rfl) 59 _ HB4.out (by kernel_rfl) rfl (by kernel_rfl) ?_))
            exact ret_cell rfl rfl rfl HZR.out Try.underlying59 rfl (ent_info _) (by rw [HAP.out, HFE.out]; exact ⟨rfl, HA6.out.fin mvD _⟩)
        · have HAP : Hid (appendM D e = (V.1, EntM.zero, V.2)) := hide (by
            have := ap_write HF.out HN.out HEE.out HRT.out (by rw [HV.out]; exact h3)
            rw [HV.out] at this; exact this)
          obtain ⟨f, hfe⟩ : ∃ f, V.2 = f := ⟨_, rfl⟩
          have HFE := hide hfe
          rw [hfe] at h3 ⊢
          clear hfe
          go_wp2_with (first | ((with_reducible show wpList _ _ _ (⟨some 49, _, _, _, _, _⟩ :: _) _ _); refine wpList_build rfl _ _ rfl (by kernel_rfl) ?_) | ((with_reducible show wpList _ _ _ (⟨none, _, _, _, _, _⟩ :: _) _ _); refine wpList_store_row rfl _ _ _ rfl (w.heap.size + 1) EntM.zero.cells.toArray rfl (by kernel_rfl) 59 _ HB4.out (by kernel_rfl) rfl (by kernel_rfl) ?_))
          exact ret_cell rfl rfl rfl HZR.out Try.underlying59 rfl (ent_info _) (by rw [HAP.out, HFE.out]; exact ⟨rfl, HA5.out.fin mvD _⟩)
  · have HAP := hide (ap_err (e := e) hf)
    obtain ⟨f, hfe⟩ : ∃ f, scanE D = f := ⟨_, rfl⟩
    have HFE := hide hfe
    rw [hfe] at hf ⊢
    clear hfe
    go_wp2_with (first | ((with_reducible show wpList _ _ _ (⟨none, _, _, _, _, _⟩ :: _) _ _); refine wpList_store_row rfl _ _ _ rfl w1.heap.size (lastM D).cells.toArray rfl rfl 59 _ HZ6.out (ent_info _) rfl (by kernel_rfl) ?_; change wpList _ _ _ _ _ ((w1.alloc (.cells #[.int .i64 0, .int .i64 0, .int .i64 0, .int .i64 0, .string ⟨#[]⟩] 59)).setRow w1.heap.size (lastM D).cells.toArray); generalize ((w1.alloc (.cells #[.int .i64 0, .int .i64 0, .int .i64 0, .int .i64 0, .string ⟨#[]⟩] 59)).setRow w1.heap.size (lastM D).cells.toArray) = w2 at *) | ((with_reducible show wpList _ _ _ (⟨some 19, _, _, _, _, _⟩ :: _) _ _); refine wpList_build rfl _ _ rfl (by kernel_rfl) ?_) | ((with_reducible show wpList _ _ _ (⟨none, _, _, _, _, _⟩ :: _) _ _); refine wpList_store_row rfl _ _ _ rfl (w.heap.size + 1) EntM.zero.cells.toArray rfl (by kernel_rfl) 59 _ HB4.out (by kernel_rfl) rfl (by kernel_rfl) ?_))
    exact ret_cell rfl rfl rfl HZR.out Try.underlying59 rfl (ent_info _) (by rw [HAP.out, HFE.out]; exact ⟨rfl, HA2.out.fin mvD _⟩)
end Go.Proofs.Ytacbnoagdlelgaa

/- Chapter 5: entries held against one another; variables that hold an entry. -/
namespace Go.Proofs.Ytacbnoagdlelgaa.Zb
open Go.RowKit
/-- a drawn region's held word may be made stronger in its midst -/
theorem wpAnyH_weak {P : Program} {md : Region.Mode} {ops : Array Oper} {Q : Exit → Act → World → Prop} {S S' : World → Prop} (hS : ∀ w, S' w → S w) : ∀ {fuel : Nat} {listed : Array Bool} {a : Act} {w : World}, wpAnyH P md ops Q S' fuel listed a w → wpAnyH P md ops Q S fuel listed a w
  | 0, _, _, _, h => h
  | _ + 1, _, _, _, h => ⟨h.1, fun i hi => wpOp_mono (fun _ w' h' => ⟨hS w' h'.1, wpAnyH_weak hS h'.2⟩) (h.2 i hi)⟩
end Go.Proofs.Ytacbnoagdlelgaa.Zb
namespace Go.Proofs.Ytacbnoagdlelgaa
open Go.RowKit Zb

set_option maxRecDepth 20000 in
theorem eqFields_ent {P : Program} (w : World) (d : Nat) (tI tS : TypeId) (hI : P.underlying tI = some (.int .i64)) (hS : P.underlying tS = some .string) (fs : List Field)
    (hf : fs.map (fun f => (f.name == "_", f.type, f.offset)) = [(false, tI, 0), (false, tI, 1), (false, tI, 2), (false, tI, 3), (false, tS, 4)]) (p q : EntM) :
    (Op.eqFields (d + 1) p.cells.toArray q.cells.toArray fs).run P w = .ok (decide (p = q)) w := by
  have pI : P.plainKey tI = true := by unfold Program.plainKey; rw [hI]
  have pS : P.plainKey tS = true := by unfold Program.plainKey; rw [hS]
  have hl : fs.length = 5 := by have := congrArg List.length hf; simpa using this
  match fs, hl, hf with
  | [a, b, c, e, f], _, hf =>
    simp only [List.map_cons, List.map_nil, List.cons.injEq, Prod.mk.injEq, and_true] at hf
    obtain ⟨⟨a0, a1, a2⟩, ⟨b0, b1, b2⟩, ⟨c0, c1, c2⟩, ⟨e0, e1, e2⟩, ⟨f0, f1, f2⟩⟩ := hf
    have step : ∀ (g : Field) (l : List Field) (t : TypeId) (k : Nat) (u v : Value) (r : Bool), (g.name == "_") = false → g.type = t → g.offset = k → P.plainKey t = true → p.cells.toArray[k]? = some u → q.cells.toArray[k]? = some v → (Op.equalIn (d + 1) t u v).run P w = .ok r w →
        (Op.eqFields (d + 1) p.cells.toArray q.cells.toArray (g :: l)).run P w = if r then (Op.eqFields (d + 1) p.cells.toArray q.cells.toArray l).run P w else .ok false w := by
      intro g l t k u v r h0 h1 h2 hp hu hv hr
      subst h1; subst h2
      have hn : g.name ≠ "_" := by simpa using h0
      simp only [Op.eqFields, if_pos hn, Sem.run_bind, run_part_plain w hp hu, run_part_plain w hp hv, Result.andThen_ok, hr, Sem.run_ite, Sem.run_pure]
      cases r <;> rfl
    rw [step a _ tI 0 _ _ _ a0 a1 a2 pI rfl rfl (run_equalIn_int w d tI .i64 .i64 _ _ hI), step b _ tI 1 _ _ _ b0 b1 b2 pI rfl rfl (run_equalIn_int w d tI .i64 .i64 _ _ hI), step c _ tI 2 _ _ _ c0 c1 c2 pI rfl rfl (run_equalIn_int w d tI .i64 .i64 _ _ hI), step e _ tI 3 _ _ _ e0 e1 e2 pI rfl rfl (run_equalIn_int w d tI .i64 .i64 _ _ hI), step f _ tS 4 _ _ _ f0 f1 f2 pS rfl rfl (run_equalIn_string w d tS _ _ hS)]
    simp only [Op.eqFields, Sem.run_pure]
    obtain ⟨k, n, s, z, u⟩ := p
    obtain ⟨k', n', s', z', u'⟩ := q
    have hu : (u == u') = decide (u = u') := by
      obtain ⟨⟨x⟩⟩ := u
      obtain ⟨⟨y⟩⟩ := u'
      show ((⟨x⟩ : Array UInt8) == ⟨y⟩) = _
      by_cases h : x = y <;> simp [h]
    simp only [← beq_toListBytes, EntM.mk.injEq, hu]
    clear hu
    by_cases h1 : k = k' <;> by_cases h2 : n = n' <;> by_cases h3 : s = s' <;> by_cases h4 : z = z' <;> by_cases h5 : u = u' <;> simp [h1, h2, h3, h4, h5]
set_option maxRecDepth 20000 in
theorem ent_eql {P : Program} (T tI tS : TypeId) (w : World) (hT : P.underlying T = some (.struct (P.fieldsOf T))) (hp : P.stoodInHeld T = false) (hI : P.underlying tI = some (.int .i64)) (hS : P.underlying tS = some .string)
    (hf : (P.fieldsOf T).toList.map (fun f => (f.name == "_", f.type, f.offset)) = [(false, tI, 0), (false, tI, 1), (false, tI, 2), (false, tI, 3), (false, tS, 4)]) (p q : EntM) :
    (binOp .eql T (.agg p.cells.toArray) (.agg q.cells.toArray)).run P w = .ok (.bool (decide (p = q))) w ∧ (binOp .neq T (.agg p.cells.toArray) (.agg q.cells.toArray)).run P w = .ok (.bool (!decide (p = q))) w := by
  rw [run_eql_struct, run_neq_struct, run_equalIn_agg w 9999 T _ _ hT hp, eqFields_ent w 9998 tI tS hI hS _ hf]
  exact ⟨rfl, rfl⟩
set_option maxRecDepth 20000 in
theorem ent_wp_eq {P : Program} (T tI tS : TypeId) {o : Oper} {a : Act} {w : World} {K : Act → World → Prop} {Q : Exit → Act → World → Prop} (hT : P.underlying T = some (.struct (P.fieldsOf T))) (hp : P.stoodInHeld T = false) (hm : P.eqGuardType P.depth T = false) (hI : P.underlying tI = some (.int .i64)) (hS : P.underlying tS = some .string)
    (hf : (P.fieldsOf T).toList.map (fun f => (f.name == "_", f.type, f.offset)) = [(false, tI, 0), (false, tI, 1), (false, tI, 2), (false, tI, 3), (false, tS, 4)]) {x y : Operand} {p q : EntM} (ho : o.op = .binOp .eql T x y T) (hx : a.eval x = .agg p.cells.toArray) (hy : a.eval y = .agg q.cells.toArray)
    (h : K (a.put o.dst (.bool (decide (p = q)))) w) : o.wp P a w K Q := by
  unfold Oper.wp execOp
  simp only [ho, hx, hy, Sem.run_bind, run_eqGuard_agg w _ T _ _ _ _ hm, Result.andThen_ok, (ent_eql T tI tS w hT hp hI hS hf p q).1, Sem.run_pure]
  exact h
set_option maxRecDepth 20000 in
theorem ent_wp_ne {P : Program} (T tI tS : TypeId) {o : Oper} {a : Act} {w : World} {K : Act → World → Prop} {Q : Exit → Act → World → Prop} (hT : P.underlying T = some (.struct (P.fieldsOf T))) (hp : P.stoodInHeld T = false) (hm : P.eqGuardType P.depth T = false) (hI : P.underlying tI = some (.int .i64)) (hS : P.underlying tS = some .string)
    (hf : (P.fieldsOf T).toList.map (fun f => (f.name == "_", f.type, f.offset)) = [(false, tI, 0), (false, tI, 1), (false, tI, 2), (false, tI, 3), (false, tS, 4)]) {x y : Operand} {p q : EntM} (ho : o.op = .binOp .neq T x y T) (hx : a.eval x = .agg p.cells.toArray) (hy : a.eval y = .agg q.cells.toArray)
    (h : K (a.put o.dst (.bool (!decide (p = q)))) w) : o.wp P a w K Q := by
  unfold Oper.wp execOp
  simp only [ho, hx, hy, Sem.run_bind, run_eqGuard_agg w _ T _ _ _ _ hm, Result.andThen_ok, (ent_eql T tI tS w hT hp hI hS hf p q).2, Sem.run_pure]
  exact h
set_option maxRecDepth 20000 in
theorem ent_eq_op {o : Oper} {a : Act} {w : World} {K : Act → World → Prop} {Q : Exit → Act → World → Prop} {x y : Operand} {p q : EntM} (ho : o.op = .binOp .eql 59 x y 59) (hx : a.eval x = .agg p.cells.toArray) (hy : a.eval y = .agg q.cells.toArray)
    (h : K (a.put o.dst (.bool (decide (p = q)))) w) : o.wp Try.prog a w K Q := ent_wp_eq 59 3 9 (by kernel_rfl) (by kernel_rfl) (by kernel_rfl) (by kernel_rfl) (by kernel_rfl) (by kernel_rfl) ho hx hy h
set_option maxRecDepth 20000 in
theorem ent_ne_op {o : Oper} {a : Act} {w : World} {K : Act → World → Prop} {Q : Exit → Act → World → Prop} {x y : Operand} {p q : EntM} (ho : o.op = .binOp .neq 59 x y 59) (hx : a.eval x = .agg p.cells.toArray) (hy : a.eval y = .agg q.cells.toArray)
    (h : K (a.put o.dst (.bool (!decide (p = q)))) w) : o.wp Try.prog a w K Q := ent_wp_ne 59 3 9 (by kernel_rfl) (by kernel_rfl) (by kernel_rfl) (by kernel_rfl) (by kernel_rfl) (by kernel_rfl) ho hx hy h
set_option maxRecDepth 20000 in
theorem exec_load_row {P : Program} {o : Oper} {a : Act} {w : World} (ty : TypeId) (x : Operand) (ho : o.op = .load ty x)
    (g : Nat) (hx : a.eval x = .pointer (some ⟨g, 0, none⟩)) (t : TypeId) (cs : Array Value) (fr : Nat × Nat) (d : TypeDesc) (hg : w.heap[g]? = some (.cells cs t fr))
    (hu : P.underlying ty = some d) (hd : (match d with | .struct _ | .array _ _ => true | _ => false) = true) (hi : (P.info? ty).map (·.size) = some cs.size) :
    (execOp a.eval o).run P w = .ok (.value (.agg cs)) w := by
  unfold execOp
  simp only [ho, hx, Instr.loadAt, Instr.sureAddr, Sem.run_bind, Sem.run_pure, Result.andThen_ok, run_loadVar_row w g t ty cs fr d hg hu hd hi]
set_option maxRecDepth 20000 in
theorem exec_ent {P : Program} (T tI tS : TypeId) {o : Oper} {a : Act} {w : World} (hT : P.underlying T = some (.struct (P.fieldsOf T))) (hp : P.stoodInHeld T = false) (hm : P.eqGuardType P.depth T = false) (hI : P.underlying tI = some (.int .i64)) (hS : P.underlying tS = some .string)
    (hf : (P.fieldsOf T).toList.map (fun f => (f.name == "_", f.type, f.offset)) = [(false, tI, 0), (false, tI, 1), (false, tI, 2), (false, tI, 3), (false, tS, 4)]) {x y : Operand} {p q : EntM} (hx : a.eval x = .agg p.cells.toArray) (hy : a.eval y = .agg q.cells.toArray) :
    (o.op = .binOp .eql T x y T → (execOp a.eval o).run P w = .ok (.value (.bool (decide (p = q)))) w) ∧ (o.op = .binOp .neq T x y T → (execOp a.eval o).run P w = .ok (.value (.bool (!decide (p = q)))) w) := by
  constructor <;> intro ho <;> unfold execOp <;>
  simp only [ho, hx, hy, Sem.run_bind, run_eqGuard_agg w _ T _ _ _ _ hm, Result.andThen_ok, ent_eql T tI tS w hT hp hI hS hf p q, Sem.run_pure]
set_option maxRecDepth 20000 in
theorem exec_ent_eq {o : Oper} {a : Act} {w : World} {x y : Operand} {p q : EntM} (ho : o.op = .binOp .eql 59 x y 59) (hx : a.eval x = .agg p.cells.toArray) (hy : a.eval y = .agg q.cells.toArray) : (execOp a.eval o).run Try.prog w = .ok (.value (.bool (decide (p = q)))) w :=
  (exec_ent 59 3 9 (by kernel_rfl) (by kernel_rfl) (by kernel_rfl) (by kernel_rfl) (by kernel_rfl) (by kernel_rfl) hx hy).1 ho
set_option maxRecDepth 20000 in
theorem exec_ent_ne {o : Oper} {a : Act} {w : World} {x y : Operand} {p q : EntM} (ho : o.op = .binOp .neq 59 x y 59) (hx : a.eval x = .agg p.cells.toArray) (hy : a.eval y = .agg q.cells.toArray) : (execOp a.eval o).run Try.prog w = .ok (.value (.bool (!decide (p = q)))) w :=
  (exec_ent 59 3 9 (by kernel_rfl) (by kernel_rfl) (by kernel_rfl) (by kernel_rfl) (by kernel_rfl) (by kernel_rfl) hx hy).2 ho
set_option maxRecDepth 20000 in
theorem wpList_want_wp {P : Program} {ops : Array Oper} {rest : List Oper} {o : Oper} {a : Act} {w : World} {Q : Exit → Act → World → Prop} {v : Value} (hw : Region.wanted o (yielded ops a.tmps) = true)
    (h : ∀ K : Act → World → Prop, K (a.put o.dst v) w → o.wp P a w K Q) (hr : wpList P ops Q rest (a.put o.dst v) w) : wpList P ops Q (o :: rest) a w :=
  BigFrame.wpList_want hw fun K hK => h K (hK _ _ hr)
set_option maxRecDepth 20000 in
theorem wpList_want_row {P : Program} {ops : Array Oper} {rest : List Oper} {o : Oper} {a : Act} {w : World} {Q : Exit → Act → World → Prop} (hw : Region.wanted o (yielded ops a.tmps) = true) (ty : TypeId) (x : Operand) (ho : o.op = .load ty x)
    (g : Nat) (hx : a.eval x = .pointer (some ⟨g, 0, none⟩)) (t : TypeId) (cs : Array Value) (fr : Nat × Nat) (d : TypeDesc) (hg : w.heap[g]? = some (.cells cs t fr))
    (hu : P.underlying ty = some d) (hd : (match d with | .struct _ | .array _ _ => true | _ => false) = true) (hi : (P.info? ty).map (·.size) = some cs.size)
    (h : wpList P ops Q rest (a.put o.dst (.agg cs)) w) : wpList P ops Q (o :: rest) a w :=
  BigFrame.wpList_want hw fun _ hK => wp_load_row ty x ho g hx t cs fr d hg hu hd hi (hK _ _ h)
/-- `var x = e`: a block of an entry's own -/
def varW (w : World) (e : EntM) : World := (w.alloc (.cells #[.int .i64 0, .int .i64 0, .int .i64 0, .int .i64 0, .string ⟨#[]⟩] 59)).setRow w.heap.size e.cells.toArray
set_option maxRecDepth 20000 in
theorem varW_new (w : World) : Blk (w.alloc (.cells #[.int .i64 0, .int .i64 0, .int .i64 0, .int .i64 0, .string ⟨#[]⟩] 59)) w.heap.size 59 EntM.zero.cells.toArray := Blk.new w 59 _
set_option maxRecDepth 20000 in
theorem varW_blk (w : World) (e : EntM) : Blk (varW w e) w.heap.size 59 e.cells.toArray := setRow_heap _ _ _ _ _ _ (varW_new w)
set_option maxRecDepth 20000 in
theorem varW_below (w : World) (e : EntM) : Below w.heap.size w (varW w e) := below_setRow ((Below.refl _ _).alloc (Nat.le_refl _) _) (Nat.le_refl _) _
end Go.Proofs.Ytacbnoagdlelgaa
