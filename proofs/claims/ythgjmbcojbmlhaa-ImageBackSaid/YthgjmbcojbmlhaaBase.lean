/- Words for memory that all walks of this session use: what a call may turn, a row of cells, a map from int to int. No program's text. -/
import Derived.WalkKit
import Derived.WalkSpells
import Derived.Maps.AppendAt
import Derived.Below
import Derived.Deep.Draws
import Derived.StillTailTactics
import Derived.Laws.MakeOwn
import Derived.Laws.OwnMore
import Derived.Laws.IdiomStrings
namespace Go.Proofs.Ythgjmbcojbmlhaa.Zb
open Go.RowKit Go.ChangeMaps

set_option maxRecDepth 20000 in
theorem hide {p : Prop} (h : p) : Hid p := h

/-! ### what a call may turn -/
/-- Only blocks of F, and new ones, have turned. -/
structure Turned (F : Nat → Prop) (w w' : World) : Prop where
  os : w'.os = w.os
  tape : w'.tape = w.tape
  output : w'.output = w.output
  size : w.heap.size ≤ w'.heap.size
  block : ∀ k, k < w.heap.size → ¬ F k → w'.heap[k]? = w.heap[k]?

section
variable {F G : Nat → Prop} {w w1 w' : World}
set_option maxRecDepth 20000 in
theorem Turned.refl (F : Nat → Prop) (w : World) : Turned F w w := ⟨rfl, rfl, rfl, Nat.le_refl _, fun _ _ _ => rfl⟩
set_option maxRecDepth 20000 in
theorem Turned.trans (h : Turned F w w1) (k : Turned G w1 w') (hG : ∀ x, G x → F x ∨ w.heap.size ≤ x) : Turned F w w' :=
  ⟨k.os.trans h.os, k.tape.trans h.tape, k.output.trans h.output, Nat.le_trans h.size k.size, fun i hi hF =>
    (k.block i (Nat.lt_of_lt_of_le hi h.size) (fun hg => by rcases hG i hg with h | h; exact hF h; omega)).trans (h.block i hi hF)⟩
set_option maxRecDepth 20000 in
theorem Turned.mono (h : Turned F w w') (hG : ∀ x, F x → G x ∨ w.heap.size ≤ x) : Turned G w w' :=
  ⟨h.os, h.tape, h.output, h.size, fun i hi hg => h.block i hi (fun hf => by rcases hG i hf with h | h; exact hg h; omega)⟩
set_option maxRecDepth 20000 in
theorem Turned.of_below (h : Below w.heap.size w w') : Turned F w w' := ⟨h.os, h.tape, h.output, h.size, fun i hi _ => h.block i hi⟩
set_option maxRecDepth 20000 in
theorem Turned.below {B : Nat} (h : Turned F w w') (hB : B ≤ w.heap.size) (hF : ∀ x, F x → B ≤ x) : Below B w w' :=
  ⟨h.os, h.tape, h.output, h.size, fun i hi => h.block i (by omega) (fun hf => by have := hF i hf; omega)⟩
set_option maxRecDepth 20000 in
theorem Turned.then_below (h : Turned F w w1) (k : Below w1.heap.size w1 w') : Turned F w w' := h.trans (Turned.of_below (F := fun _ => False) k) (fun _ h => h.elim)
set_option maxRecDepth 20000 in
theorem Turned.drew (h : Turned F w w') : Turned F w w'.drew := ⟨h.os, h.tape, h.output, h.size, h.block⟩
set_option maxRecDepth 20000 in
theorem Turned.drewN (h : Turned F w w') (n : Nat) : Turned F w (w'.drewN n) := ⟨h.os, h.tape, h.output, h.size, h.block⟩
set_option maxRecDepth 20000 in
theorem Turned.alloc (h : Turned F w w') (o : Obj) : Turned F w (w'.alloc o) :=
  ⟨h.os, h.tape, h.output, Nat.le_trans h.size (by simp), fun i hi hF => (Below.heap_alloc _ _ _ (Nat.lt_of_lt_of_le hi h.size)).trans (h.block i hi hF)⟩
set_option maxRecDepth 20000 in
theorem Turned.setCell (h : Turned F w w') {p : Addr} (hp : F p.block ∨ w.heap.size ≤ p.block) (u : Value) : Turned F w (w'.setCell p u) :=
  ⟨h.os, h.tape, h.output, by simpa [World.setCell] using h.size, fun i hi hF => (Below.heap_setCell w' p u i (by
    rintro rfl; rcases hp with hp | hp; exact hF hp; omega)).trans (h.block i hi hF)⟩
set_option maxRecDepth 20000 in
theorem Turned.grown (h : Turned F w w1) {row : Option Nat} (hg : w1.grownBy w' row) (hr : ∀ k, row = some k → F k ∨ w.heap.size ≤ k) : Turned F w w' :=
  ⟨hg.os.trans h.os, hg.tape.trans h.tape, hg.output.trans h.output, Nat.le_trans h.size hg.size, fun i hi hF =>
    (hg.block i (Nat.lt_of_lt_of_le hi h.size) (fun e => by rcases hr i e.symm with h | h; exact hF h; omega)).trans (h.block i hi hF)⟩
end

/-! ### a block of cells; a row -/
/-- Block g is just these cells, none of them shared by a string. -/
def Blk (w : World) (g : Nat) (t : TypeId) (cs : Array Value) : Prop := w.heap[g]? = some (.cells cs t (0, 0))
section
variable {w w' : World} {g : Nat} {t : TypeId} {cs : Array Value}
set_option maxRecDepth 20000 in
theorem Blk.lt (h : Blk w g t cs) : g < w.heap.size := (Array.getElem?_eq_some_iff.1 h).1
set_option maxRecDepth 20000 in
theorem Blk.cell (h : Blk w g t cs) (i : Nat) : w.cell? ⟨g, i, none⟩ = cs[i]? := cell_of_row w g i cs t (0, 0) h
set_option maxRecDepth 20000 in
theorem Blk.frozen (h : Blk w g t cs) (i : Nat) : w.frozen? ⟨g, i, none⟩ = false := by
  unfold Blk at h
  simp [World.frozen?, h]
set_option maxRecDepth 20000 in
theorem Blk.new (w : World) (t : TypeId) (cs : Array Value) : Blk (w.alloc (.cells cs t)) w.heap.size t cs := heap_alloc_new w _
set_option maxRecDepth 20000 in
theorem Blk.alloc (h : Blk w g t cs) (o : Obj) : Blk (w.alloc o) g t cs := (Below.heap_alloc w o g h.lt).trans h
set_option maxRecDepth 20000 in
theorem Blk.set_ (h : Blk w g t cs) (i : Nat) (u : Value) : Blk (w.setCell ⟨g, i, none⟩ u) g t (cs.setIfInBounds i u) := by
  unfold Blk at h ⊢
  simp [World.setCell, Array.getElem?_modify, h]
set_option maxRecDepth 20000 in
theorem Blk.far (h : Blk w g t cs) {p : Addr} (hp : g ≠ p.block) (u : Value) : Blk (w.setCell p u) g t cs := (Below.heap_setCell w p u g hp).trans h
set_option maxRecDepth 20000 in
theorem Blk.turned {F : Nat → Prop} (h : Blk w g t cs) (k : Turned F w w') (hg : ¬ F g) : Blk w' g t cs := (k.block g h.lt hg).trans h
set_option maxRecDepth 20000 in
theorem Blk.below {B : Nat} (h : Blk w g t cs) (hb : Below B w w') (hg : g < B) : Blk w' g t cs := (hb.block g hg).trans h
set_option maxRecDepth 20000 in
theorem Blk.grown {row : Option Nat} (h : Blk w g t cs) (hb : w.grownBy w' row) (hg : some g ≠ row) : Blk w' g t cs := (hb.block g h.lt hg).trans h
set_option maxRecDepth 20000 in
theorem Blk.news (h : Blk w g t cs) : ∀ j u, cs.toList[j]? = some u → w.cell? ((⟨g, 0, none⟩ : Addr).add j) = some u := by
  intro j u hu
  have e : (⟨g, 0, none⟩ : Addr).add j = ⟨g, j, none⟩ := by unfold Addr.add; split <;> simp_all
  rw [e, h.cell]
  simpa using hu
set_option maxRecDepth 20000 in
theorem Blk.ne_ {g' : Nat} {t' : TypeId} {cs' : Array Value} (h : Blk w g t cs) (h' : Blk w g' t' cs') (hne : t ≠ t') : g ≠ g' := by
  rintro rfl
  unfold Blk at h h'
  rw [h] at h'
  injection h' with h'
  injection h' with _ ht
  exact hne ht
end

/-- The slice value v (n elements of type e, size cells each) has the cells xs, and its array is its own: from the array's head on, in one block. -/
abbrev Row (w : World) (e : TypeId) (size : Nat) (v : Value) (n : Nat) (xs : List Value) : Prop := w.ownsRow 0 e size v n xs
section
variable {w w' : World} {e : TypeId} {size n : Nat} {v : Value} {xs : List Value}
set_option maxRecDepth 20000 in
theorem row_lt (h : Row w e size v n xs) (k : Nat) (hk : v.ownBlock = some k) : k < w.heap.size := (World.ownsRow.lt h k hk).2
set_option maxRecDepth 20000 in
theorem row_of (h : Row w e size v n xs) (hb : ∀ k, v.ownBlock = some k → w'.heap[k]? = w.heap[k]?) : Row w' e size v n xs := by
  refine ⟨h.1, ?_⟩
  rcases h.2 with hn | ⟨g, cap, cur, rfl, hbg, hgg, rest⟩
  · exact .inl hn
  · exact .inr ⟨g, cap, cur, rfl, hbg, (hb g rfl).trans hgg, rest⟩
set_option maxRecDepth 20000 in
theorem row_turned {F : Nat → Prop} (h : Row w e size v n xs) (k : Turned F w w') (hF : ∀ g, v.ownBlock = some g → ¬ F g) : Row w' e size v n xs :=
  row_of h fun g hg => k.block g (row_lt h g hg) (hF g hg)
set_option maxRecDepth 20000 in
theorem row_set {p : Addr} (h : Row w e size v n xs) (hp : v.ownBlock ≠ some p.block) (u : Value) : Row (w.setCell p u) e size v n xs :=
  row_of h fun g hg => Below.heap_setCell w p u g (fun e => hp (by rw [hg, e]))
set_option maxRecDepth 20000 in
theorem row_alloc (h : Row w e size v n xs) (o : Obj) : Row (w.alloc o) e size v n xs := row_of h fun g hg => Below.heap_alloc w o g (row_lt h g hg)
set_option maxRecDepth 20000 in
theorem row_blk_ne {g : Nat} {t : TypeId} {cs : Array Value} (h : Row w e size v n xs) (hg : Blk w g t cs) (hne : e ≠ t) : v.ownBlock ≠ some g := by
  rcases h.2 with ⟨rfl, _⟩ | ⟨g', cap, cur, rfl, _, hh, _⟩
  · simp [Value.ownBlock]
  · intro he
    have : g' = g := by simpa [Value.ownBlock] using he
    subst this
    exact Blk.ne_ (t := e) hh hg hne rfl
set_option maxRecDepth 20000 in
theorem row_obj_ne {g : Nat} {o : Obj} (h : Row w e size v n xs) (hg : w.heap[g]? = some o) (hne : ∀ c f, o ≠ .cells c e f) : v.ownBlock ≠ some g := by
  rcases h.2 with ⟨rfl, _⟩ | ⟨g', cap, cur, rfl, _, hh, _⟩
  · simp [Value.ownBlock]
  · intro he
    have : g' = g := by simpa [Value.ownBlock] using he
    subst this
    rw [hh] at hg
    injection hg with hg
    exact hne _ _ hg.symm
set_option maxRecDepth 20000 in
theorem row_types {e' : TypeId} {size' n' : Nat} {v' : Value} {xs' : List Value} (h : Row w e size v n xs) (h' : Row w e' size' v' n' xs') (hne : e ≠ e') : ∀ g, v.ownBlock = some g → v'.ownBlock ≠ some g := by
  intro g hg
  rcases h.2 with ⟨rfl, _⟩ | ⟨g1, cap, cur, rfl, _, hh, _⟩
  · simp [Value.ownBlock] at hg
  · have : g1 = g := by simpa [Value.ownBlock] using hg
    subst this
    exact row_blk_ne h' (show Blk w g1 e cur from hh) (Ne.symm hne)
set_option maxRecDepth 20000 in
theorem row_slice (h : Row w e size v n xs) : ∃ A c, v = .slice A n c ∧ n ≤ c := by
  rcases h.2 with ⟨rfl, rfl⟩ | ⟨g, cap, cur, rfl, _, _, hc, _⟩
  · exact ⟨_, _, rfl, Nat.le_refl _⟩
  · exact ⟨_, _, rfl, hc⟩
set_option maxRecDepth 20000 in
theorem row_nil (w : World) (e : TypeId) (size : Nat) : Row w e size (.slice none 0 0) 0 [] := World.ownsRow_nil w 0 e size
/-- Where there is an element: the block, and each cell. -/
theorem row_form (h : Row w e size v n xs) (hn : 0 < n) : ∃ g c, v = .slice (some ⟨g, 0, none⟩) n c ∧ n ≤ c ∧ g < w.heap.size ∧ (∀ j, w.frozen? ⟨g, j, none⟩ = false) ∧ ∀ j, j < n * size → w.cell? ⟨g, j, none⟩ = xs[j]? := by
  rcases h.2 with ⟨rfl, rfl⟩ | ⟨g, cap, cur, rfl, hb, hh, hc, hm, hcs, ht⟩
  · omega
  · refine ⟨g, cap, rfl, hc, (World.ownsRow.lt h g rfl).2, Blk.frozen (t := e) hh, fun j hj => ?_⟩
    exact World.ownsRow.cellAt h j hj
end

section
variable {P : Program} (w : World)
/-- append: of what is read at an address; the cells are known. -/
theorem wpList_app {ops : Array Oper} {rest : List Oper} {o : Oper} {a : Act} {Q : Exit → Act → World → Prop} (hgd : o.guard = none) (s x : Operand) (t e : TypeId)
    (ho : o.op = .call { callee := .builtin .append, args := #[s, x], argTypes := #[t, t] }) (z : Value) (size bytes : Nat) (ht : P.underlying t = some (.slice e))
    (hinfo : (P.info? e).map (fun i => (i.zero, i.size, i.bytes)) = some (some z, size, bytes)) (hzs : z.cells.size = size) (hsz : 0 < size)
    (v : Value) (n : Nat) (xs : List Value) (hs : a.eval s = v) (hown : Row w e size v n xs)
    (ad : Addr) (m c : Nat) (news : List Value) (hx : a.eval x = .slice (some ad) m c) (hl : news.length = m * size) (hnews : ∀ j u, news[j]? = some u → w.cell? (ad.add j) = some u) (h1 : ∀ u ∈ news, u.oneCell' = true)
    (h63 : n + m ≤ maxLen) (hbytes : (n + m) * bytes ≤ 140737488355328)
    (h : ∀ v' w', Row w' e size v' (n + m) (xs ++ news) → w.grownBy w' v.ownBlock → (v'.ownBlock = v.ownBlock ∨ v'.ownBlock = some w.heap.size) → wpList P ops Q rest (a.put o.dst v') w') :
    wpList P ops Q (o :: rest) a w := by
  obtain ⟨i, hi, hz0, hz1, hz2⟩ := info_parts hinfo
  exact wpList_append_own_at w hgd s x t ho 0 e i z size bytes ht hi hz0 hz1 hz2 hzs hsz v n xs hs hown ad m c news hx hl hnews h1 h63 hbytes (Nat.zero_le _) (fun v' w' h2 h3 _ h5 => h v' w' h2 h3 h5)
end

/-! ### a map from int to int, as a list of pairs -/
abbrev Prs := List (Int × Int)
def Prs.look : Prs → Int → Option Int
  | [], _ => none
  | p :: r, k => if k = p.1 then some p.2 else Prs.look r k
def Prs.put : Prs → Int → Int → Prs
  | [], k, v => [(k, v)]
  | p :: r, k, v => if k = p.1 then (k, v) :: r else p :: Prs.put r k v
def Prs.del : Prs → Int → Prs
  | [], _ => []
  | p :: r, k => if k = p.1 then r else p :: Prs.del r k
def Prs.idx : Prs → Int → Option Nat
  | [], _ => none
  | p :: r, k => if k = p.1 then some 0 else (Prs.idx r k).map (· + 1)
def Prs.Ok : Prs → Prop
  | [] => True
  | p :: r => Prs.look r p.1 = none ∧ Prs.Ok r

set_option maxRecDepth 20000 in
theorem Prs.look_put : ∀ (l : Prs) (k v x : Int), Prs.look (Prs.put l k v) x = if x = k then some v else Prs.look l x
  | [], k, v, x => by simp [Prs.put, Prs.look]
  | p :: r, k, v, x => by
    unfold Prs.put
    by_cases h : k = p.1
    · rw [if_pos h]
      simp only [Prs.look]
      by_cases hx : x = k
      · simp [hx]
      · rw [if_neg hx, if_neg hx, if_neg (by omega)]
    · rw [if_neg h]
      simp only [Prs.look, Prs.look_put r k v x]
      by_cases hx : x = k
      · rw [if_pos hx, if_neg (by omega), if_pos hx]
      · rw [if_neg hx, if_neg hx]
set_option maxRecDepth 20000 in
theorem Prs.ok_put : ∀ (l : Prs) (k v : Int), Prs.Ok l → Prs.Ok (Prs.put l k v)
  | [], k, v, _ => by simp [Prs.put, Prs.Ok, Prs.look]
  | p :: r, k, v, h => by
    unfold Prs.put
    by_cases hk : k = p.1
    · rw [if_pos hk]; subst hk; exact h
    · rw [if_neg hk]
      refine ⟨?_, Prs.ok_put r k v h.2⟩
      rw [Prs.look_put, if_neg (fun e => hk e.symm)]; exact h.1
set_option maxRecDepth 20000 in
theorem Prs.look_del : ∀ (l : Prs) (k x : Int), Prs.Ok l → Prs.look (Prs.del l k) x = if x = k then none else Prs.look l x
  | [], k, x, _ => by simp [Prs.del, Prs.look]
  | p :: r, k, x, h => by
    unfold Prs.del
    by_cases hk : k = p.1
    · rw [if_pos hk]
      by_cases hx : x = k
      · rw [if_pos hx, hx, hk]; exact h.1
      · rw [if_neg hx]; simp only [Prs.look]; rw [if_neg (by omega)]
    · rw [if_neg hk]
      simp only [Prs.look, Prs.look_del r k x h.2]
      by_cases hx : x = k
      · rw [if_pos hx, if_neg (by omega), if_pos hx]
      · rw [if_neg hx, if_neg hx]
set_option maxRecDepth 20000 in
theorem Prs.ok_del : ∀ (l : Prs) (k : Int), Prs.Ok l → Prs.Ok (Prs.del l k)
  | [], k, _ => by simp [Prs.del, Prs.Ok]
  | p :: r, k, h => by
    unfold Prs.del
    by_cases hk : k = p.1
    · rw [if_pos hk]; exact h.2
    · rw [if_neg hk]
      refine ⟨?_, Prs.ok_del r k h.2⟩
      rw [Prs.look_del r k p.1 h.2]
      split
      · rfl
      · exact h.1
set_option maxRecDepth 20000 in
theorem Prs.idx_none : ∀ (l : Prs) (k : Int), Prs.idx l k = none → Prs.put l k = (fun v => l ++ [(k, v)]) ∧ Prs.del l k = l ∧ Prs.look l k = none
  | [], k, _ => ⟨rfl, rfl, rfl⟩
  | p :: r, k, h => by
    unfold Prs.idx at h
    by_cases hk : k = p.1
    · rw [if_pos hk] at h; cases h
    · rw [if_neg hk] at h
      have ih := Prs.idx_none r k (by simpa using h)
      refine ⟨?_, ?_, ?_⟩
      · funext v; simp only [Prs.put, if_neg hk, ih.1, List.cons_append]
      · simp only [Prs.del, if_neg hk, ih.2.1]
      · simp only [Prs.look, if_neg hk, ih.2.2]
set_option maxRecDepth 20000 in
theorem Prs.idx_some : ∀ (l : Prs) (k : Int) (j : Nat), Prs.idx l k = some j → ∃ v, l[j]? = some (k, v) ∧ Prs.look l k = some v ∧ (∀ u, Prs.put l k u = l.set j (k, u)) ∧ Prs.del l k = l.eraseIdx j
  | [], k, j, h => by simp [Prs.idx] at h
  | p :: r, k, j, h => by
    unfold Prs.idx at h
    by_cases hk : k = p.1
    · rw [if_pos hk] at h
      obtain rfl := Option.some.inj h
      refine ⟨p.2, by simp [hk], by simp [Prs.look, hk], fun u => by simp [Prs.put, hk], by simp [Prs.del, hk]⟩
    · rw [if_neg hk] at h
      obtain ⟨i, hi, rfl⟩ := Option.map_eq_some_iff.1 h
      obtain ⟨v, h1, h2, h3, h4⟩ := Prs.idx_some r k i hi
      refine ⟨v, by simpa using h1, by simp [Prs.look, hk, h2], fun u => by simp [Prs.put, hk, h3], by simp [Prs.del, hk, h4]⟩

def Ents (es : List MapEntry) (l : Prs) : Prop := es.map (fun e => (e.key, e.val)) = l.map fun p => (Value.int .i64 p.1, Value.int .i64 p.2)

set_option maxRecDepth 20000 in
theorem Ents.find {q : TypeDesc} (hq : q = .int .i64) (k : Int) : ∀ (es : List MapEntry) (l : Prs) (i : Nat), Ents es l →
    Instr.findNow q (.int .i64 k) es i = some ((Prs.idx l k).bind fun j => (l[j]?).map fun p => (i + j, Value.int .i64 p.2))
  | [], [], i, _ => by simp [Instr.findNow, Prs.idx]
  | [], p :: l, i, h => by simp [Ents] at h
  | e :: es, [], i, h => by simp [Ents] at h
  | e :: es, p :: l, i, h => by
    simp only [Ents, List.map_cons, List.cons.injEq, Prod.mk.injEq] at h
    obtain ⟨⟨hk, hv⟩, hr⟩ := h
    have ih := Ents.find hq k es l (i + 1) hr
    unfold Instr.findNow
    subst hq
    rw [hk]
    simp only [Instr.sameNow, if_true]
    by_cases hkk : k = p.1
    · have : (k == p.1) = true := by simpa using hkk
      rw [this]
      simp [Prs.idx, hkk, hv]
    · have : (k == p.1) = false := by simpa using hkk
      rw [this]
      simp only [Prs.idx, if_neg hkk]
      rw [ih]
      cases Prs.idx l k with
      | none => simp
      | some j => simp; cases l[j]? <;> simp; omega

/-- Block b is a map from int to int, of these pairs, no key twice. -/
def MapAt (w : World) (b : Nat) (l : Prs) : Prop := ∃ es clock, w.heap[b]? = some (.map es clock) ∧ Ents es.toList l ∧ Prs.Ok l

section
variable {P : Program} {w : World} {b : Nat} {l : Prs}
set_option maxRecDepth 20000 in
theorem MapAt.lt (h : MapAt w b l) : b < w.heap.size := by
  obtain ⟨es, clock, hb, _⟩ := h
  exact (Array.getElem?_eq_some_iff.1 hb).1
set_option maxRecDepth 20000 in
theorem MapAt.of_block {w' : World} (h : MapAt w b l) (hk : w'.heap[b]? = w.heap[b]?) : MapAt w' b l := by
  obtain ⟨es, clock, hb, hE⟩ := h
  exact ⟨es, clock, hk.trans hb, hE⟩
set_option maxRecDepth 20000 in
theorem MapAt.new (w : World) : MapAt (w.alloc (.map #[] 0)) w.heap.size [] := ⟨#[], 0, heap_alloc_new w _, by simp [Ents], trivial⟩

set_option maxRecDepth 20000 in
theorem checkKey_int {k : TypeId} {q : IntKind} (hk : P.underlying k = some (.int q)) (em : Bool) (n : Nat) (v : Value) (w : World) : (Instr.checkKey em (n + 1) k v).run P w = .ok () w := by
  simp [Instr.checkKey, run_underlying hk]

set_option maxRecDepth 20000 in
theorem MapAt.lookup {t k e : TypeId} (ht : P.underlying t = some (.map k e)) (hk : P.underlying k = some (.int .i64)) (he : ∀ w, (zeroValue e).run P w = .ok (.int .i64 0) w) (h : MapAt w b l) (x : Int) :
    (Instr.lookup t (.map (some b)) (.int .i64 x) true).run P w = .ok (.tuple #[.int .i64 ((Prs.look l x).getD 0), .bool (Prs.look l x).isSome]) w := by
  obtain ⟨es, clock, hb, hE, hO⟩ := h
  have hf := Ents.find rfl x es.toList l 0 hE
  have hc := fun em v => checkKey_int (P := P) hk em 9999 v w
  simp only [Instr.lookup, Sem.run_bind, run_underlying ht, Result.andThen_ok]
  have hg : (getObj b).run P w = .ok (.map es clock) w := by simp [getObj, Sem.run, hb]
  simp only [hg, Result.andThen_ok, Sem.run_pure, Sem.run_bind, hc, Instr.findKey, run_underlying hk, hf]
  cases hi : Prs.idx l x with
  | none =>
    have := Prs.idx_none l x hi
    simp [this.2.2, he]
  | some j =>
    obtain ⟨v, h1, h2, _⟩ := Prs.idx_some l x j hi
    simp [h1, h2]

def setB (w : World) (b : Nat) (o : Obj) : World := { w with heap := w.heap.setIfInBounds b o }
set_option maxRecDepth 20000 in
theorem setB_same {w : World} {b : Nat} (hb : b < w.heap.size) (o : Obj) : (setB w b o).heap[b]? = some o := by
  simp [setB, hb]
set_option maxRecDepth 20000 in
theorem setB_other {w : World} {b k : Nat} (o : Obj) (hk : k ≠ b) : (setB w b o).heap[k]? = w.heap[k]? := by
  simp [setB, Ne.symm hk]
set_option maxRecDepth 20000 in
theorem setB_grown {w : World} {b : Nat} (o : Obj) : w.grownBy (setB w b o) (some b) :=
  ⟨rfl, rfl, rfl, by simp [setB], fun k _ hk => setB_other o (fun e => hk (by rw [e]))⟩

set_option maxRecDepth 20000 in
theorem Ents.set {es : List MapEntry} {l : Prs} (h : Ents es l) (j : Nat) (k v : Int) (e' : MapEntry → MapEntry) (he : ∀ e, (e' e).key = .int .i64 k ∧ (e' e).val = .int .i64 v) : Ents (es.modify j e') (l.set j (k, v)) := by
  unfold Ents at *
  apply List.ext_getElem?
  intro i
  have hi := congrArg (fun z => z[i]?) h
  simp only [List.getElem?_map] at hi ⊢
  rw [List.getElem?_modify, List.getElem?_set]
  by_cases hij : j = i
  · subst hij
    simp only [if_true]
    cases h1 : es[j]? with
    | none =>
      rw [h1] at hi
      have : l[j]? = none := by simpa using hi.symm
      rw [if_neg (by simpa using this)]
      simp
    | some e =>
      rw [h1] at hi
      have hl : j < l.length := by
        rcases Nat.lt_or_ge j l.length with h | h
        · exact h
        · rw [List.getElem?_eq_none h] at hi; simp at hi
      rw [if_pos hl]
      simp [he e]
  · simp only [if_neg hij]
    simpa using hi

set_option maxRecDepth 20000 in
theorem MapAt.update {t k e : TypeId} (ht : P.underlying t = some (.map k e)) (hk : P.underlying k = some (.int .i64)) (h : MapAt w b l) (x v : Int) :
    ∃ w', (Instr.mapUpdate t (.map (some b)) (.int .i64 x) (.int .i64 v)).run P w = .ok () w' ∧ MapAt w' b (Prs.put l x v) ∧ w.grownBy w' (some b) := by
  have hlt := h.lt
  obtain ⟨es, clock, hb, hE, hO⟩ := h
  have hf := Ents.find rfl x es.toList l 0 hE
  have hc := fun em v => checkKey_int (P := P) hk em 9999 v w
  have hg : (getObj b).run P w = .ok (.map es clock) w := by simp [getObj, Sem.run, hb]
  have hs : ∀ o, (setObj b o).run P w = .ok () (setB w b o) := fun o => by simp [setObj, Sem.run, hb, setB]
  simp only [Instr.mapUpdate, Sem.run_bind, run_underlying ht, Result.andThen_ok, hg, hc, Instr.findKey, run_underlying hk, hf]
  cases hi : Prs.idx l x with
  | none =>
    have hn := Prs.idx_none l x hi
    simp only [Option.bind_none, Sem.run_pure, Result.andThen_ok, hs]
    refine ⟨_, rfl, ⟨_, _, setB_same hlt _, ?_, Prs.ok_put _ _ _ hO⟩, setB_grown _⟩
    rw [hn.1]
    unfold Ents at *
    simp [hE]
  | some j =>
    obtain ⟨u, h1, h2, h3, _⟩ := Prs.idx_some l x j hi
    have h4 : (es[j]?).map (fun e => (e.key, e.val)) = some (Value.int .i64 x, Value.int .i64 u) := by
      have := congrArg (fun z => z[j]?) hE
      simp only [List.getElem?_map, h1, Array.getElem?_toList] at this
      exact this
    obtain ⟨e0, he0, hee⟩ := Option.map_eq_some_iff.1 h4
    simp only [Prod.mk.injEq] at hee
    simp only [Option.bind_some, h1, Option.map_some, Sem.run_pure, Result.andThen_ok, Nat.zero_add, he0, Option.getD_some, hee.1, Instr.keyThatStays, Instr.sameBits, BEq.rfl, Bool.and_self, if_true, Sem.run_bind, hs]
    refine ⟨_, rfl, ⟨_, _, setB_same hlt _, ?_, Prs.ok_put _ _ _ hO⟩, setB_grown _⟩
    rw [h3]
    have := hE.set j x v (fun e => { e with key := .int .i64 x, val := .int .i64 v }) (fun _ => ⟨rfl, rfl⟩)
    simpa using this

set_option maxRecDepth 20000 in
theorem MapAt.delete {t k e ty : TypeId} (ht : P.underlying t = some (.map k e)) (hk : P.underlying k = some (.int .i64)) (h : MapAt w b l) (x : Int) :
    ∃ w', (Builtin.delete_ #[t, k] ty #[.map (some b), .int .i64 x]).run P w = .ok (.tuple #[]) w' ∧ MapAt w' b (Prs.del l x) ∧ w.grownBy w' (some b) := by
  have hlt := h.lt
  obtain ⟨es, clock, hb, hE, hO⟩ := h
  have hf := Ents.find rfl x es.toList l 0 hE
  have hc := fun em v => checkKey_int (P := P) hk em 9999 v w
  have hg : (getObj b).run P w = .ok (.map es clock) w := by simp [getObj, Sem.run, hb]
  have hs : ∀ o, (setObj b o).run P w = .ok () (setB w b o) := fun o => by simp [setObj, Sem.run, hb, setB]
  simp only [Builtin.delete_, Sem.run_bind, run_underlying ht, Result.andThen_ok, hg, hc, Instr.findKey, run_underlying hk, hf, List.getElem?_toArray, List.getElem?_cons_zero, List.getElem?_cons_succ]
  cases hi : Prs.idx l x with
  | none =>
    have hn := Prs.idx_none l x hi
    simp only [Option.bind_none, Sem.run_pure, Sem.run_bind, Result.andThen_ok, hs]
    refine ⟨_, rfl, ⟨_, _, setB_same hlt _, ?_, Prs.ok_del _ _ hO⟩, setB_grown _⟩
    rw [hn.2.1]
    exact hE
  | some j =>
    obtain ⟨u, h1, h2, h3, h5⟩ := Prs.idx_some l x j hi
    simp only [Option.bind_some, h1, Option.map_some, Sem.run_pure, Result.andThen_ok, Nat.zero_add, Sem.run_bind, hs]
    refine ⟨_, rfl, ⟨_, _, setB_same hlt _, ?_, Prs.ok_del _ _ hO⟩, setB_grown _⟩
    rw [h5]
    unfold Ents at *
    rw [Array.toList_eraseIdxIfInBounds, List.eraseIdx_eq_take_drop_succ, List.eraseIdx_eq_take_drop_succ, List.map_append, List.map_append, List.map_take, List.map_take, List.map_drop, List.map_drop, hE]
end

section
variable {P : Program} (w : World) {ops : Array Oper} {rest : List Oper} {o : Oper} {a : Act} {Q : Exit → Act → World → Prop}
/-- A region that draws its order: n operations that only read, then those that are forced. -/
theorem wp_region_tail {id : Nat} {l : List Oper} {w : World} (n : Nat) (hm : P.follows .mixedOrders = true) (hB : Region.lexTailB .any l.toArray n = true)
    (h : wpStill P l.toArray w.drew (fun a' => wpList P l.toArray Q (l.drop n) a' w.drew) (l.take n) a) : (Code.region id l.toArray true).wp P Q a w :=
  wp_region_still_tail n hm hB h
set_option maxRecDepth 20000 in
theorem wpList_mapUpd (hg : o.guard = none) (m x v : Operand) (t : TypeId) (hop : o.op = Op.mapUpdate t m x v) (k e : TypeId) (ht : P.underlying t = some (.map k e)) (hk : P.underlying k = some (.int .i64))
    (b : Nat) (l : Prs) (hM : MapAt w b l) (kx vv : Int) (hm : a.eval m = .map (some b)) (hx : a.eval x = .int .i64 kx) (hv : a.eval v = .int .i64 vv)
    (hK : ∀ w', MapAt w' b (Prs.put l kx vv) → w.grownBy w' (some b) → wpList P ops Q rest (a.put o.dst undef) w') : wpList P ops Q (o :: rest) a w := by
  refine wpList_plain hg fun K' hK' => ?_
  obtain ⟨w', hrun, r1, r2⟩ := hM.update (P := P) ht hk kx vv
  unfold Oper.wp
  simp [execOp, hop, hm, hx, hv, hrun, Result.andThen]
  exact hK' _ _ (hK w' r1 r2)
set_option maxRecDepth 20000 in
theorem wpList_del (hg : o.guard = none) (m x : Operand) (t k e : TypeId) (hop : o.op = .call { callee := .builtin .delete, args := #[m, x], argTypes := #[t, k] }) (ht : P.underlying t = some (.map k e)) (hk : P.underlying k = some (.int .i64))
    (b : Nat) (l : Prs) (hM : MapAt w b l) (kx : Int) (hm : a.eval m = .map (some b)) (hx : a.eval x = .int .i64 kx)
    (hK : ∀ w', MapAt w' b (Prs.del l kx) → w.grownBy w' (some b) → wpList P ops Q rest (a.put o.dst (.tuple #[])) w') : wpList P ops Q (o :: rest) a w := by
  refine wpList_plain hg fun K' hK' => ?_
  obtain ⟨w', hrun, r1, r2⟩ := hM.delete (P := P) (ty := o.type) ht hk kx
  unfold Oper.wp execOp
  simp only [hop, resolve, invoke, builtin, Sem.run_bind, Sem.run_pure, Result.andThen_ok, List.map_toArray, List.map_cons, List.map_nil, hm, hx, hrun]
  exact hK' _ _ (hK w' r1 r2)
end

/-- make: a row of zero values, in a new block. -/
theorem make_row {P : Program} (t e : TypeId) (z : Value) (bytes : Nat) (ht : P.underlying t = some (.slice e)) (hinfo : (P.info? e).map (fun i => (i.zero, i.size, i.bytes)) = some (some z, 1, bytes)) (hz : z.cells = #[z])
    (kl kc : IntKind) (n : Nat) (hb : bytes * n ≤ 281474976710656) (hn : n ≤ 9223372036854775807) (W : World) :
    (Instr.makeSlice t (.int kl (n : Int)) (.int kc (n : Int))).run P W = .ok (.slice (some ⟨W.heap.size, 0, none⟩) n n) (W.alloc (.cells (madeCells #[z] n) e)) := by
  obtain ⟨i, hi, hz0, hz1, hz2⟩ := info_parts hinfo
  have h := run_make (P := P) W t e i z ht hi hz0 kl kc n n (by omega) (by omega) (by subst hz2; rw [← Int.natCast_mul]; omega) (by omega)
  simp only [Int.toNat_natCast, hz1, Nat.mul_one, hz] at h
  exact h

/-! ### bytes -/
def bytesVals (l : List UInt8) : List Value := l.map fun b => .int .u8 (b.toNat : Int)
set_option maxRecDepth 20000 in
theorem bytesVals_length (l : List UInt8) : (bytesVals l).length = l.length := by simp [bytesVals]
set_option maxRecDepth 20000 in
theorem bytesVals_append (l m : List UInt8) : bytesVals (l ++ m) = bytesVals l ++ bytesVals m := by simp [bytesVals]
set_option maxRecDepth 20000 in
theorem bytesVals_get (l : List UInt8) (j : Nat) (h : j < l.length) : (bytesVals l)[j]? = some (.int .u8 (l[j].toNat : Int)) := by simp [bytesVals, h]
set_option maxRecDepth 20000 in
theorem bytesVals_one (l : List UInt8) : ∀ u ∈ bytesVals l, u.oneCell' = true := by
  intro u hu
  obtain ⟨x, _, rfl⟩ := List.mem_map.1 hu
  rfl
/-- string(b) of cells that hold the bytes l -/
theorem conv_bytes {P : Program} (w : World) (src dst e : TypeId) (a : Addr) (cap : Nat) (l : List UInt8) (hs : P.underlying src = some (.slice e)) (he : P.underlying e = some (.int .u8)) (hd : P.underlying dst = some .string)
    (hc : ∀ j, j < l.length → w.cell? (a.add j) = (bytesVals l)[j]?) : (convert src dst (.slice (some a) l.length cap)).run P w = .ok (.string ⟨l.toArray⟩) w :=
  run_convert_bytes_back w src dst e a cap l hs he hd fun j hj => by rw [hc j hj, bytesVals_get l j hj]
set_option maxRecDepth 20000 in
theorem add_plain (g j : Nat) : (⟨g, 0, none⟩ : Addr).add j = ⟨g, j, none⟩ := by unfold Addr.add; split <;> simp_all
set_option maxRecDepth 20000 in
theorem made_list (z : Value) (n : Nat) : (madeCells #[z] n).toList = List.replicate n z := toList_madeCells_one z n
set_option maxRecDepth 20000 in
theorem row_made (w : World) (e : TypeId) (z : Value) (n : Nat) (hn : n ≤ maxLen) : Row (w.alloc (.cells (madeCells #[z] n) e)) e 1 (.slice (some ⟨w.heap.size, 0, none⟩) n n) n (List.replicate n z) := by
  have hs : (madeCells #[z] n).size = n * 1 := by rw [size_madeCells, Nat.mul_one]
  have h := World.ownsRow_lit (base := 0) (e := e) (size := 1) w (madeCells #[z] n) n (Nat.zero_le _) hn hs
  rw [made_list] at h
  exact h

end Go.Proofs.Ythgjmbcojbmlhaa.Zb
