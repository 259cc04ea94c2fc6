/- Bundles: a map from text to int, as a list of pairs. No program's text. -/
import Derived.Test.YtkipmbnmmbeeaaaApp
namespace Go.Proofs.Ytkipmbnmmbeeaaa.Zb
open Go.RowKit Go.ChangeMaps

set_option maxRecDepth 20000 in
theorem bytes_beq (a b : ByteArray) : (a == b) = decide (a = b) := by
  rw [beq_toListBytes, ByteArray.toList_eq, ByteArray.toList_eq]
  by_cases h : a = b
  · subst h
    simp
  · rw [decide_eq_false h]
    have : ¬ a.data.toList = b.data.toList := fun e => h (ByteArray.ext (Array.toList_inj.1 e))
    simpa using this
abbrev Sms := List (ByteArray × Int)
def Sms.look : Sms → ByteArray → Option Int
  | [], _ => none
  | p :: r, k => if k = p.1 then some p.2 else Sms.look r k
def Sms.put : Sms → ByteArray → Int → Sms
  | [], k, v => [(k, v)]
  | p :: r, k, v => if k = p.1 then (k, v) :: r else p :: Sms.put r k v
def Sms.idx : Sms → ByteArray → Option Nat
  | [], _ => none
  | p :: r, k => if k = p.1 then some 0 else (Sms.idx r k).map (· + 1)
set_option maxRecDepth 20000 in
theorem Sms.look_put : ∀ (l : Sms) (k : ByteArray) (v : Int) (x : ByteArray), Sms.look (Sms.put l k v) x = if x = k then some v else Sms.look l x
  | [], k, v, x => by simp [Sms.put, Sms.look]
  | p :: r, k, v, x => by
    unfold Sms.put
    by_cases h : k = p.1
    · rw [if_pos h]
      simp only [Sms.look]
      by_cases hx : x = k
      · simp [hx]
      · rw [if_neg hx, if_neg hx, if_neg (by rw [← h]; exact hx)]
    · rw [if_neg h]
      simp only [Sms.look, Sms.look_put r k v x]
      by_cases hx : x = k
      · rw [if_pos hx, if_neg (by rw [hx]; exact h), if_pos hx]
      · rw [if_neg hx, if_neg hx]
set_option maxRecDepth 20000 in
theorem Sms.idx_none : ∀ (l : Sms) (k : ByteArray), Sms.idx l k = none → Sms.put l k = (fun v => l ++ [(k, v)]) ∧ Sms.look l k = none
  | [], k, _ => ⟨rfl, rfl⟩
  | p :: r, k, h => by
    unfold Sms.idx at h
    by_cases hk : k = p.1
    · rw [if_pos hk] at h; cases h
    · rw [if_neg hk] at h
      have ih := Sms.idx_none r k (by simpa using h)
      refine ⟨?_, ?_⟩
      · funext v; simp only [Sms.put, if_neg hk, ih.1, List.cons_append]
      · simp only [Sms.look, if_neg hk, ih.2]
set_option maxRecDepth 20000 in
theorem Sms.idx_some : ∀ (l : Sms) (k : ByteArray) (j : Nat), Sms.idx l k = some j → ∃ v, l[j]? = some (k, v) ∧ Sms.look l k = some v ∧ (∀ u, Sms.put l k u = l.set j (k, u))
  | [], k, j, h => by simp [Sms.idx] at h
  | p :: r, k, j, h => by
    unfold Sms.idx at h
    by_cases hk : k = p.1
    · rw [if_pos hk] at h
      obtain rfl := Option.some.inj h
      refine ⟨p.2, by simp [hk], by simp [Sms.look, hk], fun u => by simp [Sms.put, hk]⟩
    · rw [if_neg hk] at h
      obtain ⟨i, hi, rfl⟩ := Option.map_eq_some_iff.1 h
      obtain ⟨v, h1, h2, h3⟩ := Sms.idx_some r k i hi
      refine ⟨v, by simpa using h1, by simp [Sms.look, hk, h2], fun u => by simp [Sms.put, hk, h3]⟩
def SEnts (es : List MapEntry) (l : Sms) : Prop := es.map (fun e => (e.key, e.val)) = l.map fun p => (Value.string p.1, Value.int .i64 p.2)
set_option maxRecDepth 20000 in
theorem SEnts.find (k : ByteArray) : ∀ (es : List MapEntry) (l : Sms) (i : Nat), SEnts es l →
    Instr.findNow .string (.string k) es i = some ((Sms.idx l k).bind fun j => (l[j]?).map fun p => (i + j, Value.int .i64 p.2))
  | [], [], i, _ => by simp [Instr.findNow, Sms.idx]
  | [], p :: l, i, h => by simp [SEnts] at h
  | e :: es, [], i, h => by simp [SEnts] at h
  | e :: es, p :: l, i, h => by
    simp only [SEnts, List.map_cons, List.cons.injEq, Prod.mk.injEq] at h
    obtain ⟨⟨hk, hv⟩, hr⟩ := h
    have ih := SEnts.find k es l (i + 1) hr
    unfold Instr.findNow
    rw [hk]
    simp only [Instr.sameNow, bytes_beq]
    by_cases hkk : k = p.1
    · rw [decide_eq_true hkk]
      simp [Sms.idx, hkk, hv]
    · rw [decide_eq_false hkk]
      simp only [Sms.idx, if_neg hkk]
      rw [ih]
      cases Sms.idx l k with
      | none => simp
      | some j => simp; cases l[j]? <;> simp; omega
/-- Block b is a map from text to int, of these pairs. -/
def SMapAt (w : World) (b : Nat) (l : Sms) : Prop := ∃ es clock, w.heap[b]? = some (.map es clock) ∧ SEnts es.toList l
section
variable {P : Program} {w : World} {b : Nat} {l : Sms}
set_option maxRecDepth 20000 in
theorem SMapAt.lt (h : SMapAt w b l) : b < w.heap.size := by
  obtain ⟨es, clock, hb, _⟩ := h
  exact (Array.getElem?_eq_some_iff.1 hb).1
set_option maxRecDepth 20000 in
theorem SMapAt.of_block {w' : World} (h : SMapAt w b l) (hk : w'.heap[b]? = w.heap[b]?) : SMapAt w' b l := by
  obtain ⟨es, clock, hb, hE⟩ := h
  exact ⟨es, clock, hk.trans hb, hE⟩
set_option maxRecDepth 20000 in
theorem SMapAt.alloc (h : SMapAt w b l) (o : Obj) : SMapAt (w.alloc o) b l := h.of_block (Below.heap_alloc _ _ _ h.lt)
set_option maxRecDepth 20000 in
theorem SMapAt.below {w' : World} {B : Nat} (h : SMapAt w b l) (hb : Below B w w') (hlt : b < B) : SMapAt w' b l := h.of_block (hb.block b hlt)
set_option maxRecDepth 20000 in
theorem SMapAt.new (w : World) : SMapAt (w.alloc (.map #[] 0)) w.heap.size [] := ⟨#[], 0, heap_alloc_new w _, by simp [SEnts]⟩
set_option maxRecDepth 20000 in
theorem checkKey_str {k : TypeId} (hk : P.underlying k = some .string) (em : Bool) (n : Nat) (v : Value) (w : World) : (Instr.checkKey em (n + 1) k v).run P w = .ok () w := by
  simp [Instr.checkKey, run_underlying hk]
set_option maxRecDepth 20000 in
theorem SMapAt.lookup {t k e : TypeId} (ht : P.underlying t = some (.map k e)) (hk : P.underlying k = some .string) (he : ∀ w, (zeroValue e).run P w = .ok (.int .i64 0) w) (h : SMapAt w b l) (x : ByteArray) :
    (Instr.lookup t (.map (some b)) (.string x) false).run P w = .ok (.int .i64 ((Sms.look l x).getD 0)) w := by
  obtain ⟨es, clock, hb, hE⟩ := h
  have hf := SEnts.find x es.toList l 0 hE
  have hc := fun em v => checkKey_str (P := P) hk em 9999 v w
  simp only [Instr.lookup, Sem.run_bind, run_underlying ht, Result.andThen_ok]
  have hg : (getObj b).run P w = .ok (.map es clock) w := by simp [getObj, Sem.run, hb]
  simp only [hg, Result.andThen_ok, Sem.run_pure, Sem.run_bind, hc, Instr.findKey, run_underlying hk, hf]
  cases hi : Sms.idx l x with
  | none =>
    have := Sms.idx_none l x hi
    simp [this.2, he]
  | some j =>
    obtain ⟨v, h1, h2, _⟩ := Sms.idx_some l x j hi
    simp [h1, h2]
set_option maxRecDepth 20000 in
theorem SEnts.set {es : List MapEntry} {l : Sms} (h : SEnts es l) (j : Nat) (k : ByteArray) (v : Int) (e' : MapEntry → MapEntry) (he : ∀ e, (e' e).key = .string k ∧ (e' e).val = .int .i64 v) : SEnts (es.modify j e') (l.set j (k, v)) := by
  unfold SEnts at *
  apply List.ext_getElem?
  intro i
  have hi := congrArg (fun z => z[i]?) h
  simp only [List.getElem?_map] at hi ⊢
  rw [List.getElem?_modify, List.getElem?_set]
  by_cases hij : j = i
  · subst hij
    simp only [if_true]
    cases h1 : es[j]? with
    | none =>
      rw [h1] at hi
      have : l[j]? = none := by simpa using hi.symm
      rw [if_neg (by simpa using this)]
      simp
    | some e =>
      rw [h1] at hi
      have hl : j < l.length := by
        rcases Nat.lt_or_ge j l.length with h | h
        · exact h
        · rw [List.getElem?_eq_none h] at hi; simp at hi
      rw [if_pos hl]
      simp [he e]
  · simp only [if_neg hij]
    simpa using hi
set_option maxRecDepth 20000 in
theorem SMapAt.update {t k e : TypeId} (ht : P.underlying t = some (.map k e)) (hk : P.underlying k = some .string) (h : SMapAt w b l) (x : ByteArray) (v : Int) :
    ∃ w', (Instr.mapUpdate t (.map (some b)) (.string x) (.int .i64 v)).run P w = .ok () w' ∧ SMapAt w' b (Sms.put l x v) ∧ w.grownBy w' (some b) := by
  have hlt := h.lt
  obtain ⟨es, clock, hb, hE⟩ := h
  have hf := SEnts.find x es.toList l 0 hE
  have hc := fun em v => checkKey_str (P := P) hk em 9999 v w
  have hg : (getObj b).run P w = .ok (.map es clock) w := by simp [getObj, Sem.run, hb]
  have hs : ∀ o, (setObj b o).run P w = .ok () (setB w b o) := fun o => by simp [setObj, Sem.run, hb, setB]
  simp only [Instr.mapUpdate, Sem.run_bind, run_underlying ht, Result.andThen_ok, hg, hc, Instr.findKey, run_underlying hk, hf]
  cases hi : Sms.idx l x with
  | none =>
    have hn := Sms.idx_none l x hi
    simp only [Option.bind_none, Sem.run_pure, Result.andThen_ok, hs]
    refine ⟨_, rfl, ⟨_, _, setB_same hlt _, ?_⟩, setB_grown _⟩
    rw [hn.1]
    unfold SEnts at *
    simp [hE]
  | some j =>
    obtain ⟨u, h1, h2, h3⟩ := Sms.idx_some l x j hi
    have h4 : (es[j]?).map (fun e => (e.key, e.val)) = some (Value.string x, Value.int .i64 u) := by
      have := congrArg (fun z => z[j]?) hE
      simp only [List.getElem?_map, h1, Array.getElem?_toList] at this
      exact this
    obtain ⟨e0, he0, hee⟩ := Option.map_eq_some_iff.1 h4
    simp only [Prod.mk.injEq] at hee
    have hxx : (x == x) = true := by rw [bytes_beq]; simp
    simp only [Option.bind_some, h1, Option.map_some, Sem.run_pure, Result.andThen_ok, Nat.zero_add, he0, Option.getD_some, hee.1, Instr.keyThatStays, Instr.sameBits, hxx, if_true, Sem.run_bind, hs]
    refine ⟨_, rfl, ⟨_, _, setB_same hlt _, ?_⟩, setB_grown _⟩
    rw [h3]
    have := hE.set j x v (fun e => { e with key := .string x, val := .int .i64 v }) (fun _ => ⟨rfl, rfl⟩)
    simpa using this
end
section
variable {P : Program} (w : World) {ops : Array Oper} {rest : List Oper} {o : Oper} {a : Act} {Q : Exit → Act → World → Prop}
set_option maxRecDepth 20000 in
theorem wpList_smapUpd (hg : o.guard = none) (m x v : Operand) (t : TypeId) (hop : o.op = Op.mapUpdate t m x v) (k e : TypeId) (ht : P.underlying t = some (.map k e)) (hk : P.underlying k = some .string)
    (b : Nat) (l : Sms) (hM : SMapAt w b l) (kx : ByteArray) (vv : Int) (hm : a.eval m = .map (some b)) (hx : a.eval x = .string kx) (hv : a.eval v = .int .i64 vv)
    (hK : ∀ w', Hid (SMapAt w' b (Sms.put l kx vv)) → Hid (w.grownBy w' (some b)) → wpList P ops Q rest (a.put o.dst undef) w') : wpList P ops Q (o :: rest) a w := by
  refine wpList_plain hg fun K' hK' => ?_
  obtain ⟨w', hrun, r1, r2⟩ := hM.update (P := P) ht hk kx vv
  unfold Oper.wp
  simp [execOp, hop, hm, hx, hv, hrun, Result.andThen]
  exact hK' _ _ (hK w' (hide r1) (hide r2))
end
end Go.Proofs.Ytkipmbnmmbeeaaa.Zb
