/- Several texts in one: ImgM, ImgP, ImgQ. -/
import Derived.Test.YthgjmbcojbmlhaaLx1
import Derived.Test.YthgjmbcojbmlhaaOctP
import Derived.Test.YthgjmbcojbmlhaaIn1
/- Chapter 14: units, plain: whether one can be, its bytes, what bytes say. No program's text but types' numbers. -/
namespace Go.Proofs.Ythgjmbcojbmlhaa
open Go.RowKit Zb

structure CapM where
  up : Bool
  index : Int
  deriving DecidableEq
structure ConM where
  kind : Int
  n : Int
  s : ByteArray
  deriving DecidableEq
structure InsM where
  op : Int
  a : Int
  b : Int
  c : Int
  deriving DecidableEq
structure UseM where
  mod : ByteArray
  name : ByteArray
  params : Int
  deriving DecidableEq
structure ProtoM where
  name : ByteArray
  params : Int
  regs : Int
  code : List InsM
  consts : List ConM
  caps : List CapM
  deriving DecidableEq
structure UnitM where
  name : ByteArray
  version : Int
  uses : List UseM
  funs : Int
  protos : List ProtoM
  deriving DecidableEq
def CapM.cells (x : CapM) : List Value := [.bool x.up, .int .i64 x.index]
def ConM.cells (x : ConM) : List Value := [.int .i64 x.kind, .int .i64 x.n, .string x.s]
def InsM.cells (x : InsM) : List Value := [.int .i64 x.op, .int .i64 x.a, .int .i64 x.b, .int .i64 x.c]
def UseM.cells (x : UseM) : List Value := [.string x.mod, .string x.name, .int .i64 x.params]

/-! ### whether one can be -/
def inR (n lo hi : Int) : Bool := decide (lo ≤ n) && decide (n ≤ hi)
def conOk (v : ConM) : Bool := if v.kind = 0 then decide (v.n = 0) && decide (v.s = ⟨#[]⟩) else if v.kind = 1 then decide (v.s = ⟨#[]⟩) else if v.kind = 2 then decide (v.n = 0) && decide (v.s.size ≤ 1024) else false
def insOk (x : InsM) : Bool := rightB x.op x.a x.b x.c
def capOk (c : CapM) : Bool := inR c.index 0 255
def useOk (x : UseM) : Bool := nameM x.mod && nameM x.name && inR x.params 0 8
def headOk (p : ProtoM) (top : Bool) : Bool := if top then nameM p.name && decide (p.caps.length = 0) else decide (p.name = ⟨#[]⟩) && (decide (p.caps.length ≤ 255) && p.caps.all capOk)
def shapeOk (p : ProtoM) : Bool := inR p.params 0 8 && inR p.regs (max 1 p.params) 100 && (decide (p.consts.length ≤ 200) && p.consts.all conOk) && (decide (p.code.length ≤ 8000) && p.code.all insOk)
def protoOk (p : ProtoM) (top : Bool) : Bool := headOk p top && shapeOk p
/-- protos from the i-th on -/
def protosOk (funs : Int) : Nat → List ProtoM → Bool
  | _, [] => true
  | i, p :: r => protoOk p (decide ((i : Int) + 1 ≤ funs)) && protosOk funs (i + 1) r
def unitOk (u : UnitM) : Bool := nameM u.name && inR u.version 1 2147483647 && inR u.funs 0 (min 32 (u.protos.length : Int)) && (decide (u.uses.length ≤ 16) && u.uses.all useOk) && (decide (u.protos.length ≤ 64) && protosOk u.funs 0 u.protos)

/-! ### bytes -/
def catB {α : Type} (f : α → ByteArray) : List α → ByteArray
  | [] => ⟨#[]⟩
  | x :: r => f x ++ catB f r
set_option maxRecDepth 20000 in
theorem bemp (s : ByteArray) : s ++ (⟨#[]⟩ : ByteArray) = s := by
  rw [show (⟨#[]⟩ : ByteArray) = ByteArray.empty from rfl, ByteArray.append_empty]
set_option maxRecDepth 20000 in
theorem empb (s : ByteArray) : (⟨#[]⟩ : ByteArray) ++ s = s := by
  rw [show (⟨#[]⟩ : ByteArray) = ByteArray.empty from rfl, ByteArray.empty_append]
set_option maxRecDepth 20000 in
theorem catB_snoc {α : Type} (f : α → ByteArray) (x : α) : ∀ l, catB f (l ++ [x]) = catB f l ++ f x
  | [] => by
    show f x ++ ⟨#[]⟩ = ⟨#[]⟩ ++ f x
    rw [bemp, empb]
  | y :: r => by
    simp only [List.cons_append, catB]
    rw [catB_snoc f x r, ByteArray.append_assoc]
set_option maxRecDepth 20000 in
theorem catB_take {α : Type} (f : α → ByteArray) (l : List α) (k : Nat) (x : α) (h : l[k]? = some x) : catB f (l.take (k + 1)) = catB f (l.take k) ++ f x := by
  rw [List.take_add_one, h]
  exact catB_snoc f x _
set_option maxRecDepth 20000 in
theorem catB_le {α : Type} (f : α → ByteArray) (l : List α) (k : Nat) : (catB f (l.take k)).size ≤ (catB f l).size := by
  induction l generalizing k with
  | nil => simp [catB]
  | cons x r ih =>
    cases k with
    | zero => exact Nat.zero_le _
    | succ k =>
      simp only [List.take_succ_cons, catB, ByteArray.size_append]
      have := ih k
      omega
set_option maxRecDepth 20000 in
theorem catB_bound {α : Type} (f : α → ByteArray) (c : Nat) : ∀ l : List α, (∀ x ∈ l, (f x).size ≤ c) → (catB f l).size ≤ l.length * c
  | [], _ => Nat.zero_le _
  | x :: r, h => by
    have ih := catB_bound f c r fun y hy => h y (List.mem_cons_of_mem _ hy)
    have h0 := h x (List.mem_cons_self ..)
    simp only [catB, ByteArray.size_append, List.length_cons, Nat.add_mul]
    omega
def capB (c : CapM) : ByteArray := putB (if c.up then 1 else 0) 1 ++ putB c.index 1
def conTail (v : ConM) : ByteArray := if v.kind = 1 then putB v.n 8 else if v.kind = 2 then textB v.s else ⟨#[]⟩
def conB (v : ConM) : ByteArray := putB v.kind 1 ++ conTail v
def insB (x : InsM) : ByteArray := buildB x.op x.a x.b x.c
def useB (x : UseM) : ByteArray := textB x.mod ++ textB x.name ++ putB x.params 1
def protoH (p : ProtoM) : ByteArray := textB p.name ++ putB p.params 1 ++ putB p.regs 1 ++ putB p.caps.length 2
def protoB (p : ProtoM) : ByteArray := protoH p ++ catB capB p.caps ++ putB p.consts.length 2 ++ catB conB p.consts ++ putB p.code.length 2 ++ catB insB p.code
def unitH (u : UnitM) : ByteArray := ⟨#[67, 72, 82, 89]⟩ ++ textB u.name ++ putB u.version 4 ++ putB u.uses.length 2
def unitB (u : UnitM) : ByteArray := unitH u ++ catB useB u.uses ++ putB u.funs 1 ++ putB u.protos.length 2 ++ catB protoB u.protos
def ubuild (u : UnitM) : ByteArray × Int := if unitOk u then (unitB u, 0) else (⟨#[]⟩, 4)

/-! ### what bytes say -/
structure St where
  at_ : Nat
  whole : Bool
def rnum (s : ByteArray) (width : Nat) (t : St) : Int × St := if t.whole && decide (getE s t.at_ width = 0) then (getN s t.at_ width, ⟨t.at_ + width, true⟩) else (0, ⟨t.at_, false⟩)
def rtext (s : ByteArray) (t : St) : ByteArray × St := if t.whole && decide ((nextM s t.at_).2.2 = 0) then ((nextM s t.at_).1, ⟨(nextM s t.at_).2.1.toNat, true⟩) else (⟨#[]⟩, ⟨t.at_, false⟩)
def rlist {α : Type} (one : St → α × St) : Nat → St → List α × St
  | 0, t => ([], t)
  | n + 1, t => if t.whole then ((one t).1 :: (rlist one n (one t).2).1, (rlist one n (one t).2).2) else ([], t)
/-- a list behind its length -/
def rlists {α : Type} (s : ByteArray) (one : St → α × St) (t : St) : List α × St := rlist one (rnum s 2 t).1.toNat (rnum s 2 t).2
def rcap (s : ByteArray) (t : St) : CapM × St := let a := rnum s 1 t; let b := rnum s 1 a.2; (⟨decide (a.1 = 1), b.1⟩, b.2)
def rcon (s : ByteArray) (t : St) : ConM × St :=
  let a := rnum s 1 t
  if a.1 = 1 then (⟨a.1, (rnum s 8 a.2).1, ⟨#[]⟩⟩, (rnum s 8 a.2).2)
  else if a.1 = 2 then (⟨a.1, 0, (rtext s a.2).1⟩, (rtext s a.2).2)
  else (⟨a.1, 0, ⟨#[]⟩⟩, a.2)
def rins (s : ByteArray) (t : St) : InsM × St := let a := rnum s 1 t; let b := rnum s 1 a.2; let c := rnum s 1 b.2; let d := rnum s 1 c.2; (⟨a.1, b.1, c.1, d.1⟩, d.2)
def ruse (s : ByteArray) (t : St) : UseM × St := let a := rtext s t; let b := rtext s a.2; let c := rnum s 1 b.2; (⟨a.1, b.1, c.1⟩, c.2)
def rproto (s : ByteArray) (t : St) : ProtoM × St :=
  let a := rtext s t; let b := rnum s 1 a.2; let c := rnum s 1 b.2
  let d := rlists s (rcap s) c.2; let e := rlists s (rcon s) d.2; let f := rlists s (rins s) e.2
  (⟨a.1, b.1, c.1, f.1, e.1, d.1⟩, f.2)
def runit (s : ByteArray) : UnitM × St :=
  let z := rnum s 4 ⟨0, true⟩; let a := rtext s z.2; let b := rnum s 4 a.2
  let c := rlists s (ruse s) b.2; let d := rnum s 1 c.2; let e := rlists s (rproto s) d.2
  (⟨a.1, b.1, c.1, d.1, e.1⟩, e.2)
def unit0 : UnitM := ⟨⟨#[]⟩, 0, [], 0, []⟩
def uparse (s : ByteArray) : UnitM × Int := if (runit s).2.whole then if ubuild (runit s).1 = (s, 0) then ((runit s).1, 0) else (unit0, 4) else (unit0, 2)
end Go.Proofs.Ythgjmbcojbmlhaa

/- Chapter 14: readers, plain: a reading that ends whole is the same with more bytes behind; what was laid down is read back. -/
namespace Go.Proofs.Ythgjmbcojbmlhaa
open Go.RowKit Zb

/-! ### more bytes behind -/
theorem cutL_ext (s x : ByteArray) (a w : Nat) (h : a + w ≤ s.size) : cutL (s ++ x) a w = cutL s a w := by
  unfold cutL
  have hs : s.size = s.data.toList.length := rfl
  rw [ByteArray.data_append, Array.toList_append, List.drop_append_of_le_length (by omega), List.take_append_of_le_length (by rw [List.length_drop]; omega)]
set_option maxRecDepth 20000 in
theorem getE_nat {s : ByteArray} {a w : Nat} (h : getE s a w = 0) : a + w ≤ s.size ∧ wideB w = true := by
  unfold getE at h
  split at h
  · exact absurd h (by decide)
  · rename_i h1
    split at h
    · exact absurd h (by decide)
    · refine ⟨by omega, ?_⟩
      cases hw : wideB (w : Int) with
      | true => rfl
      | false => exact absurd (.inl hw) h1
set_option maxRecDepth 20000 in
theorem getE_ext {s : ByteArray} {a w : Nat} (x : ByteArray) (h : getE s a w = 0) : getE (s ++ x) a w = 0 ∧ getN (s ++ x) a w = getN s a w := by
  obtain ⟨h1, h2⟩ := getE_nat h
  have e : getE (s ++ x) a w = 0 := by
    unfold getE
    rw [if_neg (by rw [h2]; simp), if_neg]
    rw [ByteArray.size_append]
    omega
  refine ⟨e, ?_⟩
  unfold getN
  rw [if_pos e, if_pos h, Int.toNat_natCast, Int.toNat_natCast, cutL_ext s x a w h1]
set_option maxRecDepth 20000 in
theorem ext_extract (s x : ByteArray) (a b : Nat) (h : b ≤ s.size) : (s ++ x).extract a b = s.extract a b := by
  apply ByteArray.ext
  rw [ByteArray.data_extract, ByteArray.data_extract, ByteArray.data_append]
  apply Array.ext'
  rw [Array.toList_extract, Array.toList_extract, Array.toList_append, List.extract_eq_take_drop, List.extract_eq_take_drop]
  have hs : s.size = s.data.toList.length := rfl
  by_cases hab : a ≤ b
  · rw [List.drop_append_of_le_length (by omega), List.take_append_of_le_length (by rw [List.length_drop]; omega)]
  · rw [show b - a = 0 by omega, List.take_zero, List.take_zero]
set_option maxRecDepth 20000 in
theorem nextM_nat {s : ByteArray} {a : Nat} (h : (nextM s a).2.2 = 0) : getE s a 4 = 0 ∧ ∃ n : Nat, getN s a 4 = n ∧ a + 4 + n ≤ s.size ∧ nextM s a = (s.extract (a + 4) (a + 4 + n), ((a + 4 + n : Nat) : Int), 0) := by
  unfold nextM at h ⊢
  by_cases hE : getE s a 4 = 0
  · rw [if_pos hE] at h ⊢
    by_cases hN : getN s a 4 ≤ s.size - (a : Int) - 4
    · rw [if_pos hN]
      have h0 := (getN_lim s a).1
      refine ⟨hE, (getN s a 4).toNat, by omega, by omega, ?_⟩
      rw [show (a : Int) + 4 + getN s a 4 = ((a + 4 + (getN s a 4).toNat : Nat) : Int) by omega, show ((a : Int) + 4).toNat = a + 4 by omega]
      rfl
    · rw [if_neg hN] at h
      exact absurd h (by decide)
  · rw [if_neg hE] at h
    exact absurd h hE
set_option maxRecDepth 20000 in
theorem nextM_ext {s : ByteArray} {a : Nat} (x : ByteArray) (h : (nextM s a).2.2 = 0) : nextM (s ++ x) a = nextM s a := by
  obtain ⟨h1, n, h2, h3, h4⟩ := nextM_nat h
  have he : getE (s ++ x) a 4 = 0 ∧ getN (s ++ x) a 4 = getN s a 4 := getE_ext (w := 4) x h1
  rw [h4]
  unfold nextM
  rw [if_pos he.1, he.2, h2, if_pos (by rw [ByteArray.size_append]; omega)]
  rw [show (a : Int) + 4 + (n : Int) = ((a + 4 + n : Nat) : Int) by omega, show ((a : Int) + 4).toNat = a + 4 by omega, Int.toNat_natCast, ext_extract s x _ _ h3]

/-! ### readers -/
structure Rd {α : Type} (f : ByteArray → St → α × St) : Prop where
  mono : ∀ s t, (f s t).2.whole = true → t.whole = true
  ext : ∀ s x t, (f s t).2.whole = true → f (s ++ x) t = f s t
  le : ∀ s t, t.at_ ≤ s.size → (f s t).2.at_ ≤ s.size
def rbind {α β : Type} (f : ByteArray → St → α × St) (g : α → ByteArray → St → β × St) (s : ByteArray) (t : St) : β × St := g (f s t).1 s (f s t).2
set_option maxRecDepth 20000 in
theorem Rd.pure {α : Type} (x : α) : Rd fun _ t => (x, t) := ⟨fun _ _ h => h, fun _ _ _ _ => rfl, fun _ _ h => h⟩
set_option maxRecDepth 20000 in
theorem Rd.bind {α β : Type} {f : ByteArray → St → α × St} {g : α → ByteArray → St → β × St} (hf : Rd f) (hg : ∀ a, Rd (g a)) : Rd (rbind f g) := by
  refine ⟨fun s t h => hf.mono s t ((hg _).mono s _ h), fun s x t h => ?_, fun s t h => (hg _).le s _ (hf.le s t h)⟩
  unfold rbind at h ⊢
  rw [hf.ext s x t ((hg _).mono s _ h), (hg _).ext s x _ h]
set_option maxRecDepth 20000 in
theorem Rd.num (w : Nat) : Rd fun s => rnum s w := by
  refine ⟨fun s t h => ?_, fun s x t h => ?_, fun s t h => ?_⟩
  · unfold rnum at h
    split at h
    · rename_i h1
      simp only [Bool.and_eq_true] at h1
      exact h1.1
    · exact absurd h (by simp)
  · unfold rnum at h ⊢
    split at h
    · rename_i h1
      simp only [Bool.and_eq_true, decide_eq_true_eq] at h1
      have e := getE_ext x h1.2
      rw [e.1, e.2, h1.1, h1.2]
    · exact absurd h (by simp)
  · unfold rnum
    split
    · rename_i h1
      simp only [Bool.and_eq_true, decide_eq_true_eq] at h1
      exact (getE_nat h1.2).1
    · exact h
set_option maxRecDepth 20000 in
theorem Rd.text : Rd rtext := by
  refine ⟨fun s t h => ?_, fun s x t h => ?_, fun s t h => ?_⟩
  · unfold rtext at h
    split at h
    · rename_i h1
      simp only [Bool.and_eq_true] at h1
      exact h1.1
    · exact absurd h (by simp)
  · unfold rtext at h ⊢
    split at h
    · rename_i h1
      simp only [Bool.and_eq_true, decide_eq_true_eq] at h1
      rw [nextM_ext x h1.2, h1.1, h1.2]
    · exact absurd h (by simp)
  · unfold rtext
    split
    · rename_i h1
      simp only [Bool.and_eq_true, decide_eq_true_eq] at h1
      obtain ⟨_, n, _, h3, h4⟩ := nextM_nat h1.2
      rw [h4]
      exact h3
    · exact h
set_option maxRecDepth 20000 in
theorem Rd.rlist {α : Type} {one : ByteArray → St → α × St} (h : Rd one) : ∀ n, Rd fun s => rlist (one s) n
  | 0 => ⟨fun _ _ h => h, fun _ _ _ _ => rfl, fun _ _ h => h⟩
  | n + 1 => by
    have ih := Rd.rlist h n
    refine ⟨fun s t hw => ?_, fun s x t hw => ?_, fun s t ha => ?_⟩
    · dsimp only [Go.Proofs.Ythgjmbcojbmlhaa.rlist] at hw
      cases ht : t.whole with
      | true => rfl
      | false => rw [ht] at hw; exact absurd (show t.whole = true from hw) (by rw [ht]; simp)
    · cases ht : t.whole with
      | false => simp only [Go.Proofs.Ythgjmbcojbmlhaa.rlist, ht]; rfl
      | true =>
        simp only [Go.Proofs.Ythgjmbcojbmlhaa.rlist, ht, if_true] at hw ⊢
        have e1 := h.ext s x t (ih.mono s _ hw)
        rw [e1, ih.ext s x _ hw]
    · cases ht : t.whole with
      | false => simp only [Go.Proofs.Ythgjmbcojbmlhaa.rlist, ht]; exact ha
      | true =>
        simp only [Go.Proofs.Ythgjmbcojbmlhaa.rlist, ht, if_true]
        exact ih.le s _ (h.le s t ha)
set_option maxRecDepth 20000 in
theorem lists_eq {α : Type} (one : ByteArray → St → α × St) : (fun s => rlists s (one s)) = rbind (fun s => rnum s 2) (fun (a : Int) (s : ByteArray) (t : St) => Go.Proofs.Ythgjmbcojbmlhaa.rlist (one s) a.toNat t) := rfl
set_option maxRecDepth 20000 in
theorem Rd.lists {α : Type} {one : ByteArray → St → α × St} (h : Rd one) : Rd fun s => rlists s (one s) := by
  rw [lists_eq]
  exact Rd.bind (Rd.num 2) fun a => Rd.rlist h a.toNat
set_option maxRecDepth 20000 in
theorem rcap_eq : rcap = rbind (fun s => rnum s 1) fun a => rbind (fun s => rnum s 1) fun b _ t => (⟨decide (a = 1), b⟩, t) := rfl
set_option maxRecDepth 20000 in
theorem rins_eq : rins = rbind (fun s => rnum s 1) fun a => rbind (fun s => rnum s 1) fun b => rbind (fun s => rnum s 1) fun c => rbind (fun s => rnum s 1) fun d _ t => (⟨a, b, c, d⟩, t) := rfl
set_option maxRecDepth 20000 in
theorem ruse_eq : ruse = rbind rtext fun a => rbind rtext fun b => rbind (fun s => rnum s 1) fun c _ t => (⟨a, b, c⟩, t) := rfl
set_option maxRecDepth 20000 in
theorem Rd.cap : Rd rcap := by
  rw [rcap_eq]
  exact Rd.bind (Rd.num 1) fun _ => Rd.bind (Rd.num 1) fun _ => Rd.pure _
set_option maxRecDepth 20000 in
theorem Rd.ins : Rd rins := by
  rw [rins_eq]
  exact Rd.bind (Rd.num 1) fun _ => Rd.bind (Rd.num 1) fun _ => Rd.bind (Rd.num 1) fun _ => Rd.bind (Rd.num 1) fun _ => Rd.pure _
set_option maxRecDepth 20000 in
theorem Rd.use : Rd ruse := by
  rw [ruse_eq]
  exact Rd.bind Rd.text fun _ => Rd.bind Rd.text fun _ => Rd.bind (Rd.num 1) fun _ => Rd.pure _
def rconT (k : Int) (s : ByteArray) (t : St) : ConM × St := if k = 1 then (⟨k, (rnum s 8 t).1, ⟨#[]⟩⟩, (rnum s 8 t).2) else if k = 2 then (⟨k, 0, (rtext s t).1⟩, (rtext s t).2) else (⟨k, 0, ⟨#[]⟩⟩, t)
set_option maxRecDepth 20000 in
theorem rcon_eq : rcon = rbind (fun s => rnum s 1) rconT := rfl
set_option maxRecDepth 20000 in
theorem Rd.conT (k : Int) : Rd (rconT k) := by
  unfold rconT
  by_cases h1 : k = 1
  · subst h1
    exact Rd.bind (Rd.num 8) (g := fun (a : Int) (_ : ByteArray) (t : St) => ((⟨1, a, ⟨#[]⟩⟩ : ConM), t)) fun _ => Rd.pure _
  · by_cases h2 : k = 2
    · subst h2
      exact Rd.bind Rd.text (g := fun (a : ByteArray) (_ : ByteArray) (t : St) => ((⟨2, 0, a⟩ : ConM), t)) fun _ => Rd.pure _
    · simp only [if_neg h1, if_neg h2]
      exact Rd.pure _
set_option maxRecDepth 20000 in
theorem Rd.con : Rd rcon := by
  rw [rcon_eq]
  exact Rd.bind (Rd.num 1) Rd.conT
def rprotoG (a : ByteArray) (b c : Int) (d : List CapM) (e : List ConM) (f : List InsM) : ProtoM := ⟨a, b, c, f, e, d⟩
set_option maxRecDepth 20000 in
theorem rproto_eq : rproto = rbind rtext fun a => rbind (fun s => rnum s 1) fun b => rbind (fun s => rnum s 1) fun c => rbind (fun s => rlists s (rcap s)) fun d => rbind (fun s => rlists s (rcon s)) fun e => rbind (fun s => rlists s (rins s)) fun f _ t => (⟨a, b, c, f, e, d⟩, t) := rfl
set_option maxRecDepth 20000 in
theorem Rd.proto : Rd rproto := by
  rw [rproto_eq]
  exact Rd.bind Rd.text fun _ => Rd.bind (Rd.num 1) fun _ => Rd.bind (Rd.num 1) fun _ => Rd.bind (Rd.lists Rd.cap) fun _ => Rd.bind (Rd.lists Rd.con) fun _ => Rd.bind (Rd.lists Rd.ins) fun _ => Rd.pure _
def runitF : ByteArray → St → UnitM × St := rbind (fun s => rnum s 4) fun _ => rbind rtext fun a => rbind (fun s => rnum s 4) fun b => rbind (fun s => rlists s (ruse s)) fun c => rbind (fun s => rnum s 1) fun d => rbind (fun s => rlists s (rproto s)) fun e _ t => (⟨a, b, c, d, e⟩, t)
set_option maxRecDepth 20000 in
theorem runit_eq (s : ByteArray) : runit s = runitF s ⟨0, true⟩ := rfl
set_option maxRecDepth 20000 in
theorem Rd.unit : Rd runitF := Rd.bind (Rd.num 4) fun _ => Rd.bind Rd.text fun _ => Rd.bind (Rd.num 4) fun _ => Rd.bind (Rd.lists Rd.use) fun _ => Rd.bind (Rd.num 1) fun _ => Rd.bind (Rd.lists Rd.proto) fun _ => Rd.pure _

/-! ### back -/
def Bk {α : Type} (f : ByteArray → St → α × St) (x : α) (b : ByteArray) : Prop := ∀ A C, f (A ++ b ++ C) ⟨A.size, true⟩ = (x, ⟨(A ++ b).size, true⟩)
set_option maxRecDepth 20000 in
theorem Bk.pure {α : Type} (x : α) : Bk (fun _ t => (x, t)) x ⟨#[]⟩ := fun A C => by rw [bemp]
set_option maxRecDepth 20000 in
theorem Bk.bind {α β : Type} {f : ByteArray → St → α × St} {g : α → ByteArray → St → β × St} {x : α} {y : β} {b c : ByteArray} (hf : Bk f x b) (hg : Bk (g x) y c) : Bk (rbind f g) y (b ++ c) := fun A C => by
  unfold rbind
  have h1 := hf A (c ++ C)
  have h2 := hg (A ++ b) C
  rw [show A ++ (b ++ c) ++ C = A ++ b ++ (c ++ C) by simp only [ByteArray.append_assoc], h1]
  dsimp only
  rw [show A ++ b ++ (c ++ C) = A ++ b ++ c ++ C by simp only [ByteArray.append_assoc], h2]
  simp only [ByteArray.append_assoc]
set_option maxRecDepth 20000 in
theorem Bk.num {n : Int} (h0 : -9223372036854775808 ≤ n) (h1 : n < 9223372036854775808) {w : Nat} (h : putOk n w = true) : Bk (fun s => rnum s w) n (putB n w) := fun A C => by
  obtain ⟨k, hk, _, _, hp⟩ := putB_ok h
  obtain rfl : w = k := by omega
  have hw : wideB (w : Int) = true := by simp [putOk] at h; exact h.1
  obtain ⟨g1, g2⟩ := get_back h0 h1 h A C hw
  rw [hp]
  unfold rnum
  dsimp only
  rw [g1, g2, ByteArray.size_append, leB_size]
  rfl
set_option maxRecDepth 20000 in
theorem Bk.text (t : ByteArray) (h : t.size ≤ 4294967295) : Bk rtext t (textB t) := fun A C => by
  have e := next_mid A t C h
  unfold rtext
  dsimp only
  rw [e]
  dsimp only
  rw [ByteArray.size_append, textB_size t h, show ((A.size : Int) + 4 + (t.size : Int)).toNat = A.size + (4 + t.size) by omega]
  rfl
set_option maxRecDepth 20000 in
theorem Bk.rlist {α : Type} {one : ByteArray → St → α × St} {F : α → ByteArray} : ∀ l : List α, (∀ x ∈ l, Bk one x (F x)) → Bk (fun s => rlist (one s) l.length) l (catB F l)
  | [], _ => fun A C => by
    show (([] : List α), (⟨A.size, true⟩ : St)) = ([], ⟨(A ++ ⟨#[]⟩).size, true⟩)
    rw [bemp]
  | x :: r, h => fun A C => by
    have h1 := h x (List.mem_cons_self ..) A (catB F r ++ C)
    have h2 := Bk.rlist r (fun y hy => h y (List.mem_cons_of_mem _ hy)) (A ++ F x) C
    dsimp only at h1 h2
    rw [show A ++ catB F (x :: r) ++ C = A ++ F x ++ (catB F r ++ C) by simp only [catB, ByteArray.append_assoc]]
    simp only [List.length_cons, Go.Proofs.Ythgjmbcojbmlhaa.rlist, if_true]
    rw [h1]
    dsimp only
    rw [show A ++ F x ++ (catB F r ++ C) = A ++ F x ++ catB F r ++ C by simp only [ByteArray.append_assoc], h2]
    simp only [catB, ByteArray.append_assoc]
set_option maxRecDepth 20000 in
theorem put_ok {n : Int} {w : Nat} (hw : w = 1 ∨ w = 2 ∨ w = 4) (h0 : 0 ≤ n) (h1 : n < 256 ^ w) : putOk n w = true := by
  rcases hw with rfl | rfl | rfl <;> · simp only [putOk, wideB]; simp; omega
set_option maxRecDepth 20000 in
theorem put_ok8 (n : Int) : putOk n (8 : Nat) = true := by simp [putOk, wideB]
set_option maxRecDepth 20000 in
theorem Bk.lists {α : Type} {one : ByteArray → St → α × St} {F : α → ByteArray} (l : List α) (hl : l.length ≤ 65535) (h : ∀ x ∈ l, Bk one x (F x)) : Bk (fun s => rlists s (one s)) l (putB l.length 2 ++ catB F l) := by
  have h1 := Bk.num (n := l.length) (by omega) (by omega) (w := 2) (put_ok (.inr (.inl rfl)) (by omega) (by simp; omega))
  rw [lists_eq]
  refine Bk.bind h1 ?_
  rw [Int.toNat_natCast]
  exact Bk.rlist l h
set_option maxRecDepth 20000 in
theorem in_lim {n lo hi : Int} (h : inR n lo hi = true) : lo ≤ n ∧ n ≤ hi := by simpa [inR] using h
end Go.Proofs.Ythgjmbcojbmlhaa

/- Chapter 14: what was laid down is read back, plain. -/
namespace Go.Proofs.Ythgjmbcojbmlhaa
open Go.RowKit Zb

set_option maxRecDepth 20000 in
theorem Bk.cast {α : Type} {f : ByteArray → St → α × St} {x y : α} {b c : ByteArray} (h : Bk f x b) (hx : x = y) (hb : b = c) : Bk f y c := by
  subst hx; subst hb; exact h
set_option maxRecDepth 20000 in
theorem Bk.num1 {n : Int} (h0 : 0 ≤ n) (h1 : n ≤ 255) : Bk (fun s => rnum s 1) n (putB n 1) := Bk.num (by omega) (by omega) (w := 1) (put_ok (.inl rfl) h0 (by omega))
set_option maxRecDepth 20000 in
theorem Bk.num4 {n : Int} (h0 : 0 ≤ n) (h1 : n ≤ 4294967295) : Bk (fun s => rnum s 4) n (putB n 4) := Bk.num (by omega) (by omega) (w := 4) (put_ok (.inr (.inr rfl)) h0 (by omega))
set_option maxRecDepth 20000 in
theorem Bk.cap {c : CapM} (h : capOk c = true) : Bk rcap c (capB c) := by
  obtain ⟨h0, h1⟩ := in_lim h
  rw [rcap_eq]
  refine (Bk.bind (Bk.num1 (n := if c.up then 1 else 0) (by split <;> decide) (by split <;> decide)) (Bk.bind (Bk.num1 h0 h1) (Bk.pure _))).cast ?_ ?_
  · obtain ⟨u, i⟩ := c
    cases u <;> rfl
  · unfold capB
    rw [bemp]
set_option maxRecDepth 20000 in
theorem Bk.con {v : ConM} (h : conOk v = true) (hn : -9223372036854775808 ≤ v.n ∧ v.n < 9223372036854775808) : Bk rcon v (conB v) := by
  obtain ⟨k, n, s⟩ := v
  rw [rcon_eq]
  unfold conOk at h
  dsimp only at h hn
  by_cases h0 : k = 0
  · subst h0
    simp at h
    obtain ⟨rfl, rfl⟩ := h
    refine Bk.bind (Bk.num1 (by decide) (by decide)) ?_
    exact Bk.pure _
  · by_cases h1 : k = 1
    · subst h1
      simp at h
      subst h
      refine Bk.bind (Bk.num1 (n := 1) (by decide) (by decide)) ?_
      have := Bk.bind (Bk.num hn.1 hn.2 (w := 8) (put_ok8 n)) (g := fun (a : Int) (_ : ByteArray) (t : St) => ((⟨1, a, ⟨#[]⟩⟩ : ConM), t)) (Bk.pure _)
      rw [bemp] at this
      exact this
    · by_cases h2 : k = 2
      · subst h2
        simp at h
        obtain ⟨rfl, hs⟩ := h
        refine Bk.bind (Bk.num1 (n := 2) (by decide) (by decide)) ?_
        have := Bk.bind (Bk.text s (by omega)) (g := fun (a : ByteArray) (_ : ByteArray) (t : St) => ((⟨2, 0, a⟩ : ConM), t)) (Bk.pure _)
        rw [bemp] at this
        exact this
      · rw [if_neg h0, if_neg h1, if_neg h2] at h
        exact absurd h (by simp)
set_option maxRecDepth 20000 in
theorem put1 {n : Int} (h0 : 0 ≤ n) (h1 : n ≤ 255) : putB n 1 = ⟨#[UInt8.ofNat n.toNat]⟩ := by
  have h : putOk n 1 = true := put_ok (w := 1) (.inl rfl) h0 (by omega)
  rw [putB, if_pos h]
  have : octAt n 0 = UInt8.ofNat n.toNat := by
    unfold octAt
    rw [show n / 256 ^ 0 % 256 = n by rw [Int.pow_zero, Int.ediv_one]; omega]
  show (⟨(leL n 1).toArray⟩ : ByteArray) = _
  unfold leL
  simp [this]
set_option maxRecDepth 20000 in
theorem insB_eq {x : InsM} (h : insOk x = true) : insB x = putB x.op 1 ++ putB x.a 1 ++ putB x.b 1 ++ putB x.c 1 := by
  obtain ⟨h1, h2, h3, h4⟩ := rightB_lim h
  unfold insB buildB
  rw [if_pos (show rightB x.op x.a x.b x.c = true from h), put1 h1.1 (by omega), put1 h2.1 h2.2, put1 h3.1 h3.2, put1 h4.1 h4.2]
  rfl
set_option maxRecDepth 20000 in
theorem Bk.ins {x : InsM} (h : insOk x = true) : Bk rins x (insB x) := by
  obtain ⟨h1, h2, h3, h4⟩ := rightB_lim h
  rw [rins_eq, insB_eq h]
  refine (Bk.bind (Bk.num1 h1.1 (by omega)) (Bk.bind (Bk.num1 h2.1 h2.2) (Bk.bind (Bk.num1 h3.1 h3.2) (Bk.bind (Bk.num1 h4.1 h4.2) (Bk.pure _))))).cast rfl ?_
  rw [bemp]
  simp only [ByteArray.append_assoc]
set_option maxRecDepth 20000 in
theorem name_lim {s : ByteArray} (h : nameM s = true) : s.size ≤ 16 := by
  simp only [nameM, Bool.and_eq_true, decide_eq_true_eq] at h
  exact h.1.2
set_option maxRecDepth 20000 in
theorem Bk.use {x : UseM} (h : useOk x = true) : Bk ruse x (useB x) := by
  simp only [useOk, Bool.and_eq_true] at h
  obtain ⟨⟨h1, h2⟩, h3⟩ := h
  have h1 := name_lim h1
  have h2 := name_lim h2
  obtain ⟨h3, h4⟩ := in_lim h3
  rw [ruse_eq]
  refine (Bk.bind (Bk.text x.mod (by omega)) (Bk.bind (Bk.text x.name (by omega)) (Bk.bind (Bk.num1 h3 (by omega)) (Bk.pure _)))).cast rfl ?_
  unfold useB
  rw [bemp]
  simp only [ByteArray.append_assoc]
/-- ints that are ints -/
def ConR (v : ConM) : Prop := -9223372036854775808 ≤ v.n ∧ v.n < 9223372036854775808
def ProtoR (p : ProtoM) : Prop := ∀ v ∈ p.consts, ConR v
def UnitR (u : UnitM) : Prop := ∀ p ∈ u.protos, ProtoR p
structure ProtoL (p : ProtoM) : Prop where
  name : p.name.size ≤ 16
  params : 0 ≤ p.params ∧ p.params ≤ 8
  regs : 1 ≤ p.regs ∧ p.regs ≤ 100
  caps : p.caps.length ≤ 255 ∧ ∀ c ∈ p.caps, capOk c = true
  consts : p.consts.length ≤ 200 ∧ ∀ c ∈ p.consts, conOk c = true
  code : p.code.length ≤ 8000 ∧ ∀ c ∈ p.code, insOk c = true
set_option maxRecDepth 20000 in
theorem proto_lim {p : ProtoM} {top : Bool} (h : protoOk p top = true) : ProtoL p := by
  simp only [protoOk, headOk, shapeOk, Bool.and_eq_true, decide_eq_true_eq, List.all_eq_true] at h
  obtain ⟨hh, ⟨⟨⟨h1, h2⟩, h3⟩, h4⟩⟩ := h
  obtain ⟨h1a, h1b⟩ := in_lim h1
  obtain ⟨h2a, h2b⟩ := in_lim h2
  have hn : p.name.size ≤ 16 ∧ p.caps.length ≤ 255 ∧ ∀ c ∈ p.caps, capOk c = true := by
    cases top
    · simp only [Bool.false_eq_true, if_false, Bool.and_eq_true, decide_eq_true_eq, List.all_eq_true] at hh
      exact ⟨by rw [hh.1]; exact Nat.zero_le _, hh.2.1, hh.2.2⟩
    · simp only [if_true, Bool.and_eq_true, decide_eq_true_eq] at hh
      refine ⟨name_lim hh.1, by omega, fun c hc => ?_⟩
      have := List.length_pos_of_mem hc
      omega
  exact ⟨hn.1, ⟨h1a, h1b⟩, ⟨by omega, h2b⟩, hn.2, h3, h4⟩
set_option maxRecDepth 20000 in
theorem Bk.proto {p : ProtoM} {top : Bool} (h : protoOk p top = true) (hr : ProtoR p) : Bk rproto p (protoB p) := by
  obtain ⟨h1, h2, h3, h4, h5, h6⟩ := proto_lim h
  rw [rproto_eq]
  refine (Bk.bind (Bk.text p.name (by omega)) (Bk.bind (Bk.num1 h2.1 (by omega)) (Bk.bind (Bk.num1 (by omega) (by omega)) (Bk.bind (Bk.lists p.caps (by omega) fun c hc => Bk.cap (h4.2 c hc)) (Bk.bind (Bk.lists p.consts (by omega) fun c hc => Bk.con (h5.2 c hc) (hr c hc)) (Bk.bind (Bk.lists p.code (by omega) fun c hc => Bk.ins (h6.2 c hc)) (Bk.pure _))))))).cast rfl ?_
  unfold protoB protoH
  rw [bemp]
  simp only [ByteArray.append_assoc]
set_option maxRecDepth 20000 in
theorem protosOk_mem {funs : Int} : ∀ (l : List ProtoM) (i : Nat), protosOk funs i l = true → ∀ p ∈ l, ∃ top, protoOk p top = true
  | [], _, _, p, hp => by simp at hp
  | q :: r, i, h, p, hp => by
    simp only [protosOk, Bool.and_eq_true] at h
    rcases List.mem_cons.1 hp with rfl | hp
    · exact ⟨_, h.1⟩
    · exact protosOk_mem r _ h.2 p hp
structure UnitL (u : UnitM) : Prop where
  name : u.name.size ≤ 16
  version : 1 ≤ u.version ∧ u.version ≤ 2147483647
  funs : 0 ≤ u.funs ∧ u.funs ≤ 32
  uses : u.uses.length ≤ 16 ∧ ∀ x ∈ u.uses, useOk x = true
  protos : u.protos.length ≤ 64 ∧ ∀ p ∈ u.protos, ∃ top, protoOk p top = true
set_option maxRecDepth 20000 in
theorem unit_lim {u : UnitM} (h : unitOk u = true) : UnitL u := by
  simp only [unitOk, Bool.and_eq_true, decide_eq_true_eq, List.all_eq_true] at h
  obtain ⟨⟨⟨⟨h1, h2⟩, h3⟩, h4⟩, h5⟩ := h
  obtain ⟨h3a, h3b⟩ := in_lim h3
  exact ⟨name_lim h1, in_lim h2, ⟨h3a, by omega⟩, h4, h5.1, protosOk_mem _ _ h5.2⟩
set_option maxRecDepth 20000 in
theorem magic_eq : (⟨#[67, 72, 82, 89]⟩ : ByteArray) = putB 1498564675 4 := by
  have h : putOk 1498564675 4 = true := put_ok (w := 4) (.inr (.inr rfl)) (by omega) (by simp)
  have e : leL 1498564675 4 = [67, 72, 82, 89] := by
    have e0 : octAt 1498564675 0 = 67 := by simp [octAt]
    have e1 : octAt 1498564675 1 = 72 := by simp [octAt]
    have e2 : octAt 1498564675 2 = 82 := by simp [octAt]
    have e3 : octAt 1498564675 3 = 89 := by simp [octAt]
    show [octAt 1498564675 0, octAt 1498564675 1, octAt 1498564675 2, octAt 1498564675 3] = _
    rw [e0, e1, e2, e3]
  have e4 : putB 1498564675 4 = ⟨(leL 1498564675 4).toArray⟩ := by rw [putB, if_pos h]; rfl
  rw [e4, e]
set_option maxRecDepth 20000 in
theorem unit_back {u : UnitM} (h : unitOk u = true) (hr : UnitR u) : Bk runitF u (unitB u) := by
  obtain ⟨h1, h2, h3, h4, h5⟩ := unit_lim h
  unfold runitF
  refine (Bk.bind (Bk.num4 (n := 1498564675) (by decide) (by decide)) (Bk.bind (Bk.text u.name (by omega)) (Bk.bind (Bk.num4 (by omega) (by omega)) (Bk.bind (Bk.lists u.uses (by omega) fun x hx => Bk.use (h4.2 x hx)) (Bk.bind (Bk.num1 h3.1 (by omega)) (Bk.bind (Bk.lists u.protos (by omega) (F := protoB) fun p hp => by
    obtain ⟨top, ht⟩ := h5.2 p hp
    exact Bk.proto ht (hr p hp)) (Bk.pure _))))))).cast rfl ?_
  unfold unitB unitH
  rw [magic_eq, bemp]
  simp only [ByteArray.append_assoc]
set_option maxRecDepth 20000 in
theorem runit_back {u : UnitM} (h : unitOk u = true) (hr : UnitR u) (C : ByteArray) : runit (unitB u ++ C) = (u, ⟨(unitB u).size, true⟩) := by
  have e := unit_back h hr ⟨#[]⟩ C
  rw [empb, show (⟨#[]⟩ : ByteArray).size = 0 from rfl] at e
  rw [runit_eq]
  exact e
set_option maxRecDepth 20000 in
theorem ubuild_yes {u : UnitM} (h : unitOk u = true) : ubuild u = (unitB u, 0) := by unfold ubuild; rw [if_pos h]
set_option maxRecDepth 20000 in
theorem ubuild_no {u : UnitM} (h : unitOk u = false) : ubuild u = (⟨#[]⟩, 4) := by unfold ubuild; rw [h]; rfl
set_option maxRecDepth 20000 in
theorem uparse_back {u : UnitM} (h : unitOk u = true) (hr : UnitR u) : uparse (unitB u) = (u, 0) := by
  have e := runit_back h hr ⟨#[]⟩
  rw [bemp] at e
  unfold uparse
  rw [e]
  dsimp only
  rw [if_pos rfl, ubuild_yes h, if_pos rfl]
set_option maxRecDepth 20000 in
theorem uparse_more {u : UnitM} (h : unitOk u = true) (hr : UnitR u) {m : ByteArray} (hm : m ≠ ⟨#[]⟩) : uparse (unitB u ++ m) = (unit0, 4) := by
  unfold uparse
  rw [runit_back h hr m]
  dsimp only
  rw [if_pos rfl, ubuild_yes h, if_neg]
  intro e
  have e1 := congrArg (fun z => (Prod.fst z).size) e
  simp only [ByteArray.size_append] at e1
  have h0 : m.size = 0 := by omega
  exact hm (ByteArray.ext (Array.eq_empty_of_size_eq_zero h0))
set_option maxRecDepth 20000 in
theorem uparse_cut {u : UnitM} (h : unitOk u = true) (hr : UnitR u) {c : Nat} (hc : c < (unitB u).size) : uparse ((unitB u).extract 0 c) = (unit0, 2) := by
  have hsz : ((unitB u).extract 0 c).size = c := by rw [ByteArray.size_extract]; omega
  have hsp : (unitB u).extract 0 c ++ (unitB u).extract c (unitB u).size = unitB u := by
    apply ByteArray.ext
    rw [ByteArray.data_append, ByteArray.data_extract, ByteArray.data_extract]
    show (unitB u).data.extract 0 c ++ (unitB u).data.extract c (unitB u).data.size = _
    have hc' : c ≤ (unitB u).data.size := Nat.le_of_lt hc
    rw [Array.extract_append_extract, Nat.min_eq_left (Nat.zero_le _), Nat.max_eq_right hc', Array.extract_size]
  unfold uparse
  cases hw : (runit ((unitB u).extract 0 c)).2.whole with
  | false => rfl
  | true =>
    exfalso
    rw [runit_eq] at hw
    have e := Rd.unit.ext _ ((unitB u).extract c (unitB u).size) ⟨0, true⟩ hw
    have hle := Rd.unit.le ((unitB u).extract 0 c) ⟨0, true⟩ (Nat.zero_le _)
    rw [hsp] at e
    have e2 := runit_back h hr ⟨#[]⟩
    rw [bemp, runit_eq, e] at e2
    rw [e2, hsz] at hle
    dsimp only at hle
    omega
set_option maxRecDepth 20000 in
theorem uparse_yes {s : ByteArray} (h : (uparse s).2 = 0) : ubuild (uparse s).1 = (s, 0) := by
  unfold uparse at h ⊢
  split
  · rename_i h1
    rw [if_pos h1] at h
    split
    · assumption
    · rename_i h2
      rw [if_neg h2] at h
      exact absurd h (by decide)
  · rename_i h1
    rw [if_neg h1] at h
    exact absurd h (by decide)
set_option maxRecDepth 20000 in
theorem ubuild_ok {u : UnitM} {s : ByteArray} (h : ubuild u = (s, 0)) : unitOk u = true ∧ unitB u = s := by
  cases hu : unitOk u with
  | true => rw [ubuild_yes hu] at h; exact ⟨rfl, congrArg Prod.fst h⟩
  | false => rw [ubuild_no hu] at h; exact absurd (congrArg Prod.snd h) (show ¬ (4 : Int) = 0 by decide)
set_option maxRecDepth 20000 in
theorem uparse_no {s : ByteArray} (h : (uparse s).2 ≠ 0) : (uparse s).1 = unit0 := by
  unfold uparse at h ⊢
  split
  · rename_i h1
    rw [if_pos h1] at h
    split
    · rename_i h2
      rw [if_pos h2] at h
      exact absurd rfl h
    · rfl
  · rfl
set_option maxRecDepth 20000 in
theorem unit_inj {a b : UnitM} (ha : unitOk a = true) (hb : unitOk b = true) (ra : UnitR a) (rb : UnitR b) (h : unitB a = unitB b) : a = b := by
  have e1 := uparse_back ha ra
  have e2 := uparse_back hb rb
  rw [h, e2] at e1
  exact (congrArg Prod.fst e1).symm
end Go.Proofs.Ythgjmbcojbmlhaa
