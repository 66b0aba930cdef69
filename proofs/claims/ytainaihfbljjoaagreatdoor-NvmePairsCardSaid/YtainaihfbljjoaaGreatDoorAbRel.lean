/- The relation between the abstract heap and a world, and what keeps it. -/
import Derived.Test.YtainaihfbljjoaaGreatDoorAbEval
import Derived.WalkKit
import Derived.Laws.IdiomCopy
import Derived.Laws.MakeOwn
import Derived.Laws.BytesString
set_option linter.all false
set_option linter.unusedSectionVars false
set_option linter.unusedVariables false
set_option linter.unusedSimpArgs false
namespace Go.Ab
open Go

/-! ### Trees -/
namespace Tr
variable {α : Type}
theorem get_nil (k : Nat) : (Tr.nil : Tr α).get k = none := rfl
theorem get_putD (x : Option α) : ∀ (d : Nat) (t : Tr α) (k : Nat), k < d → ∀ j, (putD x d t k).get j = if j = k then x else t.get j := by
  intro d
  induction d with
  | zero => intro t k hk; omega
  | succ d ih =>
    intro t k hk j
    cases t with
    | nil =>
      unfold putD
      cases h0 : Nat.beq k 0 with
      | true =>
        have : k = 0 := Nat.eq_of_beq_eq_true h0
        subst this
        simp only [cond_true, get]
        cases hj : Nat.beq j 0 with
        | true => have := Nat.eq_of_beq_eq_true hj; simp [this]
        | false => have := Nat.ne_of_beq_eq_false hj; simp [this]
      | false =>
        have hk0 := Nat.ne_of_beq_eq_false h0
        simp only [cond_false]
        cases h1 : Nat.beq (Nat.mod k 2) 1 with
        | true =>
          have hm : k % 2 = 1 := Nat.eq_of_beq_eq_true h1
          simp only [cond_true, get]
          cases hj : Nat.beq j 0 with
          | true => have := Nat.eq_of_beq_eq_true hj; simp [this]; omega
          | false =>
            have hj0 := Nat.ne_of_beq_eq_false hj
            simp only [cond_false]
            cases hj1 : Nat.beq (Nat.mod j 2) 1 with
            | true =>
              have hjm : j % 2 = 1 := Nat.eq_of_beq_eq_true hj1
              simp only [cond_true]
              have hd : Nat.div k 2 = k / 2 := rfl
              have hd' : Nat.div j 2 = j / 2 := rfl
              rw [hd, hd', ih _ _ (by omega)]
              simp only [get]
              by_cases e : j = k
              · subst e; simp
              · rw [if_neg e, if_neg (by omega)]
            | false =>
              have hjm : j % 2 ≠ 1 := Nat.ne_of_beq_eq_false hj1
              simp only [cond_false, get]
              rw [if_neg (by intro e; subst e; omega)]
        | false =>
          have hm : k % 2 ≠ 1 := Nat.ne_of_beq_eq_false h1
          simp only [cond_false, get]
          cases hj : Nat.beq j 0 with
          | true => have := Nat.eq_of_beq_eq_true hj; simp [this]; omega
          | false =>
            have hj0 := Nat.ne_of_beq_eq_false hj
            simp only [cond_false]
            cases hj1 : Nat.beq (Nat.mod j 2) 1 with
            | true =>
              have hjm : j % 2 = 1 := Nat.eq_of_beq_eq_true hj1
              simp only [cond_true, get]
              rw [if_neg (by intro e; subst e; omega)]
            | false =>
              have hjm : j % 2 ≠ 1 := Nat.ne_of_beq_eq_false hj1
              simp only [cond_false]
              have hd : Nat.sub (Nat.div k 2) 1 = k / 2 - 1 := rfl
              have hd' : Nat.sub (Nat.div j 2) 1 = j / 2 - 1 := rfl
              rw [hd, hd', ih _ _ (by omega)]
              simp only [get]
              by_cases e : j = k
              · subst e; simp
              · rw [if_neg e, if_neg (by omega)]
    | node v l r =>
      unfold putD
      cases h0 : Nat.beq k 0 with
      | true =>
        have : k = 0 := Nat.eq_of_beq_eq_true h0
        subst this
        simp only [cond_true, get]
        cases hj : Nat.beq j 0 with
        | true => have := Nat.eq_of_beq_eq_true hj; simp [this]
        | false => have := Nat.ne_of_beq_eq_false hj; simp [this]
      | false =>
        have hk0 := Nat.ne_of_beq_eq_false h0
        simp only [cond_false]
        cases h1 : Nat.beq (Nat.mod k 2) 1 with
        | true =>
          have hm : k % 2 = 1 := Nat.eq_of_beq_eq_true h1
          simp only [cond_true, get]
          cases hj : Nat.beq j 0 with
          | true => have := Nat.eq_of_beq_eq_true hj; simp [this]; omega
          | false =>
            have hj0 := Nat.ne_of_beq_eq_false hj
            simp only [cond_false]
            cases hj1 : Nat.beq (Nat.mod j 2) 1 with
            | true =>
              have hjm : j % 2 = 1 := Nat.eq_of_beq_eq_true hj1
              simp only [cond_true]
              have hd : Nat.div k 2 = k / 2 := rfl
              have hd' : Nat.div j 2 = j / 2 := rfl
              rw [hd, hd', ih _ _ (by omega)]
              by_cases e : j = k
              · subst e; simp
              · rw [if_neg e, if_neg (by omega)]
            | false =>
              have hjm : j % 2 ≠ 1 := Nat.ne_of_beq_eq_false hj1
              simp only [cond_false]
              rw [if_neg (by intro e; subst e; omega)]
        | false =>
          have hm : k % 2 ≠ 1 := Nat.ne_of_beq_eq_false h1
          simp only [cond_false, get]
          cases hj : Nat.beq j 0 with
          | true => have := Nat.eq_of_beq_eq_true hj; simp [this]; omega
          | false =>
            have hj0 := Nat.ne_of_beq_eq_false hj
            simp only [cond_false]
            cases hj1 : Nat.beq (Nat.mod j 2) 1 with
            | true =>
              have hjm : j % 2 = 1 := Nat.eq_of_beq_eq_true hj1
              simp only [cond_true]
              rw [if_neg (by intro e; subst e; omega)]
            | false =>
              have hjm : j % 2 ≠ 1 := Nat.ne_of_beq_eq_false hj1
              simp only [cond_false]
              have hd : Nat.sub (Nat.div k 2) 1 = k / 2 - 1 := rfl
              have hd' : Nat.sub (Nat.div j 2) 1 = j / 2 - 1 := rfl
              rw [hd, hd', ih _ _ (by omega)]
              by_cases e : j = k
              · subst e; simp
              · rw [if_neg e, if_neg (by omega)]
theorem get_put (t : Tr α) (k : Nat) (x : Option α) (j : Nat) : (t.put k x).get j = if j = k then x else t.get j := get_putD x _ t k (Nat.lt_succ_self k) j
end Tr

theorem H.get_set (A : H) (i : Nat) (o : AObj) (j : Nat) : (A.set i o).get j = if j = i then some o else A.get j := Tr.get_put _ _ _ _
theorem H.get_drop (A : H) (i j : Nat) : (A.drop i).get j = if j = i then none else A.get j := Tr.get_put _ _ _ _
theorem H.get_push (A : H) (o : AObj) (j : Nat) : (A.push o).get j = if j = A.next then some o else A.get j := Tr.get_put _ _ _ _
theorem H.next_set (A : H) (i : Nat) (o : AObj) : (A.set i o).next = A.next := rfl
theorem H.next_drop (A : H) (i : Nat) : (A.drop i).next = A.next := rfl
theorem H.next_push (A : H) (o : AObj) : (A.push o).next = A.next + 1 := rfl

/-! ### Values -/
/-- Where an abstract block stands: its block, from which cell on; how many cells an element has, and how many cells are there. -/
structure Pl where
  b : Nat
  sh : Nat
  esz : Nat
  tot : Nat
abbrev Sg := Nat → Option Pl
def Sg.le (σ τ : Sg) : Prop := ∀ i p, σ i = some p → τ i = some p
theorem Sg.le_refl (σ : Sg) : σ.le σ := fun _ _ h => h
theorem Sg.le_trans {σ τ υ : Sg} (h : σ.le τ) (k : τ.le υ) : σ.le υ := fun i p e => k i p (h i p e)

/-- What unknown values stand for: each fills one cell, and is no bool. -/
class Unk where
  val : Nat → Value
  one : ∀ i, oneCell (val i) = true
  nob : ∀ i b, val i ≠ .bool b
  byt : ∀ i, i < 4096 → ∃ b : UInt8, val i = byteV b
  neq : ∀ i j, neqTok i j = true → val i ≠ val j
  key : ∀ i, isKey i = true → ∃ x : Int, val i = .int .u64 x ∧ 0 < x ∧ x < 18446744073709551616
  keys : val 5000 ≠ val 5001
  sum : ∀ i m, i < 4096 → i % 16 + m < 16 → ∃ b : UInt8, val i = byteV b ∧ val (i + m) = byteV (b + UInt8.ofNat m)
variable [Unk]
/-- A byte of a text: as it is, or unknown. -/
def CharRel (c : Value) (b : UInt8) : Prop := c = byteV b ∨ ∃ i, c = .chan (some i) ∧ i < 4096 ∧ Unk.val i = byteV b
def CRel : List Value → List UInt8 → Prop
  | [], [] => True
  | c :: l, b :: m => CharRel c b ∧ CRel l m
  | _, _ => False
inductive VRel (σ : Sg) : Value → Value → Prop where
  | bool (b : Bool) : VRel σ (.bool b) (.bool b)
  | int (k : IntKind) (n : Int) : VRel σ (.int k n) (.int k n)
  | string (s : ByteArray) : VRel σ (.string s) (.string s)
  | ptrNil : VRel σ (.pointer none) (.pointer none)
  | ptr {id : Nat} {p : Pl} (off : Nat) (h : σ id = some p) : VRel σ (.pointer (some ⟨id, off, none⟩)) (.pointer (some ⟨p.b, p.sh + off, none⟩))
  | sliceNil (l c : Nat) : VRel σ (.slice none l c) (.slice none l c)
  | slice {id : Nat} {p : Pl} (off l c c' : Nat) (h : σ id = some p) (hc : c = c' ∨ (c < c' ∧ p.sh + off + c' * p.esz ≤ p.tot)) :
      VRel σ (.slice (some ⟨id, off, none⟩) l c) (.slice (some ⟨p.b, p.sh + off, none⟩) l c')
  | sliceEnd {id : Nat} {p : Pl} (off b o : Nat) (h : σ id = some p) : VRel σ (.slice (some ⟨id, off, none⟩) 0 0) (.slice (some ⟨b, o, none⟩) 0 0)
  | mapNil : VRel σ (.map none) (.map none)
  | map {id : Nat} {p : Pl} (h : σ id = some p) : VRel σ (.map (some id)) (.map (some p.b))
  | func (fn : Fn) (as as' bs bs' : Array Value) (h1 : as.size = as'.size) (h2 : bs.size = bs'.size) (h : ∀ (i : Nat) v v', as.toList[i]? = some v → as'.toList[i]? = some v' → VRel σ v v')
      (k : ∀ (i : Nat) v v', bs.toList[i]? = some v → bs'.toList[i]? = some v' → VRel σ v v') : VRel σ (.func fn as bs) (.func fn as' bs')
  | nilFunc : VRel σ .nilFunc .nilFunc
  | iface (t : TypeId) {v v' : Value} (h : VRel σ v v') : VRel σ (.iface t v) (.iface t v')
  | nilIface : VRel σ .nilIface .nilIface
  | agg (as as' : Array Value) (h1 : as.size = as'.size) (h : ∀ (i : Nat) v v', as.toList[i]? = some v → as'.toList[i]? = some v' → VRel σ v v') : VRel σ (.agg as) (.agg as')
  | tuple (as as' : Array Value) (h1 : as.size = as'.size) (h : ∀ (i : Nat) v v', as.toList[i]? = some v → as'.toList[i]? = some v' → VRel σ v v') : VRel σ (.tuple as) (.tuple as')
  | unk (i : Nat) : VRel σ (.chan (some i)) (Unk.val i)
  | rope (k : FloatKind) (l n : Nat) (s : ByteArray) (h : CRel (decR l n) (bytesOf s)) : VRel σ (.complex k l n) (.string s)

theorem VRel.mono {σ τ : Sg} (hl : σ.le τ) {v v' : Value} (h : VRel σ v v') : VRel τ v v' := by
  induction h with
  | bool b => exact .bool b
  | int k n => exact .int k n
  | string s => exact .string s
  | ptrNil => exact .ptrNil
  | ptr off h => exact .ptr off (hl _ _ h)
  | sliceNil l c => exact .sliceNil l c
  | slice off l c c' h hc => exact .slice off l c c' (hl _ _ h) hc
  | sliceEnd off b o h => exact .sliceEnd off b o (hl _ _ h)
  | mapNil => exact .mapNil
  | map h => exact .map (hl _ _ h)
  | func fn as as' bs bs' h1 h2 _ _ ih ik => exact .func fn as as' bs bs' h1 h2 ih ik
  | nilFunc => exact .nilFunc
  | iface t _ ih => exact .iface t ih
  | nilIface => exact .nilIface
  | agg as as' h1 _ ih => exact .agg as as' h1 ih
  | tuple as as' h1 _ ih => exact .tuple as as' h1 ih
  | unk i => exact .unk i
  | rope k l n s h => exact .rope k l n s h

/-- Lists of values, one by one. -/
structure LRel (σ : Sg) (l l' : List Value) : Prop where
  len : l.length = l'.length
  get : ∀ (i : Nat) v v', l[i]? = some v → l'[i]? = some v' → VRel σ v v'
theorem LRel.mono {σ τ : Sg} (hl : σ.le τ) {l l' : List Value} (h : LRel σ l l') : LRel τ l l' := ⟨h.len, fun i v v' a b => (h.get i v v' a b).mono hl⟩
theorem LRel.nil {σ : Sg} : LRel σ [] [] := ⟨rfl, fun i v v' h => by simp at h⟩
theorem LRel.cons {σ : Sg} {v v' : Value} {l l' : List Value} (hv : VRel σ v v') (h : LRel σ l l') : LRel σ (v :: l) (v' :: l') :=
  ⟨by simp [h.len], fun i a b ha hb => by
    cases i with
    | zero => simp at ha hb; subst ha; subst hb; exact hv
    | succ i => simp at ha hb; exact h.get i a b ha hb⟩
theorem LRel.cons_inv {σ : Sg} {v : Value} {l l' : List Value} (h : LRel σ (v :: l) l') : ∃ v' r, l' = v' :: r ∧ VRel σ v v' ∧ LRel σ l r := by
  cases l' with
  | nil => have := h.len; simp at this
  | cons v' r => exact ⟨v', r, rfl, h.get 0 v v' rfl rfl, ⟨by have := h.len; simpa using this, fun i a b ha hb => h.get (i + 1) a b (by simpa using ha) (by simpa using hb)⟩⟩
theorem LRel.append {σ : Sg} {a a' b b' : List Value} (h : LRel σ a a') (k : LRel σ b b') : LRel σ (a ++ b) (a' ++ b') := by
  induction a generalizing a' with
  | nil => have : a' = [] := List.eq_nil_of_length_eq_zero (by have := h.len; simpa using this.symm); subst this; exact k
  | cons v a ih => obtain ⟨v', r, rfl, hv, hr⟩ := h.cons_inv; exact LRel.cons hv (ih hr)
theorem LRel.drop {σ : Sg} {l l' : List Value} (h : LRel σ l l') (n : Nat) : LRel σ (l.drop n) (l'.drop n) :=
  ⟨by simp [h.len], fun i v v' ha hb => h.get (n + i) v v' (by rw [List.getElem?_drop] at ha; exact ha) (by rw [List.getElem?_drop] at hb; exact hb)⟩
theorem LRel.take {σ : Sg} {l l' : List Value} (h : LRel σ l l') (n : Nat) : LRel σ (l.take n) (l'.take n) :=
  ⟨by simp [h.len], fun i v v' ha hb => by
    rw [List.getElem?_take] at ha hb
    by_cases e : i < n
    · rw [if_pos e] at ha hb; exact h.get i v v' ha hb
    · rw [if_neg e] at ha; cases ha⟩
theorem LRel.map {σ : Sg} {β : Type} (f g : β → Value) (l : List β) (h : ∀ x ∈ l, VRel σ (f x) (g x)) : LRel σ (l.map f) (l.map g) := by
  induction l with
  | nil => exact .nil
  | cons x l ih => exact .cons (h x (by simp)) (ih fun y hy => h y (by simp [hy]))
theorem LRel.flat {σ : Sg} {l : List Value} (h : ∀ v ∈ l, VRel σ v v) : LRel σ l l :=
  ⟨rfl, fun i v v' ha hb => by rw [ha] at hb; cases hb; exact h v (List.mem_of_getElem? ha)⟩

/-- A value without addresses stands for itself. -/
inductive Flat : Value → Prop where
  | bool (b : Bool) : Flat (.bool b)
  | int (k : IntKind) (n : Int) : Flat (.int k n)
  | string (s : ByteArray) : Flat (.string s)
  | ptrNil : Flat (.pointer none)
  | sliceNil (l c : Nat) : Flat (.slice none l c)
  | mapNil : Flat (.map none)
  | func (fn : Fn) : Flat (.func fn #[] #[])
  | nilFunc : Flat .nilFunc
  | nilIface : Flat .nilIface
  | agg (as : Array Value) (h : ∀ v ∈ as.toList, Flat v) : Flat (.agg as)
  | tuple (as : Array Value) (h : ∀ v ∈ as.toList, Flat v) : Flat (.tuple as)
theorem Flat.vrel {σ : Sg} {v : Value} (h : Flat v) : VRel σ v v := by
  induction h with
  | bool b => exact .bool b
  | int k n => exact .int k n
  | string s => exact .string s
  | ptrNil => exact .ptrNil
  | sliceNil l c => exact .sliceNil l c
  | mapNil => exact .mapNil
  | func fn => exact .func fn _ _ _ _ rfl rfl (fun i v v' h => by simp at h) (fun i v v' h => by simp at h)
  | nilFunc => exact .nilFunc
  | nilIface => exact .nilIface
  | agg as _ ih => exact .agg _ _ rfl fun i v v' ha hb => by rw [ha] at hb; cases hb; exact ih v (List.mem_of_getElem? ha)
  | tuple as _ ih => exact .tuple _ _ rfl fun i v v' ha hb => by rw [ha] at hb; cases hb; exact ih v (List.mem_of_getElem? ha)

/-! ### Heaps -/
def AObj.own : AObj → Bool
  | .cells true _ _ => false
  | _ => true
structure ERel (σ : Sg) (es es' : List MapEntry) : Prop where
  len : es.length = es'.length
  get : ∀ (i : Nat) e e', es[i]? = some e → es'[i]? = some e' → e.born = e'.born ∧ VRel σ e.key e'.key ∧ VRel σ e.val e'.val
/-- No cell of so many is frozen. -/
def Unfrozen (n : Nat) (fz : Nat × Nat) : Prop := ∀ o, o < n → ¬ (fz.1 ≤ o ∧ o < fz.2)
/-- An abstract block stands in a world. -/
def ORel (P : Program) (σ : Sg) (w : World) (p : Pl) : AObj → Prop
  | .cells ro e c => ∃ cur e' fz, w.heap[p.b]? = some (.cells cur e' fz) ∧ p.sh + c.length ≤ cur.size ∧ (∀ (i : Nat) v v', c[i]? = some v → cur[p.sh + i]? = some v' → VRel σ v v') ∧
      (P.info? e).map (·.size) = some p.esz ∧ p.tot = cur.size ∧ (ro = false → Unfrozen cur.size fz ∧ e' = e ∧ p.sh % p.esz = 0)
  | .map es clock => ∃ es', w.heap[p.b]? = some (.map es' clock) ∧ ERel σ es es'.toList
  | .iter s pos => p.sh = 0 ∧ w.heap[p.b]? = some (.stringIter s pos)

structure Rel (P : Program) (σ : Sg) (A : H) (w : World) : Prop where
  glob : ∀ g, g < P.globals.size → ∃ p, σ g = some p ∧ p.b = g ∧ p.sh = 0
  obj : ∀ id o p, A.get id = some o → σ id = some p → ORel P σ w p o
  inj : ∀ i j p q o o', i ≠ j → A.get i = some o → A.get j = some o' → σ i = some p → σ j = some q → o.own = true → p.b ≠ q.b
  lt : ∀ id p, σ id = some p → p.b < w.heap.size
  dom : ∀ id, A.next ≤ id → A.get id = none ∧ σ id = none

def Owned (σ : Sg) (A : H) (b : Nat) : Prop := ∃ id p o, σ id = some p ∧ p.b = b ∧ A.get id = some o ∧ o.own = true

/-- What a step leaves alone. -/
structure Fr (σ : Sg) (A : H) (w : World) (σ' : Sg) (A' : H) (w' : World) : Prop where
  ext : σ.le σ'
  os : w'.os = w.os
  tape : w'.tape = w.tape
  output : w'.output = w.output
  size : w.heap.size ≤ w'.heap.size
  frame : ∀ b, b < w.heap.size → ¬ Owned σ A b → w'.heap[b]? = w.heap[b]?
  owned : ∀ b, Owned σ' A' b → Owned σ A b ∨ w.heap.size ≤ b
  next : A.next ≤ A'.next
  unm : ∀ id, id < A.next → σ id = none → σ' id = none ∧ A'.get id = A.get id

theorem Fr.refl (σ : Sg) (A : H) (w : World) : Fr σ A w σ A w := ⟨Sg.le_refl σ, rfl, rfl, rfl, Nat.le_refl _, fun _ _ _ => rfl, fun _ h => .inl h, Nat.le_refl _, fun _ _ h => ⟨h, rfl⟩⟩
theorem Fr.trans {σ σ1 σ2 : Sg} {A A1 A2 : H} {w w1 w2 : World} (h : Fr σ A w σ1 A1 w1) (k : Fr σ1 A1 w1 σ2 A2 w2) : Fr σ A w σ2 A2 w2 :=
  ⟨Sg.le_trans h.ext k.ext, k.os.trans h.os, k.tape.trans h.tape, k.output.trans h.output, Nat.le_trans h.size k.size,
   fun b hb hn => (k.frame b (Nat.lt_of_lt_of_le hb h.size) (fun ho => by
      rcases h.owned b ho with h1 | h1
      · exact hn h1
      · omega)).trans (h.frame b hb hn),
   fun b hb => by
      rcases k.owned b hb with h1 | h1
      · exact h.owned b h1
      · exact .inr (Nat.le_trans h.size h1),
   Nat.le_trans h.next k.next,
   fun id hid hs => by
      obtain ⟨h1, h2⟩ := h.unm id hid hs
      obtain ⟨h3, h4⟩ := k.unm id (Nat.lt_of_lt_of_le hid h.next) h1
      exact ⟨h3, h4.trans h2⟩⟩
/-- A draw changes nothing. -/
theorem Rel.drew {P : Program} {σ : Sg} {A : H} {w : World} (h : Rel P σ A w) : Rel P σ A w.drew :=
  ⟨h.glob, h.obj, h.inj, h.lt, h.dom⟩
theorem Fr.drew {σ σ' : Sg} {A A' : H} {w w' : World} (h : Fr σ A w σ' A' w') : Fr σ A w σ' A' w'.drew := ⟨h.ext, h.os, h.tape, h.output, h.size, h.frame, h.owned, h.next, h.unm⟩
theorem Fr.of_drew {σ σ' : Sg} {A A' : H} {w w' : World} (h : Fr σ A w.drew σ' A' w') : Fr σ A w σ' A' w' := ⟨h.ext, h.os, h.tape, h.output, h.size, h.frame, h.owned, h.next, h.unm⟩

def Sg.add (σ : Sg) (i : Nat) (p : Pl) : Sg := fun j => if j = i then some p else σ j
theorem Sg.le_add {σ : Sg} {i : Nat} (p : Pl) (h : σ i = none) : σ.le (σ.add i p) := fun j q e => by
  unfold Sg.add
  by_cases hj : j = i
  · subst hj; rw [h] at e; cases e
  · rw [if_neg hj]; exact e
theorem Sg.add_same (σ : Sg) (i : Nat) (p : Pl) : σ.add i p i = some p := by simp [Sg.add]
theorem Sg.add_other {σ : Sg} {i j : Nat} (p : Pl) (h : j ≠ i) : σ.add i p j = σ j := by simp [Sg.add, h]

/-- Whatever stands in the heap as before stands for what it did. -/
theorem ORel.keep {P : Program} {σ τ : Sg} {w w' : World} {p : Pl} {o : AObj} (hl : σ.le τ) (hb : w'.heap[p.b]? = w.heap[p.b]?) (h : ORel P σ w p o) : ORel P τ w' p o := by
  cases o with
  | cells ro e c =>
    obtain ⟨cur, e', fz, h1, h2, h3, h4⟩ := h
    exact ⟨cur, e', fz, hb.trans h1, h2, fun i v v' a b => (h3 i v v' a b).mono hl, h4⟩
  | map es clock =>
    obtain ⟨es', h1, h2⟩ := h
    exact ⟨es', hb.trans h1, h2.len, fun i e e' a b => let ⟨x, y, z⟩ := h2.get i e e' a b; ⟨x, y.mono hl, z.mono hl⟩⟩
  | iter s pos => exact ⟨h.1, hb.trans h.2⟩

/-- A new block, at the heap's end. `i`: its number, which is free (the next one, or one that was set aside and is not placed yet). -/
theorem Rel.place {P : Program} {σ : Sg} {A : H} {w w' : World} {o : AObj} {p : Pl} (h : Rel P σ A w) (hw : w'.heap.size = w.heap.size + 1) (hold : ∀ k, k < w.heap.size → w'.heap[k]? = w.heap[k]?)
    (hp : p.b = w.heap.size) (ho : ORel P (σ.add A.next p) w' p o) (hown : o.own = true) : Rel P (σ.add A.next p) (A.push o) w' := by
  have hn := (h.dom A.next (Nat.le_refl _)).2
  have hl := Sg.le_add p hn
  refine ⟨fun g hg => ?_, fun id x q ha hs => ?_, fun i j q r x y hij hx hy hq hr hox => ?_, fun id q hs => ?_, fun id hid => ?_⟩
  · obtain ⟨q, h1, h2⟩ := h.glob g hg
    exact ⟨q, hl _ _ h1, h2⟩
  · rw [H.get_push] at ha
    by_cases e : id = A.next
    · subst e
      rw [if_pos rfl] at ha
      rw [Sg.add_same] at hs
      cases ha; cases hs
      exact ho
    · rw [if_neg e] at ha
      rw [Sg.add_other p e] at hs
      exact (h.obj id x q ha hs).keep hl (hold _ (h.lt id q hs))
  · rw [H.get_push] at hx hy
    by_cases e : i = A.next
    · subst e
      have e' : j ≠ A.next := fun e' => hij e'.symm
      rw [Sg.add_same] at hq
      rw [Sg.add_other p e'] at hr
      cases hq
      have := h.lt j r hr
      omega
    · rw [if_neg e] at hx
      rw [Sg.add_other p e] at hq
      by_cases e' : j = A.next
      · subst e'
        rw [Sg.add_same] at hr
        cases hr
        have := h.lt i q hq
        omega
      · rw [if_neg e'] at hy
        rw [Sg.add_other p e'] at hr
        exact h.inj i j q r x y hij hx hy hq hr hox
  · by_cases e : id = A.next
    · subst e; rw [Sg.add_same] at hs; cases hs; omega
    · rw [Sg.add_other p e] at hs; have := h.lt id q hs; omega
  · rw [H.next_push] at hid
    rw [H.get_push, if_neg (by omega), Sg.add_other p (by omega)]
    exact h.dom id (by omega)
theorem Fr.place {P : Program} {σ : Sg} {A : H} {w w' : World} {o : AObj} {p : Pl} (h : Rel P σ A w) (hw : w'.heap.size = w.heap.size + 1) (hold : ∀ k, k < w.heap.size → w'.heap[k]? = w.heap[k]?)
    (h1 : w'.os = w.os) (h2 : w'.tape = w.tape) (h3 : w'.output = w.output) (hp : p.b = w.heap.size) : Fr σ A w (σ.add A.next p) (A.push o) w' := by
  have hn := (h.dom A.next (Nat.le_refl _)).2
  refine ⟨Sg.le_add p hn, h1, h2, h3, by omega, fun b hb _ => hold b hb, fun b hb => ?_, by rw [H.next_push]; omega, fun id hid hs => ?_⟩
  · obtain ⟨id, q, x, hs, hq, hg, hx⟩ := hb
    by_cases e : id = A.next
    · subst e; rw [Sg.add_same] at hs; cases hs; exact .inr (by omega)
    · rw [Sg.add_other p e] at hs
      rw [H.get_push, if_neg e] at hg
      exact .inl ⟨id, q, x, hs, hq, hg, hx⟩
  · rw [Sg.add_other p (by omega), H.get_push, if_neg (by omega)]
    exact ⟨hs, rfl⟩
/-- One's own block is changed where it stands. -/
theorem Rel.change {P : Program} {σ : Sg} {A : H} {w w' : World} {id : Nat} {o o' : AObj} {p : Pl} (h : Rel P σ A w) (ha : A.get id = some o) (hs : σ id = some p) (hown : o.own = true) (hown' : o'.own = true)
    (hw : w'.heap.size = w.heap.size) (hold : ∀ k, k ≠ p.b → w'.heap[k]? = w.heap[k]?) (ho : ORel P σ w' p o') : Rel P σ (A.set id o') w' := by
  refine ⟨h.glob, fun i x q hx hq => ?_, fun i j q r x y hij hx hy hq hr hox => ?_, fun i q hq => ?_, fun i hi => ?_⟩
  · rw [H.get_set] at hx
    by_cases e : i = id
    · subst e; rw [if_pos rfl] at hx; rw [hs] at hq; cases hx; cases hq; exact ho
    · rw [if_neg e] at hx
      exact (h.obj i x q hx hq).keep (Sg.le_refl σ) (hold _ (fun e2 => h.inj id i p q o x (fun e3 => e e3.symm) ha hx hs hq hown e2.symm))
  · rw [H.get_set] at hx hy
    have getx : ∃ x', A.get i = some x' ∧ x'.own = true := by
      by_cases e : i = id
      · subst e; exact ⟨o, ha, hown⟩
      · rw [if_neg e] at hx; exact ⟨x, hx, hox⟩
    have gety : ∃ y', A.get j = some y' := by
      by_cases e : j = id
      · subst e; exact ⟨o, ha⟩
      · rw [if_neg e] at hy; exact ⟨y, hy⟩
    obtain ⟨x', hx', hox'⟩ := getx
    obtain ⟨y', hy'⟩ := gety
    exact h.inj i j q r x' y' hij hx' hy' hq hr hox'
  · rw [hw]; exact h.lt i q hq
  · rw [H.next_set] at hi
    have := h.dom i hi
    rw [H.get_set, if_neg (by intro e; subst e; rw [ha] at this; exact absurd this.1 (by simp))]
    exact this
theorem Fr.change {P : Program} {σ : Sg} {A : H} {w w' : World} {id : Nat} {o o' : AObj} {p : Pl} (_h : Rel P σ A w) (ha : A.get id = some o) (hs : σ id = some p) (hown : o.own = true)
    (hw : w'.heap.size = w.heap.size) (hold : ∀ k, k ≠ p.b → w'.heap[k]? = w.heap[k]?) (h1 : w'.os = w.os) (h2 : w'.tape = w.tape) (h3 : w'.output = w.output) : Fr σ A w σ (A.set id o') w' := by
  refine ⟨Sg.le_refl σ, h1, h2, h3, by omega, fun b _ hn => hold b (fun e => hn ⟨id, p, o, hs, e.symm, ha, hown⟩), fun b hb => ?_, by rw [H.next_set]; exact Nat.le_refl _, fun i _ hi => ?_⟩
  · obtain ⟨i, q, x, hq, hqb, hg, hx⟩ := hb
    rw [H.get_set] at hg
    by_cases e : i = id
    · subst e; exact .inl ⟨i, q, o, hq, hqb, ha, hown⟩
    · rw [if_neg e] at hg; exact .inl ⟨i, q, x, hq, hqb, hg, hx⟩
  · rw [H.get_set, if_neg (by intro e; subst e; rw [hs] at hi; cases hi)]
    exact ⟨hi, rfl⟩
/-- A block is given up. -/
theorem Rel.drop {P : Program} {σ : Sg} {A : H} {w : World} (h : Rel P σ A w) (id : Nat) : Rel P σ (A.drop id) w := by
  refine ⟨h.glob, fun i x q hx hq => ?_, fun i j q r x y hij hx hy hq hr hox => ?_, h.lt, fun i hi => ?_⟩
  · rw [H.get_drop] at hx
    by_cases e : i = id
    · rw [if_pos e] at hx; cases hx
    · rw [if_neg e] at hx; exact h.obj i x q hx hq
  · rw [H.get_drop] at hx hy
    by_cases e : i = id
    · rw [if_pos e] at hx; cases hx
    · rw [if_neg e] at hx
      by_cases e' : j = id
      · rw [if_pos e'] at hy; cases hy
      · rw [if_neg e'] at hy; exact h.inj i j q r x y hij hx hy hq hr hox
  · rw [H.get_drop]
    have := h.dom i hi
    by_cases e : i = id
    · rw [if_pos e]; exact ⟨rfl, this.2⟩
    · rw [if_neg e]; exact this
end Go.Ab
