/- Answers told ahead: what a function says to plain arguments, run by itself, once. -/
import Derived.Test.YtainaihfbljjoaaGreatDoorAbTold
import Derived.Test.YtainaihfbljjoaaGreatDoorAbMemD
set_option linter.all false
set_option linter.unusedSectionVars false
set_option linter.unusedVariables false
set_option linter.unusedSimpArgs false
namespace Go.Ab
open Go Go.RowKit

/-! ### Texts as numbers -/
theorem strN_snoc (b : UInt8) : ∀ (l : List UInt8) (a : Nat), strN (l ++ [b]) a = strN l a * 256 + b.toNat := by
  intro l
  induction l with
  | nil => intro a; rfl
  | cons c l ih => intro a; simp only [List.cons_append, strN, ih]
theorem strN_pos : ∀ (l : List UInt8) (a : Nat), 1 ≤ a → 1 ≤ strN l a := by
  intro l
  induction l with
  | nil => intro a h; exact h
  | cons c l ih => intro a h; exact ih _ (by omega)
theorem strN_inj' : ∀ (l m : List UInt8), strN l.reverse 1 = strN m.reverse 1 → l = m := by
  intro l
  induction l with
  | nil =>
    intro m h
    cases m with
    | nil => rfl
    | cons c m =>
      simp only [List.reverse_nil, List.reverse_cons, strN_snoc, strN] at h
      have := strN_pos m.reverse 1 (by omega)
      omega
  | cons b l ih =>
    intro m h
    cases m with
    | nil =>
      simp only [List.reverse_nil, List.reverse_cons, strN_snoc, strN] at h
      have := strN_pos l.reverse 1 (by omega)
      omega
    | cons c m =>
      simp only [List.reverse_cons, strN_snoc] at h
      have h1 := b.toNat_lt
      have h2 := c.toNat_lt
      have e1 : b.toNat = c.toNat := by omega
      have e2 : strN l.reverse 1 = strN m.reverse 1 := by omega
      rw [ih m e2, UInt8.toNat_inj.1 e1]
theorem strN_inj {l m : List UInt8} (h : strN l 1 = strN m 1) : l = m := by
  have := strN_inj' l.reverse m.reverse (by simpa using h)
  simpa using this

/-! ### Plain values -/
def eqw : Value → Value → Bool
  | .bool a, .bool b => a == b
  | .int k a, .int k' b => decide (k = k') && a == b
  | .string a, .string b => Nat.beq (strN (bytesOf a) 1) (strN (bytesOf b) 1)
  | .pointer none, .pointer none => true
  | .slice none l c, .slice none l' c' => Nat.beq l l' && Nat.beq c c'
  | .map none, .map none => true
  | .nilFunc, .nilFunc => true
  | .nilIface, .nilIface => true
  | .chan (some i), .chan (some j) => Nat.beq i j
  | .complex .f64 l n, .complex .f64 l' n' => Nat.beq l l' && Nat.beq n n'
  | _, _ => false
def eqwL (g : Value → Value → Bool) : List Value → List Value → Bool
  | [], [] => true
  | a :: l, b :: m => g a b && eqwL g l m
  | _, _ => false
/-- Structs of plain values, and several of these. -/
def eqx : Nat → Value → Value → Bool
  | 0, a, b => eqw a b
  | n + 1, .agg a, .agg b => eqwL (eqx n) a.toList b.toList
  | n + 1, .tuple a, .tuple b => eqwL (eqx n) a.toList b.toList
  | _ + 1, a, b => eqw a b
/-- A value without addresses. -/
inductive Still : Value → Prop where
  | bool (b : Bool) : Still (.bool b)
  | int (k : IntKind) (n : Int) : Still (.int k n)
  | string (s : ByteArray) : Still (.string s)
  | ptrNil : Still (.pointer none)
  | sliceNil (l c : Nat) : Still (.slice none l c)
  | mapNil : Still (.map none)
  | nilFunc : Still .nilFunc
  | nilIface : Still .nilIface
  | unk (i : Nat) : Still (.chan (some i))
  | rope (l n : Nat) : Still (.complex .f64 l n)
  | agg (as : Array Value) (h : ∀ v ∈ as.toList, Still v) : Still (.agg as)
  | tuple (as : Array Value) (h : ∀ v ∈ as.toList, Still v) : Still (.tuple as)
def PlainEq (a b : Value) : Prop := a = b ∧ Still a
theorem eqw_eq {a b : Value} (h : eqw a b = true) : PlainEq a b := by
  unfold eqw at h
  split at h
  · exact ⟨by simpa using h, .bool _⟩
  · exact ⟨by simpa using h, .int _ _⟩
  · rename_i s t
    have h := strN_inj (Nat.eq_of_beq_eq_true h)
    have : s.data = t.data := by
      apply Array.ext'
      exact h
    refine ⟨?_, .string _⟩
    cases s; cases t; simp_all
  · exact ⟨rfl, .ptrNil⟩
  · rw [Bool.and_eq_true] at h
    rw [Nat.eq_of_beq_eq_true h.1, Nat.eq_of_beq_eq_true h.2]
    exact ⟨rfl, .sliceNil _ _⟩
  · exact ⟨rfl, .mapNil⟩
  · exact ⟨rfl, .nilFunc⟩
  · exact ⟨rfl, .nilIface⟩
  · rw [Nat.eq_of_beq_eq_true h]
    exact ⟨rfl, .unk _⟩
  · rw [Bool.and_eq_true] at h
    rw [Nat.eq_of_beq_eq_true h.1, Nat.eq_of_beq_eq_true h.2]
    exact ⟨rfl, .rope _ _⟩
  · cases h
theorem eqwL_eq {g : Value → Value → Bool} (hg : ∀ a b, g a b = true → PlainEq a b) : ∀ {l m : List Value}, eqwL g l m = true → l = m ∧ ∀ v ∈ l, Still v
  | [], [], _ => ⟨rfl, fun v h => by cases h⟩
  | a :: l, b :: m, h => by
    rw [eqwL, Bool.and_eq_true] at h
    obtain ⟨h1, h2⟩ := hg _ _ h.1
    obtain ⟨h3, h4⟩ := eqwL_eq hg h.2
    refine ⟨by rw [h1, h3], fun v hv => ?_⟩
    cases hv with
    | head => exact h2
    | tail _ hv => exact h4 v hv
theorem eqx_eq : ∀ (n : Nat) (a b : Value), eqx n a b = true → PlainEq a b := by
  intro n
  induction n with
  | zero => intro a b h; exact eqw_eq h
  | succ n ih =>
    intro a b h
    cases a with
    | agg x =>
      cases b with
      | agg y =>
        obtain ⟨h1, h2⟩ := eqwL_eq ih (l := x.toList) (m := y.toList) h
        exact ⟨by rw [Array.ext' h1], .agg _ h2⟩
      | _ => exact eqw_eq h
    | tuple x =>
      cases b with
      | tuple y =>
        obtain ⟨h1, h2⟩ := eqwL_eq ih (l := x.toList) (m := y.toList) h
        exact ⟨by rw [Array.ext' h1], .tuple _ h2⟩
      | _ => exact eqw_eq h
    | _ => exact eqw_eq h
def eqArgs (a b : List Value) : Bool := eqwL (eqx 2) a b
theorem eqArgs_eq {a b : List Value} (h : eqArgs a b = true) : a = b ∧ ∀ v ∈ a, Still v := eqwL_eq (eqx_eq 2) h

/-! ### What is told -/
abbrev Told := List (Nat × List Value × Value)
def toldGo (k : Nat) (args : List Value) : Told → Option Value
  | [] => none
  | e :: l => bif Nat.beq k e.1 then (bif eqArgs args e.2.1 then some e.2.2 else none) else toldGo k args l
def memA (tabs : OTabs) (l : Told) : Caller → List Value → H → Option (Value × H)
  | _, args, A => (toldGo (keyA 7 args) args l).bind fun v => bif tabsIn tabs 0 A then some (v, A) else none
theorem memA_any (tabs : OTabs) (l : Told) (c c' : Caller) (args : List Value) (A : H) : memA tabs l c args A = memA tabs l c' args A := rfl

variable [Unk] {P : Program}
/-- What stands for it hangs on no place. -/
theorem Still.move {σ τ : Sg} {v : Value} (hv : Still v) : ∀ {v' : Value}, VRel σ v v' → VRel τ v v' := by
  induction hv with
  | agg as h ih =>
    intro v' hr
    cases hr with
    | agg _ as' h1 h2 => exact .agg _ _ h1 fun i v v' ha hb => ih v (List.mem_of_getElem? ha) (h2 i v v' ha hb)
  | tuple as h ih =>
    intro v' hr
    cases hr with
    | tuple _ as' h1 h2 => exact .tuple _ _ h1 fun i v v' ha hb => ih v (List.mem_of_getElem? ha) (h2 i v v' ha hb)
  | bool b => intro v' hr; cases hr; exact .bool _
  | int k n => intro v' hr; cases hr; exact .int _ _
  | string s => intro v' hr; cases hr; exact .string _
  | ptrNil => intro v' hr; cases hr; exact .ptrNil
  | sliceNil l c => intro v' hr; cases hr; exact .sliceNil _ _
  | mapNil => intro v' hr; cases hr; exact .mapNil
  | nilFunc => intro v' hr; cases hr; exact .nilFunc
  | nilIface => intro v' hr; cases hr; exact .nilIface
  | unk i => intro v' hr; cases hr; exact .unk i
  | rope l n => intro v' hr; cases hr with | rope _ _ _ s h => exact .rope _ _ _ s h
theorem still_args {σ τ : Sg} {l l' : List Value} (hl : ∀ v ∈ l, Still v) (h : LRel σ l l') : LRel τ l l' :=
  ⟨h.len, fun i v v' ha hb => (hl v (List.mem_of_getElem? ha)).move (h.get i v v' ha hb)⟩

/-- A told answer is right. -/
def Right (P : Program) (tabs : OTabs) (f : FuncId) (e : List Value × Value) : Prop :=
  ∀ (σ : Sg) (W : World), Rel P σ (otabH tabs) W → ∀ argsc, LRel σ e.1 argsc → Calls P f argsc.toArray W fun x w' => ∃ rc, x = .returned rc ∧ (∀ τ, VRel τ e.2 rc) ∧ Below W.heap.size W w'
def AllRight (P : Program) (tabs : OTabs) (f : FuncId) : Told → Prop
  | [] => True
  | e :: l => Right P tabs f e.2 ∧ AllRight P tabs f l
theorem right_of (hmix : P.follows .mixedOrders = true) (hx : Ext P) {code : FuncId → Option XFun} (hcode : CodeOf P code) (hnat : NatOk P code) {n : Nat} {f : FuncId} {args : List Value} {tabs : OTabs} {v r : Value} {A' : H}
    (he : evalF code n f args (otabH tabs) = some (v, A')) (hv : eqx 2 v r = true) (_ha : eqArgs args args = true) : Right P tabs f (args, r) := by
  obtain ⟨rfl, hf⟩ := eqx_eq _ _ _ hv
  intro σ W hr argsc hargs
  refine ((evalF_ok hmix hx hcode hnat n).calls _ _ _ _ _ he σ W argsc hr hargs).mono fun e w' h => ?_
  obtain ⟨rc, σ', rfl, h2, _, h4⟩ := h
  refine ⟨rc, rfl, fun τ => hf.move h2, h4.os, h4.tape, h4.output, h4.size, fun k hk => h4.frame k hk fun ho => ?_⟩
  obtain ⟨id, p, o, _, _, hg, hown⟩ := ho
  rw [otabH_ro _ hg] at hown
  cases hown

theorem tabs_rel {tabs : OTabs} (hg : P.globals.size = tabs.length) (hflat : ∀ (i : Nat) t c, tabs[i]? = some (some (t, c)) → ∀ v ∈ c, flat1 v = true) {σ : Sg} {A : H} {w : World} (hr : Rel P σ A w) (hb : tabsIn tabs 0 A = true) :
    Rel P (fun i => if i < tabs.length then σ i else none) (otabH tabs) w := by
  have hin := tabsIn_get hb
  refine ⟨fun g hlt => ?_, fun id o p ho hs => ?_, fun i j p q o o' _ ho _ _ _ hown => ?_, fun id p hs => ?_, fun id hid => ?_⟩
  · obtain ⟨p, h1, h2, h3⟩ := hr.glob g hlt
    exact ⟨p, by simp only [if_pos (show g < tabs.length by omega)]; exact h1, h2, h3⟩
  · have ho' := ho
    rw [otabH_get, Option.map_eq_some_iff] at ho
    obtain ⟨x, hx, rfl⟩ := ho
    rw [Option.join_eq_some_iff] at hx
    have hlt : id < tabs.length := (List.getElem?_eq_some_iff.1 hx).1
    simp only [if_pos hlt] at hs
    have hA := hin id x hx
    rw [Nat.zero_add] at hA
    obtain ⟨cur, e', fz, q1, q2, q3, q4, q5, q6⟩ := hr.obj id _ p hA hs
    exact ⟨cur, e', fz, q1, q2, fun i v v' h1 h2 => by
      have hf := hflat id x.1 x.2 hx v (List.mem_of_getElem? h1)
      rw [flat1_same hf (q3 i v v' h1 h2)]
      exact (flat1_flat hf).vrel, q4, q5, fun h => by cases h⟩
  · rw [otabH_ro _ ho] at hown
    cases hown
  · by_cases hlt : id < tabs.length
    · simp only [if_pos hlt] at hs; exact hr.lt id p hs
    · simp only [if_neg hlt] at hs; cases hs
  · unfold otabH at hid
    rw [otabGo_next] at hid
    simp only [Nat.zero_add] at hid
    exact ⟨by rw [otabH_get, List.getElem?_eq_none hid]; rfl, by simp only [if_neg (show ¬ id < tabs.length by omega)]⟩

theorem mem_ok {tabs : OTabs} (hg : P.globals.size = tabs.length) (hflat : ∀ (i : Nat) t c, tabs[i]? = some (some (t, c)) → ∀ v ∈ c, flat1 v = true) {f : FuncId} {l : Told} (hl : AllRight P tabs f l)
    {call : Caller} {args : List Value} {A : H} {r : Value} {A' : H} (h : memA tabs l call args A = some (r, A')) {σ : Sg} {w : World} {argsc : List Value} (hr : Rel P σ A w) (ha : LRel σ args argsc) :
    Calls P f argsc.toArray w (CPost P σ A w r A') := by
  unfold memA at h
  rw [Option.bind_eq_some_iff] at h
  obtain ⟨v, hv, h⟩ := h
  cases hb : tabsIn tabs 0 A with
  | false => rw [hb] at h; cases h
  | true =>
    rw [hb] at h
    simp only [cond_true, Option.some.injEq, Prod.mk.injEq] at h
    obtain ⟨rfl, rfl⟩ := h
    have hrel := tabs_rel hg hflat hr hb
    clear hb
    generalize keyA 7 args = key at hv
    induction l with
    | nil => cases hv
    | cons e l ih =>
      unfold toldGo at hv
      cases hk : Nat.beq key e.1 with
      | true =>
        rw [hk] at hv
        cases he : eqArgs args e.2.1 with
        | true =>
          rw [he] at hv
          simp only [cond_true, Option.some.injEq] at hv
          subst hv
          obtain ⟨h1, h2⟩ := eqArgs_eq he
          refine (hl.1 _ w hrel argsc (by rw [← h1]; exact still_args h2 ha)).mono fun x w' hx => ?_
          obtain ⟨rc, hrc, hv, hb⟩ := hx
          obtain ⟨k1, k2⟩ := hr.below hb
          exact ⟨rc, σ, hrc, hv σ, k1, k2⟩
        | false => rw [he] at hv; cases hv
      | false =>
        rw [hk] at hv
        exact ih hl.2 hv
end Go.Ab
