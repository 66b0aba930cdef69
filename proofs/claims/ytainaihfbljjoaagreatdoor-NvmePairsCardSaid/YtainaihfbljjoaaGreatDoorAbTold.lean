/- Functions whose answers other texts tell; and a remainder of an unknown number. -/
import Derived.Test.YtainaihfbljjoaaGreatDoorAbTabO
import Derived.Test.YtainaihfbljjoaaGreatDoorAbKNatOk
set_option linter.all false
set_option linter.unusedSectionVars false
set_option linter.unusedVariables false
set_option linter.unusedSimpArgs false
namespace Go.Ab
open Go Go.RowKit

/-- Are two values without addresses alike? -/
def eqv : Value → Value → Bool
  | .bool a, .bool b => a == b
  | .int k a, .int k' b => decide (k = k') && a == b
  | .string a, .string b => bytesOf a == bytesOf b
  | .pointer none, .pointer none => true
  | .slice none l c, .slice none l' c' => Nat.beq l l' && Nat.beq c c'
  | .map none, .map none => true
  | .nilFunc, .nilFunc => true
  | .nilIface, .nilIface => true
  | _, _ => false
theorem eqv_eq {a b : Value} (h : eqv a b = true) : a = b := by
  unfold eqv at h
  split at h
  · simpa using h
  · simpa using h
  · rename_i s t
    have h := eq_of_beq h
    have : s.data = t.data := by
      apply Array.ext'
      exact h
    cases s; cases t; simp_all
  · rfl
  · rw [Bool.and_eq_true] at h
    rw [Nat.eq_of_beq_eq_true h.1, Nat.eq_of_beq_eq_true h.2]
  · rfl
  · rfl
  · rfl
  · cases h
def eqvL : List Value → List Value → Bool
  | [], [] => true
  | a :: l, b :: m => eqv a b && eqvL l m
  | _, _ => false
theorem eqvL_eq : ∀ {a b : List Value}, eqvL a b = true → a = b
  | [], [], _ => rfl
  | a :: l, b :: m, h => by
    rw [eqvL, Bool.and_eq_true] at h
    rw [eqv_eq h.1, eqvL_eq h.2]
/-- Do a heap's blocks, from one on, hold the tables? -/
def tabsIn : OTabs → Nat → H → Bool
  | [], _, _ => true
  | none :: r, i, A => tabsIn r (i + 1) A
  | some x :: r, i, A => (match A.get i with
    | some (.cells true e c) => Nat.beq e x.1 && eqvL c x.2
    | _ => false) && tabsIn r (i + 1) A
theorem tabsIn_get : ∀ {l : OTabs} {i : Nat} {A : H}, tabsIn l i A = true → ∀ j x, l[j]? = some (some x) → A.get (i + j) = some (.cells true x.1 x.2)
  | [], i, A, _, j, x, hj => by simp at hj
  | none :: r, i, A, h, j, x, hj => by
    cases j with
    | zero => simp at hj
    | succ j =>
      have := tabsIn_get (l := r) (i := i + 1) h j x (by simpa using hj)
      rw [← this]
      congr 1
      omega
  | some y :: r, i, A, h, j, x, hj => by
    rw [tabsIn, Bool.and_eq_true] at h
    cases j with
    | zero =>
      simp only [List.getElem?_cons_zero, Option.some.injEq] at hj
      subst hj
      have h := h.1
      split at h
      · rename_i e c hg
        rw [Bool.and_eq_true] at h
        rw [Nat.add_zero, hg, Nat.eq_of_beq_eq_true h.1, eqvL_eq h.2]
      · cases h
    | succ j =>
      have := tabsIn_get (l := r) (i := i + 1) h.2 j x (by simpa using hj)
      rw [← this]
      congr 1
      omega

/-- A function of no argument that answers one value, as long as the tables are as they were. -/
def toldA (tabs : OTabs) (v : Value) : Caller → List Value → H → Option (Value × H)
  | _, [], A => bif tabsIn tabs 0 A then some (v, A) else none
  | _, _, _ => none
theorem toldA_any (tabs : OTabs) (v : Value) (c c' : Caller) (args : List Value) (A : H) : toldA tabs v c args A = toldA tabs v c' args A := by
  unfold toldA; split <;> rfl

def modV (k m : Int) : Int := (k.tmod m + m).tmod m
/-- headgatekeep.Mod: of the unknown number 0 by n, r; of known ones, what it is. -/
def modT (n r : Nat) : Caller → List Value → H → Option (Value × H)
  | _, [.chan (some 0), .int .i64 m], A => if m = (n : Int) then some (.int .i64 r, A) else none
  | _, [.int .i64 k, .int .i64 m], A => if 1 ≤ m ∧ m ≤ 4096 then some (.int .i64 (modV k m), A) else none
  | _, _, _ => none
theorem modT_any (n r : Nat) (c c' : Caller) (args : List Value) (A : H) : modT n r c args A = modT n r c' args A := by
  unfold modT; split <;> rfl

/-- The same of several unknown numbers: (which, by what, what is left). -/
def modGo (i : Nat) (m : Int) : List (Nat × Nat × Nat) → Option Nat
  | [] => none
  | e :: l => bif Nat.beq i e.1 && decide (m = (e.2.1 : Int)) then some e.2.2 else modGo i m l
def modL (l : List (Nat × Nat × Nat)) : Caller → List Value → H → Option (Value × H)
  | _, [.chan (some i), .int .i64 m], A => (modGo i m l).map fun (r : Nat) => (.int .i64 (Int.ofNat r), A)
  | _, [.int .i64 k, .int .i64 m], A => if 1 ≤ m ∧ m ≤ 4096 then some (.int .i64 (modV k m), A) else none
  | _, _, _ => none
theorem modL_any (l : List (Nat × Nat × Nat)) (c c' : Caller) (args : List Value) (A : H) : modL l c args A = modL l c' args A := by
  unfold modL; split <;> rfl
theorem modGo_mem {i : Nat} {m : Int} : ∀ {l : List (Nat × Nat × Nat)} {r : Nat}, modGo i m l = some r → ∃ n, (i, n, r) ∈ l ∧ m = (n : Int)
  | [], r, h => by cases h
  | e :: l, r, h => by
    unfold modGo at h
    cases hb : (Nat.beq i e.1 && decide (m = (e.2.1 : Int))) with
    | true =>
      rw [hb] at h
      cases h
      rw [Bool.and_eq_true] at hb
      have h1 := Nat.eq_of_beq_eq_true hb.1
      subst h1
      exact ⟨e.2.1, .head _, of_decide_eq_true hb.2⟩
    | false =>
      rw [hb] at h
      obtain ⟨n, h1, h2⟩ := modGo_mem h
      exact ⟨n, .tail _ h1, h2⟩
/-- Two numbers that a text leaves open. -/
class Par where
  q : Nat
  a : Nat

variable [Unk] {P : Program}
theorem flat1_same {σ : Sg} {v v' : Value} (hv : flat1 v = true) (h : VRel σ v v') : v' = v := by
  cases h <;> first | rfl | (simp [flat1] at hv)
theorem told_ok {tabs : OTabs} (hg : P.globals.size = tabs.length) (hflat : ∀ (i : Nat) t c, tabs[i]? = some (some (t, c)) → ∀ v ∈ c, flat1 v = true) {f : FuncId} {v : Value} (hv : Flat v)
    (hw : ∀ (σ : Sg) (W : World), Rel P σ (otabH tabs) W → Calls P f #[] W fun e w' => e = .returned v ∧ Below W.heap.size W w')
    {call : Caller} {args : List Value} {A : H} {r : Value} {A' : H} (h : toldA tabs v call args A = some (r, A')) {σ : Sg} {w : World} {argsc : List Value} (hr : Rel P σ A w) (hl : LRel σ args argsc) :
    Calls P f argsc.toArray w (CPost P σ A w r A') := by
  unfold toldA at h
  split at h
  case h_2 => cases h
  cases hb : tabsIn tabs 0 A with
  | false => rw [hb] at h; cases h
  | true =>
    rw [hb] at h
    simp only [cond_true, Option.some.injEq, Prod.mk.injEq] at h
    obtain ⟨rfl, rfl⟩ := h
    have : argsc = [] := List.eq_nil_of_length_eq_zero (by have := hl.len; simpa using this.symm)
    subst this
    have hin := tabsIn_get hb
    have hrel : Rel P (fun i => if i < tabs.length then σ i else none) (otabH tabs) w := by
      refine ⟨fun g hlt => ?_, fun id o p ho hs => ?_, fun i j p q o o' _ ho _ _ _ hown => ?_, fun id p hs => ?_, fun id hid => ?_⟩
      · obtain ⟨p, h1, h2, h3⟩ := hr.glob g hlt
        exact ⟨p, by simp only [if_pos (show g < tabs.length by omega)]; exact h1, h2, h3⟩
      · have ho' := ho
        rw [otabH_get, Option.map_eq_some_iff] at ho
        obtain ⟨x, hx, rfl⟩ := ho
        rw [Option.join_eq_some_iff] at hx
        have hlt : id < tabs.length := (List.getElem?_eq_some_iff.1 hx).1
        simp only [if_pos hlt] at hs
        have hA := hin id x hx
        rw [Nat.zero_add] at hA
        obtain ⟨cur, e', fz, q1, q2, q3, q4, q5, q6⟩ := hr.obj id _ p hA hs
        exact ⟨cur, e', fz, q1, q2, fun i v v' h1 h2 => by
          have hf := hflat id x.1 x.2 hx v (List.mem_of_getElem? h1)
          rw [flat1_same hf (q3 i v v' h1 h2)]
          exact (flat1_flat hf).vrel, q4, q5, fun h => by cases h⟩
      · rw [otabH_ro _ ho] at hown
        cases hown
      · by_cases hlt : id < tabs.length
        · simp only [if_pos hlt] at hs; exact hr.lt id p hs
        · simp only [if_neg hlt] at hs; cases hs
      · unfold otabH at hid
        rw [otabGo_next] at hid
        simp only [Nat.zero_add] at hid
        exact ⟨by rw [otabH_get, List.getElem?_eq_none hid]; rfl, by simp only [if_neg (show ¬ id < tabs.length by omega)]⟩
    exact (hw _ w hrel).mono fun e w' he => CPost.flat hr hv he.1 he.2

theorem modT_ok {n r0 : Nat} (hn : 1 ≤ n ∧ n ≤ 4096) {f : FuncId} (hw : ∀ (k m : Int) (w : World), 1 ≤ m → m ≤ 4096 → Calls P f #[.int .i64 k, .int .i64 m] w fun e w' => e = .returned (.int .i64 (modV k m)) ∧ Below w.heap.size w w')
    {typ : Int} (ht : Unk.val 0 = .int .i64 typ) (hr0 : modV typ (n : Int) = r0)
    {call : Caller} {args : List Value} {A : H} {r : Value} {A' : H} (h : modT n r0 call args A = some (r, A')) {σ : Sg} {w : World} {argsc : List Value} (hr : Rel P σ A w) (hl : LRel σ args argsc) :
    Calls P f argsc.toArray w (CPost P σ A w r A') := by
  unfold modT at h
  split at h
  · rename_i m
    split at h
    · rename_i hm
      simp only [Option.some.injEq, Prod.mk.injEq] at h
      obtain ⟨rfl, rfl⟩ := h
      obtain ⟨v1, r1, rfl, hv1, hl⟩ := hl.cons_inv
      obtain ⟨v2, r2, rfl, hv2, hl⟩ := hl.cons_inv
      have : r2 = [] := List.eq_nil_of_length_eq_zero (by have := hl.len; simpa using this.symm)
      subst this
      cases hv1; cases hv2
      subst hm
      rw [ht]
      refine (hw typ (n : Int) w (by omega) (by omega)).mono fun e w' he => ?_
      rw [hr0] at he
      exact CPost.flat hr (.int _ _) he.1 he.2
    · cases h
  · rename_i k m
    split at h
    · rename_i hm
      simp only [Option.some.injEq, Prod.mk.injEq] at h
      obtain ⟨rfl, rfl⟩ := h
      obtain ⟨v1, r1, rfl, hv1, hl⟩ := hl.cons_inv
      obtain ⟨v2, r2, rfl, hv2, hl⟩ := hl.cons_inv
      have : r2 = [] := List.eq_nil_of_length_eq_zero (by have := hl.len; simpa using this.symm)
      subst this
      cases hv1; cases hv2
      refine (hw k m w hm.1 hm.2).mono fun e w' he => ?_
      exact CPost.flat hr (.int _ _) he.1 he.2
    · cases h
  · cases h
theorem modL_ok {l : List (Nat × Nat × Nat)} {f : FuncId} (hw : ∀ (k m : Int) (w : World), 1 ≤ m → m ≤ 4096 → Calls P f #[.int .i64 k, .int .i64 m] w fun e w' => e = .returned (.int .i64 (modV k m)) ∧ Below w.heap.size w w')
    (ht : ∀ e ∈ l, 1 ≤ e.2.1 ∧ e.2.1 ≤ 4096 ∧ ∃ x : Int, Unk.val e.1 = .int .i64 x ∧ modV x (e.2.1 : Int) = (e.2.2 : Int))
    {call : Caller} {args : List Value} {A : H} {r : Value} {A' : H} (h : modL l call args A = some (r, A')) {σ : Sg} {w : World} {argsc : List Value} (hr : Rel P σ A w) (hl : LRel σ args argsc) :
    Calls P f argsc.toArray w (CPost P σ A w r A') := by
  unfold modL at h
  split at h
  · rename_i i m
    rw [Option.map_eq_some_iff] at h
    obtain ⟨r0, h0, he⟩ := h
    cases he
    obtain ⟨n, hm, rfl⟩ := modGo_mem h0
    obtain ⟨h1, h2, x, hx, hr0⟩ := ht _ hm
    obtain ⟨v1, r1, rfl, hv1, hl⟩ := hl.cons_inv
    obtain ⟨v2, r2, rfl, hv2, hl⟩ := hl.cons_inv
    have : r2 = [] := List.eq_nil_of_length_eq_zero (by have := hl.len; simpa using this.symm)
    subst this
    cases hv1; cases hv2
    simp only at hx h1 h2 hr0
    rw [hx]
    refine (hw x (n : Int) w (by omega) (by omega)).mono fun e w' he => ?_
    rw [hr0] at he
    exact CPost.flat hr (.int _ _) he.1 he.2
  · rename_i k m
    split at h
    · rename_i hm
      simp only [Option.some.injEq, Prod.mk.injEq] at h
      obtain ⟨rfl, rfl⟩ := h
      obtain ⟨v1, r1, rfl, hv1, hl⟩ := hl.cons_inv
      obtain ⟨v2, r2, rfl, hv2, hl⟩ := hl.cons_inv
      have : r2 = [] := List.eq_nil_of_length_eq_zero (by have := hl.len; simpa using this.symm)
      subst this
      cases hv1; cases hv2
      refine (hw k m w hm.1 hm.2).mono fun e w' he => ?_
      exact CPost.flat hr (.int _ _) he.1 he.2
    · cases h
  · cases h
end Go.Ab
