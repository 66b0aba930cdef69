/- Code and functions: the interpreter's answers are the model's. -/
import Derived.Test.YtainaihfbljjoaaGreatDoorAbDraw
import Derived.LoopN
set_option linter.all false
set_option linter.unusedSectionVars false
set_option linter.unusedVariables false
set_option linter.unusedSimpArgs false
namespace Go.Ab
open Go Go.RowKit
variable [Unk]
section
variable {P : Program}

def exitOf : XExit → Exit
  | .normal => .normal
  | .exit i => .exit i
  | .ret => .ret
def CodePost (P : Program) (ds : List Deferred) (σ : Sg) (A : H) (w : World) (nt : Nat) (xe : XExit) (t' : Tm) (A' : H) : Exit → Act → World → Prop := fun e a' w' => e = exitOf xe ∧ a'.defers = ds ∧ ∃ σ', TRel σ' nt t' a' ∧ Rel P σ' A' w' ∧ Fr σ A w σ' A' w'

theorem one_sound (hx : Ext P) {call : Caller} (hcall : CallOk P call) {nt : Nat} {ops : Array Oper} {i : Nat} {o : Oper} (ho : ops[i]? = some o) {σ : Sg} {t t1 : Tm} {a : Act} {A A1 : H} {w : World} (ht : TRel σ nt t a) (hr : Rel P σ A w)
    (h : evalOne call (compOper P nt ops o) t A = some (t1, A1)) {K : Act → World → Prop} {Q : Exit → Act → World → Prop} (hk : ∀ a1 w1 σ1, TRel σ1 nt t1 a1 → Rel P σ1 A1 w1 → Fr σ A w σ1 A1 w1 → a1.defers = a.defers → K a1 w1) : wpOp P ops Q i K a w := by
  rcases compOper_made (P := P) (nt := nt) (ops := ops) (o := o) with hm | ⟨s, hb, hg⟩
  · unfold wpOp
    simp only [ho]
    have hpd : ∀ (d : Option Tmp) (v : Value), (a.put d v).defers = a.defers := fun d v => by cases d <;> rfl
    have hw := wanted_eq hm ht.size fun d wv e => ht.rel d (hm.okg d wv e)
    rw [hw]
    unfold evalOne at h
    cases hwa : wantedA t (compOper P nt ops o).guard with
    | true =>
      rw [hwa] at h
      simp only [cond_true] at h
      rw [if_pos rfl]
      refine .inl ?_
      split at h
      · rename_i v A2 hro
        simp only [Option.some.injEq, Prod.mk.injEq] at h
        obtain ⟨rfl, rfl⟩ := h
        refine runOp_sound hx hcall hm.op hr (fun y hy => ht.operand hr (hm.operands y hy)) hro fun v' w' σ' h1 h2 h3 => hk _ w' σ' ?_ h2 h3 (hpd _ _)
        rw [hm.dst]
        exact (ht.mono h3.ext).put hm.okd h1
      · cases h
    | false =>
      rw [hwa] at h
      simp only [cond_false, Option.some.injEq, Prod.mk.injEq] at h
      obtain ⟨rfl, rfl⟩ := h
      rw [if_neg (by simp)]
      exact hk _ w σ (by rw [hm.dst]; exact ht.put hm.okd undef_rel) hr (Fr.refl _ _ _) (hpd _ _)
  · rw [evalOne_bad hb hg] at h
    cases h

theorem ops_sound (hx : Ext P) {call : Caller} (hcall : CallOk P call) {nt : Nat} {ops : Array Oper} {Q : Exit → Act → World → Prop} : ∀ (m k : Nat), k + m = ops.size → ∀ {σ : Sg} {t t1 : Tm} {a : Act} {A A1 : H} {w : World}, TRel σ nt t a → Rel P σ A w →
    evalOps call ((ops.toList.drop k).map (compOper P nt ops)) t A = some (t1, A1) → (∀ a1 w1 σ1, TRel σ1 nt t1 a1 → Rel P σ1 A1 w1 → Fr σ A w σ1 A1 w1 → a1.defers = a.defers → Q .normal a1 w1) → wpOps P ops Q (List.range' k m) a w := by
  intro m
  induction m with
  | zero =>
    intro k hk σ t t1 a A A1 w ht hr h hq
    rw [List.drop_eq_nil_of_le (by simp; omega)] at h
    simp only [List.map_nil, evalOps, Option.some.injEq, Prod.mk.injEq] at h
    obtain ⟨rfl, rfl⟩ := h
    exact hq a w σ ht hr (Fr.refl _ _ _) rfl
  | succ m ih =>
    intro k hk σ t t1 a A A1 w ht hr h hq
    have hlt : k < ops.toList.length := by simp; omega
    rw [List.drop_eq_getElem_cons hlt] at h
    simp only [List.map_cons, evalOps] at h
    split at h
    · rename_i t2 A2 h1
      rw [List.range'_succ, wpOps_cons]
      have ho : ops[k]? = some ops.toList[k] := by simp
      refine one_sound hx hcall ho ht hr h1 fun a1 w1 σ1 k1 k2 k3 k4 => ?_
      exact ih (k + 1) (by omega) k1 k2 h fun a2 w2 σ2 q1 q2 q3 q4 => hq a2 w2 σ2 q1 q2 (k3.trans q3) (q4.trans k4)
    · cases h

/-- The two halves of the induction: code; a loop's rounds. -/
structure CodeOk (P : Program) (call : Caller) (n : Nat) : Prop where
  code : ∀ (c : Code) (nt : Nat) (t : Tm) (A : H) (xe : XExit) (t' : Tm) (A' : H), evalC call n (compC P nt c) t A = some (xe, t', A') → ∀ (σ : Sg) (a : Act) (w : World), ∀ (ds : List Deferred), TRel σ nt t a → Rel P σ A w → a.defers = ds →
    c.wp P (CodePost P ds σ A w nt xe t' A') a w
  loop : ∀ (c : Code) (nt : Nat) (t : Tm) (A : H) (xe : XExit) (t' : Tm) (A' : H), evalC call n (.loop (compC P nt c)) t A = some (xe, t', A') → ∀ (σ : Sg) (a : Act) (w : World), ∀ (ds : List Deferred), TRel σ nt t a → Rel P σ A w → a.defers = ds →
    Code.rounds P c (CodePost P ds σ A w nt xe t' A') n a w

theorem CodePost.trans {ds : List Deferred} {σ σ1 : Sg} {A A1 : H} {w w1 : World} {nt : Nat} {xe : XExit} {t' : Tm} {A' : H} (hf : Fr σ A w σ1 A1 w1) : ∀ (e : Exit) (a : Act) (w' : World), CodePost P ds σ1 A1 w1 nt xe t' A' e a w' → CodePost P ds σ A w nt xe t' A' e a w' :=
  fun _ _ _ ⟨h1, h2, σ', h3, h4, h5⟩ => ⟨h1, h2, σ', h3, h4, hf.trans h5⟩

theorem rounds_mono {c : Code} {Q Q' : Exit → Act → World → Prop} (h : ∀ e a w, Q e a w → Q' e a w) : ∀ (n : Nat) (a : Act) (w : World), Code.rounds P c Q n a w → Code.rounds P c Q' n a w := by
  intro n
  induction n with
  | zero => intro a w h; exact h
  | succ n ih =>
    intro a w hh
    rw [rounds_succ] at hh ⊢
    refine wp_mono hh fun e a w he => ?_
    cases e <;> first | exact ih _ _ he | exact h _ _ _ he

theorem code_ok (hmix : P.follows .mixedOrders = true) (hx : Ext P) {call : Caller} (hcall : CallOk P call) : ∀ n, CodeOk P call n := by
  intro n
  induction n with
  | zero => exact ⟨fun c nt t A xe t' A' h => by simp [evalC] at h, fun c nt t A xe t' A' h => by simp [evalC] at h⟩
  | succ n ih =>
    have hloop : ∀ (c : Code) (nt : Nat) (t : Tm) (A : H) (xe : XExit) (t' : Tm) (A' : H), evalC call (n + 1) (.loop (compC P nt c)) t A = some (xe, t', A') → ∀ (σ : Sg) (a : Act) (w : World), ∀ (ds : List Deferred), TRel σ nt t a → Rel P σ A w → a.defers = ds →
        Code.rounds P c (CodePost P ds σ A w nt xe t' A') (n + 1) a w := by
      intro c nt t A xe t' A' h σ a w ds ht hr hd
      simp only [evalC] at h
      rw [rounds_succ]
      cases hb : evalC call n (compC P nt c) t A with
      | none => rw [hb] at h; cases h
      | some r =>
        obtain ⟨xe1, t1, A1⟩ := r
        rw [hb] at h
        have h1 := ih.code c nt t A xe1 t1 A1 hb σ a w ds ht hr hd
        refine wp_mono h1 fun e a1 w1 he => ?_
        obtain ⟨he1, he2, σ1, k1, k2, k3⟩ := he
        subst he1
        cases xe1 with
        | normal => exact rounds_mono (CodePost.trans k3) n a1 w1 (ih.loop c nt t1 A1 xe t' A' h σ1 a1 w1 ds k1 k2 he2)
        | exit i => simp only [Option.some.injEq, Prod.mk.injEq] at h; obtain ⟨rfl, rfl, rfl⟩ := h; exact ⟨rfl, he2, σ1, k1, k2, k3⟩
        | ret => simp only [Option.some.injEq, Prod.mk.injEq] at h; obtain ⟨rfl, rfl, rfl⟩ := h; exact ⟨rfl, he2, σ1, k1, k2, k3⟩
    refine ⟨fun c nt t A xe t' A' h σ a w ds ht hr hd => ?_, hloop⟩
    cases c with
    | skip => simp only [compC, evalC, Option.some.injEq, Prod.mk.injEq] at h; obtain ⟨rfl, rfl, rfl⟩ := h; exact wp_skip ⟨rfl, hd, σ, ht, hr, Fr.refl _ _ _⟩
    | label l => simp only [compC, evalC, Option.some.injEq, Prod.mk.injEq] at h; obtain ⟨rfl, rfl, rfl⟩ := h; exact wp_label ⟨rfl, hd, σ, ht, hr, Fr.refl _ _ _⟩
    | exit i => simp only [compC, evalC, Option.some.injEq, Prod.mk.injEq] at h; obtain ⟨rfl, rfl, rfl⟩ := h; exact wp_exit ⟨rfl, hd, σ, ht, hr, Fr.refl _ _ _⟩
    | ret => simp only [compC, evalC, Option.some.injEq, Prod.mk.injEq] at h; obtain ⟨rfl, rfl, rfl⟩ := h; exact wp_ret ⟨rfl, hd, σ, ht, hr, Fr.refl _ _ _⟩
    | region id ops draw =>
      cases draw with
      | false =>
        simp only [compC, cond_false, evalC] at h
        split at h
        · rename_i t1 A1 h1
          simp only [Option.some.injEq, Prod.mk.injEq] at h
          obtain ⟨rfl, rfl, rfl⟩ := h
          refine wp_region ?_
          rw [List.range_eq_range']
          exact ops_sound hx hcall ops.size 0 (by omega) ht hr (by simpa using h1) fun a1 w1 σ1 k1 k2 k3 k4 => ⟨rfl, k4.trans hd, σ1, k1, k2, k3⟩
        · cases h
      | true =>
        simp only [compC, cond_true] at h
        cases hcd : compDraw P nt ops with
        | draw l =>
          rw [hcd] at h
          simp only [evalC] at h
          split at h
          · rename_i t1 A1 h1
            simp only [Option.some.injEq, Prod.mk.injEq] at h
            obtain ⟨rfl, rfl, rfl⟩ := h
            exact draw_sound hmix hx hcall hcd h1 ht hr fun a1 w1 σ1 k1 k2 k3 k4 => ⟨rfl, k4.trans hd, σ1, k1, k2, k3⟩
          · cases h
        | bad s => rw [hcd] at h; simp [evalC] at h
        | _ => unfold compDraw at hcd; simp only at hcd; revert hcd; cases (okOrder _ _ _ _ && okPairs _ _ _ _ && okLooks _ _ _ _ _) <;> intro hcd <;> cases hcd
    | seq c1 c2 =>
      simp only [compC, evalC] at h
      refine wp_seq ?_
      cases hb : evalC call n (compC P nt c1) t A with
      | none => rw [hb] at h; cases h
      | some r =>
        obtain ⟨xe1, t1, A1⟩ := r
        rw [hb] at h
        refine wp_mono (ih.code c1 nt t A xe1 t1 A1 hb σ a w ds ht hr hd) fun e a1 w1 he => ?_
        obtain ⟨he1, he2, σ1, k1, k2, k3⟩ := he
        subst he1
        cases xe1 with
        | normal => exact wp_mono (ih.code c2 nt t1 A1 xe t' A' h σ1 a1 w1 ds k1 k2 he2) (CodePost.trans k3)
        | exit i => simp only [Option.some.injEq, Prod.mk.injEq] at h; obtain ⟨rfl, rfl, rfl⟩ := h; exact ⟨rfl, he2, σ1, k1, k2, k3⟩
        | ret => simp only [Option.some.injEq, Prod.mk.injEq] at h; obtain ⟨rfl, rfl, rfl⟩ := h; exact ⟨rfl, he2, σ1, k1, k2, k3⟩
    | cond c c1 c2 =>
      simp only [compC] at h
      cases hok : okOperand P nt c with
      | false => rw [hok] at h; simp [evalC] at h
      | true =>
        rw [hok] at h
        simp only [cond_true, evalC] at h
        have hv := ht.operand hr hok
        split at h
        · rename_i hvt
          rw [hvt] at hv
          exact wp_cond_true hv.bool_inv (ih.code c1 nt t A xe t' A' h σ a w ds ht hr hd)
        · rename_i hvt
          rw [hvt] at hv
          exact wp_cond_false hv.bool_inv (ih.code c2 nt t A xe t' A' h σ a w ds ht hr hd)
        · cases h
    | block id c1 =>
      simp only [compC, evalC] at h
      refine wp_block ?_
      cases hb : evalC call n (compC P nt c1) t A with
      | none => rw [hb] at h; cases h
      | some r =>
        obtain ⟨xe1, t1, A1⟩ := r
        rw [hb] at h
        refine wp_mono (ih.code c1 nt t A xe1 t1 A1 hb σ a w ds ht hr hd) fun e a1 w1 he => ?_
        obtain ⟨he1, he2, σ1, k1, k2, k3⟩ := he
        subst he1
        cases xe1 with
        | normal => simp only [Option.some.injEq, Prod.mk.injEq] at h; obtain ⟨rfl, rfl, rfl⟩ := h; exact ⟨rfl, he2, σ1, k1, k2, k3⟩
        | ret => simp only [Option.some.injEq, Prod.mk.injEq] at h; obtain ⟨rfl, rfl, rfl⟩ := h; exact ⟨rfl, he2, σ1, k1, k2, k3⟩
        | exit i =>
          simp only at h
          cases hi : Nat.beq i id with
          | true =>
            rw [hi] at h
            simp only [cond_true, Option.some.injEq, Prod.mk.injEq] at h
            obtain ⟨rfl, rfl, rfl⟩ := h
            have := Nat.eq_of_beq_eq_true hi
            simp only [exitOf, Exit.inBlock, this, if_true]
            exact ⟨rfl, he2, σ1, k1, k2, k3⟩
          | false =>
            rw [hi] at h
            simp only [cond_false, Option.some.injEq, Prod.mk.injEq] at h
            obtain ⟨rfl, rfl, rfl⟩ := h
            have := Nat.ne_of_beq_eq_false hi
            simp only [exitOf, Exit.inBlock, this, if_false]
            exact ⟨rfl, he2, σ1, k1, k2, k3⟩
    | loop c1 => exact wp_loop_rounds (n + 1) (hloop c1 nt t A xe t' A' h σ a w ds ht hr hd)
    | scope c1 => simp [compC, evalC] at h
    | rangeFunc f p q r => simp [compC, evalC] at h
    | goto l => simp [compC, evalC] at h
    | refuse s => simp [compC, evalC] at h
end
end Go.Ab
