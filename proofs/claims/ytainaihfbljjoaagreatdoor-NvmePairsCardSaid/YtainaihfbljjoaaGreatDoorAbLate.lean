/- Functions that defer one call on their way, and what is called so at a normal end. -/
import Derived.Test.YtainaihfbljjoaaGreatDoorAbCode
import Derived.Recover
set_option linter.all false
set_option linter.unusedSectionVars false
set_option linter.unusedVariables false
set_option linter.unusedSimpArgs false
namespace Go.Ab
open Go Go.RowKit
variable [Unk]
section
variable {P : Program}

/-- One operation, as the weakest precondition says it. -/
theorem one_core (hx : Ext P) {call : Caller} (hcall : CallOk P call) {nt : Nat} {ops : Array Oper} {o : Oper} {σ : Sg} {t t1 : Tm} {a : Act} {A A1 : H} {w : World} (ht : TRel σ nt t a) (hr : Rel P σ A w)
    (h : evalOne call (compOper P nt ops o) t A = some (t1, A1)) {K : Act → World → Prop} {Q : Exit → Act → World → Prop} (hk : ∀ a1 w1 σ1, TRel σ1 nt t1 a1 → Rel P σ1 A1 w1 → Fr σ A w σ1 A1 w1 → a1.defers = a.defers → K a1 w1) :
    if Region.wanted o (yielded ops a.tmps) then o.wp P a w K Q else K (a.put o.dst undef) w := by
  rcases compOper_made (P := P) (nt := nt) (ops := ops) (o := o) with hm | ⟨s, hb, hg⟩
  · have hpd : ∀ (d : Option Tmp) (v : Value), (a.put d v).defers = a.defers := fun d v => by cases d <;> rfl
    have hw := wanted_eq hm ht.size fun d wv e => ht.rel d (hm.okg d wv e)
    rw [hw]
    unfold evalOne at h
    cases hwa : wantedA t (compOper P nt ops o).guard with
    | true =>
      rw [hwa] at h
      simp only [cond_true] at h
      rw [if_pos rfl]
      split at h
      · rename_i v A2 hro
        simp only [Option.some.injEq, Prod.mk.injEq] at h
        obtain ⟨rfl, rfl⟩ := h
        refine runOp_sound hx hcall hm.op hr (fun y hy => ht.operand hr (hm.operands y hy)) hro fun v' w' σ' h1 h2 h3 => hk _ w' σ' ?_ h2 h3 (hpd _ _)
        rw [hm.dst]
        exact (ht.mono h3.ext).put hm.okd h1
      · cases h
    | false =>
      rw [hwa] at h
      simp only [cond_false, Option.some.injEq, Prod.mk.injEq] at h
      obtain ⟨rfl, rfl⟩ := h
      rw [if_neg (by simp)]
      exact hk _ w σ (by rw [hm.dst]; exact ht.put hm.okd undef_rel) hr (Fr.refl _ _ _) (hpd _ _)
  · rw [evalOne_bad hb hg] at h
    cases h

/-- The first operations of a region, whatever comes behind them. -/
theorem ops_first (hx : Ext P) {call : Caller} (hcall : CallOk P call) {nt : Nat} {ops : Array Oper} {Q : Exit → Act → World → Prop} {rest : List Nat} : ∀ (m k : Nat), k + m ≤ ops.size → ∀ {σ : Sg} {t t1 : Tm} {a : Act} {A A1 : H} {w : World}, TRel σ nt t a → Rel P σ A w →
    evalOps call (((ops.toList.drop k).take m).map (compOper P nt ops)) t A = some (t1, A1) → (∀ a1 w1 σ1, TRel σ1 nt t1 a1 → Rel P σ1 A1 w1 → Fr σ A w σ1 A1 w1 → a1.defers = a.defers → wpOps P ops Q rest a1 w1) → wpOps P ops Q (List.range' k m ++ rest) a w := by
  intro m
  induction m with
  | zero =>
    intro k hk σ t t1 a A A1 w ht hr h hq
    simp only [List.take_zero, List.map_nil, evalOps, Option.some.injEq, Prod.mk.injEq] at h
    obtain ⟨rfl, rfl⟩ := h
    exact hq a w σ ht hr (Fr.refl _ _ _) rfl
  | succ m ih =>
    intro k hk σ t t1 a A A1 w ht hr h hq
    have hlt : k < ops.toList.length := by simp; omega
    rw [List.drop_eq_getElem_cons hlt, List.take_succ_cons] at h
    simp only [List.map_cons, evalOps] at h
    split at h
    · rename_i t2 A2 h1
      rw [List.range'_succ, List.cons_append, wpOps_cons]
      have ho : ops[k]? = some ops.toList[k] := by simp
      refine one_sound hx hcall ho ht hr h1 fun a1 w1 σ1 k1 k2 k3 k4 => ?_
      exact ih (k + 1) (by omega) k1 k2 h fun a2 w2 σ2 q1 q2 q3 q4 => hq a2 w2 σ2 q1 q2 (k3.trans q3) (q4.trans k4)
    · cases h

/-- A deferred call stands by: of whom, with what. -/
structure Stands (P : Program) (σ : Sg) (g : FuncId) (dl : List Value) (a : Act) : Prop where
  out : ∃ cap dargs dlc, a.defers = [{ target := .fn (.func g) cap, args := dargs }] ∧ dargs.toList ++ cap.toList = dlc ∧ LRel σ dl dlc

theorem split_sound (hmix : P.follows .mixedOrders = true) (hx : Ext P) {call : Caller} (hcall : CallOk P call) {nt : Nat} : ∀ (c : Code) {x y : XCode} {fo : Operand} {das : List Operand}, splitD P nt c = some (x, fo, das, y) →
    ∀ {n m : Nat} {t t1 t2 : Tm} {A A1 A2 : H} {g : FuncId} {dl : List Value} {xe : XExit}, evalC call n x t A = some (.normal, t1, A1) → calleeA (val t1 fo) (das.map (val t1)) = some (g, dl) → evalC call m y t1 A1 = some (xe, t2, A2) →
    ∀ {σ : Sg} {a : Act} {w : World}, TRel σ nt t a → Rel P σ A w → a.defers = [] → ∀ {Q : Exit → Act → World → Prop},
    (∀ a2 w2 σ2, TRel σ2 nt t2 a2 → Rel P σ2 A2 w2 → Fr σ A w σ2 A2 w2 → Stands P σ2 g dl a2 → Q (exitOf xe) a2 w2) → c.wp P Q a w := by
  intro c
  induction c with
  | seq b1 b2 ih1 ih2 =>
    intro x y fo das hsp n m t t1 t2 A A1 A2 g dl xe he1 hca he2 σ a w ht hr hd Q hq
    cases b1 with
    | region id ops draw =>
      cases draw with
      | true => simp [splitD] at hsp
      | false =>
        simp only [splitD] at hsp
        split at hsp
        · rename_i x' fo' das' hR
          simp only [Option.some.injEq, Prod.mk.injEq] at hsp
          obtain ⟨rfl, rfl, rfl, rfl⟩ := hsp
          unfold splitR at hR
          split at hR
          case h_2 => cases hR
          rename_i o ho
          split at hR
          case h_2 => cases hR
          rename_i cl hop hgd hdst
          split at hR
          case h_2 => cases hR
          rename_i f hcal
          cases hok : (okOperand P nt f && cl.args.toList.all (okOperand P nt)) with
          | false => rw [hok] at hR; cases hR
          | true =>
            rw [hok] at hR
            simp only [cond_true, Option.some.injEq, Prod.mk.injEq] at hR
            obtain ⟨rfl, rfl, rfl⟩ := hR
            rw [Bool.and_eq_true] at hok
            cases n with
            | zero => simp [evalC] at he1
            | succ n =>
              simp only [evalC] at he1
              split at he1
              case h_2 => cases he1
              rename_i t' A' hops
              simp only [Option.some.injEq, Prod.mk.injEq] at he1
              obtain ⟨_, rfl, rfl⟩ := he1
              have hne : ops.toList ≠ [] := by intro h0; rw [h0] at ho; cases ho
              have hsz : ops.size = (ops.size - 1) + 1 := by
                have : 0 < ops.size := by have := List.length_pos_iff.2 hne; simpa using this
                omega
              have hlast : ops[ops.size - 1]? = some o := by
                rw [← Array.getElem?_toList, ← ho, List.getLast?_eq_getElem?]
                simp
              refine wp_seq (wp_region ?_)
              rw [List.range_eq_range', hsz, ← List.range'_append_1]
              refine ops_first hx hcall (ops.size - 1) 0 (by omega) ht hr (by rw [List.drop_zero]; rw [List.dropLast_eq_take] at hops; simpa using hops) fun a1 w1 σ1 k1 k2 k3 k4 => ?_
              have hr1 : List.range' (0 + (ops.size - 1)) 1 = [ops.size - 1] := by simp
              rw [hr1, wpOps_cons]
              unfold wpOp
              simp only [hlast]
              have hwant : Region.wanted o (yielded ops a1.tmps) = true := by unfold Region.wanted; rw [hgd]
              rw [hwant, if_pos rfl]
              refine .inl ?_
              have hfv := k1.operand k2 hok.1
              have hav : LRel σ1 (cl.args.toList.map (val t')) (cl.args.toList.map a1.eval) := LRel.map _ _ _ fun y hy => k1.operand k2 (List.all_eq_true.1 hok.2 y hy)
              obtain ⟨dst, op, type, pos, after, guard⟩ := o
              simp only at hop hgd hdst hcal
              subst hop; subst hgd; subst hdst
              obtain ⟨callee, args, argTypes⟩ := cl
              simp only at hcal
              subst hcal
              revert hca
              revert hfv
              generalize val t' f = v1; generalize hv2 : a1.eval f = v2
              intro hfv hca
              cases hfv with
              | func fn xs xs' ys ys' l1 l2 q1 q2 =>
                cases fn with
                | func g' =>
                  simp only [calleeA, Option.some.injEq, Prod.mk.injEq] at hca
                  obtain ⟨rfl, rfl⟩ := hca
                  have hrun : (execOp a1.eval ⟨none, .defer ⟨.value f, args, argTypes⟩, type, pos, after, none⟩).run P w1 = .ok (.defer { target := .fn (.func g') ys', args := xs' ++ args.map a1.eval }) w1 := by
                    have e1 : (execOp a1.eval ⟨none, .defer ⟨.value f, args, argTypes⟩, type, pos, after, none⟩) = (do pure (.defer (← Deferred.ofValue (a1.eval f) (args.map a1.eval))) : Sem Next) := rfl
                    rw [e1, hv2]
                    simp [Deferred.ofValue]
                  unfold Oper.wp
                  rw [hrun, Oper.upon_defer]
                  simp only [Act.put, wpOps]
                  show Exit.then (b2.wp P Q) Q .normal _ _
                  have ht2 : TRel σ1 nt t' { a1 with defers := { target := .fn (.func g') ys', args := xs' ++ args.map a1.eval } :: a1.defers } := ⟨k1.size, k1.rel⟩
                  refine wp_mono ((code_ok hmix hx hcall m).code b2 nt t' A' xe t2 A2 he2 σ1 _ w1 _ ht2 k2 rfl) fun e a2 w2 hcp => ?_
                  obtain ⟨rfl, hd2, σ2, j1, j2, j3⟩ := hcp
                  refine hq a2 w2 σ2 j1 j2 (k3.trans j3) ⟨ys', _, _, by rw [hd2, k4, hd], rfl, ?_⟩
                  have hL : LRel σ1 (xs.toList ++ args.toList.map (val t') ++ ys.toList) (xs'.toList ++ args.toList.map a1.eval ++ ys'.toList) :=
                    ((⟨by simpa using l1, q1⟩ : LRel σ1 xs.toList xs'.toList).append hav).append (⟨by simpa using l2, q2⟩ : LRel σ1 ys.toList ys'.toList)
                  have hL2 := hL.mono j3.ext
                  simpa using hL2
                | _ => simp [calleeA] at hca
              | _ => simp [calleeA] at hca
        · rename_i hR
          rw [Option.map_eq_some_iff] at hsp
          obtain ⟨r, hr2, he⟩ := hsp
          obtain ⟨rx, rfo, rdas, ry⟩ := r
          simp only [Prod.mk.injEq] at he
          obtain ⟨rfl, rfl, rfl, rfl⟩ := he
          cases n with
          | zero => simp [evalC] at he1
          | succ n =>
            simp only [evalC] at he1
            cases hb : evalC call n (compC P nt (.region id ops false)) t A with
            | none => rw [hb] at he1; cases he1
            | some q =>
              obtain ⟨xe1, t', A'⟩ := q
              rw [hb] at he1
              cases xe1 with
              | exit i => cases he1
              | ret => cases he1
              | normal =>
                refine wp_seq (wp_mono ((code_ok hmix hx hcall n).code _ nt t A .normal t' A' hb σ a w [] ht hr hd) fun e a1 w1 hcp => ?_)
                obtain ⟨rfl, hd1, σ1, k1, k2, k3⟩ := hcp
                exact ih2 hr2 he1 hca he2 k1 k2 hd1 fun a2 w2 σ2 j1 j2 j3 j4 => hq a2 w2 σ2 j1 j2 (k3.trans j3) j4
    | _ => simp [splitD] at hsp
  | _ => intro x y fo das hsp; simp [splitD] at hsp

theorem compOperD_cases {nt : Nat} {ops : Array Oper} {o : Oper} : compOperD P nt ops o = compOper P nt ops o ∨
    ∃ cl, o.op = .call cl ∧ o.guard = none ∧ cl.callee = .builtin .recover ∧ cl.args.toList = [] ∧ okDst nt o.dst = true ∧ compOperD P nt ops o = { dst := o.dst, guard := none, op := .move (.const .nilIface) } := by
  unfold compOperD
  split
  · rename_i cl hop hgd
    split
    · rename_i hcal hargs
      cases hok : okDst nt o.dst with
      | false => exact .inl rfl
      | true => exact .inr ⟨cl, hop, hgd, hcal, hargs, rfl, rfl⟩
    · exact .inl rfl
  · exact .inl rfl

/-- Operations of a deferred call; nothing is recovered. -/
theorem opsS_sound (hx : Ext P) {call : Caller} (hcall : CallOk P call) {nt : Nat} {ops : Array Oper} {Q : Exit → Act → List Frame → World → Prop} {cs : List Frame} (hcs : recoverD cs = none) : ∀ (m k : Nat), k + m = ops.size → ∀ {σ : Sg} {t t1 : Tm} {a : Act} {A A1 : H} {w : World}, TRel σ nt t a → Rel P σ A w →
    evalOps call ((ops.toList.drop k).map (compOperD P nt ops)) t A = some (t1, A1) → (∀ a1 w1 σ1, TRel σ1 nt t1 a1 → Rel P σ1 A1 w1 → Fr σ A w σ1 A1 w1 → a1.defers = a.defers → Q .normal a1 cs w1) → wpOpsS P ops Q (List.range' k m) a cs w := by
  intro m
  induction m with
  | zero =>
    intro k hk σ t t1 a A A1 w ht hr h hq
    rw [List.drop_eq_nil_of_le (by simp; omega)] at h
    simp only [List.map_nil, evalOps, Option.some.injEq, Prod.mk.injEq] at h
    obtain ⟨rfl, rfl⟩ := h
    exact hq a w σ ht hr (Fr.refl _ _ _) rfl
  | succ m ih =>
    intro k hk σ t t1 a A A1 w ht hr h hq
    have hlt : k < ops.toList.length := by simp; omega
    rw [List.drop_eq_getElem_cons hlt] at h
    simp only [List.map_cons, evalOps] at h
    split at h
    case h_2 => cases h
    rename_i t2 A2 h1
    have ho : ops[k]? = some ops.toList[k] := by simp
    rw [List.range'_succ]
    unfold wpOpsS
    simp only [ho]
    generalize ops.toList[k] = o at h1
    have hpd : ∀ (d : Option Tmp) (v : Value), (a.put d v).defers = a.defers := fun d v => by cases d <;> rfl
    have next : ∀ a1 w1 σ1, TRel σ1 nt t2 a1 → Rel P σ1 A2 w1 → Fr σ A w σ1 A2 w1 → a1.defers = a.defers → wpOpsS P ops Q (List.range' (k + 1) m) a1 cs w1 :=
      fun a1 w1 σ1 k1 k2 k3 k4 => ih (k + 1) (by omega) k1 k2 h fun a2 w2 σ2 q1 q2 q3 q4 => hq a2 w2 σ2 q1 q2 (k3.trans q3) (q4.trans k4)
    have plain : compOperD P nt ops o = compOper P nt ops o → (if Region.wanted o (yielded ops a.tmps) then
        (match (execOp a.eval o).run P w with
        | .ok .recover w' =>
          match recoverD cs with
          | some (v, cs') => wpOpsS P ops Q (List.range' (k + 1) m) (a.put o.dst v) cs' w'
          | none => wpOpsS P ops Q (List.range' (k + 1) m) (a.put o.dst .nilIface) cs w'
        | r => o.upon P a (fun a' w' => wpOpsS P ops Q (List.range' (k + 1) m) a' cs w') (fun e a' w' => Q e a' cs w') r)
      else wpOpsS P ops Q (List.range' (k + 1) m) (a.put o.dst undef) cs w) := by
      intro hcD
      rw [hcD] at h1
      have hc := one_core hx hcall ht hr h1 (K := fun a' w' => wpOpsS P ops Q (List.range' (k + 1) m) a' cs w') (Q := fun e a' w' => Q e a' cs w') next
      split
      · rename_i hw
        rw [if_pos hw] at hc
        unfold Oper.wp at hc
        split
        · rename_i w' hrun
          rw [hrun] at hc
          exact hc.elim
        · exact hc
      · rename_i hw
        rw [if_neg hw] at hc
        exact hc
    rcases compOperD_cases (P := P) (nt := nt) (ops := ops) (o := o) with hcD | ⟨cl, hop, hgd, hcal, hargs, hok, hcD⟩
    · exact plain hcD
    · rw [hcD] at h1
      clear plain hcD
      obtain ⟨dst, op, type, pos, after, guard⟩ := o
      simp only at hop hgd hok h1
      subst hop; subst hgd
      · simp only [evalOne, wantedA, runOp, evalOp, val, cond_true, Option.some.injEq, Prod.mk.injEq] at h1
        obtain ⟨rfl, rfl⟩ := h1
        have hwant : Region.wanted ⟨dst, .call cl, type, pos, after, none⟩ (yielded ops a.tmps) = true := rfl
        rw [hwant, if_pos rfl]
        obtain ⟨callee, args, argTypes⟩ := cl
        simp only at hcal hargs
        subst hcal
        have hrun : (execOp a.eval ⟨dst, .call ⟨.builtin .recover, args, argTypes⟩, type, pos, after, none⟩).run P w = .ok .recover w := rfl
        rw [hrun]
        simp only [hcs]
        exact next _ w σ (ht.put hok .nilIface) hr (Fr.refl _ _ _) (hpd _ _)

/-- A deferred call's code. -/
theorem late_sound (hmix : P.follows .mixedOrders = true) (hx : Ext P) {call : Caller} (hcall : CallOk P call) {nt : Nat} {cs : List Frame} (hcs : recoverD cs = none) : ∀ (c : Code) {n : Nat} {t t1 : Tm} {A A1 : H} {xe : XExit}, evalC call n (compLate P nt c) t A = some (xe, t1, A1) →
    ∀ {σ : Sg} {a : Act} {w : World}, TRel σ nt t a → Rel P σ A w → a.defers = [] → ∀ {Q : Exit → Act → List Frame → World → Prop},
    (∀ a1 w1 σ1, TRel σ1 nt t1 a1 → Rel P σ1 A1 w1 → Fr σ A w σ1 A1 w1 → a1.defers = [] → Q (exitOf xe) a1 cs w1) → c.wpS P Q a cs w := by
  intro c
  induction c with
  | region id ops draw =>
    intro n t t1 A A1 xe h σ a w ht hr hd Q hq
    cases draw with
    | true => cases n <;> simp [compLate, evalC] at h
    | false =>
      cases n with
      | zero => simp [evalC] at h
      | succ n =>
        simp only [compLate, evalC] at h
        split at h
        case h_2 => cases h
        rename_i t' A' h1
        simp only [Option.some.injEq, Prod.mk.injEq] at h
        obtain ⟨rfl, rfl, rfl⟩ := h
        refine wpS_region ?_
        rw [List.range_eq_range']
        exact opsS_sound hx hcall hcs ops.size 0 (by omega) ht hr (by simpa using h1) fun a1 w1 σ1 k1 k2 k3 k4 => hq a1 w1 σ1 k1 k2 k3 (k4.trans hd)
  | seq b1 b2 ih1 ih2 =>
    intro n t t1 A A1 xe h σ a w ht hr hd Q hq
    cases n with
    | zero => simp [evalC] at h
    | succ n =>
      simp only [compLate, evalC] at h
      cases hb : evalC call n (compLate P nt b1) t A with
      | none => rw [hb] at h; cases h
      | some q =>
        obtain ⟨xe1, t', A'⟩ := q
        rw [hb] at h
        refine wpS_seq (ih1 hb ht hr hd fun a1 w1 σ1 k1 k2 k3 k4 => ?_)
        cases xe1 with
        | normal =>
          refine wpS_of_wp (wp_mono ((code_ok hmix hx hcall n).code b2 nt t' A' xe t1 A1 h σ1 a1 w1 [] k1 k2 k4) fun e a2 w2 hcp => ?_)
          obtain ⟨rfl, hd2, σ2, j1, j2, j3⟩ := hcp
          exact hq a2 w2 σ2 j1 j2 (k3.trans j3) hd2
        | exit i => simp only [Option.some.injEq, Prod.mk.injEq] at h; obtain ⟨rfl, rfl, rfl⟩ := h; exact hq a1 w1 σ1 k1 k2 k3 k4
        | ret => simp only [Option.some.injEq, Prod.mk.injEq] at h; obtain ⟨rfl, rfl, rfl⟩ := h; exact hq a1 w1 σ1 k1 k2 k3 k4
  | _ => intro n t t1 A A1 xe h; cases n <;> simp [compLate, evalC] at h
end
end Go.Ab
