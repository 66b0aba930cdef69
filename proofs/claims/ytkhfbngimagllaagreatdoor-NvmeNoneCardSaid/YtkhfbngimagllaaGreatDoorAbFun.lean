/- Functions: what the interpreter answers, the program answers. -/
import Derived.Test.YtkhfbngimagllaaGreatDoorAbCode
import Derived.Defers
namespace Go.Ab
open Go Go.RowKit
set_option linter.unusedSimpArgs false
section
variable {P : Program}

theorem args_get : ∀ (args : List Value) (k : Nat) (t : Tm) (i : Nat), val (argsT args k t) (.tmp i) = if k ≤ i ∧ i < k + args.length then (args[i - k]?).getD (.tuple #[]) else val t (.tmp i) := by
  intro args
  induction args with
  | nil => intro k t i; simp only [argsT, List.length_nil]; rw [if_neg (by omega)]
  | cons v args ih =>
    intro k t i
    simp only [argsT]
    rw [ih (k + 1)]
    have hp : val (t.put k (some v)) (.tmp i) = if i = k then v else val t (.tmp i) := by
      simp only [val, Tr.get_put]
      split <;> rfl
    by_cases h1 : k + 1 ≤ i ∧ i < k + 1 + args.length
    · rw [if_pos h1, if_pos (by simp; omega)]
      have : i - k = (i - (k + 1)) + 1 := by omega
      rw [this]
      rfl
    · rw [if_neg h1, hp]
      by_cases h2 : i = k
      · subst h2; rw [if_pos rfl, if_pos (by simp)]; simp
      · rw [if_neg h2, if_neg (by simp; omega)]
theorem args_rel {σ : Sg} {args argsc : List Value} {n : Nat} (h : LRel σ args argsc) (hn : args.length ≤ n) : TRel σ n (argsT args 0 .nil) { tmps := argsc.toArray ++ Array.replicate (n - argsc.toArray.size) undef, defers := [] } := by
  have hl := h.len
  refine ⟨by simp; omega, fun i hi => ?_⟩
  rw [args_get]
  simp only [Nat.zero_le, true_and, Nat.zero_add, Nat.sub_zero]
  by_cases hlt : i < args.length
  · rw [if_pos hlt]
    have hlt' : i < argsc.length := by omega
    have h1 : (args[i]?).getD (.tuple #[]) = args[i] := by simp [hlt]
    have h2 : (Act.eval { tmps := argsc.toArray ++ Array.replicate (n - argsc.toArray.size) undef, defers := [] } (.tmp i)) = argsc[i] := by
      simp [Act.eval, Array.getElem?_append_left, hlt']
    rw [h1, h2]
    exact h.get i _ _ (List.getElem?_eq_getElem hlt) (List.getElem?_eq_getElem hlt')
  · rw [if_neg hlt]
    have h2 : (Act.eval { tmps := argsc.toArray ++ Array.replicate (n - argsc.toArray.size) undef, defers := [] } (.tmp i)) = undef := by
      simp only [Act.eval]
      rw [Array.getD_eq_getD_getElem?, Array.getElem?_append_right (by simp; omega)]
      simp [Array.getElem?_replicate]
      split <;> rfl
    rw [h2]
    simp only [val, Tr.get_nil]
    exact undef_rel

theorem run_res (w : World) {a : Array Value} : ∀ (rs : List ResultVar) (vs : List Value), (∀ (i : Nat) r v, rs[i]? = some r → vs[i]? = some v → (match r with | .tmp t => pure (a.getD t undef) | .cell x t => do loadVar t (← asAddr (a.getD x undef)) : Sem Value).run P w = .ok v w) → rs.length = vs.length →
    (rs.mapM (fun | .tmp t => pure (a.getD t undef) | .cell x t => do loadVar t (← asAddr (a.getD x undef)) : ResultVar → Sem Value)).run P w = .ok vs w := by
  intro rs
  induction rs with
  | nil => intro vs _ hl; have : vs = [] := List.eq_nil_of_length_eq_zero (by simpa using hl.symm); subst this; simp
  | cons r rs ih =>
    intro vs h hl
    cases vs with
    | nil => simp at hl
    | cons v vs =>
      have h0 := h 0 r v rfl rfl
      have ih' := ih vs (fun i r v a b => h (i + 1) r v (by simpa using a) (by simpa using b)) (by simpa using hl)
      rw [List.mapM_cons]
      cases r with
      | tmp t => simp only [Sem.run_bind]; rw [h0]; simp only [Result.andThen_ok, ih', Sem.run_pure]
      | cell x t => simp only [Sem.run_bind] at h0 ⊢; rw [h0]; simp only [Result.andThen_ok, ih', Sem.run_pure]

theorem results_rel {σ : Sg} {A : H} {w : World} {nt : Nat} {t : Tm} {a : Act} (ht : TRel σ nt t a) (hr : Rel P σ A w) : ∀ {rs : List ResultVar} {xs : List (Nat × Option (Nat × Bool))} {vs : List Value}, compRes P nt rs = some xs → resultsA A t xs = some vs →
    ∃ vs', LRel σ vs vs' ∧ rs.length = vs'.length ∧ ∀ (i : Nat) r v, rs[i]? = some r → vs'[i]? = some v → (match r with | .tmp t => pure (a.tmps.getD t undef) | .cell x t => do loadVar t (← asAddr (a.tmps.getD x undef)) : Sem Value).run P w = .ok v w := by
  intro rs
  induction rs with
  | nil =>
    intro xs vs hc h
    simp only [compRes, Option.some.injEq] at hc
    subst hc
    simp only [resultsA, Option.some.injEq] at h
    subst h
    exact ⟨[], .nil, rfl, fun i r v h => by simp at h⟩
  | cons r rs ih =>
    intro xs vs hc h
    cases r with
    | tmp s =>
      simp only [compRes] at hc
      cases hb : Nat.blt s nt with
      | false => rw [hb] at hc; cases hc
      | true =>
        rw [hb] at hc
        simp only [cond_true, Option.map_eq_some_iff] at hc
        obtain ⟨xs', hxs, rfl⟩ := hc
        simp only [resultsA, Option.map_eq_some_iff] at h
        obtain ⟨vs1, hvs, rfl⟩ := h
        obtain ⟨vs', h1, h2, h3⟩ := ih hxs hvs
        refine ⟨a.eval (.tmp s) :: vs', LRel.cons (ht.rel s (blt_lt hb)) h1, by simp [h2], fun i r v hi hv => ?_⟩
        cases i with
        | zero => simp at hi hv; subst hi; subst hv; rfl
        | succ i => simp at hi hv; exact h3 i r v hi hv
    | cell s ty =>
      simp only [compRes] at hc
      cases hb : Nat.blt s nt with
      | false => rw [hb] at hc; cases hc
      | true =>
        rw [hb] at hc
        simp only [cond_true, Option.bind_eq_some_iff, Option.map_eq_some_iff] at hc
        obtain ⟨n, hn, b, hbb, xs', hxs, rfl⟩ := hc
        simp only [resultsA] at h
        have hv := ht.rel s (blt_lt hb)
        revert h
        revert hv
        generalize val t (.tmp s) = v1; generalize he : a.eval (.tmp s) = v2
        intro hv h
        cases hv with
        | @ptr id p off hs =>
          simp only [Option.bind_eq_some_iff, Option.map_eq_some_iff] at h
          obtain ⟨l, hl, u, hu, vs1, hvs, rfl⟩ := h
          obtain ⟨l', k1, k2, k3⟩ := load_rel hr hs hl
          obtain ⟨u', q1, q2⟩ := one_rel hu k1
          obtain ⟨vs', h1, h2, h3⟩ := ih hxs hvs
          refine ⟨u' :: vs', LRel.cons q2 h1, by simp [h2], fun i r v hi hv => ?_⟩
          cases i with
          | zero =>
            simp at hi hv
            subst hi; subst hv
            have he' : a.tmps.getD s undef = .pointer (some ⟨p.b, p.sh + off, none⟩) := he
            have hrun := run_loadCells_of (P := P) k2 k3
            cases b with
            | true =>
              simp only [oneV, cond_true, Option.some.injEq] at q1
              subst q1
              simp only [he', Sem.run_bind, asAddr, Sem.run_pure, Result.andThen_ok, loadVar, run_agg hbb, if_true, run_size hn, hrun, aggL_toArray]
            | false =>
              simp only [oneV, cond_false] at q1
              match l', q1, k3 with
              | [x], q1, k3 =>
                simp only [Option.some.injEq] at q1
                subst q1
                have hcell := k3 0 x rfl
                rw [Addr.add_none, Nat.add_zero] at hcell
                simp [he', asAddr, loadVar, run_agg hbb, hcell]
          | succ i => simp at hi hv; exact h3 i r v hi hv
        | _ => simp at h

theorem resultV_rel {σ : Sg} {vs vs' : List Value} (h : LRel σ vs vs') : VRel σ (resultV vs) (if h : vs'.toArray.size = 1 then vs'.toArray[0] else .tuple vs'.toArray) := by
  cases vs with
  | nil =>
    have : vs' = [] := List.eq_nil_of_length_eq_zero (by have := h.len; simpa using this.symm)
    subst this
    exact .tuple _ _ rfl (fun i v v' h => by simp at h)
  | cons v rest =>
    obtain ⟨v', r', rfl, hv, hr⟩ := h.cons_inv
    cases rest with
    | nil =>
      have : r' = [] := List.eq_nil_of_length_eq_zero (by have := hr.len; simpa using this.symm)
      subst this
      simp [resultV]
      exact hv
    | cons u rest =>
      obtain ⟨u', r2, rfl, hu, hr2⟩ := hr.cons_inv
      simp [resultV]
      exact .tuple _ _ (by simp [hr2.len]) h.get

/-- What is known of a function that is called at the end of the one that deferred it. -/
def DOk (P : Program) (call : Caller) (f : FuncId) : Prop := ∀ args A r A', call f args A = some (r, A') → ∀ σ w argsc, Rel P σ A w → LRel σ args argsc → CallsD P f argsc.toArray .returning w fun e u w' => u = .returning ∧ CPost P σ A w r A' e w'
/-- What is known of functions whose answers are told. -/
def NatOk (P : Program) (code : FuncId → Option XFun) : Prop := ∀ f g, code f = some (.nat g) → Enters P f ∧ ∀ call, CallOk P call → (∀ f x, code f = some (.body x) → DOk P call f) → ∀ args A r A', g call args A = some (r, A') → ∀ σ w argsc, Rel P σ A w → LRel σ args argsc → Calls P f argsc.toArray w (CPost P σ A w r A')

theorem Rel.below {σ : Sg} {A : H} {w w' : World} (h : Rel P σ A w) (hb : Below w.heap.size w w') : Rel P σ A w' ∧ Fr σ A w σ A w' :=
  ⟨⟨h.glob, fun id o p ha hs => (h.obj id o p ha hs).keep (Sg.le_refl σ) (hb.block _ (h.lt id p hs)), h.inj, fun id p hs => Nat.lt_of_lt_of_le (h.lt id p hs) hb.size, h.dom⟩,
   ⟨Sg.le_refl σ, hb.os, hb.tape, hb.output, hb.size, fun b hlt _ => hb.block b hlt, fun _ h => .inl h, Nat.le_refl _, fun _ _ h => ⟨h, rfl⟩⟩⟩

/-- A function that leaves all as it was and answers a flat value. -/
theorem CPost.flat {σ : Sg} {A : H} {w w' : World} {v : Value} {e : Ending} (hr : Rel P σ A w) (hv : Flat v) (he : e = .returned v) (hb : Below w.heap.size w w') : CPost P σ A w v A e w' := by
  obtain ⟨h1, h2⟩ := hr.below hb
  exact ⟨v, σ, he, hv.vrel, h1, h2⟩
/-- ████ THE INTERPRETER IS SOUND. ████ -/
theorem evalF_both (hmix : P.follows .mixedOrders = true) (hx : Ext P) {code : FuncId → Option XFun} (hcode : ∀ f x, code f = some (.body x) → compF P f = some (.body x)) (hnat : NatOk P code) : ∀ n, CallOk P (evalF code n) ∧ ∀ f x, code f = some (.body x) → DOk P (evalF code n) f := by
  intro n
  induction n with
  | zero => exact ⟨⟨fun f args A r A' h => by simp [evalF] at h, fun f args A r A' h => by simp [evalF] at h⟩, fun f x _ args A r A' h => by simp [evalF] at h⟩
  | succ n ihd =>
    have ih := ihd.1
    have enters : ∀ {f x}, compF P f = some (.body x) → ∃ fn c rs, P.funcs[f]? = some fn ∧ fn.body = some c ∧ fn.name ≠ "runtime.NumGoroutine" ∧ compRes P fn.ntmps fn.results.toList = some rs ∧ x = { ntmps := fn.ntmps, body := compC P fn.ntmps c, results := rs } := by
      intro f x h
      unfold compF at h
      rw [Option.bind_eq_some_iff] at h
      obtain ⟨fn, hf, h⟩ := h
      cases hn : (fn.name == "runtime.NumGoroutine") with
      | true => rw [hn] at h; cases h
      | false =>
        rw [hn] at h
        simp only [cond_false, Option.bind_eq_some_iff, Option.map_eq_some_iff] at h
        obtain ⟨c, hc, rs, hrs, he⟩ := h
        cases he
        exact ⟨fn, c, rs, hf, hc, by simpa using hn, hrs, rfl⟩
    have body : ∀ f x, code f = some (.body x) → ∀ args A r A', evalF code (n + 1) f args A = some (r, A') → ∀ σ w argsc, Rel P σ A w → LRel σ args argsc →
        ∃ fn c, P.funcs[f]? = some fn ∧ fn.body = some c ∧ c.wp P (bodyPost P fn (CPost P σ A w r A')) { tmps := argsc.toArray ++ Array.replicate (fn.ntmps - argsc.toArray.size) undef, defers := [] } w := by
      intro f x hx' args A r A' h σ w argsc hr hl
      simp only [evalF, hx'] at h
      obtain ⟨fn, c, rs, h1, h2, h3, h4, rfl⟩ := enters (hcode f x hx')
      refine ⟨fn, c, h1, h2, ?_⟩
      cases hle : Nat.ble args.length fn.ntmps with
      | false => rw [hle] at h; cases h
      | true =>
        rw [hle] at h
        simp only [cond_true] at h
        have hlen := Nat.le_of_ble_eq_true hle
        have ht := args_rel hl hlen
        have finish : ∀ (xe : XExit) (t1 : Tm) (A1 : H), (xe = .normal ∨ xe = .ret) → evalC (evalF code n) n (compC P fn.ntmps c) (argsT args 0 .nil) A = some (xe, t1, A1) → (match resultsA A1 t1 rs with | some vs => some (resultV vs, A1) | none => none) = some (r, A') →
            c.wp P (bodyPost P fn (CPost P σ A w r A')) { tmps := argsc.toArray ++ Array.replicate (fn.ntmps - argsc.toArray.size) undef, defers := [] } w := by
          intro xe t1 A1 hxe hev hres
          split at hres
          · rename_i vs hvs
            simp only [Option.some.injEq, Prod.mk.injEq] at hres
            obtain ⟨rfl, rfl⟩ := hres
            refine wp_mono ((code_ok hmix hx ih n).code c fn.ntmps _ A xe t1 A1 hev σ _ w ht hr rfl) fun e a1 w1 he => ?_
            obtain ⟨he1, he2, σ1, k1, k2, k3⟩ := he
            obtain ⟨vs', q1, q2, q3⟩ := results_rel k1 k2 h4 hvs
            have hrun : (results fn a1.tmps).run P w1 = .ok (if h : vs'.toArray.size = 1 then vs'.toArray[0] else .tuple vs'.toArray) w1 := by
              unfold results
              rw [Array.mapM_eq_mapM_toList]
              simp only [Sem.run_bind, Sem.run_map]
              have hrr := run_res (P := P) w1 (a := a1.tmps) fn.results.toList vs' q3 q2
              erw [hrr]
              simp only [Result.andThen_ok, Sem.run_pure]
            have hbp : bodyPost P fn (CPost P σ A w (resultV vs) A1) .normal a1 w1 := ⟨he2, _, hrun, _, σ1, rfl, resultV_rel q1, k2, k3⟩
            subst he1
            rcases hxe with rfl | rfl
            · exact hbp
            · exact hbp
          · cases hres
        split at h
        · cases h
        · rename_i xe t1 A1 hne hev
          exact finish xe t1 A1 (by cases xe <;> first | exact .inl rfl | exact .inr rfl | exact (hne _ rfl).elim) hev h
        · cases h
    refine ⟨⟨fun f args A r A' h => ?_, fun f args A r A' h σ w argsc hr hl => ?_⟩, fun f x hx' args A r A' h σ w argsc hr hl => ?_⟩
    · simp only [evalF] at h
      split at h
      · cases h
      · rename_i g hg; exact (hnat f g hg).1
      · rename_i x hx'
        obtain ⟨fn, c, rs, h1, h2, h3, _, _⟩ := enters (hcode f x hx')
        exact ⟨fn, h1, by simp [h2], h3⟩
    · have h' := h
      simp only [evalF] at h
      split at h
      · cases h
      · rename_i g hg
        exact (hnat f g hg).2 (evalF code n) ih ihd.2 args A r A' h σ w argsc hr hl
      · rename_i x hx'
        obtain ⟨fn, c, h1, h2, h3⟩ := body f x hx' args A r A' h' σ w argsc hr hl
        exact calls_of_wp h1 h2 h3
    · obtain ⟨fn, c, h1, h2, h3⟩ := body f x hx' args A r A' h σ w argsc hr hl
      exact callsD_of_wp h1 h2 h3
theorem evalF_ok (hmix : P.follows .mixedOrders = true) (hx : Ext P) {code : FuncId → Option XFun} (hcode : ∀ f x, code f = some (.body x) → compF P f = some (.body x)) (hnat : NatOk P code) (n : Nat) : CallOk P (evalF code n) := (evalF_both hmix hx hcode hnat n).1
end
end Go.Ab
