/- Functions: what the interpreter answers, the program answers. -/
import Derived.Test.YtainaihfbljjoaaGreatDoorAbLate
set_option linter.all false
set_option linter.unusedSectionVars false
set_option linter.unusedVariables false
set_option linter.unusedSimpArgs false
namespace Go.Ab
open Go Go.RowKit
variable [Unk]
section
variable {P : Program}

theorem args_get : ∀ (args : List Value) (k : Nat) (t : Tm) (i : Nat), val (argsT args k t) (.tmp i) = if k ≤ i ∧ i < k + args.length then (args[i - k]?).getD (.tuple #[]) else val t (.tmp i) := by
  intro args
  induction args with
  | nil => intro k t i; simp only [argsT, List.length_nil]; rw [if_neg (by omega)]
  | cons v args ih =>
    intro k t i
    simp only [argsT]
    rw [ih (k + 1)]
    have hp : val (t.put k (some v)) (.tmp i) = if i = k then v else val t (.tmp i) := by
      simp only [val, Tr.get_put]
      split <;> rfl
    by_cases h1 : k + 1 ≤ i ∧ i < k + 1 + args.length
    · rw [if_pos h1, if_pos (by simp; omega)]
      have : i - k = (i - (k + 1)) + 1 := by omega
      rw [this]
      rfl
    · rw [if_neg h1, hp]
      by_cases h2 : i = k
      · subst h2; rw [if_pos rfl, if_pos (by simp)]; simp
      · rw [if_neg h2, if_neg (by simp; omega)]
theorem args_rel {σ : Sg} {args argsc : List Value} {n : Nat} (h : LRel σ args argsc) (hn : args.length ≤ n) : TRel σ n (argsT args 0 .nil) { tmps := argsc.toArray ++ Array.replicate (n - argsc.toArray.size) undef, defers := [] } := by
  have hl := h.len
  refine ⟨by simp; omega, fun i hi => ?_⟩
  rw [args_get]
  simp only [Nat.zero_le, true_and, Nat.zero_add, Nat.sub_zero]
  by_cases hlt : i < args.length
  · rw [if_pos hlt]
    have hlt' : i < argsc.length := by omega
    have h1 : (args[i]?).getD (.tuple #[]) = args[i] := by simp [hlt]
    have h2 : (Act.eval { tmps := argsc.toArray ++ Array.replicate (n - argsc.toArray.size) undef, defers := [] } (.tmp i)) = argsc[i] := by
      simp [Act.eval, Array.getElem?_append_left, hlt']
    rw [h1, h2]
    exact h.get i _ _ (List.getElem?_eq_getElem hlt) (List.getElem?_eq_getElem hlt')
  · rw [if_neg hlt]
    have h2 : (Act.eval { tmps := argsc.toArray ++ Array.replicate (n - argsc.toArray.size) undef, defers := [] } (.tmp i)) = undef := by
      simp only [Act.eval]
      rw [Array.getD_eq_getD_getElem?, Array.getElem?_append_right (by simp; omega)]
      simp [Array.getElem?_replicate]
      split <;> rfl
    rw [h2]
    simp only [val, Tr.get_nil]
    exact undef_rel

theorem run_res (w : World) {a : Array Value} : ∀ (rs : List ResultVar) (vs : List Value), (∀ (i : Nat) r v, rs[i]? = some r → vs[i]? = some v → (match r with | .tmp t => pure (a.getD t undef) | .cell x t => do loadVar t (← asAddr (a.getD x undef)) : Sem Value).run P w = .ok v w) → rs.length = vs.length →
    (rs.mapM (fun | .tmp t => pure (a.getD t undef) | .cell x t => do loadVar t (← asAddr (a.getD x undef)) : ResultVar → Sem Value)).run P w = .ok vs w := by
  intro rs
  induction rs with
  | nil => intro vs _ hl; have : vs = [] := List.eq_nil_of_length_eq_zero (by simpa using hl.symm); subst this; simp
  | cons r rs ih =>
    intro vs h hl
    cases vs with
    | nil => simp at hl
    | cons v vs =>
      have h0 := h 0 r v rfl rfl
      have ih' := ih vs (fun i r v a b => h (i + 1) r v (by simpa using a) (by simpa using b)) (by simpa using hl)
      rw [List.mapM_cons]
      cases r with
      | tmp t => simp only [Sem.run_bind]; rw [h0]; simp only [Result.andThen_ok, ih', Sem.run_pure]
      | cell x t => simp only [Sem.run_bind] at h0 ⊢; rw [h0]; simp only [Result.andThen_ok, ih', Sem.run_pure]

theorem results_rel {σ : Sg} {A : H} {w : World} {nt : Nat} {t : Tm} {a : Act} (ht : TRel σ nt t a) (hr : Rel P σ A w) : ∀ {rs : List ResultVar} {xs : List (Nat × Option (Nat × Bool))} {vs : List Value}, compRes P nt rs = some xs → resultsA A t xs = some vs →
    ∃ vs', LRel σ vs vs' ∧ rs.length = vs'.length ∧ ∀ (i : Nat) r v, rs[i]? = some r → vs'[i]? = some v → (match r with | .tmp t => pure (a.tmps.getD t undef) | .cell x t => do loadVar t (← asAddr (a.tmps.getD x undef)) : Sem Value).run P w = .ok v w := by
  intro rs
  induction rs with
  | nil =>
    intro xs vs hc h
    simp only [compRes, Option.some.injEq] at hc
    subst hc
    simp only [resultsA, Option.some.injEq] at h
    subst h
    exact ⟨[], .nil, rfl, fun i r v h => by simp at h⟩
  | cons r rs ih =>
    intro xs vs hc h
    cases r with
    | tmp s =>
      simp only [compRes] at hc
      cases hb : Nat.blt s nt with
      | false => rw [hb] at hc; cases hc
      | true =>
        rw [hb] at hc
        simp only [cond_true, Option.map_eq_some_iff] at hc
        obtain ⟨xs', hxs, rfl⟩ := hc
        simp only [resultsA, Option.map_eq_some_iff] at h
        obtain ⟨vs1, hvs, rfl⟩ := h
        obtain ⟨vs', h1, h2, h3⟩ := ih hxs hvs
        refine ⟨a.eval (.tmp s) :: vs', LRel.cons (ht.rel s (blt_lt hb)) h1, by simp [h2], fun i r v hi hv => ?_⟩
        cases i with
        | zero => simp at hi hv; subst hi; subst hv; rfl
        | succ i => simp at hi hv; exact h3 i r v hi hv
    | cell s ty =>
      simp only [compRes] at hc
      cases hb : Nat.blt s nt with
      | false => rw [hb] at hc; cases hc
      | true =>
        rw [hb] at hc
        simp only [cond_true, Option.bind_eq_some_iff, Option.map_eq_some_iff] at hc
        obtain ⟨n, hn, b, hbb, xs', hxs, rfl⟩ := hc
        simp only [resultsA] at h
        have hv := ht.rel s (blt_lt hb)
        revert h
        revert hv
        generalize val t (.tmp s) = v1; generalize he : a.eval (.tmp s) = v2
        intro hv h
        cases hv with
        | @ptr id p off hs =>
          simp only [Option.bind_eq_some_iff, Option.map_eq_some_iff] at h
          obtain ⟨l, hl, u, hu, vs1, hvs, rfl⟩ := h
          obtain ⟨l', k1, k2, k3⟩ := load_rel hr hs hl
          obtain ⟨u', q1, q2⟩ := one_rel hu k1
          obtain ⟨vs', h1, h2, h3⟩ := ih hxs hvs
          refine ⟨u' :: vs', LRel.cons q2 h1, by simp [h2], fun i r v hi hv => ?_⟩
          cases i with
          | zero =>
            simp at hi hv
            subst hi; subst hv
            have he' : a.tmps.getD s undef = .pointer (some ⟨p.b, p.sh + off, none⟩) := he
            have hrun := run_loadCells_of (P := P) k2 k3
            cases b with
            | true =>
              simp only [oneV, cond_true, Option.some.injEq] at q1
              subst q1
              simp only [he', Sem.run_bind, asAddr, Sem.run_pure, Result.andThen_ok, loadVar, run_agg hbb, if_true, run_size hn, hrun, aggL_toArray]
            | false =>
              simp only [oneV, cond_false] at q1
              match l', q1, k3 with
              | [x], q1, k3 =>
                simp only [Option.some.injEq] at q1
                subst q1
                have hcell := k3 0 x rfl
                rw [Addr.add_none, Nat.add_zero] at hcell
                simp [he', asAddr, loadVar, run_agg hbb, hcell]
          | succ i => simp at hi hv; exact h3 i r v hi hv
        | _ => simp at h

theorem resultV_rel {σ : Sg} {vs vs' : List Value} (h : LRel σ vs vs') : VRel σ (resultV vs) (if h : vs'.toArray.size = 1 then vs'.toArray[0] else .tuple vs'.toArray) := by
  cases vs with
  | nil =>
    have : vs' = [] := List.eq_nil_of_length_eq_zero (by have := h.len; simpa using this.symm)
    subst this
    exact .tuple _ _ rfl (fun i v v' h => by simp at h)
  | cons v rest =>
    obtain ⟨v', r', rfl, hv, hr⟩ := h.cons_inv
    cases rest with
    | nil =>
      have : r' = [] := List.eq_nil_of_length_eq_zero (by have := hr.len; simpa using this.symm)
      subst this
      simp [resultV]
      exact hv
    | cons u rest =>
      obtain ⟨u', r2, rfl, hu, hr2⟩ := hr.cons_inv
      simp [resultV]
      exact .tuple _ _ (by simp [hr2.len]) h.get

/-- What is known of a function that is called at the end of the one that deferred it. -/
def DOk (P : Program) (call : Caller) (f : FuncId) : Prop := ∀ args A r A', call f args A = some (r, A') → ∀ σ w argsc, Rel P σ A w → LRel σ args argsc → CallsD P f argsc.toArray .returning w fun e u w' => u = .returning ∧ CPost P σ A w r A' e w'
/-- What is known of functions whose answers are told. -/
def NatOk (P : Program) (code : FuncId → Option XFun) : Prop := ∀ f g, code f = some (.nat g) → Enters P f ∧ ∀ call, CallOk P call → (∀ f x, code f = some (.body x) → DOk P call f) → ∀ args A r A', g call args A = some (r, A') → ∀ σ w argsc, Rel P σ A w → LRel σ args argsc → Calls P f argsc.toArray w (CPost P σ A w r A')

theorem Rel.below {σ : Sg} {A : H} {w w' : World} (h : Rel P σ A w) (hb : Below w.heap.size w w') : Rel P σ A w' ∧ Fr σ A w σ A w' :=
  ⟨⟨h.glob, fun id o p ha hs => (h.obj id o p ha hs).keep (Sg.le_refl σ) (hb.block _ (h.lt id p hs)), h.inj, fun id p hs => Nat.lt_of_lt_of_le (h.lt id p hs) hb.size, h.dom⟩,
   ⟨Sg.le_refl σ, hb.os, hb.tape, hb.output, hb.size, fun b hlt _ => hb.block b hlt, fun _ h => .inl h, Nat.le_refl _, fun _ _ h => ⟨h, rfl⟩⟩⟩

/-- A function that leaves all as it was and answers a flat value. -/
theorem CPost.flat {σ : Sg} {A : H} {w w' : World} {v : Value} {e : Ending} (hr : Rel P σ A w) (hv : Flat v) (he : e = .returned v) (hb : Below w.heap.size w w') : CPost P σ A w v A e w' := by
  obtain ⟨h1, h2⟩ := hr.below hb
  exact ⟨v, σ, he, hv.vrel, h1, h2⟩
/-- The interpreter's code is the program's, but for what is told. -/
def CodeOf (P : Program) (code : FuncId → Option XFun) : Prop := ∀ f x, code f = some x → (∀ g, x ≠ .nat g) → compF P f = some x
theorem comp_enters {f : FuncId} {x : XFun} (h : compF P f = some x) : ∃ fn c rs, P.funcs[f]? = some fn ∧ fn.body = some c ∧ fn.name ≠ "runtime.NumGoroutine" ∧ compRes P fn.ntmps fn.results.toList = some rs ∧
    (x = .body { ntmps := fn.ntmps, body := compC P fn.ntmps c, results := rs, late := compLate P fn.ntmps c } ∨ ∃ y o l z, splitD P fn.ntmps c = some (y, o, l, z) ∧ x = .dbody fn.ntmps rs y o l z) := by
  unfold compF at h
  rw [Option.bind_eq_some_iff] at h
  obtain ⟨fn, hf, h⟩ := h
  cases hn : (fn.name == "runtime.NumGoroutine") with
  | true => rw [hn] at h; cases h
  | false =>
    rw [hn] at h
    simp only [cond_false, Option.bind_eq_some_iff, Option.map_eq_some_iff] at h
    obtain ⟨c, hc, rs, hrs, he⟩ := h
    refine ⟨fn, c, rs, hf, hc, by simpa using hn, hrs, ?_⟩
    split at he
    · rename_i y o l z hs; exact .inr ⟨y, o, l, z, hs, he.symm⟩
    · exact .inl he.symm
theorem comp_not_nat {f : FuncId} {g : Caller → List Value → H → Option (Value × H)} : compF P f ≠ some (.nat g) := by
  intro h
  obtain ⟨_, _, _, _, _, _, _, h1 | ⟨_, _, _, _, _, h1⟩⟩ := comp_enters h <;> cases h1
theorem results_run {σ : Sg} {A : H} {w : World} {fn : Func} {t : Tm} {a : Act} {rs : List (Nat × Option (Nat × Bool))} {vs : List Value} (ht : TRel σ fn.ntmps t a) (hr : Rel P σ A w) (hc : compRes P fn.ntmps fn.results.toList = some rs) (hvs : resultsA A t rs = some vs) :
    ∃ v, (results fn a.tmps).run P w = .ok v w ∧ VRel σ (resultV vs) v := by
  obtain ⟨vs', q1, q2, q3⟩ := results_rel ht hr hc hvs
  refine ⟨if h : vs'.toArray.size = 1 then vs'.toArray[0] else .tuple vs'.toArray, ?_, resultV_rel q1⟩
  unfold results
  rw [Array.mapM_eq_mapM_toList]
  simp only [Sem.run_bind, Sem.run_map]
  have hrr := run_res (P := P) w (a := a.tmps) fn.results.toList vs' q3 q2
  erw [hrr]
  simp only [Result.andThen_ok, Sem.run_pure]

/-- ████ THE INTERPRETER IS SOUND. ████ -/
theorem evalF_both (hmix : P.follows .mixedOrders = true) (hx : Ext P) {code : FuncId → Option XFun} (hcode : CodeOf P code) (hnat : NatOk P code) : ∀ n, CallOk P (evalF code n) ∧ ∀ f x, code f = some (.body x) → DOk P (evalF code n) f := by
  intro n
  induction n with
  | zero => exact ⟨⟨fun f args A r A' h => by simp [evalF] at h, fun f args A r A' h => by simp [evalF] at h⟩, fun f x _ args A r A' h => by simp [evalF] at h⟩
  | succ n ihd =>
    have ih := ihd.1
    have body : ∀ f x, code f = some (.body x) → ∀ args A r A', evalF code (n + 1) f args A = some (r, A') → ∀ σ w argsc, Rel P σ A w → LRel σ args argsc →
        ∃ fn c, P.funcs[f]? = some fn ∧ fn.body = some c ∧ c.wp P (bodyPost P fn (CPost P σ A w r A')) { tmps := argsc.toArray ++ Array.replicate (fn.ntmps - argsc.toArray.size) undef, defers := [] } w := by
      intro f x hx' args A r A' h σ w argsc hr hl
      simp only [evalF, hx'] at h
      obtain ⟨fn, c, rs, h1, h2, h3, h4, hxe⟩ := comp_enters (hcode f _ hx' (fun g hg => by cases hg))
      rcases hxe with hxe | ⟨_, _, _, _, _, hxe⟩
      case inr => cases hxe
      cases hxe
      refine ⟨fn, c, h1, h2, ?_⟩
      cases hle : Nat.ble args.length fn.ntmps with
      | false => rw [hle] at h; cases h
      | true =>
        rw [hle] at h
        simp only [cond_true] at h
        have hlen := Nat.le_of_ble_eq_true hle
        have ht := args_rel hl hlen
        have finish : ∀ (xe : XExit) (t1 : Tm) (A1 : H), (xe = .normal ∨ xe = .ret) → evalC (evalF code n) n (compC P fn.ntmps c) (argsT args 0 .nil) A = some (xe, t1, A1) → (match resultsA A1 t1 rs with | some vs => some (resultV vs, A1) | none => none) = some (r, A') →
            c.wp P (bodyPost P fn (CPost P σ A w r A')) { tmps := argsc.toArray ++ Array.replicate (fn.ntmps - argsc.toArray.size) undef, defers := [] } w := by
          intro xe t1 A1 hxe hev hres
          split at hres
          · rename_i vs hvs
            simp only [Option.some.injEq, Prod.mk.injEq] at hres
            obtain ⟨rfl, rfl⟩ := hres
            refine wp_mono ((code_ok hmix hx ih n).code c fn.ntmps _ A xe t1 A1 hev σ _ w [] ht hr rfl) fun e a1 w1 he => ?_
            obtain ⟨he1, he2, σ1, k1, k2, k3⟩ := he
            obtain ⟨v, hrun, hv⟩ := results_run k1 k2 h4 hvs
            have hbp : bodyPost P fn (CPost P σ A w (resultV vs) A1) .normal a1 w1 := ⟨he2, _, hrun, _, σ1, rfl, hv, k2, k3⟩
            subst he1
            rcases hxe with rfl | rfl
            · exact hbp
            · exact hbp
          · cases hres
        split at h
        · cases h
        · rename_i xe t1 A1 hne hev
          exact finish xe t1 A1 (by cases xe <;> first | exact .inl rfl | exact .inr rfl | exact (hne _ rfl).elim) hev h
        · cases h
    have dbody : ∀ f nt rs x fo das y, code f = some (.dbody nt rs x fo das y) → ∀ args A r A', evalF code (n + 1) f args A = some (r, A') → ∀ σ w argsc, Rel P σ A w → LRel σ args argsc → Calls P f argsc.toArray w (CPost P σ A w r A') := by
      intro f nt rs x fo das y hx' args A r A' h σ w argsc hr hl
      simp only [evalF, hx'] at h
      obtain ⟨fn, c, rs', h1, h2, h3, h4, hxe⟩ := comp_enters (hcode f _ hx' (fun g hg => by cases hg))
      rcases hxe with hxe | ⟨x', fo', das', y', hsp, hxe⟩
      case inl => cases hxe
      cases hxe
      cases hle : Nat.ble args.length fn.ntmps with
      | false => rw [hle] at h; cases h
      | true =>
        rw [hle] at h
        simp only [cond_true] at h
        have hlen := Nat.le_of_ble_eq_true hle
        have ht := args_rel hl hlen
        split at h
        case h_2 => cases h
        rename_i t1 A1 he1
        split at h
        case h_2 => cases h
        rename_i g dl hca
        split at h
        case h_1 => cases h
        case h_3 => cases h
        rename_i xe t2 A2 hne he2
        split at h
        case h_2 => cases h
        rename_i gx hgx
        cases hg1 : (Nat.ble dl.length gx.ntmps && gx.results.isEmpty) with
        | false => rw [hg1] at h; cases h
        | true =>
          rw [hg1] at h
          simp only [cond_true] at h
          rw [Bool.and_eq_true] at hg1
          split at h
          case h_1 => cases h
          case h_3 => cases h
          rename_i xe3 t3 A3 hne3 he3
          split at h
          case h_2 => cases h
          rename_i vs hvs
          simp only [Option.some.injEq, Prod.mk.injEq] at h
          obtain ⟨rfl, rfl⟩ := h
          obtain ⟨gn, gc, grs, g1, g2, g3, g4, gxe⟩ := comp_enters (hcode g _ hgx (fun g hg => by cases hg))
          rcases gxe with gxe | ⟨_, _, _, _, _, gxe⟩
          case inr => cases gxe
          cases gxe
          simp only at hg1 he3
          have hgrs : grs = [] := by simpa using hg1.2
          subst hgrs
          have hres0 : gn.results.toList = [] := by
            cases hl0 : gn.results.toList with
            | nil => rfl
            | cons r0 l0 =>
              rw [hl0] at g4
              cases r0 with
              | tmp s => simp only [compRes] at g4; cases hb : Nat.blt s gn.ntmps <;> rw [hb] at g4 <;> simp at g4
              | cell s ty =>
                simp only [compRes] at g4
                cases hb : Nat.blt s gn.ntmps with
                | false => rw [hb] at g4; cases g4
                | true =>
                  rw [hb] at g4
                  simp only [cond_true, Option.bind_eq_some_iff, Option.map_eq_some_iff] at g4
                  obtain ⟨_, _, _, _, _, _, h9⟩ := g4
                  cases h9
          refine calls_of_wp_defers h1 h2 ?_
          refine split_sound hmix hx ih c hsp he1 hca he2 ht hr rfl fun a2 w2 σ2 k1 k2 k3 k4 => ?_
          obtain ⟨cap, dargs, dlc, hd, hdl, hlr⟩ := k4.out
          have hlate : CallsD P g dlc.toArray .returning w2 fun e u w' => u = .returning ∧ (∃ v, e = .returned v) ∧ ∃ σ3, Rel P σ3 A3 w' ∧ Fr σ2 A2 w2 σ3 A3 w' := by
            refine callsD_of_wpS g1 g2 fun c0 cs hu => ?_
            have hcs : recoverD (c0 :: cs) = none := by simp [recoverD, hu]
            have hdt := args_rel hlr (Nat.le_of_ble_eq_true hg1.1)
            refine late_sound hmix hx ih hcs gc he3 hdt k2 rfl fun a3 w3 σ3 j1 j2 j3 j4 => ?_
            have hrun0 : (results gn a3.tmps).run P w3 = .ok (.tuple #[]) w3 := by
              have : gn.results = #[] := by apply Array.ext'; exact hres0
              simp [results, this]
            have hpost : bodyPostS P gn c0 cs (fun e u w' => u = .returning ∧ (∃ v, e = .returned v) ∧ ∃ σ3, Rel P σ3 A3 w' ∧ Fr σ2 A2 w2 σ3 A3 w') .normal a3 (c0 :: cs) w3 :=
              ⟨j4, .returning, by rw [← hu], _, hrun0, rfl, ⟨_, rfl⟩, σ3, j2, j3⟩
            cases xe3 with
            | exit i => exact absurd rfl (hne3 i)
            | normal => exact hpost
            | ret => exact hpost
          have hleaves : Leaves P fn a2.tmps (CPost P σ A w (resultV vs) A3) a2.defers .returning w2 := by
            rw [hd]
            refine leaves_cons (f := g) (args := dlc.toArray) (by simp) ?_ ?_
            · obtain ⟨bd, hbd⟩ : ∃ bd, gn.body = some bd := ⟨gc, g2⟩
              have harr : dargs ++ cap = dlc.toArray := by apply Array.ext'; simpa using hdl
              simp [invoke, callFunc, g1, g3, hbd, harr]
            · refine hlate.mono fun e u w3 hh => ?_
              obtain ⟨rfl, ⟨v, rfl⟩, σ3, j2, j3⟩ := hh
              obtain ⟨v2, hrun, hv2⟩ := results_run (k1.mono j3.ext) j2 h4 hvs
              exact ⟨v2, hrun, v2, σ3, rfl, hv2, j2, k3.trans j3⟩
          cases xe with
          | exit i => exact absurd rfl (hne i)
          | normal => exact hleaves
          | ret => exact hleaves
    refine ⟨⟨fun f args A r A' h => ?_, fun f args A r A' h σ w argsc hr hl => ?_⟩, fun f x hx' args A r A' h σ w argsc hr hl => ?_⟩
    · simp only [evalF] at h
      split at h
      · cases h
      · rename_i g hg; exact (hnat f g hg).1
      · rename_i hx'
        obtain ⟨fn, c, rs, h1, h2, h3, _, _⟩ := comp_enters (hcode f _ hx' (fun g hg => by cases hg))
        exact ⟨fn, h1, by simp [h2], h3⟩
      · rename_i x hx'
        obtain ⟨fn, c, rs, h1, h2, h3, _, _⟩ := comp_enters (hcode f _ hx' (fun g hg => by cases hg))
        exact ⟨fn, h1, by simp [h2], h3⟩
    · have h' := h
      simp only [evalF] at h
      split at h
      · cases h
      · rename_i g hg
        exact (hnat f g hg).2 (evalF code n) ih ihd.2 args A r A' h σ w argsc hr hl
      · rename_i nt rs x fo das y hx'
        exact dbody f nt rs x fo das y hx' args A r A' h' σ w argsc hr hl
      · rename_i x hx'
        obtain ⟨fn, c, h1, h2, h3⟩ := body f x hx' args A r A' h' σ w argsc hr hl
        exact calls_of_wp h1 h2 h3
    · obtain ⟨fn, c, h1, h2, h3⟩ := body f x hx' args A r A' h σ w argsc hr hl
      exact callsD_of_wp h1 h2 h3
theorem evalF_ok (hmix : P.follows .mixedOrders = true) (hx : Ext P) {code : FuncId → Option XFun} (hcode : CodeOf P code) (hnat : NatOk P code) (n : Nat) : CallOk P (evalF code n) := (evalF_both hmix hx hcode hnat n).1
end
end Go.Ab
