/- Operations one behind the other; calls. -/
import Derived.Test.YtainaihfbljjoaaGreatDoorAbHeavy2
set_option linter.all false
set_option linter.unusedSectionVars false
set_option linter.unusedVariables false
set_option linter.unusedSimpArgs false
namespace Go.Ab
open Go Go.RowKit
variable [Unk]
section
variable {P : Program}

theorem blt_lt {a b : Nat} (h : Nat.blt a b = true) : a < b := Nat.le_of_ble_eq_true h
/-- What a call of a function comes to. -/
def CPost (P : Program) (σ : Sg) (A : H) (w : World) (r : Value) (A' : H) : Ending → World → Prop := fun e w' => ∃ rc σ', e = .returned rc ∧ VRel σ' r rc ∧ Rel P σ' A' w' ∧ Fr σ A w σ' A' w'
/-- A function that can be entered. -/
def Enters (P : Program) (f : FuncId) : Prop := ∃ fn, P.funcs[f]? = some fn ∧ fn.body.isSome = true ∧ fn.name ≠ "runtime.NumGoroutine"
structure CallOk (P : Program) (call : Caller) : Prop where
  enters : ∀ f args A r A', call f args A = some (r, A') → Enters P f
  calls : ∀ f args A r A', call f args A = some (r, A') → ∀ σ w argsc, Rel P σ A w → LRel σ args argsc → Calls P f argsc.toArray w (CPost P σ A w r A')

structure TRel (σ : Sg) (n : Nat) (t : Tm) (a : Act) : Prop where
  size : a.tmps.size = n
  rel : ∀ i, i < n → VRel σ (val t (.tmp i)) (a.eval (.tmp i))

theorem TRel.mono {σ τ : Sg} {n : Nat} {t : Tm} {a : Act} (hl : σ.le τ) (h : TRel σ n t a) : TRel τ n t a := ⟨h.size, fun i hi => (h.rel i hi).mono hl⟩
theorem val_setT (t : Tm) (d : Option Tmp) (v : Value) (i : Nat) : val (setT t d v) (.tmp i) = if d = some i then v else val t (.tmp i) := by
  cases d with
  | none => simp [setT]
  | some d =>
    simp only [setT, val, Tr.get_put]
    by_cases e : i = d
    · subst e; simp
    · rw [if_neg e, if_neg (by intro h; cases h; exact e rfl)]
theorem eval_put (a : Act) (d : Option Tmp) (v : Value) (i : Nat) (hd : ∀ x, d = some x → x < a.tmps.size) : (a.put d v).eval (.tmp i) = if d = some i then v else a.eval (.tmp i) := by
  cases d with
  | none => simp [Act.put]
  | some d =>
    have := hd d rfl
    simp only [Act.put, Act.eval]
    by_cases e : d = i
    · subst e; simp [this]
    · rw [if_neg (by intro h; cases h; exact e rfl)]
      simp [Array.getElem?_setIfInBounds_ne e]
theorem TRel.put {σ : Sg} {n : Nat} {t : Tm} {a : Act} {d : Option Tmp} {v v' : Value} (h : TRel σ n t a) (hd : okDst n d = true) (hv : VRel σ v v') : TRel σ n (setT t d v) (a.put d v') := by
  have hb : ∀ x, d = some x → x < a.tmps.size := fun x hx => by subst hx; rw [h.size]; exact blt_lt hd
  refine ⟨by cases d <;> simp [Act.put, h.size], fun i hi => ?_⟩
  rw [val_setT, eval_put a d v' i hb]
  split
  · exact hv
  · exact h.rel i hi
theorem undef_rel {σ : Sg} : VRel σ (.tuple #[]) undef := .tuple #[] #[] rfl (fun i v v' h => by simp at h)

theorem operand_rel {σ : Sg} {A : H} {w : World} {n : Nat} {t : Tm} {a : Act} {x : Operand} (hr : Rel P σ A w) (hx : okOperand P n x = true) (h : ∀ i, x = .tmp i → VRel σ (val t (.tmp i)) (a.eval (.tmp i))) : VRel σ (val t x) (a.eval x) := by
  cases x with
  | tmp i => exact h i rfl
  | const v => exact (flat_cells hx).vrel
  | global g =>
    have hg : g < P.globals.size := blt_lt hx
    obtain ⟨p, h1, h2, h3⟩ := hr.glob g hg
    have := VRel.ptr (σ := σ) 0 h1
    rw [h2, h3] at this
    exact this
  | func f => exact .func _ _ _ _ _ rfl rfl (fun i v v' h => by simp at h) (fun i v v' h => by simp at h)
theorem TRel.operand {σ : Sg} {A : H} {w : World} {n : Nat} {t : Tm} {a : Act} {x : Operand} (hr : Rel P σ A w) (hx : okOperand P n x = true) (h : TRel σ n t a) : VRel σ (val t x) (a.eval x) :=
  operand_rel hr hx fun i e => by subst e; exact h.rel i (blt_lt hx)

/-- A well-made operation. -/
structure Made (P : Program) (nt : Nat) (ops : Array Oper) (o : Oper) (x : XOper) : Prop where
  op : compOp P o = some x.op
  dst : x.dst = o.dst
  guard : compGuard ops o.guard = some x.guard
  operands : ∀ y ∈ o.op.operands, okOperand P nt y = true
  okd : okDst nt o.dst = true
  okg : ∀ d w, x.guard = some (d, w) → d < nt
theorem compOper_made {nt : Nat} {ops : Array Oper} {o : Oper} : Made P nt ops o (compOper P nt ops o) ∨ ∃ s, (compOper P nt ops o).op = .bad s ∧ (compOper P nt ops o).guard = none := by
  unfold compOper
  split
  · rename_i x g hx hg
    cases hb : (o.op.operands.toList.all (okOperand P nt) && okDst nt o.dst && okDst nt (g.map (·.1))) with
    | false => exact .inr ⟨_, rfl, rfl⟩
    | true =>
      rw [Bool.and_eq_true, Bool.and_eq_true] at hb
      obtain ⟨⟨h1, h2⟩, h3⟩ := hb
      refine .inl ⟨hx, rfl, hg, fun y hy => ?_, h2, fun d w e => ?_⟩
      · rw [List.all_eq_true] at h1
        exact h1 y (by simpa using hy)
      · simp only [cond_true] at e
        subst e
        exact blt_lt h3
  · exact .inr ⟨_, rfl, rfl⟩
theorem evalOne_bad {call : Caller} {x : XOper} {s : String} {t : Tm} {A : H} (h : x.op = .bad s) (hg : x.guard = none) : evalOne call x t A = none := by
  simp [evalOne, hg, wantedA, h, runOp, evalOp]

theorem wanted_eq {nt : Nat} {ops : Array Oper} {o : Oper} {x : XOper} (hm : Made P nt ops o x) {σ : Sg} {t : Tm} {a : Act} (hsz : a.tmps.size = nt) (h : ∀ d w, x.guard = some (d, w) → VRel σ (val t (.tmp d)) (a.eval (.tmp d))) :
    Region.wanted o (yielded ops a.tmps) = wantedA t x.guard := by
  have hg := hm.guard
  unfold Region.wanted
  cases ho : o.guard with
  | none =>
    rw [ho] at hg
    simp only [compGuard, Option.some.injEq] at hg
    rw [← hg]
    rfl
  | some jw =>
    obtain ⟨j, wv⟩ := jw
    rw [ho] at hg
    simp only [compGuard, Option.map_eq_some_iff] at hg
    obtain ⟨d, hd, hgx⟩ := hg
    have hlt := hm.okg d wv hgx.symm
    have hv := h d wv hgx.symm
    rw [← hgx]
    simp only [wantedA, yielded, hd, Option.bind_some]
    have he : a.tmps[d]? = some (a.eval (.tmp d)) := by
      simp [Act.eval, hsz, hlt]
    rw [he]
    generalize a.eval (.tmp d) = v' at hv
    generalize val t (.tmp d) = v at hv
    cases hv
    case unk i =>
      have hn := Unk.nob i
      cases hu : Unk.val i <;> first | (exact absurd hu (hn _)) | simp
    all_goals simp

theorem comp_kind {o : Oper} {x : XOp} (hc : compOp P o = some x) : (∃ c, o.op = .call c) ∨ light x = true ∨ make x = true ∨ heavy x = true := by
  obtain ⟨dst, op, type, pos, after, guard⟩ := o
  cases op with
  | call c => exact .inl ⟨c, rfl⟩
  | move y => simp only [compOp, Option.some.injEq] at hc; subst hc; exact .inr (.inl rfl)
  | assign y => simp only [compOp, Option.some.injEq] at hc; subst hc; exact .inr (.inl rfl)
  | pick c a b => simp only [compOp, Option.some.injEq] at hc; subst hc; exact .inr (.inl rfl)
  | build t ps =>
    simp only [compOp, Option.bind_eq_some_iff] at hc
    obtain ⟨_, _, hc⟩ := hc
    split at hc <;> first | (cases hc; done) | (rw [Option.map_eq_some_iff] at hc; obtain ⟨_, _, rfl⟩ := hc; exact .inr (.inl rfl))
  | load t a => simp only [compOp, Option.bind_eq_some_iff, Option.map_eq_some_iff] at hc; obtain ⟨_, _, _, _, rfl⟩ := hc; exact .inr (.inl rfl)
  | nilCheck y => simp only [compOp, Option.some.injEq] at hc; subst hc; exact .inr (.inl rfl)
  | binOp op xt x y yt => simp only [compOp, Option.bind_eq_some_iff] at hc; obtain ⟨_, _, hc⟩ := hc; exact .inr (.inl (compBin_light hc))
  | typeAssert x xt t ok =>
    simp only [compOp] at hc
    cases ok with
    | false => cases hc
    | true =>
      simp only [cond_true, Option.bind_eq_some_iff] at hc
      obtain ⟨z, _, hc⟩ := hc
      cases hb : (cellsL z).all flat1 with
      | false => rw [hb] at hc; cases hc
      | true => rw [hb] at hc; simp only [cond_true, Option.map_eq_some_iff] at hc; obtain ⟨d, _, hc⟩ := hc; split at hc <;> (subst hc; exact .inr (.inl rfl))
  | unOp op xt x => simp only [compOp, Option.some.injEq] at hc; subst hc; exact .inr (.inl rfl)
  | convert s d x =>
    simp only [compOp] at hc
    split at hc
    · cases hc; exact .inr (.inl rfl)
    · cases hc; exact .inr (.inl rfl)
    · rename_i e _ _
      split at hc
      · cases hb : (sizeA P e == some 1) <;> rw [hb] at hc <;> cases hc; exact .inr (.inr (.inl rfl))
      · cases hc
    · split at hc <;> cases hc; exact .inr (.inl rfl)
    · rw [Option.bind_eq_some_iff] at hc; obtain ⟨_, _, hc⟩ := hc; split at hc <;> cases hc; exact .inr (.inl rfl)
    · cases hc
  | makeInterface t x => simp only [compOp] at hc; split at hc <;> cases hc; exact .inr (.inl rfl)
  | makeFunc fn first cap => simp only [compOp] at hc; cases hc; exact .inr (.inl rfl)
  | slice t x lo hi mx =>
    simp only [compOp] at hc
    split at hc
    · split at hc <;> cases hc; exact .inr (.inl rfl)
    · cases hb : (mx.isSome && hi.isNone) <;> rw [hb] at hc
      · simp only [cond_false, Option.map_eq_some_iff] at hc; obtain ⟨_, _, rfl⟩ := hc; exact .inr (.inl rfl)
      · cases hc
    · cases hb : (mx.isSome && hi.isNone) <;> rw [hb] at hc
      · simp only [cond_false, Option.map_eq_some_iff] at hc; obtain ⟨_, _, rfl⟩ := hc; exact .inr (.inl rfl)
      · cases hc
    · cases hc
  | fieldAddr s x f =>
    simp only [compOp] at hc
    split at hc
    · simp only [Option.bind_eq_some_iff] at hc
      obtain ⟨_, _, _, _, hc⟩ := hc
      split at hc <;> cases hc; exact .inr (.inl rfl)
    · cases hc
  | field t x f =>
    simp only [compOp] at hc
    split at hc
    · simp only [Option.bind_eq_some_iff, Option.map_eq_some_iff] at hc
      obtain ⟨_, _, _, _, _, _, rfl⟩ := hc; exact .inr (.inl rfl)
    · cases hc
  | indexAddr t x i =>
    simp only [compOp] at hc
    split at hc <;> first | (cases hc; done) | (rw [Option.map_eq_some_iff] at hc; obtain ⟨_, _, rfl⟩ := hc; exact .inr (.inl rfl))
  | index t x i =>
    simp only [compOp] at hc
    split at hc
    · simp only [Option.bind_eq_some_iff, Option.map_eq_some_iff] at hc
      obtain ⟨_, _, _, _, rfl⟩ := hc; exact .inr (.inl rfl)
    · cases hc; exact .inr (.inl rfl)
    · cases hc
  | lookup t m k ok =>
    simp only [compOp] at hc
    split at hc
    · simp only [Option.bind_eq_some_iff] at hc
      obtain ⟨d, _, z, _, hc⟩ := hc
      cases hb : (cellsL z).all flat1 <;> rw [hb] at hc <;> cases hc; exact .inr (.inl rfl)
    · cases hc
  | extract x i => simp only [compOp, Option.some.injEq] at hc; subst hc; exact .inr (.inl rfl)
  | makeMap t r => simp only [compOp] at hc; split at hc <;> cases hc; exact .inr (.inr (.inl rfl))
  | alloc e => simp only [compOp, Option.map_eq_some_iff] at hc; obtain ⟨z, _, rfl⟩ := hc; exact .inr (.inr (.inl rfl))
  | box e y => simp only [compOp, Option.map_eq_some_iff] at hc; obtain ⟨_, _, rfl⟩ := hc; exact .inr (.inr (.inl rfl))
  | buildSlice t n ps =>
    simp only [compOp] at hc
    split at hc
    · simp only [Option.bind_eq_some_iff, Option.map_eq_some_iff] at hc; obtain ⟨_, _, _, _, _, _, rfl⟩ := hc; exact .inr (.inr (.inl rfl))
    · cases hc
  | makeSlice t l c =>
    simp only [compOp] at hc
    split at hc
    · simp only [Option.bind_eq_some_iff, Option.map_eq_some_iff] at hc; obtain ⟨_, _, _, _, rfl⟩ := hc; exact .inr (.inr (.inl rfl))
    · cases hc
  | range t x => simp only [compOp] at hc; split at hc <;> cases hc; exact .inr (.inr (.inl rfl))
  | store t a x => simp only [compOp, Option.map_eq_some_iff] at hc; obtain ⟨z, _, rfl⟩ := hc; exact .inr (.inr (.inr rfl))
  | mapUpdate t m k x =>
    simp only [compOp] at hc
    split at hc
    · simp only [Option.map_eq_some_iff] at hc; obtain ⟨d, _, rfl⟩ := hc; exact .inr (.inr (.inr rfl))
    · cases hc
  | insert t m k x =>
    simp only [compOp] at hc
    split at hc
    · simp only [Option.map_eq_some_iff] at hc; obtain ⟨d, _, rfl⟩ := hc; exact .inr (.inr (.inr rfl))
    · cases hc
  | next x b => simp only [compOp] at hc; cases b <;> cases hc; exact .inr (.inr (.inr rfl))
  | _ => simp [compOp] at hc

/-- What an operation comes to, a call too: the interpreter's answer, in whatever goes on from it. -/
theorem run_method {t : TypeId} {name : String} {f : FuncId} (h : methodOf P name t = some f) (v : Value) (w : World) : (method (P.types.size + Made.depth) t v name).run P w = .ok (f, v) w := by
  have hd : P.types.size + Made.depth = (P.types.size + Made.depth - 1) + 1 := by have : 0 < Made.depth := by decide
                                                                                  omega
  unfold methodOf at h
  rw [Option.bind_eq_some_iff] at h
  obtain ⟨i, hi, h⟩ := h
  rw [Option.bind_eq_some_iff] at h
  obtain ⟨m, hm, h⟩ := h
  rw [hd]
  split at h
  · rename_i f' e hp hf hu
    cases h
    simp [method, typeInfo, hi, hm, hp, follow, hf, receiverAt, run_underlying hu, Place.get]
  · rename_i f' fs hp hf hu
    cases h
    simp [method, typeInfo, hi, hm, hp, follow, hf, receiverAt, run_underlying hu, Place.get]
  · rename_i f' k hp hf hu
    cases h
    simp [method, typeInfo, hi, hm, hp, follow, hf, receiverAt, run_underlying hu, Place.get]
  · cases h
theorem runOp_sound (hx : Ext P) {call : Caller} (hcall : CallOk P call) {o : Oper} {x : XOp} (hc : compOp P o = some x) {σ : Sg} {t : Tm} {a : Act} {A : H} {w : World} (hr : Rel P σ A w) (hρ : ∀ y ∈ o.op.operands, VRel σ (val t y) (a.eval y))
    {v : Value} {A' : H} (h : runOp call x t A = some (v, A')) {K : Act → World → Prop} {Q : Exit → Act → World → Prop}
    (hk : ∀ v' w' σ', VRel σ' v v' → Rel P σ' A' w' → Fr σ A w σ' A' w' → K (a.put o.dst v') w') : o.wp P a w K Q := by
  have plain : ∀ {x : XOp}, (light x = true ∨ make x = true ∨ heavy x = true) → runOp call x t A = evalOp x (val t) A := by
    intro x h
    cases x <;> first | rfl | (simp [light, make, heavy] at h)
  have noncall : (light x = true ∨ make x = true ∨ heavy x = true) → o.wp P a w K Q := by
    intro hkind
    rw [plain hkind] at h
    rcases hkind with hl | hm | hh
    · obtain ⟨rfl, v', h1, h2⟩ := light_sound hc hl hρ hr h
      unfold Oper.wp
      rw [h1]
      exact hk v' w σ h2 hr (Fr.refl _ _ _)
    · obtain ⟨mk, ob, h1, h2⟩ := make_sound hc hm hρ h
      have h3 := h2 A
      rw [h] at h3
      cases h3
      obtain ⟨v', w', p, k1, k2, k3, k4⟩ := h1.run w
      have hn := (hr.dom A.next (Nat.le_refl _)).2
      obtain ⟨k5, k6⟩ := k4 (σ.add A.next p) A.next (Sg.le_add p hn) (Sg.add_same _ _ _)
      unfold Oper.wp
      rw [k1]
      exact hk v' w' _ k5 (Rel.place hr k2.size k2.old k3 k6 h1.own) (Fr.place hr k2.size k2.old k2.os k2.tape k2.output k3)
    · obtain ⟨n, v', w', σ', k1, k2, k3, k4, k5⟩ := (heavy_sound hx hc hh hρ (fun f => rfl) hr h).out
      unfold Oper.wp
      rw [k1]
      rcases k2 with rfl | ⟨rfl, rfl⟩
      · exact hk v' w' σ' k3 k4 k5
      · exact hk undef w' σ' k3 k4 k5
  rcases comp_kind hc with ⟨c, hcc⟩ | hkind
  · obtain ⟨dst, op, type, pos, after, guard⟩ := o
    simp only at hcc
    subst hcc
    obtain ⟨callee, args, argTypes⟩ := c
    have hargs : ∀ y ∈ args.toList, VRel σ (val t y) (a.eval y) := fun y hy => hρ y (by simp only [Op.operands, Call.operands]; exact Array.mem_append.2 (.inr (Array.mem_toList_iff.1 hy)))
    have hla : LRel σ (args.toList.map (val t)) (args.toList.map a.eval) := LRel.map _ _ _ hargs
    have enter : ∀ {f : FuncId} {as : List Value} {asc : List Value}, call f as A = some (v, A') → LRel σ as asc → (execOp a.eval ⟨dst, .call ⟨callee, args, argTypes⟩, type, pos, after, guard⟩).run P w = (callFunc f asc.toArray).run P w → (⟨dst, .call ⟨callee, args, argTypes⟩, type, pos, after, guard⟩ : Oper).wp P a w K Q := by
      intro f as asc hca hls hrun
      obtain ⟨fn, hf, hb, hname⟩ := hcall.enters _ _ _ _ _ hca
      have hcf : (callFunc f asc.toArray).run P w = .ok (.enter f asc.toArray) w := by
        obtain ⟨bd, hbd⟩ := Option.isSome_iff_exists.1 hb
        simp [callFunc, hf, hname, hbd]
      unfold Oper.wp
      rw [hrun, hcf]
      simp only [Oper.upon]
      refine (hcall.calls _ _ _ _ _ hca σ w asc hr hls).mono fun e w' he => ?_
      obtain ⟨rc, σ', rfl, k1, k2, k3⟩ := he
      exact hk rc w' σ' k1 k2 k3
    simp only [compOp, compCall] at hc
    cases callee with
    | invoke r m =>
      simp only [Option.some.injEq] at hc
      subst hc
      simp only [runOp] at h
      have hrv := hρ r (by simp [Op.operands, Call.operands])
      split at h
      · rename_i f asl hfa
        revert hfa
        revert hrv
        generalize hv1 : val t r = v1; generalize hv2 : a.eval r = v2
        intro hrv hfa
        cases hrv with
        | iface ty hv =>
          simp only [calleeM, Option.map_eq_some_iff, Prod.mk.injEq] at hfa
          obtain ⟨f', hf', rfl, rfl⟩ := hfa
          refine enter h (LRel.cons hv hla) ?_
          have e1 : (execOp a.eval ⟨dst, .call ⟨.invoke r m, args, argTypes⟩, type, pos, after, guard⟩) = (do let d ← (pure { target := .fn (.method m) #[], args := #[a.eval r] ++ args.map a.eval } : Sem Deferred); invoke d.target d.args) := rfl
          rw [e1, hv2]
          simp only [Sem.run_bind, Sem.run_pure, Result.andThen_ok, invoke]
          have hex : ∀ (x : Value) (l : Array Value), (#[x] ++ l).extract 1 (#[x] ++ l).size = l := fun x l => by apply Array.ext'; simp
          have h0 : ∀ (x : Value) (l : Array Value), (#[x] ++ l)[0]? = some x := fun x l => by rw [Array.getElem?_append_left (Nat.zero_lt_succ 0)]; rfl
          rw [h0]
          simp only [hex, callMethod, Sem.run_bind, run_program, Result.andThen_ok, run_method hf']
          congr 2
          apply Array.ext'
          simp
        | _ => simp [calleeM] at hfa
      · cases h
    | value f =>
      cases f with
      | func f =>
        simp only at hc
        split at hc
        · split at hc
          · cases hc
            simp only [runOp] at h
            exact enter h hla (by
              have e1 : (execOp a.eval ⟨dst, .call ⟨.value (.func f), args, argTypes⟩, type, pos, after, guard⟩) = (do let d ← (pure { target := .fn (.func f) #[], args := #[] ++ args.map a.eval } : Sem Deferred); invoke d.target d.args) := rfl
              rw [e1]
              simp only [Sem.run_bind, Sem.run_pure, Result.andThen_ok, invoke]
              congr 2
              apply Array.ext'
              simp)
          · split at hc
            · split at hc <;> cases hc
              exact noncall (.inr (.inr rfl))
            · cases hc
        · cases hc
      | tmp s =>
        simp only [Option.some.injEq] at hc
        subst hc
        simp only [runOp] at h
        have hfv := hρ (.tmp s) (by simp [Op.operands, Call.operands])
        split at h
        · rename_i f as hfa
          revert hfa
          revert hfv
          generalize hv1 : val t (.tmp s) = v1; generalize hv2 : a.eval (.tmp s) = v2
          intro hfv hfa
          cases hfv with
          | func fn as' bs' cs ds l1 l2 h1 h2 =>
            cases fn with
            | func f' =>
              simp only [calleeA, Option.some.injEq, Prod.mk.injEq] at hfa
              obtain ⟨rfl, rfl⟩ := hfa
              refine enter h (((⟨by simpa using l1, h1⟩ : LRel σ as'.toList bs'.toList).append hla).append (⟨by simpa using l2, h2⟩ : LRel σ cs.toList ds.toList)) ?_
              have e1 : (execOp a.eval ⟨dst, .call ⟨.value (.tmp s), args, argTypes⟩, type, pos, after, guard⟩) = (do let d ← Deferred.ofValue (a.eval (.tmp s)) (args.map a.eval); invoke d.target d.args) := rfl
              rw [e1, hv2]
              simp only [Deferred.ofValue, Sem.run_bind, Sem.run_pure, Result.andThen_ok, invoke]
              congr 2
              apply Array.ext'
              simp
            | _ => simp [calleeA] at hfa
          | _ => simp [calleeA] at hfa
        · cases h
      | _ => cases hc
    | builtin b =>
      refine noncall ?_
      simp only [compBuiltin] at hc
      cases b with
      | len =>
        simp only at hc
        split at hc
        · split at hc <;> first | (cases hc; exact .inl rfl) | (cases hc; done) | skip
          split at hc <;> cases hc; exact .inl rfl
        · cases hc
      | append =>
        simp only at hc
        split at hc
        · split at hc <;> first | (cases hc; done) | (simp only [Option.bind_eq_some_iff, Option.map_eq_some_iff] at hc; obtain ⟨_, _, _, _, rfl⟩ := hc; exact .inr (.inr rfl))
        · cases hc
      | copy =>
        simp only at hc
        split at hc
        · split at hc <;> first | (cases hc; done) | (simp only [Option.map_eq_some_iff] at hc; obtain ⟨_, _, rfl⟩ := hc; exact .inr (.inr rfl))
        · cases hc
      | delete =>
        simp only at hc
        split at hc
        · split at hc <;> first | (cases hc; done) | (simp only [Option.map_eq_some_iff] at hc; obtain ⟨_, _, rfl⟩ := hc; exact .inr (.inr rfl))
        · cases hc
      | clear =>
        simp only at hc
        split at hc
        · split at hc <;> first | (cases hc; done) | (simp only [Option.map_eq_some_iff] at hc; obtain ⟨_, _, rfl⟩ := hc; exact .inr (.inr rfl))
        · cases hc
      | min => cases hc; exact .inl rfl
      | max => cases hc; exact .inl rfl
      | _ => cases hc
  · exact noncall hkind
end
end Go.Ab
