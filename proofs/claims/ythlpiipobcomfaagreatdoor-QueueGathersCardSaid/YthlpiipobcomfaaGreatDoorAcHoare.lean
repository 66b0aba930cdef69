/- Code from one abstract state to others: what is run, put together; loops by what stays true. -/
import Derived.Test.YthlpiipobcomfaaGreatDoorAcK
import Derived.Test.YthlpiipobcomfaaGreatDoorAcFun
import Derived.Test.YthlpiipobcomfaaGreatDoorAcMem
set_option linter.all false
set_option linter.unusedSectionVars false
set_option linter.unusedVariables false
set_option linter.unusedSimpArgs false
namespace Go.Ab
open Go Go.RowKit
abbrev Cond := Unk → Tm → H → Prop
abbrev Ends := XExit → Unk → Tm → H → Prop
/-- The abstract state stands in the world; whatever it owns is new. -/
def Sits (P : Program) (W0 : World) (nt : Nat) (I : Unk) (t : Tm) (A : H) (a : Act) (w : World) : Prop :=
  ∃ σ, @TRel I σ nt t a ∧ @Rel I P σ A w ∧ Below W0.heap.size W0 w ∧ ∀ b, Owned σ A b → W0.heap.size ≤ b
/-- From such a state the code comes to such ones. -/
def Tri (P : Program) (W0 : World) (nt : Nat) (c : Code) (pre : Cond) (post : Ends) : Prop :=
  ∀ (I : Unk) (t : Tm) (A : H) (a : Act) (w : World) (ds : List Deferred), pre I t A → Sits P W0 nt I t A a w → a.defers = ds →
    c.wp P (fun e a' w' => ∃ xe I' t' A', e = exitOf xe ∧ a'.defers = ds ∧ post xe I' t' A' ∧ Sits P W0 nt I' t' A' a' w') a w
theorem below_fr {W0 w w' : World} {σ σ' : Sg} {A A' : H} (hb : Below W0.heap.size W0 w) (ho : ∀ b, Owned σ A b → W0.heap.size ≤ b) (hf : Fr σ A w σ' A' w') : Below W0.heap.size W0 w' ∧ ∀ b, Owned σ' A' b → W0.heap.size ≤ b := by
  refine ⟨⟨hf.os.trans hb.os, hf.tape.trans hb.tape, hf.output.trans hb.output, Nat.le_trans hb.size hf.size, fun b hlt => ?_⟩, fun b hbo => ?_⟩
  · refine (hf.frame b (Nat.lt_of_lt_of_le hlt hb.size) fun hh => ?_).trans (hb.block b hlt)
    have := ho b hh
    omega
  · rcases hf.owned b hbo with h | h
    · exact ho b h
    · exact Nat.le_trans hb.size h
section
variable {P : Program} {W0 : World} {nt : Nat} {c c1 c2 : Code} {pre pre' : Cond} {post post' : Ends}
theorem Tri.mono (h : Tri P W0 nt c pre post) (hp : ∀ I t A, pre' I t A → pre I t A) (hq : ∀ xe I t A, post xe I t A → post' xe I t A) : Tri P W0 nt c pre' post' := by
  intro I t A a w ds hpre hs hd
  exact wp_mono (h I t A a w ds (hp I t A hpre) hs hd) fun e a' w' ⟨xe, I', t', A', h1, h2, h3, h4⟩ => ⟨xe, I', t', A', h1, h2, hq _ _ _ _ h3, h4⟩
/-- Another state stands there too. -/
theorem Tri.turn (h : Tri P W0 nt c pre post) (hp : ∀ I t A a w, pre' I t A → Sits P W0 nt I t A a w → ∃ I' t' A', pre I' t' A' ∧ Sits P W0 nt I' t' A' a w) : Tri P W0 nt c pre' post := by
  intro I t A a w ds hpre hs hd
  obtain ⟨I', t', A', h1, h2⟩ := hp I t A a w hpre hs
  exact h I' t' A' a w ds h1 h2 hd
theorem Tri.seq {mid : Cond} (h1 : Tri P W0 nt c1 pre (fun xe I t A => match xe with | .normal => mid I t A | xe => post xe I t A)) (h2 : Tri P W0 nt c2 mid post) : Tri P W0 nt (.seq c1 c2) pre post := by
  intro I t A a w ds hpre hs hd
  refine wp_seq (wp_mono (h1 I t A a w ds hpre hs hd) fun e a' w' ⟨xe, I', t', A', k1, k2, k3, k4⟩ => ?_)
  subst k1
  cases xe with
  | normal => exact h2 I' t' A' a' w' ds k3 k4 k2
  | exit i => exact ⟨.exit i, I', t', A', rfl, k2, k3, k4⟩
  | ret => exact ⟨.ret, I', t', A', rfl, k2, k3, k4⟩
theorem Tri.block {id : Nat} (h : Tri P W0 nt c pre (fun xe I t A => match xe with | .exit i => if i = id then post .normal I t A else post (.exit i) I t A | xe => post xe I t A)) : Tri P W0 nt (.block id c) pre post := by
  intro I t A a w ds hpre hs hd
  refine wp_block (wp_mono (h I t A a w ds hpre hs hd) fun e a' w' ⟨xe, I', t', A', k1, k2, k3, k4⟩ => ?_)
  subst k1
  cases xe with
  | normal => exact ⟨.normal, I', t', A', rfl, k2, k3, k4⟩
  | ret => exact ⟨.ret, I', t', A', rfl, k2, k3, k4⟩
  | exit i =>
    simp only at k3
    by_cases hi : i = id
    · rw [if_pos hi] at k3
      simp only [exitOf, Exit.inBlock, hi, if_true]
      exact ⟨.normal, I', t', A', rfl, k2, k3, k4⟩
    · rw [if_neg hi] at k3
      simp only [exitOf, Exit.inBlock, hi, if_false]
      exact ⟨.exit i, I', t', A', rfl, k2, k3, k4⟩
/-- A loop: what holds at its head, with rounds that are left. -/
theorem Tri.loop {inv : Nat → Cond} (h : ∀ k, Tri P W0 nt c (inv k) (fun xe I t A => match xe with | .normal => ∃ j, j < k ∧ inv j I t A | xe => post xe I t A)) : Tri P W0 nt (.loop c) (fun I t A => ∃ k, inv k I t A) post := by
  have key : ∀ n k, k < n → ∀ (I : Unk) (t : Tm) (A : H) (a : Act) (w : World) (ds : List Deferred), inv k I t A → Sits P W0 nt I t A a w → a.defers = ds →
      Code.rounds P c (fun e a' w' => ∃ xe I' t' A', e = exitOf xe ∧ a'.defers = ds ∧ post xe I' t' A' ∧ Sits P W0 nt I' t' A' a' w') n a w := by
    intro n
    induction n with
    | zero => intro k hk; omega
    | succ n ih =>
      intro k hk I t A a w ds hi hs hd
      rw [rounds_succ]
      refine wp_mono (h k I t A a w ds hi hs hd) fun e a' w' ⟨xe, I', t', A', k1, k2, k3, k4⟩ => ?_
      subst k1
      cases xe with
      | normal =>
        obtain ⟨j, hj, hi'⟩ := k3
        exact ih j (by omega) I' t' A' a' w' ds hi' k4 k2
      | exit i => exact ⟨.exit i, I', t', A', rfl, k2, k3, k4⟩
      | ret => exact ⟨.ret, I', t', A', rfl, k2, k3, k4⟩
  intro I t A a w ds ⟨k, hk⟩ hs hd
  exact wp_loop_rounds (k + 1) (key (k + 1) k (by omega) I t A a w ds hk hs hd)
end
section
variable {P : Program} (hmix : P.follows .mixedOrders = true) (hx : Ext P) {code : Kn → FuncId → Option XFun} {nats : Kn → FuncId → Option KNat} (hcode : ∀ K : Kn, CodeOf P (code K)) {good : Unk → Prop} (hnat : ∀ (K : Kn) (I : Unk), good I → ∀ [@KnOk K I], @NatOk I P (code K))
include hmix hx hcode hnat
/-- What is run. -/
theorem Tri.run {W0 : World} {nt : Nat} {c : Code} {pre : Cond} {post : Ends} (h : ∀ (I : Unk) (t : Tm) (A : H), pre I t A → good I ∧ ∃ K : Kn, @KnOk K I ∧ ∃ n xe t' A', @evalC K (@evalF K (code K) n) n (compC P nt c) t A = some (xe, t', A') ∧ post xe I t' A') : Tri P W0 nt c pre post := by
  intro I t A a w ds hpre hs hd
  obtain ⟨hgood, K, hK, n, xe, t', A', he, hp⟩ := h I t A hpre
  obtain ⟨σ, s1, s2, s3, s4⟩ := hs
  letI : Unk := I
  letI : Kn := K
  haveI : KnOk := hK
  have hcall := evalF_ok hmix hx (hcode K) (hnat K I hgood) n
  refine wp_mono ((code_ok hmix hx hcall n).code c nt t A xe t' A' he σ a w ds s1 s2 hd) fun e a' w' ⟨k1, k2, σ', k3, k4, k5⟩ => ?_
  obtain ⟨q1, q2⟩ := below_fr s3 s4 k5
  exact ⟨xe, I, t', A', k1, k2, hp, σ', k3, k4, q1, q2⟩
/-- What the quick interpreter runs: the answers that follow say what is asked of them. -/
theorem Tri.quick (hmono : ∀ K : Kn, @NatMono (code K)) (hok : ∀ K : Kn, @NatsOk K (code K) (nats K)) {W0 : World} {nt : Nat} {c : Code} {pre : Cond} {post : Ends}
    (h : ∀ (I : Unk) (t : Tm) (A : H), pre I t A → good I ∧ ∃ K : Kn, @KnOk K I ∧ ∃ (T : TK) (m : Nat) (env : Nat → ContK) (ret k : ContK), TR T t ∧ @kC K (compC P nt c) (@kF K (code K) (nats K) m) env ret k T A = true ∧
      ∀ xe T' t' A', TR T' t' → after env ret k xe T' A' = true → post xe I t' A') : Tri P W0 nt c pre post := by
  refine Tri.run hmix hx hcode hnat fun I t A hpre => ?_
  obtain ⟨hgood, K, hK, T, m, env, ret, k, hT, hr, hq⟩ := h I t A hpre
  obtain ⟨n, xe, t', A', h1, T', h2, h3⟩ := @kC_spec K (code K) (@kF K (code K) (nats K) m) (hmono K) (@kF_ok K (code K) (hmono K) (nats K) (hok K) m) _ T t A hT env ret k hr
  exact ⟨hgood, K, hK, n, xe, t', A', h1, hq xe T' t' A' h2 h3⟩
omit hmix hx hcode hnat in
theorem flat_same [Unk] {σ : Sg} {v : Value} (h : Flat v) : ∀ {v' : Value}, VRel σ v v' → v' = v := by
  have arr : ∀ (as as' : Array Value), as.size = as'.size → (∀ (i : Nat) x x', as.toList[i]? = some x → as'.toList[i]? = some x' → VRel σ x x') → (∀ x ∈ as.toList, ∀ {x' : Value}, VRel σ x x' → x' = x) → as' = as := by
    intro as as' h1 h2 ih
    apply Array.ext'
    apply List.ext_getElem?
    intro i
    by_cases hi : i < as.size
    · have e1 : as.toList[i]? = some as.toList[i] := List.getElem?_eq_getElem (by simpa using hi)
      have e2 : as'.toList[i]? = some as'.toList[i] := List.getElem?_eq_getElem (by simp; omega)
      rw [e1, e2, ih _ (List.getElem_mem _) (h2 i _ _ e1 e2)]
    · rw [List.getElem?_eq_none (by simp; omega), List.getElem?_eq_none (by simp; omega)]
  induction h with
  | agg as _ ih => intro v' hr; cases hr with | agg _ as' h1 h2 => rw [arr as as' h1 h2 ih]
  | tuple as _ ih => intro v' hr; cases hr with | tuple _ as' h1 h2 => rw [arr as as' h1 h2 ih]
  | func fn =>
    intro v' hr
    cases hr with
    | func _ _ as' _ bs' h1 h2 _ _ =>
      have e1 : as' = #[] := Array.eq_empty_of_size_eq_zero h1.symm
      have e2 : bs' = #[] := Array.eq_empty_of_size_eq_zero h2.symm
      rw [e1, e2]
  | _ => intro v' hr; cases hr; rfl
/-- A function, by its body. -/
theorem calls_of_tri {f : FuncId} {fn : Func} {c : Code} {rs : List (Nat × Option (Nat × Bool))} (hf : P.funcs[f]? = some fn) (hb : fn.body = some c) (hc : compRes P fn.ntmps fn.results.toList = some rs) {I : Unk} {args argsc : List Value} {A : H} {W : World} {σ : Sg}
    (hr : Rel P σ A W) (hl : LRel σ args argsc) (hlen : args.length ≤ fn.ntmps) (hown : ∀ b, ¬ Owned σ A b) {v : Value} (hv : Flat v)
    (h : Tri P W fn.ntmps c (fun J t B => J = I ∧ t = argsT args 0 .nil ∧ B = A) (fun xe _ t' A' => (xe = .normal ∨ xe = .ret) ∧ ∃ vs, resultsA A' t' rs = some vs ∧ resultV vs = v)) :
    Calls P f argsc.toArray W fun e w' => e = .returned v ∧ Below W.heap.size W w' := by
  letI : Kn := knNone
  haveI : KnOk := knNone_ok
  refine calls_of_wp hf hb (wp_mono (h I _ A _ W [] ⟨rfl, rfl, rfl⟩ ⟨σ, args_rel hl hlen, hr, Below.refl _ _, fun b hbo => absurd hbo (hown b)⟩ rfl) fun e a' w' ⟨xe, I', t', A', k1, k2, ⟨k3, vs, k4, k5⟩, σ', s1, s2, s3, s4⟩ => ?_)
  letI : Unk := I'
  haveI : KnOk := knNone_ok
  obtain ⟨v', hrun, hvr⟩ := results_run s1 s2 hc k4
  rw [k5] at hvr
  have e2 : v' = v := flat_same hv hvr
  subst k1
  rcases k3 with rfl | rfl
  · exact ⟨k2, v', hrun, by rw [e2], s3⟩
  · exact ⟨k2, v', hrun, by rw [e2], s3⟩
end
end Go.Ab
