/- Code from one abstract state to others: what is run, put together; loops by what stays true. -/
/- Another abstract state that stands where one does: blocks renumbered, bits renamed, what is not looked at forgotten. -/
/- States that a run may end in: a given abstract state fits where a run's state stands. -/
/- A state where what bits are is known: they are put in. -/
/- A slot that no operation of the code writes stays as it is. -/
/- From a state to states: each way of the questions that are asked ends in a state that is listed. -/
import Derived.Test.YtcghikpogkigcaaGreatDoorAbK
import Derived.Test.YtcghikpogkigcaaGreatDoorAbFun
import Derived.Test.YtcghikpogkigcaaGreatDoorAbMem
import Derived.Test.YtcghikpogkigcaaGreatDoorAbWays
set_option linter.all false
set_option linter.unusedSectionVars false
set_option linter.unusedVariables false
set_option linter.unusedSimpArgs false
namespace Go.Ab
open Go Go.RowKit
abbrev Cond := Unk → Tm → H → Prop
abbrev Ends := XExit → Unk → Tm → H → Prop
/-- The abstract state stands in the world; whatever it owns is new. -/
def Sits (P : Program) (W0 : World) (nt : Nat) (I : Unk) (t : Tm) (A : H) (a : Act) (w : World) : Prop :=
  ∃ σ, @TRel I σ nt t a ∧ @Rel I P σ A w ∧ Below W0.heap.size W0 w ∧ ∀ b, Owned σ A b → W0.heap.size ≤ b
/-- From such a state the code comes to such ones. -/
def Tri (P : Program) (W0 : World) (nt : Nat) (c : Code) (pre : Cond) (post : Ends) : Prop :=
  ∀ (I : Unk) (t : Tm) (A : H) (a : Act) (w : World) (ds : List Deferred), pre I t A → Sits P W0 nt I t A a w → a.defers = ds →
    c.wp P (fun e a' w' => ∃ xe I' t' A', e = exitOf xe ∧ a'.defers = ds ∧ post xe I' t' A' ∧ Sits P W0 nt I' t' A' a' w') a w
theorem below_fr {W0 w w' : World} {σ σ' : Sg} {A A' : H} (hb : Below W0.heap.size W0 w) (ho : ∀ b, Owned σ A b → W0.heap.size ≤ b) (hf : Fr σ A w σ' A' w') : Below W0.heap.size W0 w' ∧ ∀ b, Owned σ' A' b → W0.heap.size ≤ b := by
  refine ⟨⟨hf.os.trans hb.os, hf.tape.trans hb.tape, hf.output.trans hb.output, Nat.le_trans hb.size hf.size, fun b hlt => ?_⟩, fun b hbo => ?_⟩
  · refine (hf.frame b (Nat.lt_of_lt_of_le hlt hb.size) fun hh => ?_).trans (hb.block b hlt)
    have := ho b hh
    omega
  · rcases hf.owned b hbo with h | h
    · exact ho b h
    · exact Nat.le_trans hb.size h
section
variable {P : Program} {W0 : World} {nt : Nat} {c c1 c2 : Code} {pre pre' : Cond} {post post' : Ends}
theorem Tri.mono (h : Tri P W0 nt c pre post) (hp : ∀ I t A, pre' I t A → pre I t A) (hq : ∀ xe I t A, post xe I t A → post' xe I t A) : Tri P W0 nt c pre' post' := by
  intro I t A a w ds hpre hs hd
  exact wp_mono (h I t A a w ds (hp I t A hpre) hs hd) fun e a' w' ⟨xe, I', t', A', h1, h2, h3, h4⟩ => ⟨xe, I', t', A', h1, h2, hq _ _ _ _ h3, h4⟩
/-- Another state stands there too. -/
theorem Tri.turn (h : Tri P W0 nt c pre post) (hp : ∀ I t A a w, pre' I t A → Sits P W0 nt I t A a w → ∃ I' t' A', pre I' t' A' ∧ Sits P W0 nt I' t' A' a w) : Tri P W0 nt c pre' post := by
  intro I t A a w ds hpre hs hd
  obtain ⟨I', t', A', h1, h2⟩ := hp I t A a w hpre hs
  exact h I' t' A' a w ds h1 h2 hd
theorem Tri.seq {mid : Cond} (h1 : Tri P W0 nt c1 pre (fun xe I t A => match xe with | .normal => mid I t A | xe => post xe I t A)) (h2 : Tri P W0 nt c2 mid post) : Tri P W0 nt (.seq c1 c2) pre post := by
  intro I t A a w ds hpre hs hd
  refine wp_seq (wp_mono (h1 I t A a w ds hpre hs hd) fun e a' w' ⟨xe, I', t', A', k1, k2, k3, k4⟩ => ?_)
  subst k1
  cases xe with
  | normal => exact h2 I' t' A' a' w' ds k3 k4 k2
  | exit i => exact ⟨.exit i, I', t', A', rfl, k2, k3, k4⟩
  | ret => exact ⟨.ret, I', t', A', rfl, k2, k3, k4⟩
theorem Tri.block {id : Nat} (h : Tri P W0 nt c pre (fun xe I t A => match xe with | .exit i => if i = id then post .normal I t A else post (.exit i) I t A | xe => post xe I t A)) : Tri P W0 nt (.block id c) pre post := by
  intro I t A a w ds hpre hs hd
  refine wp_block (wp_mono (h I t A a w ds hpre hs hd) fun e a' w' ⟨xe, I', t', A', k1, k2, k3, k4⟩ => ?_)
  subst k1
  cases xe with
  | normal => exact ⟨.normal, I', t', A', rfl, k2, k3, k4⟩
  | ret => exact ⟨.ret, I', t', A', rfl, k2, k3, k4⟩
  | exit i =>
    simp only at k3
    by_cases hi : i = id
    · rw [if_pos hi] at k3
      simp only [exitOf, Exit.inBlock, hi, if_true]
      exact ⟨.normal, I', t', A', rfl, k2, k3, k4⟩
    · rw [if_neg hi] at k3
      simp only [exitOf, Exit.inBlock, hi, if_false]
      exact ⟨.exit i, I', t', A', rfl, k2, k3, k4⟩
/-- A loop: what holds at its head, with rounds that are left. -/
theorem Tri.loop {inv : Nat → Cond} (h : ∀ k, Tri P W0 nt c (inv k) (fun xe I t A => match xe with | .normal => ∃ j, j < k ∧ inv j I t A | xe => post xe I t A)) : Tri P W0 nt (.loop c) (fun I t A => ∃ k, inv k I t A) post := by
  have key : ∀ n k, k < n → ∀ (I : Unk) (t : Tm) (A : H) (a : Act) (w : World) (ds : List Deferred), inv k I t A → Sits P W0 nt I t A a w → a.defers = ds →
      Code.rounds P c (fun e a' w' => ∃ xe I' t' A', e = exitOf xe ∧ a'.defers = ds ∧ post xe I' t' A' ∧ Sits P W0 nt I' t' A' a' w') n a w := by
    intro n
    induction n with
    | zero => intro k hk; omega
    | succ n ih =>
      intro k hk I t A a w ds hi hs hd
      rw [rounds_succ]
      refine wp_mono (h k I t A a w ds hi hs hd) fun e a' w' ⟨xe, I', t', A', k1, k2, k3, k4⟩ => ?_
      subst k1
      cases xe with
      | normal =>
        obtain ⟨j, hj, hi'⟩ := k3
        exact ih j (by omega) I' t' A' a' w' ds hi' k4 k2
      | exit i => exact ⟨.exit i, I', t', A', rfl, k2, k3, k4⟩
      | ret => exact ⟨.ret, I', t', A', rfl, k2, k3, k4⟩
  intro I t A a w ds ⟨k, hk⟩ hs hd
  exact wp_loop_rounds (k + 1) (key (k + 1) k (by omega) I t A a w ds hk hs hd)
end
section
variable {P : Program} (hmix : P.follows .mixedOrders = true) (hx : Ext P) {code : Kn → FuncId → Option XFun} {nats : Kn → FuncId → Option KNat} (hcode : ∀ K : Kn, CodeOf P (code K)) {good : Unk → Prop} (hnat : ∀ (K : Kn) (I : Unk), good I → ∀ [@KnOk K I], @NatOk I P (code K))
include hmix hx hcode hnat
/-- What is run. -/
theorem Tri.run {W0 : World} {nt : Nat} {c : Code} {pre : Cond} {post : Ends} (h : ∀ (I : Unk) (t : Tm) (A : H), pre I t A → good I ∧ ∃ K : Kn, @KnOk K I ∧ ∃ n xe t' A', @evalC K (@evalF K (code K) n) n (compC P nt c) t A = some (xe, t', A') ∧ post xe I t' A') : Tri P W0 nt c pre post := by
  intro I t A a w ds hpre hs hd
  obtain ⟨hgood, K, hK, n, xe, t', A', he, hp⟩ := h I t A hpre
  obtain ⟨σ, s1, s2, s3, s4⟩ := hs
  letI : Unk := I
  letI : Kn := K
  haveI : KnOk := hK
  have hcall := evalF_ok hmix hx (hcode K) (hnat K I hgood) n
  refine wp_mono ((code_ok hmix hx hcall n).code c nt t A xe t' A' he σ a w ds s1 s2 hd) fun e a' w' ⟨k1, k2, σ', k3, k4, k5⟩ => ?_
  obtain ⟨q1, q2⟩ := below_fr s3 s4 k5
  exact ⟨xe, I, t', A', k1, k2, hp, σ', k3, k4, q1, q2⟩
/-- What the quick interpreter runs: the answers that follow say what is asked of them. -/
theorem Tri.quick (hmono : ∀ K : Kn, @NatMono (code K)) (hok : ∀ K : Kn, @NatsOk K (code K) (nats K)) {W0 : World} {nt : Nat} {c : Code} {pre : Cond} {post : Ends}
    (h : ∀ (I : Unk) (t : Tm) (A : H), pre I t A → good I ∧ ∃ K : Kn, @KnOk K I ∧ ∃ (T : TK) (m : Nat) (env : Nat → ContK) (ret k : ContK), TR T t ∧ @kC K (compC P nt c) (@kF K (code K) (nats K) m) env ret k T A = true ∧
      ∀ xe T' t' A', TR T' t' → after env ret k xe T' A' = true → post xe I t' A') : Tri P W0 nt c pre post := by
  refine Tri.run hmix hx hcode hnat fun I t A hpre => ?_
  obtain ⟨hgood, K, hK, T, m, env, ret, k, hT, hr, hq⟩ := h I t A hpre
  obtain ⟨n, xe, t', A', h1, T', h2, h3⟩ := @kC_spec K (code K) (@kF K (code K) (nats K) m) (hmono K) (@kF_ok K (code K) (hmono K) (nats K) (hok K) m) _ T t A hT env ret k hr
  exact ⟨hgood, K, hK, n, xe, t', A', h1, hq xe T' t' A' h2 h3⟩
omit hmix hx hcode hnat in
theorem flat_same [Unk] {σ : Sg} {v : Value} (h : Flat v) : ∀ {v' : Value}, VRel σ v v' → v' = v := by
  have arr : ∀ (as as' : Array Value), as.size = as'.size → (∀ (i : Nat) x x', as.toList[i]? = some x → as'.toList[i]? = some x' → VRel σ x x') → (∀ x ∈ as.toList, ∀ {x' : Value}, VRel σ x x' → x' = x) → as' = as := by
    intro as as' h1 h2 ih
    apply Array.ext'
    apply List.ext_getElem?
    intro i
    by_cases hi : i < as.size
    · have e1 : as.toList[i]? = some as.toList[i] := List.getElem?_eq_getElem (by simpa using hi)
      have e2 : as'.toList[i]? = some as'.toList[i] := List.getElem?_eq_getElem (by simp; omega)
      rw [e1, e2, ih _ (List.getElem_mem _) (h2 i _ _ e1 e2)]
    · rw [List.getElem?_eq_none (by simp; omega), List.getElem?_eq_none (by simp; omega)]
  induction h with
  | agg as _ ih => intro v' hr; cases hr with | agg _ as' h1 h2 => rw [arr as as' h1 h2 ih]
  | tuple as _ ih => intro v' hr; cases hr with | tuple _ as' h1 h2 => rw [arr as as' h1 h2 ih]
  | func fn =>
    intro v' hr
    cases hr with
    | func _ _ as' _ bs' h1 h2 _ _ =>
      have e1 : as' = #[] := Array.eq_empty_of_size_eq_zero h1.symm
      have e2 : bs' = #[] := Array.eq_empty_of_size_eq_zero h2.symm
      rw [e1, e2]
  | _ => intro v' hr; cases hr; rfl
/-- A function, by its body. -/
theorem calls_of_tri {f : FuncId} {fn : Func} {c : Code} {rs : List (Nat × Option (Nat × Bool))} (hf : P.funcs[f]? = some fn) (hb : fn.body = some c) (hc : compRes P fn.ntmps fn.results.toList = some rs) {I : Unk} {args argsc : List Value} {A : H} {W : World} {σ : Sg}
    (hr : Rel P σ A W) (hl : LRel σ args argsc) (hlen : args.length ≤ fn.ntmps) (hown : ∀ b, ¬ Owned σ A b) {v : Value} (hv : Flat v)
    (h : Tri P W fn.ntmps c (fun J t B => J = I ∧ t = argsT args 0 .nil ∧ B = A) (fun xe _ t' A' => (xe = .normal ∨ xe = .ret) ∧ ∃ vs, resultsA A' t' rs = some vs ∧ resultV vs = v)) :
    Calls P f argsc.toArray W fun e w' => e = .returned v ∧ Below W.heap.size W w' := by
  letI : Kn := knNone
  haveI : KnOk := knNone_ok
  refine calls_of_wp hf hb (wp_mono (h I _ A _ W [] ⟨rfl, rfl, rfl⟩ ⟨σ, args_rel hl hlen, hr, Below.refl _ _, fun b hbo => absurd hbo (hown b)⟩ rfl) fun e a' w' ⟨xe, I', t', A', k1, k2, ⟨k3, vs, k4, k5⟩, σ', s1, s2, s3, s4⟩ => ?_)
  letI : Unk := I'
  haveI : KnOk := knNone_ok
  obtain ⟨v', hrun, hvr⟩ := results_run s1 s2 hc k4
  rw [k5] at hvr
  have e2 : v' = v := flat_same hv hvr
  subst k1
  rcases k3 with rfl | rfl
  · exact ⟨k2, v', hrun, by rw [e2], s3⟩
  · exact ⟨k2, v', hrun, by rw [e2], s3⟩
end
end Go.Ab
namespace Go.Ab
open Go Go.RowKit
def notB : Value → Bool
  | .bool _ => false
  | _ => true
def imgA (f : Nat → Option (Nat × Nat)) : Addr → Addr → Bool
  | ⟨i, o, none⟩, ⟨j, p, none⟩ => (match f i with | some k => Nat.beq k.1 j && Nat.beq (Nat.add k.2 o) p | none => false)
  | _, _ => false
def imgL (g : Value → Value → Bool) : List Value → List Value → Bool
  | [], [] => true
  | a :: l, b :: m => g a b && imgL g l m
  | _, _ => false
/-- The first list may be the shorter one. -/
def imgP (g : Value → Value → Bool) : List Value → List Value → Bool
  | [], _ => true
  | a :: l, b :: m => g a b && imgP g l m
  | _, _ => false
/-- How many elements are surely there behind a slice's beginning, if it is a block of elements of one cell. -/
def roomOf (ty : TypeId) (A : H) (j : Nat) : Nat := match A.get j with
  | some (.cells _ e c) => bif Nat.beq e ty then c.length else 0
  | _ => 0
/-- The new value stands for what the old one stands for: values without parts. -/
def img0 (f : Nat → Option (Nat × Nat)) (room : Nat → Nat) (N m : Nat) : Value → Value → Bool
  | .pointer (some a), .pointer (some b) => imgA f a b
  | .slice (some a) l c, .slice (some b) l' c' => imgA f a b && Nat.beq l l' && (Nat.beq c c' || (Nat.ble c c' && Nat.ble (Nat.add b.off c') (room b.block)))
  | .map (some i), .map (some j) => (match f i with | some k => Nat.beq k.1 j | none => false)
  | .float .f32 0, v => oneCell v && notB v
  | .bool a, .bool b => a == b
  | .int k a, .int k' b => decide (k = k') && a == b
  | .string a, .string b => bytesOf a == bytesOf b
  | .pointer none, .pointer none => true
  | .slice none l c, .slice none l' c' => Nat.beq l l' && Nat.beq c c'
  | .map none, .map none => true
  | .nilFunc, .nilFunc => true
  | .nilIface, .nilIface => true
  | .chan (some i), .chan (some j) => Nat.beq i j
  | .complex .f32 c n, v => (match mkV ⟨symK c, symMul c, symAdd c, (symL c n).map (thC N m)⟩ with | some w => eqw w v | none => false)
  | _, _ => false
def imgS (f : Nat → Option (Nat × Nat)) (room : Nat → Nat) (N m : Nat) (g : Value → Value → Bool) : Value → Value → Bool
  | .iface t v, .iface t' v' => decide (t = t') && g v v'
  | .agg a, .agg b => imgL g a.toList b.toList
  | .tuple a, .tuple b => imgL g a.toList b.toList
  | a, b => img0 f room N m a b
def imgV (f : Nat → Option (Nat × Nat)) (room : Nat → Nat) (N m : Nat) : Value → Value → Bool := imgS f room N m (imgS f room N m (imgS f room N m (imgS f room N m (img0 f room N m))))
/-- The same, of a slot: most are not looked at. -/
def slotV (f : Nat → Option (Nat × Nat)) (room : Nat → Nat) (N m : Nat) (v w : Value) : Bool := match v with
  | .float .f32 0 => oneCell w && notB w
  | .bool a => (match w with
    | .bool b => a == b
    | _ => false)
  | v => imgV f room N m v w
/-- Are two values without addresses the same? -/
def eqT0 : Value → Value → Bool
  | .int k a, w => (match w with
    | .int k' b => decide (k = k') && (match a with
      | .ofNat a => (match b with
        | .ofNat b => Nat.beq a b
        | _ => false)
      | a => a == b)
    | _ => false)
  | .string a, w => (match w with
    | .string b => bytesOf a == bytesOf b
    | _ => false)
  | .bool a, w => (match w with
    | .bool b => a == b
    | _ => false)
  | _, _ => false
def eqTL : List Value → List Value → Bool
  | [], [] => true
  | a :: l, b :: m => eqT0 a b && eqTL l m
  | _, _ => false
def imgE (f : Nat → Option (Nat × Nat)) (room : Nat → Nat) (N m : Nat) : List MapEntry → List MapEntry → Bool
  | [], [] => true
  | a :: l, b :: q => Nat.beq a.born b.born && imgV f room N m a.key b.key && imgV f room N m a.val b.val && imgE f room N m l q
  | _, _ => false
/-- The new block holds what the old one holds from its s-th cell on (ty: a type of one cell). -/
def imgO (ty : TypeId) (f : Nat → Option (Nat × Nat)) (room : Nat → Nat) (N m s : Nat) : AObj → AObj → Bool
  | .cells true e c, .cells true e' c' => decide (e = e') && Nat.beq s 0 && (eqTL c c' || imgP (imgV f room N m) c c')
  | .cells ro e c, .cells ro' e' c' => (ro == ro') && decide (e = e') && (Nat.beq s 0 || (Nat.beq e ty && Nat.ble s c'.length)) && imgP (imgV f room N m) c (c'.drop s)
  | .map es k, .map es' k' => Nat.beq s 0 && Nat.beq k k' && imgE f room N m es es'
  | _, _ => false
section
variable [I : Unk] {σ : Sg} {ty : TypeId} {f : Nat → Option (Nat × Nat)} {room : Nat → Nat} {N m : Nat} {hm : m ≤ 40000}
def turnS (f : Nat → Option (Nat × Nat)) (σ : Sg) : Sg := fun i => (f i).bind fun k => (σ k.1).map fun p => { p with sh := p.sh + k.2 }
/-- Where there is room, an element is a cell, and the cells are there. -/
def RoomOk (σ : Sg) (room : Nat → Nat) : Prop := ∀ j p, σ j = some p → room j ≠ 0 → p.esz = 1 ∧ p.sh + room j ≤ p.tot
theorem one_any {v c : Value} (h : VRel σ v c) (ho : oneCell v = true) : oneCell c = true := by
  cases h with
  | unk i => exact I.one i
  | any v' h hb => exact h
  | agg as as' h1 h2 => cases ho
  | tuple as as' h1 h2 => cases ho
  | _ => rfl
theorem not_b {v c : Value} (h : VRel σ v c) (ho : notB v = true) : ∀ b, c ≠ .bool b := by
  intro b e
  cases h with
  | unk i => exact I.nob i b e
  | any v' h hb => exact hb b e
  | bool b => cases ho
  | _ => cases e
theorem imgA_ok {a b : Addr} (h : imgA f a b = true) : ∃ i j o s, a = ⟨i, o, none⟩ ∧ b = ⟨j, s + o, none⟩ ∧ f i = some (j, s) := by
  obtain ⟨i, o, x⟩ := a
  obtain ⟨j, p, y⟩ := b
  cases x <;> cases y <;> simp only [imgA, Bool.false_eq_true] at h
  cases hf : f i with
  | none => rw [hf] at h; cases h
  | some k =>
    rw [hf] at h
    simp only [Bool.and_eq_true] at h
    have e1 := beq_t h.1
    have e2 := beq_t h.2
    subst e1
    exact ⟨i, _, o, k.2, rfl, by rw [← e2]; rfl, by rw [hf]⟩
theorem turn_some {i j s : Nat} {p : Pl} (hf : f i = some (j, s)) (h : σ j = some p) : turnS f σ i = some { p with sh := p.sh + s } := by
  unfold turnS
  rw [hf]
  simp only [Option.bind_some, h, Option.map_some]
theorem img0_ok (hroom : RoomOk σ room) {v w c : Value} (h : img0 f room N m v w = true) (hr : VRel σ w c) : @VRel (thUnk N m hm) (turnS f σ) v c := by
  unfold img0 at h
  split at h
  · rename_i a b
    obtain ⟨i, j, o, s, rfl, rfl, hf⟩ := imgA_ok h
    cases hr with
    | ptr off hp =>
      rename_i p
      have k := @VRel.ptr (thUnk N m hm) _ _ _ o (turn_some hf hp)
      simp only [Nat.add_assoc] at k ⊢
      exact k
  · rename_i a l c1 b l' c'
    rw [Bool.and_eq_true, Bool.and_eq_true] at h
    obtain ⟨⟨h1, h2⟩, h3⟩ := h
    obtain ⟨i, j, o, s, rfl, rfl, hf⟩ := imgA_ok h1
    have e1 := beq_t h2
    subst e1
    simp only [Bool.or_eq_true, Bool.and_eq_true] at h3
    cases hr with
    | slice off l c2 cc hp hc =>
      rename_i p
      have hcap : c1 = cc ∨ (c1 < cc ∧ (p.sh + s) + o + cc * p.esz ≤ p.tot) := by
        rcases h3 with h3 | ⟨h3, h4⟩
        · have e2 := beq_t h3
          subst e2
          rcases hc with hc | ⟨hc, hb⟩
          · exact .inl hc
          · exact .inr ⟨hc, by omega⟩
        · have e2 := Nat.le_of_ble_eq_true h3
          have e3 : s + o + c' ≤ room j := Nat.le_of_ble_eq_true h4
          rcases hc with rfl | ⟨hc, hb⟩
          · rcases Nat.eq_or_lt_of_le e2 with rfl | hlt
            · exact .inl rfl
            · obtain ⟨q1, q2⟩ := hroom j p hp (by omega)
              exact .inr ⟨hlt, by rw [q1]; omega⟩
          · exact .inr ⟨by omega, by omega⟩
      have k := @VRel.slice (thUnk N m hm) _ _ _ o l c1 cc (turn_some hf hp) hcap
      simp only [Nat.add_assoc] at k ⊢
      exact k
    | sliceEnd off b o hp =>
      have e0 : c1 = 0 := by
        rcases h3 with h3 | ⟨h3, _⟩
        · exact beq_t h3
        · exact Nat.le_zero.1 (Nat.le_of_ble_eq_true h3)
      subst e0
      exact @VRel.sliceEnd (thUnk N m hm) _ _ _ _ _ _ (turn_some hf hp)
  · rename_i i j
    cases hf : f i with
    | none => rw [hf] at h; cases h
    | some k =>
      rw [hf] at h
      have e := beq_t h
      obtain ⟨k1, k2⟩ := k
      simp only at e
      subst e
      cases hr with
      | map hp => rename_i p; exact @VRel.map (thUnk N m hm) _ _ { p with sh := p.sh + k2 } (turn_some hf hp)
  · rw [Bool.and_eq_true] at h
    exact @VRel.any (thUnk N m hm) _ _ (one_any hr h.1) (not_b hr h.2)
  · rename_i a b
    have e : a = b := by simpa using h
    subst e
    cases hr
    exact @VRel.bool (thUnk N m hm) _ _
  · rename_i k a k' b
    simp only [Bool.and_eq_true, decide_eq_true_eq, beq_iff_eq] at h
    obtain ⟨rfl, rfl⟩ := h
    cases hr
    exact @VRel.int (thUnk N m hm) _ _ _
  · rename_i a b
    have e : bytesOf a = bytesOf b := by simpa using h
    have e : a = b := ByteArray.ext (Array.ext' e)
    subst e
    cases hr
    exact @VRel.string (thUnk N m hm) _ _
  · cases hr; exact @VRel.ptrNil (thUnk N m hm) _
  · rename_i l c l' c'
    rw [Bool.and_eq_true] at h
    have e1 := beq_t h.1
    have e2 := beq_t h.2
    subst e1; subst e2
    cases hr; exact @VRel.sliceNil (thUnk N m hm) _ _ _
  · cases hr; exact @VRel.mapNil (thUnk N m hm) _
  · cases hr; exact @VRel.nilFunc (thUnk N m hm) _
  · cases hr; exact @VRel.nilIface (thUnk N m hm) _
  · rename_i i j
    have e := beq_t h
    subst e
    cases hr
    exact @VRel.unk (thUnk N m hm) _ i
  · rename_i cc n
    split at h
    · rename_i u hu
      have e := (eqw_eq h).1
      subst e
      have hs := (mkV_ok (bit := I.bit) hu).1
      have hd : fmDen I.bit ⟨symK cc, symMul cc, symAdd cc, (symL cc n).map (thC N m)⟩ = symMul cc * denL (thBit I.bit N m) (symL cc n) + symAdd cc := by rw [den_th]; rfl
      rw [hd] at hs
      have hc : c = .int (symK cc) (Int.ofNat (symMul cc * denL (thBit I.bit N m) (symL cc n) + symAdd cc)) := by
        rcases hs with rfl | ⟨c2, n2, rfl, e1, e2⟩
        · cases hr; rfl
        · cases hr
          rw [e1, e2]
      rw [hc]
      exact @VRel.sym (thUnk N m hm) _ cc n
    · cases h
  · cases h
theorem imgL_ok {g : Value → Value → Bool} {R : Value → Value → Prop} : ∀ (l l2 : List Value), imgL g l l2 = true → l.length = l2.length ∧ ∀ (i : Nat) v w, l[i]? = some v → l2[i]? = some w → g v w = true
  | [], [], _ => ⟨rfl, fun i v w h => by simp at h⟩
  | a :: l, b :: l2, h => by
    rw [imgL, Bool.and_eq_true] at h
    obtain ⟨k1, k2⟩ := imgL_ok (R := R) l l2 h.2
    refine ⟨by simp [k1], fun i v w hv hw => ?_⟩
    cases i with
    | zero => simp only [List.getElem?_cons_zero, Option.some.injEq] at hv hw; subst hv; subst hw; exact h.1
    | succ i => exact k2 i v w (by simpa using hv) (by simpa using hw)
  | [], _ :: _, h => by cases h
  | _ :: _, [], h => by cases h
theorem imgP_ok {g : Value → Value → Bool} : ∀ (l l2 : List Value), imgP g l l2 = true → l.length ≤ l2.length ∧ ∀ (i : Nat) v w, l[i]? = some v → l2[i]? = some w → g v w = true
  | [], l2, _ => ⟨Nat.zero_le _, fun i v w h => by simp at h⟩
  | a :: l, b :: l2, h => by
    rw [imgP, Bool.and_eq_true] at h
    obtain ⟨k1, k2⟩ := imgP_ok l l2 h.2
    refine ⟨by simp [k1], fun i v w hv hw => ?_⟩
    cases i with
    | zero => simp only [List.getElem?_cons_zero, Option.some.injEq] at hv hw; subst hv; subst hw; exact h.1
    | succ i => exact k2 i v w (by simpa using hv) (by simpa using hw)
  | _ :: _, [], h => by cases h
theorem imgS_ok {g : Value → Value → Bool} (hroom : RoomOk σ room) (hg : ∀ (v w : Value) {c : Value}, g v w = true → VRel σ w c → @VRel (thUnk N m hm) (turnS f σ) v c) (v w : Value) {c : Value} (h : imgS f room N m g v w = true) (hr : VRel σ w c) : @VRel (thUnk N m hm) (turnS f σ) v c := by
  have arr : ∀ (as bs cs : Array Value), imgL g as.toList bs.toList = true → bs.size = cs.size → (∀ (i : Nat) x x', bs.toList[i]? = some x → cs.toList[i]? = some x' → VRel σ x x') →
      as.size = cs.size ∧ ∀ (i : Nat) x x', as.toList[i]? = some x → cs.toList[i]? = some x' → @VRel (thUnk N m hm) (turnS f σ) x x' := by
    intro as bs cs hi h1 h2
    obtain ⟨k1, k2⟩ := imgL_ok (R := fun _ _ => True) _ _ hi
    have k1 : as.size = bs.size := by simpa using k1
    refine ⟨k1.trans h1, fun i x x' hx hx' => ?_⟩
    have hlt : i < bs.toList.length := by have := (List.getElem?_eq_some_iff.1 hx).1; simp at this ⊢; omega
    have hb := List.getElem?_eq_getElem hlt
    exact hg _ _ (k2 i _ _ hx hb) (h2 i _ _ hb hx')
  unfold imgS at h
  split at h
  · rename_i t v1 t' v2
    simp only [Bool.and_eq_true, decide_eq_true_eq] at h
    obtain ⟨rfl, h⟩ := h
    cases hr with
    | iface _ hv => exact @VRel.iface (thUnk N m hm) _ _ _ _ (hg _ _ h hv)
  · rename_i a b
    cases hr with
    | agg _ as' h1 h2 =>
      obtain ⟨q1, q2⟩ := arr a b as' h h1 h2
      exact @VRel.agg (thUnk N m hm) _ _ _ q1 q2
  · rename_i a b
    cases hr with
    | tuple _ as' h1 h2 =>
      obtain ⟨q1, q2⟩ := arr a b as' h h1 h2
      exact @VRel.tuple (thUnk N m hm) _ _ _ q1 q2
  · exact img0_ok hroom h hr
theorem imgV_ok (hroom : RoomOk σ room) (v w : Value) {c : Value} (h : imgV f room N m v w = true) (hr : VRel σ w c) : @VRel (thUnk N m hm) (turnS f σ) v c :=
  imgS_ok hroom (fun v w _ h => imgS_ok hroom (fun v w _ h => imgS_ok hroom (fun v w _ h => imgS_ok hroom (fun v w _ h => img0_ok hroom h) v w h) v w h) v w h) v w h hr
omit I in
theorem slotV_img {v w : Value} (h : slotV f room N m v w = true) : imgV f room N m v w = true := by
  unfold slotV at h
  split at h
  · exact h
  · split at h
    · exact h
    · cases h
  · exact h
theorem eqT0_eq {a b : Value} (h : eqT0 a b = true) : a = b := by
  unfold eqT0 at h
  split at h
  · split at h
    · rw [Bool.and_eq_true] at h
      obtain ⟨h1, h2⟩ := h
      have h1 := of_decide_eq_true h1
      subst h1
      split at h2
      · split at h2
        · rw [beq_t h2]
        · cases h2
      · have := eq_of_beq h2
        rw [this]
    · cases h
  · split at h
    · have h := eq_of_beq h
      have h : (_ : ByteArray) = _ := ByteArray.ext (Array.ext' h)
      rw [h]
    · cases h
  · split at h
    · have h := eq_of_beq h
      rw [h]
    · cases h
  · cases h
theorem eqT0_rel {a b c : Value} (h : eqT0 a b = true) (hr : VRel σ b c) : @VRel (thUnk N m hm) (turnS f σ) a c := by
  have e := eqT0_eq h
  subst e
  unfold eqT0 at h
  split at h
  · cases hr; exact @VRel.int (thUnk N m hm) _ _ _
  · cases hr; exact @VRel.string (thUnk N m hm) _ _
  · cases hr; exact @VRel.bool (thUnk N m hm) _ _
  · cases h
theorem eqTL_ok : ∀ (l l2 : List Value), eqTL l l2 = true → l.length = l2.length ∧ ∀ (i : Nat) v w, l[i]? = some v → l2[i]? = some w → eqT0 v w = true
  | [], [], _ => ⟨rfl, fun i v w h => by simp at h⟩
  | a :: l, b :: l2, h => by
    rw [eqTL, Bool.and_eq_true] at h
    obtain ⟨k1, k2⟩ := eqTL_ok l l2 h.2
    refine ⟨by simp [k1], fun i v w hv hw => ?_⟩
    cases i with
    | zero => simp only [List.getElem?_cons_zero, Option.some.injEq] at hv hw; subst hv; subst hw; exact h.1
    | succ i => exact k2 i v w (by simpa using hv) (by simpa using hw)
  | [], _ :: _, h => by cases h
  | _ :: _, [], h => by cases h
theorem imgE_ok (hroom : RoomOk σ room) : ∀ (l q : List MapEntry) {es' : List MapEntry}, imgE f room N m l q = true → ERel σ q es' → @ERel (thUnk N m hm) (turnS f σ) l es'
  | [], [], es', _, hr => @ERel.mk (thUnk N m hm) _ _ _ hr.len (fun i e e' h => by simp at h)
  | a :: l, b :: q, es', h, hr => by
    rw [imgE, Bool.and_eq_true, Bool.and_eq_true, Bool.and_eq_true] at h
    obtain ⟨⟨⟨h1, h2⟩, h3⟩, h4⟩ := h
    cases es' with
    | nil => have := hr.len; simp at this
    | cons e' es' =>
      obtain ⟨b1, b2, b3⟩ := hr.get 0 b e' rfl rfl
      have ih := imgE_ok hroom l q (es' := es') h4 ⟨by have := hr.len; simpa using this, fun i x x' hx hx' => hr.get (i + 1) x x' (by simpa using hx) (by simpa using hx')⟩
      refine @ERel.mk (thUnk N m hm) _ _ _ (by have := @ERel.len (thUnk N m hm) _ _ _ ih; simp [this]) (fun i x x' hx hx' => ?_)
      cases i with
      | zero =>
        simp only [List.getElem?_cons_zero, Option.some.injEq] at hx hx'
        subst hx; subst hx'
        exact ⟨(beq_t h1).trans b1, imgV_ok hroom _ _ h2 b2, imgV_ok hroom _ _ h3 b3⟩
      | succ i => exact @ERel.get (thUnk N m hm) _ _ _ ih i x x' (by simpa using hx) (by simpa using hx')
  | [], _ :: _, es', h, _ => by cases h
  | _ :: _, [], es', h, _ => by cases h
theorem imgO_own {s : Nat} {o o2 : AObj} (h : imgO ty f room N m s o o2 = true) : o.own = o2.own := by
  unfold imgO at h
  split at h
  · rfl
  · rename_i ro e c ro' e' c' _
    rw [Bool.and_eq_true, Bool.and_eq_true, Bool.and_eq_true] at h
    have : ro = ro' := by simpa using h.1.1.1
    subst this
    cases ro <;> rfl
  · rfl
  · cases h
theorem imgO_ok {P : Program} (hty : (P.info? ty).map (·.size) = some 1) (hroom : RoomOk σ room) {w : World} {p : Pl} {s : Nat} {o o2 : AObj} (h : imgO ty f room N m s o o2 = true) (hr : ORel P σ w p o2) : @ORel (thUnk N m hm) P (turnS f σ) w { p with sh := p.sh + s } o := by
  unfold imgO at h
  split at h
  · rename_i e c e' c'
    rw [Bool.and_eq_true, Bool.and_eq_true, Bool.or_eq_true] at h
    obtain ⟨⟨h1, h2⟩, h3⟩ := h
    have e1 := of_decide_eq_true h1
    have e2 := beq_t h2
    subst e1; subst e2
    obtain ⟨cur, e', fz, q1, q2, q3, q4, q5, q6⟩ := hr
    rcases h3 with h3 | h3
    · obtain ⟨k1, k2⟩ := eqTL_ok _ _ h3
      refine ⟨cur, e', fz, q1, by show p.sh + 0 + c.length ≤ cur.size; omega, fun i v v' hv hv' => ?_, q4, q5, fun h => by cases h⟩
      have hlt : i < c'.length := by have := (List.getElem?_eq_some_iff.1 hv).1; omega
      have hb := List.getElem?_eq_getElem hlt
      exact eqT0_rel (k2 i _ _ hv hb) (q3 i _ _ hb hv')
    · obtain ⟨k1, k2⟩ := imgP_ok _ _ h3
      refine ⟨cur, e', fz, q1, by show p.sh + 0 + c.length ≤ cur.size; omega, fun i v v' hv hv' => ?_, q4, q5, fun h => by cases h⟩
      have hlt : i < c'.length := by have := (List.getElem?_eq_some_iff.1 hv).1; omega
      have hb := List.getElem?_eq_getElem hlt
      exact imgV_ok hroom _ _ (k2 i _ _ hv hb) (q3 i _ _ hb hv')
  · rename_i ro e c ro' e' c' _
    rw [Bool.and_eq_true, Bool.and_eq_true, Bool.and_eq_true] at h
    obtain ⟨⟨⟨h1, h2⟩, h4⟩, h3⟩ := h
    have e1 : ro = ro' := by simpa using h1
    have e2 : e = e' := of_decide_eq_true h2
    subst e1; subst e2
    obtain ⟨k1, k2⟩ := imgP_ok _ _ h3
    rw [List.length_drop] at k1
    obtain ⟨cur, e', fz, q1, q2, q3, q4, q5, q6⟩ := hr
    have hs : s ≤ c'.length := by
      simp only [Bool.or_eq_true, Bool.and_eq_true] at h4
      rcases h4 with h4 | ⟨_, h4⟩
      · have := beq_t h4; omega
      · exact Nat.le_of_ble_eq_true h4
    refine ⟨cur, e', fz, q1, ?_, fun i v v' hv hv' => ?_, q4, q5, fun hro => ?_⟩
    · show p.sh + s + c.length ≤ cur.size
      omega
    · have hlt : i < c.length := (List.getElem?_eq_some_iff.1 hv).1
      have hlt2 : s + i < c'.length := by omega
      have hb := List.getElem?_eq_getElem hlt2
      have hd : (c'.drop s)[i]? = some c'[s + i] := by rw [List.getElem?_drop]; exact hb
      exact imgV_ok hroom _ _ (k2 i _ _ hv hd) (q3 (s + i) _ _ hb (by rw [← Nat.add_assoc]; exact hv'))
    · obtain ⟨r1, r2, r3⟩ := q6 hro
      refine ⟨r1, r2, ?_⟩
      simp only [Bool.or_eq_true, Bool.and_eq_true] at h4
      rcases h4 with h4 | ⟨h4, _⟩
      · have := beq_t h4
        subst this
        exact r3
      · have := beq_t h4
        subst this
        rw [hty] at q4
        have e1 : p.esz = 1 := (Option.some.inj q4).symm
        show (p.sh + s) % p.esz = 0
        rw [e1]
        omega
  · rename_i es k es' k'
    rw [Bool.and_eq_true, Bool.and_eq_true] at h
    have e1 := beq_t h.1.2
    subst e1
    obtain ⟨es2, q1, q2⟩ := hr
    exact ⟨es2, q1, imgE_ok hroom _ _ h.2 q2⟩
  · cases h
end
theorem room_ok {P : Program} {σ : Sg} {A : H} {w : World} [I : Unk] (hr : Rel P σ A w) {ty : TypeId} (hty : (P.info? ty).map (·.size) = some 1) : RoomOk σ (roomOf ty A) := by
  intro j p hp hne
  unfold roomOf at hne ⊢
  cases ho : A.get j with
  | none => rw [ho] at hne; exact absurd rfl hne
  | some o =>
    rw [ho] at hne
    cases o with
    | cells ro e c =>
      simp only at hne ⊢
      cases hb : Nat.beq e ty with
      | false => rw [hb] at hne; exact absurd rfl hne
      | true =>
        have := beq_t hb
        subst this
        obtain ⟨cur, e', fz, q1, q2, q3, q4, q5, q6⟩ := hr.obj j _ p ho hp
        rw [hty] at q4
        exact ⟨(Option.some.inj q4).symm, by rw [q5]; exact q2⟩
    | map es k => exact absurd rfl hne
    | iter s pos => exact absurd rfl hne
theorem Sits.turn {P : Program} {W0 : World} {nt : Nat} {I : Unk} {t : Tm} {A : H} {a : Act} {w : World} (hs : Sits P W0 nt I t A a w) {ty : TypeId} (hty : (P.info? ty).map (·.size) = some 1) {f : Nat → Option (Nat × Nat)} {N m : Nat} (hm : m ≤ 40000) {t' : Tm} {A' : H}
    (hg : ∀ g, g < P.globals.size → f g = some (g, 0)) (hnext : ∀ i, A'.next ≤ i → f i = none ∧ A'.get i = none)
    (hobj : ∀ i o, A'.get i = some o → ∃ j s o2, f i = some (j, s) ∧ A.get j = some o2 ∧ imgO ty f (roomOf ty A) N m s o o2 = true)
    (hinj : ∀ i j k s s' o o', A'.get i = some o → A'.get j = some o' → f i = some (k, s) → f j = some (k, s') → i = j)
    (ht : ∀ i, i < nt → imgV f (roomOf ty A) N m (val t' (.tmp i)) (val t (.tmp i)) = true) : Sits P W0 nt (@thUnk I N m hm) t' A' a w := by
  obtain ⟨σ, s1, s2, s3, s4⟩ := hs
  have hroom : RoomOk σ (roomOf ty A) := @room_ok P σ A w I s2 ty hty
  have hget : ∀ {i j s : Nat} {p : Pl}, f i = some (j, s) → turnS f σ i = some p → ∃ q, σ j = some q ∧ p = { q with sh := q.sh + s } := by
    intro i j s p hf hp
    unfold turnS at hp
    rw [hf] at hp
    simp only [Option.bind_some, Option.map_eq_some_iff] at hp
    obtain ⟨q, h1, h2⟩ := hp
    exact ⟨q, h1, h2.symm⟩
  refine ⟨turnS f σ, @TRel.mk (@thUnk I N m hm) _ _ _ _ (@TRel.size I _ _ _ _ s1) (fun i hi => ?_), ?_, s3, fun b hb => ?_⟩
  · exact @imgV_ok I σ f (roomOf ty A) N m hm hroom _ _ _ (ht i hi) (@TRel.rel I _ _ _ _ s1 i hi)
  · refine @Rel.mk (@thUnk I N m hm) P _ _ _ (fun g hlt => ?_) (fun id o p ho hp => ?_) (fun i j p q o o' hij ho ho' hp hq hown => ?_) (fun id p hp => ?_) (fun id hid => ?_)
    · obtain ⟨p, h1, h2, h3⟩ := @Rel.glob I P σ A w s2 g hlt
      exact ⟨{ p with sh := p.sh + 0 }, turn_some (hg g hlt) h1, h2, h3⟩
    · obtain ⟨j, s, o2, h1, h2, h3⟩ := hobj id o ho
      obtain ⟨q, hq, rfl⟩ := hget h1 hp
      exact @imgO_ok I σ ty f (roomOf ty A) N m hm P hty hroom w q s o o2 h3 (@Rel.obj I P σ A w s2 j o2 q h2 hq)
    · obtain ⟨i2, s2', o2, h1, h2, h3⟩ := hobj i o ho
      obtain ⟨j2, s3', o3, h4, h5, h6⟩ := hobj j o' ho'
      obtain ⟨p2, hp2, rfl⟩ := hget h1 hp
      obtain ⟨q2, hq2, rfl⟩ := hget h4 hq
      have hne : i2 ≠ j2 := fun e => hij (hinj i j i2 s2' s3' o o' ho ho' h1 (by rw [h4, e]))
      exact @Rel.inj I P σ A w s2 i2 j2 p2 q2 o2 o3 hne h2 h5 hp2 hq2 (by rw [← imgO_own h3]; exact hown)
    · cases hf : f id with
      | none => unfold turnS at hp; rw [hf] at hp; cases hp
      | some k =>
        obtain ⟨q, hq, rfl⟩ := hget (s := k.2) (j := k.1) (by rw [hf]) hp
        exact @Rel.lt I P σ A w s2 k.1 q hq
    · obtain ⟨h1, h2⟩ := hnext id hid
      exact ⟨h2, by unfold turnS; rw [h1]; rfl⟩
  · obtain ⟨id, p, o, h1, h2, h3, h4⟩ := hb
    obtain ⟨j, s, o2, k1, k2, k3⟩ := hobj id o h3
    obtain ⟨q, hq, rfl⟩ := hget k1 h1
    exact s4 b ⟨j, q, o2, hq, h2, k2, by rw [← imgO_own k3]; exact h4⟩
end Go.Ab
namespace Go.Ab
open Go Go.RowKit
/-- A state: its temporaries, its blocks, and the next block's number. -/
structure LS where
  ts : List Value
  hs : List (Nat × AObj)
  next : Nat
def putH : List (Nat × AObj) → Tr AObj
  | [] => .nil
  | p :: l => (putH l).put p.1 (some p.2)
def LS.H (S : LS) : H := ⟨putH S.hs, S.next⟩
def LS.t (S : LS) : Tm := argsT S.ts 0 .nil
/-- New block, old block, from which cell on. -/
abbrev FL := List (Nat × Nat × Nat)
def lookF : FL → Nat → Option (Nat × Nat)
  | [], _ => none
  | p :: l, i => bif Nat.beq p.1 i then some p.2 else lookF l i
def mapF (g : Nat) (l : FL) (i : Nat) : Option (Nat × Nat) := bif Nat.blt i g then some (i, 0) else lookF l i
def hasN (k : Nat) : FL → Bool
  | [] => false
  | p :: l => Nat.beq p.2.1 k || hasN k l
def soundF (g next : Nat) : FL → Bool
  | [] => true
  | p :: l => Nat.ble g p.1 && Nat.blt p.1 next && Nat.ble g p.2.1 && !hasN p.2.1 l && soundF g next l
noncomputable def fitsT (ho : Nat → Bool) (f : Nat → Option (Nat × Nat)) (room : Nat → Nat) (N m : Nat) : Nat → List Value → TK → Bool
  | _, [], _ => true
  | i, v :: l, T => (ho i || slotV f room N m v (rdT i T)) && fitsT ho f room N m (i + 1) l T
def fitsH (ty : TypeId) (f : Nat → Option (Nat × Nat)) (room : Nat → Nat) (N m next : Nat) (A : H) : List (Nat × AObj) → Bool
  | [] => true
  | p :: l => Nat.blt p.1 next && (match f p.1 with
    | some j => match A.get j.1 with
      | some o => imgO ty f room N m j.2 p.2 o
      | none => false
    | none => false) && fitsH ty f room N m next A l
noncomputable def fits (ty : TypeId) (ho : Nat → Bool) (g nt : Nat) (S : LS) (l : FL) (N m : Nat) (T : TK) (A : H) : Bool :=
  Nat.ble g S.next && Nat.ble m 40000 && Nat.beq S.ts.length nt && soundF g S.next l && fitsT ho (mapF g l) (roomOf ty A) N m 0 S.ts T && fitsH ty (mapF g l) (roomOf ty A) N m S.next A S.hs
theorem putH_get : ∀ (l : List (Nat × AObj)) (i : Nat) (o : AObj), (putH l).get i = some o → (i, o) ∈ l
  | [], i, o, h => by cases h
  | p :: l, i, o, h => by
    rw [putH, Tr.get_put] at h
    split at h
    · rename_i e
      cases h
      subst e
      exact .head _
    · exact .tail _ (putH_get l i o h)
theorem lookF_mem : ∀ (l : FL) (i : Nat) (j : Nat × Nat), lookF l i = some j → (i, j) ∈ l
  | [], i, j, h => by cases h
  | p :: l, i, j, h => by
    rw [lookF] at h
    cases hb : Nat.beq p.1 i with
    | true =>
      rw [hb] at h
      cases h
      have e := beq_t hb
      subst e
      exact .head _
    | false => rw [hb] at h; exact .tail _ (lookF_mem l i j h)
theorem hasN_mem : ∀ (l : FL) (i k s : Nat), (i, k, s) ∈ l → hasN k l = true
  | p :: l, i, k, s, h => by
    rw [hasN]
    cases h with
    | head => simp
    | tail _ h => rw [hasN_mem l i k s h]; simp
theorem soundF_mem : ∀ (l : FL) {g next : Nat}, soundF g next l = true → ∀ i k s, (i, k, s) ∈ l → g ≤ i ∧ i < next ∧ g ≤ k
  | p :: l, g, next, h, i, k, s, hm => by
    rw [soundF] at h
    simp only [Bool.and_eq_true] at h
    obtain ⟨⟨⟨⟨h1, h2⟩, h3⟩, h4⟩, h5⟩ := h
    cases hm with
    | head => exact ⟨Nat.le_of_ble_eq_true h1, blt_t h2, Nat.le_of_ble_eq_true h3⟩
    | tail _ hm => exact soundF_mem l h5 i k s hm
theorem soundF_inj : ∀ (l : FL) {g next : Nat}, soundF g next l = true → ∀ i j k s s', (i, k, s) ∈ l → (j, k, s') ∈ l → i = j
  | p :: l, g, next, h, i, j, k, s, s', hi, hj => by
    rw [soundF] at h
    simp only [Bool.and_eq_true, Bool.not_eq_true'] at h
    obtain ⟨⟨⟨⟨h1, h2⟩, h3⟩, h4⟩, h5⟩ := h
    cases hi with
    | head =>
      cases hj with
      | head => rfl
      | tail _ hj => rw [hasN_mem l j _ s' hj] at h4; cases h4
    | tail _ hi =>
      cases hj with
      | head => rw [hasN_mem l i _ s hi] at h4; cases h4
      | tail _ hj => exact soundF_inj l h5 i j k s s' hi hj
theorem fitsT_get {ho : Nat → Bool} {f : Nat → Option (Nat × Nat)} {room : Nat → Nat} {N m : Nat} {T : TK} : ∀ (l : List Value) (i : Nat), fitsT ho f room N m i l T = true → ∀ j v, l[j]? = some v → ho (i + j) = true ∨ imgV f room N m v (rdT (i + j) T) = true
  | [], i, h, j, v, hj => by simp at hj
  | x :: l, i, h, j, v, hj => by
    rw [fitsT, Bool.and_eq_true] at h
    cases j with
    | zero => simp only [List.getElem?_cons_zero, Option.some.injEq] at hj; subst hj; exact ((Bool.or_eq_true _ _).mp h.1).imp id slotV_img
    | succ j =>
      have := fitsT_get l (i + 1) h.2 j v (by simpa using hj)
      rwa [show i + 1 + j = i + (j + 1) by omega] at this
theorem fitsH_get {ty : TypeId} {f : Nat → Option (Nat × Nat)} {room : Nat → Nat} {N m next : Nat} {A : H} : ∀ (l : List (Nat × AObj)), fitsH ty f room N m next A l = true → ∀ i o, (i, o) ∈ l → i < next ∧ ∃ j s o2, f i = some (j, s) ∧ A.get j = some o2 ∧ imgO ty f room N m s o o2 = true
  | p :: l, h, i, o, hm => by
    rw [fitsH, Bool.and_eq_true, Bool.and_eq_true] at h
    obtain ⟨⟨h1, h2⟩, h3⟩ := h
    cases hm with
    | head =>
      refine ⟨blt_t h1, ?_⟩
      cases hf : f i with
      | none => rw [hf] at h2; cases h2
      | some j =>
        rw [hf] at h2
        simp only at h2
        cases hg : A.get j.1 with
        | none => rw [hg] at h2; cases h2
        | some o2 => rw [hg] at h2; exact ⟨j.1, j.2, o2, rfl, hg, h2⟩
    | tail _ hm => exact fitsH_get l h3 i o hm
/-- Where a state fits, it stands. -/
theorem fits_ok {P : Program} {W0 : World} {nt g : Nat} (hgl : P.globals.size ≤ g) {ty : TypeId} (hty : (P.info? ty).map (·.size) = some 1) {I : Unk} {t : Tm} {A : H} {a : Act} {w : World} (hs : Sits P W0 nt I t A a w) {T : TK} (hT : TR T t) {S : LS} {l : FL} {N m : Nat} {ho : Nat → Bool} (hho : ∀ i v, ho i = true → S.ts[i]? = some v → imgV (mapF g l) (roomOf ty A) N m v (val t (.tmp i)) = true) (h : fits ty ho g nt S l N m T A = true) :
    ∃ hm : m ≤ 40000, Sits P W0 nt (@thUnk I N m hm) S.t S.H a w := by
  unfold fits at h
  simp only [Bool.and_eq_true] at h
  obtain ⟨⟨⟨⟨⟨h1, h2⟩, h3⟩, h4⟩, h5⟩, h6⟩ := h
  have h1 : g ≤ S.next := Nat.le_of_ble_eq_true h1
  have hm : m ≤ 40000 := Nat.le_of_ble_eq_true h2
  have h3 := beq_t h3
  refine ⟨hm, hs.turn hty hm (f := mapF g l) (fun i hi => ?_) (fun i hi => ?_) (fun i o ho => ?_) (fun i j k s s' o o' ho ho' hi hj => ?_) (fun i hi => ?_)⟩
  · unfold mapF
    rw [show Nat.blt i g = true from Nat.ble_eq_true_of_le (by omega)]
    rfl
  · constructor
    · unfold mapF
      rw [show Nat.blt i g = false from by rw [Bool.eq_false_iff]; intro e; have := blt_t e; have : S.next ≤ i := hi; omega]
      rw [cond_false]
      cases hl : lookF l i with
      | none => rfl
      | some k =>
        have := (soundF_mem l h4 i k.1 k.2 (lookF_mem l i k hl)).2.1
        have : S.next ≤ i := hi
        omega
    · cases ho : S.H.get i with
      | none => rfl
      | some o =>
        have := (fitsH_get S.hs h6 i o (putH_get _ _ _ ho)).1
        have : S.next ≤ i := hi
        omega
  · exact (fitsH_get S.hs h6 i o (putH_get _ _ _ ho)).2
  · unfold mapF at hi hj
    have cs : ∀ i s, (bif Nat.blt i g then some (i, 0) else lookF l i) = some (k, s) → (i < g ∧ i = k) ∨ (i, k, s) ∈ l := by
      intro i s h
      cases hb : Nat.blt i g with
      | true => rw [hb] at h; cases h; exact .inl ⟨blt_t hb, rfl⟩
      | false => rw [hb] at h; exact .inr (lookF_mem l i _ h)
    rcases cs i s hi with ⟨c1, rfl⟩ | c1
    · rcases cs j s' hj with ⟨c2, rfl⟩ | c2
      · rfl
      · have := (soundF_mem l h4 _ _ _ c2).2.2; omega
    · rcases cs j s' hj with ⟨c2, rfl⟩ | c2
      · have := (soundF_mem l h4 _ _ _ c1).2.2; omega
      · exact soundF_inj l h4 i j k s s' c1 c2
  · have hlt : i < S.ts.length := by omega
    have hg := fitsT_get S.ts 0 h5 i _ (List.getElem?_eq_getElem hlt)
    rw [Nat.zero_add] at hg
    unfold LS.t
    rw [@args_get I knNone knNone_ok, if_pos ⟨Nat.zero_le _, by omega⟩, Nat.sub_zero, List.getElem?_eq_getElem hlt]
    rcases hg with hg | hg
    · exact hho i _ hg (List.getElem?_eq_getElem hlt)
    · rw [hT i]; exact hg
end Go.Ab
namespace Go.Ab
open Go Go.RowKit
def sub0 (tr : Tr Nat) : Value → Value
  | .complex .f32 c n => (mkV ⟨symK c, symMul c, symAdd c, (symL c n).map (substC tr)⟩).getD (.complex .f32 c n)
  | v => v
def subS (tr : Tr Nat) (g : Value → Value) : Value → Value
  | .iface t v => .iface t (g v)
  | .agg as => .agg ⟨as.toList.map g⟩
  | .tuple as => .tuple ⟨as.toList.map g⟩
  | .complex .f32 c n => (mkV ⟨symK c, symMul c, symAdd c, (symL c n).map (substC tr)⟩).getD (.complex .f32 c n)
  | v => v
def subV (tr : Tr Nat) : Value → Value := subS tr (subS tr (sub0 tr))
def subE (tr : Tr Nat) (e : MapEntry) : MapEntry := { e with key := subV tr e.key, val := subV tr e.val }
/-- Tables bear no such numbers. -/
def subO (tr : Tr Nat) : AObj → AObj
  | .cells true e c => .cells true e c
  | .cells false e c => .cells false e (c.map (subV tr))
  | .map es k => .map (es.map (subE tr)) k
  | .iter s p => .iter s p
def LS.sub (tr : Tr Nat) (S : LS) : LS := ⟨S.ts.map (subV tr), S.hs.map fun p => (p.1, subO tr p.2), S.next⟩
section
variable [I : Unk] {σ : Sg} {D : PairL} (hd : HoldsD I.bit D)
include hd
theorem sub1_ok {c n : Nat} {v' : Value} (h : VRel σ (.complex .f32 c n) v') : VRel σ ((mkV ⟨symK c, symMul c, symAdd c, (symL c n).map (substC (subT D))⟩).getD (.complex .f32 c n)) v' := by
  cases hu : mkV ⟨symK c, symMul c, symAdd c, (symL c n).map (substC (subT D))⟩ with
  | none => exact h
  | some u =>
    have hs := (mkV_ok (bit := I.bit) hu).1
    have hde : fmDen I.bit ⟨symK c, symMul c, symAdd c, (symL c n).map (substC (subT D))⟩ = symMul c * denL I.bit (symL c n) + symAdd c := by
      show symMul c * denL I.bit ((symL c n).map (substC (subT D))) + symAdd c = _
      rw [den_subst hd]
    rw [hde] at hs
    cases h
    rw [Option.getD_some]
    rcases hs with rfl | ⟨c2, n2, rfl, e1, e2⟩
    · exact .int _ _
    · have h2 := VRel.sym (σ := σ) c2 n2
      rw [e1, ← e2] at h2
      exact h2
theorem sub0_ok {v v' : Value} (h : VRel σ v v') : VRel σ (sub0 (subT D) v) v' := by
  unfold sub0
  split
  · exact sub1_ok hd h
  · exact h
theorem subS_ok {g : Value → Value} (hg : ∀ {v v' : Value}, VRel σ v v' → VRel σ (g v) v') {v v' : Value} (h : VRel σ v v') : VRel σ (subS (subT D) g v) v' := by
  have arr : ∀ (as cs : Array Value), as.size = cs.size → (∀ (i : Nat) x x', as.toList[i]? = some x → cs.toList[i]? = some x' → VRel σ x x') →
      (⟨as.toList.map g⟩ : Array Value).size = cs.size ∧ ∀ (i : Nat) x x', (⟨as.toList.map g⟩ : Array Value).toList[i]? = some x → cs.toList[i]? = some x' → VRel σ x x' := by
    intro as cs h1 h2
    refine ⟨by simpa using h1, fun i x x' hx hx' => ?_⟩
    simp only [List.getElem?_map, Option.map_eq_some_iff] at hx
    obtain ⟨y, hy, rfl⟩ := hx
    exact hg (h2 i y x' hy hx')
  unfold subS
  split
  · cases h with
    | iface _ hv => exact .iface _ (hg hv)
  · cases h with
    | agg _ cs h1 h2 =>
      obtain ⟨q1, q2⟩ := arr _ cs h1 h2
      exact .agg _ _ q1 q2
  · cases h with
    | tuple _ cs h1 h2 =>
      obtain ⟨q1, q2⟩ := arr _ cs h1 h2
      exact .tuple _ _ q1 q2
  · exact sub1_ok hd h
  · exact h
theorem subV_ok {v v' : Value} (h : VRel σ v v') : VRel σ (subV (subT D) v) v' := subS_ok hd (fun h => subS_ok hd (fun h => sub0_ok hd h) h) h
theorem subO_ok {P : Program} {w : World} {p : Pl} {o : AObj} (h : ORel P σ w p o) : ORel P σ w p (subO (subT D) o) := by
  cases o with
  | cells ro e c =>
    cases ro with
    | true => exact h
    | false =>
    obtain ⟨cur, e', fz, q1, q2, q3, q4, q5, q6⟩ := h
    refine ⟨cur, e', fz, q1, by simpa using q2, fun i v v' hv hv' => ?_, q4, q5, q6⟩
    simp only [List.getElem?_map, Option.map_eq_some_iff] at hv
    obtain ⟨y, hy, rfl⟩ := hv
    exact subV_ok hd (q3 i y v' hy hv')
  | map es k =>
    obtain ⟨es', q1, q2⟩ := h
    refine ⟨es', q1, by simpa using q2.len, fun i e e' he he' => ?_⟩
    simp only [List.getElem?_map, Option.map_eq_some_iff] at he
    obtain ⟨y, hy, rfl⟩ := he
    obtain ⟨b1, b2, b3⟩ := q2.get i y e' hy he'
    exact ⟨b1, subV_ok hd b2, subV_ok hd b3⟩
  | iter s pos => exact h
omit hd in
theorem putH_map (g : AObj → AObj) : ∀ (l : List (Nat × AObj)) (i : Nat), (putH (l.map fun p => (p.1, g p.2))).get i = ((putH l).get i).map g
  | [], i => rfl
  | p :: l, i => by
    rw [List.map_cons, putH, putH, Tr.get_put, Tr.get_put]
    split
    · rfl
    · exact putH_map g l i
omit hd in
theorem subO_own (tr : Tr Nat) (o : AObj) : (subO tr o).own = o.own := by
  cases o with
  | cells ro e c => cases ro <;> rfl
  | _ => rfl
end
theorem Sits.sub {P : Program} {W0 : World} {nt : Nat} {I : Unk} {S : LS} {a : Act} {w : World} {D : PairL} (hd : HoldsD I.bit D) (hs : Sits P W0 nt I S.t S.H a w) : Sits P W0 nt I (S.sub (subT D)).t (S.sub (subT D)).H a w := by
  obtain ⟨σ, s1, s2, s3, s4⟩ := hs
  have hget : ∀ i, (S.sub (subT D)).H.get i = (S.H.get i).map (subO (subT D)) := fun i => putH_map (subO (subT D)) S.hs i
  refine ⟨σ, @TRel.mk I _ _ _ _ (@TRel.size I _ _ _ _ s1) (fun i hi => ?_), ?_, s3, fun b hb => ?_⟩
  · have h := @TRel.rel I _ _ _ _ s1 i hi
    unfold LS.t at h ⊢
    rw [@args_get I knNone knNone_ok] at h ⊢
    simp only [LS.sub, List.length_map, List.getElem?_map]
    split at h
    · rename_i hlt
      rw [if_pos hlt]
      cases hx : S.ts[i - 0]? with
      | none => rw [hx] at h; exact h
      | some x => rw [hx] at h; exact subV_ok hd h
    · rename_i hlt
      rw [if_neg hlt]
      exact h
  · refine @Rel.mk I P _ _ _ (@Rel.glob I P σ _ w s2) (fun id o p ho hp => ?_) (fun i j p q o o' hij ho ho' hp hq hown => ?_) (@Rel.lt I P σ _ w s2) (fun id hid => ?_)
    · rw [hget, Option.map_eq_some_iff] at ho
      obtain ⟨o0, h0, rfl⟩ := ho
      exact subO_ok hd (@Rel.obj I P σ _ w s2 id o0 p h0 hp)
    · rw [hget, Option.map_eq_some_iff] at ho ho'
      obtain ⟨o0, h0, rfl⟩ := ho
      obtain ⟨o1, h1, rfl⟩ := ho'
      exact @Rel.inj I P σ _ w s2 i j p q o0 o1 hij h0 h1 hp hq (by rwa [subO_own] at hown)
    · obtain ⟨h1, h2⟩ := @Rel.dom I P σ _ w s2 id hid
      exact ⟨by rw [hget, h1]; rfl, h2⟩
  · obtain ⟨id, p, o, h1, h2, h3, h4⟩ := hb
    rw [hget, Option.map_eq_some_iff] at h3
    obtain ⟨o0, h0, rfl⟩ := h3
    exact s4 b ⟨id, p, o0, h1, h2, h0, by rwa [subO_own] at h4⟩
end Go.Ab
namespace Go.Ab
open Go Go.RowKit
def notD (d : Nat) (o : XOper) : Bool := match o.dst with
  | some i => !Nat.beq i d
  | none => true
def noDst (d : Nat) : XCode → Bool
  | .ops l => l.all (notD d)
  | .draw l => l.all fun p => notD d p.1
  | .seq a b => noDst d a && noDst d b
  | .cond _ a b => noDst d a && noDst d b
  | .block _ b => noDst d b
  | .loop b => noDst d b
  | _ => true
section
variable [Unk] [Kn] [KnOk] {call : Caller} {d : Nat}
theorem set_keep {o : XOper} (h : notD d o = true) (t : Tm) (v : Value) : val (setT t o.dst v) (.tmp d) = val t (.tmp d) := by
  unfold notD at h
  rw [val_setT]
  cases hd : o.dst with
  | none => simp
  | some i =>
    rw [hd] at h
    have : ¬ i = d := by
      intro e; subst e; simp at h
    rw [if_neg (by simpa using this)]
theorem one_keep {o : XOper} (h : notD d o = true) {t t' : Tm} {A A' : H} (he : evalOne call o t A = some (t', A')) : val t' (.tmp d) = val t (.tmp d) := by
  unfold evalOne at he
  cases hw : wantedA t o.guard with
  | true =>
    rw [hw, cond_true] at he
    split at he
    · simp only [Option.some.injEq, Prod.mk.injEq] at he
      obtain ⟨rfl, rfl⟩ := he
      exact set_keep h _ _
    · cases he
  | false =>
    rw [hw, cond_false] at he
    simp only [Option.some.injEq, Prod.mk.injEq] at he
    obtain ⟨rfl, rfl⟩ := he
    exact set_keep h _ _
theorem ops_keep : ∀ (l : List XOper) {t t' : Tm} {A A' : H}, l.all (notD d) = true → evalOps call l t A = some (t', A') → val t' (.tmp d) = val t (.tmp d)
  | [], t, t', A, A', _, he => by
    simp only [evalOps, Option.some.injEq, Prod.mk.injEq] at he
    rw [he.1]
  | o :: l, t, t', A, A', h, he => by
    rw [List.all_cons, Bool.and_eq_true] at h
    rw [evalOps] at he
    split at he
    · rename_i t1 A1 h1
      rw [ops_keep l h.2 he, one_keep h.1 h1]
    · cases he
theorem draw_keep : ∀ (l : List (XOper × List XOper)) {t t' : Tm} {A A' : H}, (l.all fun p => notD d p.1) = true → evalDraw call l t A = some (t', A') → val t' (.tmp d) = val t (.tmp d)
  | [], t, t', A, A', _, he => by
    simp only [evalDraw, Option.some.injEq, Prod.mk.injEq] at he
    rw [he.1]
  | (o, re) :: l, t, t', A, A', h, he => by
    rw [List.all_cons, Bool.and_eq_true] at h
    rw [evalDraw] at he
    split at he
    · rename_i t1 A1 h1
      cases hb : re.all (again t1 A1) with
      | true =>
        rw [hb, cond_true] at he
        rw [draw_keep l h.2 he, one_keep h.1 h1]
      | false => rw [hb] at he; cases he
    · cases he
theorem code_keep : ∀ (n : Nat) (c : XCode) {t t' : Tm} {A A' : H} {xe : XExit}, noDst d c = true → evalC call n c t A = some (xe, t', A') → val t' (.tmp d) = val t (.tmp d)
  | 0, c, t, t', A, A', xe, _, he => by cases he
  | n + 1, c, t, t', A, A', xe, h, he => by
    cases c with
    | skip => simp only [evalC, Option.some.injEq, Prod.mk.injEq] at he; rw [he.2.1]
    | exit id => simp only [evalC, Option.some.injEq, Prod.mk.injEq] at he; rw [he.2.1]
    | ret => simp only [evalC, Option.some.injEq, Prod.mk.injEq] at he; rw [he.2.1]
    | bad s => cases he
    | ops l =>
      simp only [evalC] at he
      split at he
      · rename_i t1 A1 h1
        simp only [Option.some.injEq, Prod.mk.injEq] at he
        rw [← he.2.1]
        exact ops_keep l h h1
      · cases he
    | draw l =>
      simp only [evalC] at he
      split at he
      · rename_i t1 A1 h1
        simp only [Option.some.injEq, Prod.mk.injEq] at he
        rw [← he.2.1]
        exact draw_keep l h h1
      · cases he
    | seq a b =>
      rw [noDst, Bool.and_eq_true] at h
      simp only [evalC] at he
      split at he
      · rename_i t1 A1 h1
        rw [code_keep n b h.2 he, code_keep n a h.1 h1]
      · exact code_keep n a h.1 he
    | cond c a b =>
      rw [noDst, Bool.and_eq_true] at h
      simp only [evalC] at he
      split at he
      · exact code_keep n a h.1 he
      · exact code_keep n b h.2 he
      · cases he
    | block id b =>
      rw [noDst] at h
      simp only [evalC] at he
      split at he
      · rename_i i t1 A1 h1
        have k := code_keep n b h h1
        cases hb : Nat.beq i id with
        | true =>
          rw [hb, cond_true] at he
          simp only [Option.some.injEq, Prod.mk.injEq] at he
          rw [← he.2.1]; exact k
        | false =>
          rw [hb, cond_false] at he
          simp only [Option.some.injEq, Prod.mk.injEq] at he
          rw [← he.2.1]; exact k
      · exact code_keep n b h he
    | loop b =>
      have h' := h
      rw [noDst] at h
      simp only [evalC] at he
      split at he
      · rename_i t1 A1 h1
        rw [code_keep n (.loop b) h' he, code_keep n b h h1]
      · exact code_keep n b h he
end
section
variable {P : Program} (hmix : P.follows .mixedOrders = true) (hx : Ext P) {code : Kn → FuncId → Option XFun} {nats : Kn → FuncId → Option KNat} (hcode : ∀ K : Kn, CodeOf P (code K)) {good : Unk → Prop} (hnat : ∀ (K : Kn) (I : Unk), good I → ∀ [@KnOk K I], @NatOk I P (code K))
include hmix hx hcode hnat
/-- What the quick interpreter runs; slots that the code does not write are as they were. -/
theorem Tri.quickK (hmono : ∀ K : Kn, @NatMono (code K)) (hok : ∀ K : Kn, @NatsOk K (code K) (nats K)) {W0 : World} {nt : Nat} {c : Code} {pre : Cond} {post : Ends}
    (h : ∀ (I : Unk) (t : Tm) (A : H), pre I t A → good I ∧ ∃ K : Kn, @KnOk K I ∧ ∃ (T : TK) (m : Nat) (env : Nat → ContK) (ret k : ContK), TR T t ∧ @kC K (compC P nt c) (@kF K (code K) (nats K) m) env ret k T A = true ∧
      ∀ xe T' t' A', TR T' t' → after env ret k xe T' A' = true → (∀ d, noDst d (compC P nt c) = true → val t' (.tmp d) = val t (.tmp d)) → post xe I t' A') : Tri P W0 nt c pre post := by
  refine Tri.run hmix hx hcode hnat fun I t A hpre => ?_
  obtain ⟨hgood, K, hK, T, m, env, ret, k, hT, hr, hq⟩ := h I t A hpre
  obtain ⟨n, xe, t', A', h1, T', h2, h3⟩ := @kC_spec K (code K) (@kF K (code K) (nats K) m) (hmono K) (@kF_ok K (code K) (hmono K) (nats K) (hok K) m) _ T t A hT env ret k hr
  exact ⟨hgood, K, hK, n, xe, t', A', h1, hq xe T' t' A' h2 h3 fun d hd => @code_keep I K hK _ d n _ _ _ _ _ _ hd h1⟩
end
end Go.Ab
namespace Go.Ab
open Go Go.RowKit
/-- Where a way ends: in a state, with its blocks' numbers and its bits' names. -/
structure Spot where
  j : Nat
  l : FL
  N : Nat
  m : Nat
inductive LT where
  | ask (D : PairL) (t1 t0 : LT)
  | bit (c : Nat) (t1 t0 : LT)
  | leaf (nrm ext : Option Spot)
abbrev KnF := List PairL → List PairL → Kn
/-- What is told of bits: by what is known besides, by what was asked. -/
@[reducible] def knP (ex : PairL → Option Bool) (pos neg : List PairL) : Kn := ⟨fun D => match ex D with
  | some b => some b
  | none => bif pos.any (fun C => eqP C D) then some true else askN neg D⟩
def PosOk (bit : Nat → Bool) (pos : List PairL) : Prop := ∀ C ∈ pos, HoldsD bit C
theorem knP_ok [I : Unk] {ex : PairL → Option Bool} {pos neg : List PairL} (hex : ∀ D b, ex D = some b → (b = true ↔ HoldsD I.bit D)) (hp : PosOk I.bit pos) (hn : NegOk I.bit neg) : @KnOk (knP ex pos neg) I := by
  refine @KnOk.mk (knP ex pos neg) _ (fun D b h => ?_)
  change (match ex D with
    | some b => some b
    | none => bif pos.any (fun C => eqP C D) then some true else askN neg D) = some b at h
  split at h
  · rename_i b' hb
    cases h
    exact hex D _ hb
  · cases ha : pos.any (fun C => eqP C D) with
    | true =>
      rw [ha, cond_true] at h
      cases h
      rw [List.any_eq_true] at ha
      obtain ⟨C, hC, he⟩ := ha
      have e := eqP_eq he
      subst e
      exact ⟨fun _ => hp C hC, fun _ => rfl⟩
    | false =>
      rw [ha, cond_false] at h
      exact askN_ok hn h
theorem holds_bit (bit : Nat → Bool) (c : Nat) : HoldsD bit [(c, 1)] ∨ (HoldsD bit [(c, 0)] ∧ ¬ HoldsD bit [(c, 1)]) := by
  cases h : bitV bit c with
  | true =>
    refine .inl fun p hp => ?_
    have e : p = (c, 1) := by simpa using hp
    subst e
    exact h
  | false =>
    refine .inr ⟨fun p hp => ?_, fun hh => ?_⟩
    · have e : p = (c, 0) := by simpa using hp
      subst e
      exact h
    · have := hh (c, 1) (.head _)
      simp only at this
      rw [h] at this
      cases this
section
variable (kn : KnF) (code : Kn → FuncId → Option XFun) (nats : Kn → FuncId → Option KNat) (ty : TypeId) (hoS ho hoE : Nat → Bool) (hv : Nat → Value) (g nt B : Nat) (sts stsE : Nat → LS) (ide : Nat) (retK : ContK) (c : XCode) (fuel : Nat)
noncomputable def spotK (s : Option Spot) : ContK := fun T A => match s with
  | some s => Nat.ble s.m B && fits ty ho g nt (sts s.j) s.l s.N s.m T A
  | none => false
noncomputable def runLT : LT → LS → List PairL → List PairL → Bool
  | .ask D t1 t0, S, pos, neg => runLT t1 (S.sub (subT D)) (D :: pos) (normN (subT D) neg) && runLT t0 S pos (D :: neg)
  | .bit b t1 t0, S, pos, neg => runLT t1 (S.sub (subT [(b, 1)])) ([(b, 1)] :: pos) (normN (subT [(b, 1)]) neg) && runLT t0 (S.sub (subT [(b, 0)])) ([(b, 0)] :: pos) ([(b, 1)] :: normN (subT [(b, 0)]) neg)
  | .leaf nrm ext, S, pos, neg => argsK S.ts 0 TK.none fun T => @kC (kn pos neg) c (@kF (kn pos neg) (code (kn pos neg)) (nats (kn pos neg)) fuel) (fun i => bif Nat.beq i ide then spotK ty hoE g nt B stsE ext else fun _ _ => false) retK (spotK ty ho g nt B sts nrm) T S.H
def LT.spots (ex : Bool) : LT → List Nat
  | .ask _ t1 t0 => t1.spots ex ++ t0.spots ex
  | .bit _ t1 t0 => t1.spots ex ++ t0.spots ex
  | .leaf nrm ext => ((bif ex then ext else nrm).map (·.j)).toList
/-- One of these states stands there. -/
def FitsPre (good : Unk → Prop) (js : Nat → Bool) : Cond := fun I t A => good I ∧ (∀ i, ho i = true → val t (.tmp i) = hv i) ∧ ∃ (T : TK) (s : Spot), js s.j = true ∧ TR T t ∧ s.m ≤ B ∧ fits ty ho g nt (sts s.j) s.l s.N s.m T A = true
def AtS (good : Unk → Prop) (S : LS) (pos neg : List PairL) : Cond := fun I t A => good I ∧ PosOk I.bit pos ∧ NegOk I.bit neg ∧ (∀ i, hoS i = true → val t (.tmp i) = hv i) ∧ t = S.t ∧ A = S.H
variable {kn code nats ty hoS ho hoE hv g nt B sts stsE ide retK c fuel}
theorem tri_fits {P : Program} (hgl : P.globals.size ≤ g) (hty : (P.info? ty).map (·.size) = some 1) {W0 : World} {good : Unk → Prop} (hgood : ∀ (I : Unk) N m (hm : m ≤ 40000), m ≤ B → good I → good (@thUnk I N m hm)) {js : Nat → Bool} {cc : Code} {post : Ends}
    (hset : ∀ j, js j = true → ∀ i, ho i = true → (sts j).ts[i]? = some (hv i)) (hlen : ∀ i, ho i = true → i < nt) (himg : ∀ i, ho i = true → ∀ (l : FL) room N m, imgV (mapF g l) room N m (hv i) (hv i) = true)
    (h : ∀ j, js j = true → Tri P W0 nt cc (AtS ho hv good (sts j) [] []) post) : Tri P W0 nt cc (FitsPre ty ho hv g nt B sts good js) post := by
  intro I t A a w ds ⟨hg, hhole, T, s, hj, hT, hB, hf⟩ hs hd
  obtain ⟨hm, hs2⟩ := fits_ok hgl hty hs hT (fun i v hi hsv => by rw [hset s.j hj i hi] at hsv; cases hsv; rw [hhole i hi]; exact himg i hi _ _ _ _) hf
  exact h s.j hj _ _ _ a w ds ⟨hgood I s.N s.m hm hB hg, (by intro C hC; cases hC), (by intro C hC; cases hC), (fun i hi => by
    have e := hset s.j hj i hi
    have hlt : i < (sts s.j).ts.length := (List.getElem?_eq_some_iff.1 e).1
    unfold LS.t
    rw [@args_get I knNone knNone_ok, if_pos ⟨Nat.zero_le _, by omega⟩, Nat.sub_zero, e]; rfl), rfl, rfl⟩ hs2 hd
variable {P : Program} (hmix : P.follows .mixedOrders = true) (hx : Ext P) (hcode : ∀ K : Kn, CodeOf P (code K)) {good : Unk → Prop} (hnat : ∀ (K : Kn) (I : Unk), good I → ∀ [@KnOk K I], @NatOk I P (code K))
  (hmono : ∀ K : Kn, @NatMono (code K)) (hok : ∀ K : Kn, @NatsOk K (code K) (nats K))
include hmix hx hcode hnat hmono hok
theorem runLT_ok (hkn : ∀ (I : Unk) pos neg, good I → PosOk I.bit pos → NegOk I.bit neg → @KnOk (kn pos neg) I) (hfix : ∀ i, hoS i = true → ∀ tr : Tr Nat, subV tr (hv i) = hv i) (hno : ∀ i, hoS i = true → hv i ≠ .tuple #[]) (hdst : ∀ i, hoS i = true → noDst i c = true)
    (hoN : ∀ i, ho i = true → hoS i = true) (hoX : ∀ i, hoE i = true → hoS i = true) {W0 : World} {cc : Code} (hc : compC P nt cc = c) {post : Ends} {je jn : Nat → Bool}
    (hret : ∀ I T t A, good I → TR T t → retK T A = true → post .ret I t A)
    (hn : ∀ I t A, FitsPre ty ho hv g nt B sts good jn I t A → post .normal I t A) (he : ∀ I t A, FitsPre ty hoE hv g nt B stsE good je I t A → post (.exit ide) I t A) :
    ∀ (tr : LT) (S : LS) (pos neg : List PairL), (∀ j, j ∈ tr.spots false → jn j = true) → (∀ j, j ∈ tr.spots true → je j = true) → runLT kn code nats ty ho hoE g nt B sts stsE ide retK c fuel tr S pos neg = true → Tri P W0 nt cc (AtS hoS hv good S pos neg) post := by
  have hsub : ∀ (I : Unk) (S : LS) tr, (∀ i, hoS i = true → val S.t (.tmp i) = hv i) → ∀ i, hoS i = true → val (S.sub tr).t (.tmp i) = hv i := by
    intro I S tr hS i hi
    have h := hS i hi
    unfold LS.t at h ⊢
    rw [@args_get I knNone knNone_ok] at h ⊢
    simp only [LS.sub, List.length_map, List.getElem?_map]
    split at h
    · rename_i hlt
      rw [if_pos hlt]
      cases hx : S.ts[i - 0]? with
      | none => rw [hx] at h; exact absurd h.symm (hno i hi)
      | some x => rw [hx] at h; simp only [Option.getD_some] at h; subst h; exact hfix i hi tr
    · exact absurd h.symm (hno i hi)
  have hpos : ∀ {I : Unk} {D : PairL} {pos : List PairL}, HoldsD I.bit D → PosOk I.bit pos → PosOk I.bit (D :: pos) := fun hD hp C hC => by
    cases hC with
    | head => exact hD
    | tail _ hC => exact hp C hC
  have hneg : ∀ {I : Unk} {D : PairL} {neg : List PairL}, ¬ HoldsD I.bit D → NegOk I.bit neg → NegOk I.bit (D :: neg) := fun hD hp C hC => by
    cases hC with
    | head => exact hD
    | tail _ hC => exact hp C hC
  intro tr
  induction tr with
  | ask D t1 t0 ih1 ih0 =>
    intro S pos neg h1 h2 h
    rw [runLT, Bool.and_eq_true] at h
    have i1 := ih1 _ _ _ (fun j hj => h1 j (by simp [LT.spots, hj])) (fun j hj => h2 j (by simp [LT.spots, hj])) h.1
    have i0 := ih0 _ _ _ (fun j hj => h1 j (by simp [LT.spots, hj])) (fun j hj => h2 j (by simp [LT.spots, hj])) h.2
    intro I t A a w ds ⟨hg, hp, hn', hhole, ht, hA⟩ hs hd
    subst ht
    subst hA
    by_cases hh : HoldsD I.bit D
    · exact i1 I _ _ a w ds ⟨hg, hpos hh hp, normN_ok hh hn', hsub I S _ hhole, rfl, rfl⟩ (hs.sub hh) hd
    · exact i0 I _ _ a w ds ⟨hg, hp, hneg hh hn', hhole, rfl, rfl⟩ hs hd
  | bit b t1 t0 ih1 ih0 =>
    intro S pos neg h1 h2 h
    rw [runLT, Bool.and_eq_true] at h
    have i1 := ih1 _ _ _ (fun j hj => h1 j (by simp [LT.spots, hj])) (fun j hj => h2 j (by simp [LT.spots, hj])) h.1
    have i0 := ih0 _ _ _ (fun j hj => h1 j (by simp [LT.spots, hj])) (fun j hj => h2 j (by simp [LT.spots, hj])) h.2
    intro I t A a w ds ⟨hg, hp, hn', hhole, ht, hA⟩ hs hd
    subst ht
    subst hA
    rcases holds_bit I.bit b with hh | ⟨hh, hh2⟩
    · exact i1 I _ _ a w ds ⟨hg, hpos hh hp, normN_ok hh hn', hsub I S _ hhole, rfl, rfl⟩ (hs.sub hh) hd
    · exact i0 I _ _ a w ds ⟨hg, hpos hh hp, hneg hh2 (normN_ok hh hn'), hsub I S _ hhole, rfl, rfl⟩ (hs.sub hh) hd
  | leaf nrm ext =>
    intro S pos neg h1 h2 h
    rw [runLT] at h
    refine Tri.quickK hmix hx hcode hnat hmono hok fun I t A hpre => ?_
    obtain ⟨hg, hp, hneg', hhole, ht, hA⟩ := hpre
    subst ht
    subst hA
    obtain ⟨T, hT, hk⟩ := @argsK_spec knNone _ _ _ _ TR.none _ h
    subst hc
    refine ⟨hg, kn pos neg, hkn I pos neg hg hp hneg', T, fuel, _, _, _, hT, hk, fun xe T' t' A' hT' ha hkeep => ?_⟩
    have hhole' : ∀ i, hoS i = true → val t' (.tmp i) = hv i := fun i hi => (hkeep i (hdst i hi)).trans (hhole i hi)
    have spot : ∀ (h' : Nat → Bool) (sts : Nat → LS) (s : Option Spot) (js : Nat → Bool), (∀ i, h' i = true → hoS i = true) → (∀ j, j ∈ (s.map (·.j)).toList → js j = true) → spotK ty h' g nt B sts s T' A' = true → FitsPre ty h' hv g nt B sts good js I t' A' := by
      intro h' sts s js hh hjs hs
      cases s with
      | none => cases hs
      | some s =>
        simp only [spotK, Bool.and_eq_true] at hs
        exact ⟨hg, fun i hi => hhole' i (hh i hi), T', s, hjs s.j (by simp), hT', Nat.le_of_ble_eq_true hs.1, hs.2⟩
    cases xe with
    | normal => exact hn I t' A' (spot ho sts nrm jn hoN h1 ha)
    | exit i =>
      change (bif Nat.beq i ide then spotK ty hoE g nt B stsE ext else fun _ _ => false) T' A' = true at ha
      cases hb : Nat.beq i ide with
      | true =>
        rw [hb] at ha
        have e := beq_t hb
        subst e
        exact he I t' A' (spot hoE stsE ext je hoX h2 ha)
      | false => rw [hb] at ha; cases ha
    | ret => exact hret I T' t' A' hg hT' ha
end
end Go.Ab
