/- Slots that code does not name: it runs alike whatever they hold. -/
/- From a state to states, some slots being whatever bools: code that follows does not name them. -/
import Derived.Test.YtcghikpogkigcaaGreatDoorAbLoop
set_option linter.all false
set_option linter.unusedSectionVars false
set_option linter.unusedVariables false
set_option linter.unusedSimpArgs false
namespace Go.Ab
open Go Go.RowKit
section
variable (de : Nat → Bool)
def offX : Operand → Bool
  | .tmp i => !de i
  | _ => true
def offL (l : List Operand) : Bool := l.all (offX de)
def offO : Option Operand → Bool
  | some x => offX de x
  | none => true
def offP (l : List (Nat × Nat × Operand)) : Bool := l.all fun p => offX de p.2.2
/-- An operation that names none of these slots. -/
def offOp : XOp → Bool
  | .move x => offX de x
  | .pick c a b => offX de c && offX de a && offX de b
  | .alloc _ _ => true
  | .box _ x => offX de x
  | .build _ ps => offP de ps
  | .buildSlice _ _ _ ps => offP de ps
  | .load _ _ a => offX de a
  | .store _ a x => offX de a && offX de x
  | .nilCheck x => offX de x
  | .bin _ _ x y => offX de x && offX de y
  | .un _ x => offX de x
  | .toInt _ x => offX de x
  | .toUnsafe x => offX de x
  | .assert _ _ x => offX de x
  | .isNil _ x y => offX de x && offX de y
  | .eqS _ _ x y => offX de x && offX de y
  | .same x => offX de x
  | .toBytes _ x => offX de x
  | .ofBytes x => offX de x
  | .fieldAddr _ x => offX de x
  | .indexAddr _ _ x i => offX de x && offX de i
  | .field _ _ _ x => offX de x
  | .index _ x i => offX de x && offX de i
  | .sliceStr x lo hi => offX de x && offO de lo && offO de hi
  | .slice _ _ _ x lo hi mx => offX de x && offO de lo && offO de hi && offO de mx
  | .extract x _ => offX de x
  | .makeIface _ x => offX de x
  | .makeFunc _ fs cs => offL de fs && offL de cs
  | .makeMap => true
  | .mapPut _ m k x => offX de m && offX de k && offX de x
  | .lookup _ _ m k _ => offX de m && offX de k
  | .mapDel _ m k => offX de m && offX de k
  | .makeSlice _ _ _ _ l c => offX de l && offX de c
  | .rangeStr x => offX de x
  | .nextStr x => offX de x
  | .call _ args => offL de args
  | .callV f args => offX de f && offL de args
  | .callI _ r args => offX de r && offL de args
  | .len _ x => offX de x
  | .lenStr x => offX de x
  | .append _ _ _ s x => offX de s && offX de x
  | .copy _ d x => offX de d && offX de x
  | .clear _ x => offX de x
  | .minmax _ xs => offL de xs
  | .ext _ xs => offL de xs
  | .bad _ => true
def offOper (o : XOper) : Bool := offOp de o.op && (match o.guard with
  | some g => !de g.1
  | none => true) && (match o.dst with
  | some d => !de d
  | none => true)
def offC : XCode → Bool
  | .ops l => l.all (offOper de)
  | .draw l => l.all fun p => offOper de p.1 && p.2.all (offOper de)
  | .seq a b => offC a && offC b
  | .cond c a b => offX de c && offC a && offC b
  | .block _ b => offC b
  | .loop b => offC b
  | _ => true
end
/-- Alike but for these slots. -/
def Off (de : Nat → Bool) (t u : Tm) : Prop := ∀ i, de i = false → val u (.tmp i) = val t (.tmp i)
section
variable [Unk] [Kn] [KnOk] {de : Nat → Bool} {t u : Tm} (h : Off de t u)
include h
theorem off_x {x : Operand} (hx : offX de x = true) : val u x = val t x := by
  cases x with
  | tmp i => exact h i (by simpa [offX] using hx)
  | _ => rfl
theorem off_l : ∀ {l : List Operand}, offL de l = true → l.map (val u) = l.map (val t)
  | [], _ => rfl
  | x :: l, hl => by
    unfold offL at hl
    rw [List.all_cons, Bool.and_eq_true] at hl
    rw [List.map_cons, List.map_cons, off_x h hl.1, off_l hl.2]
theorem off_o {x : Option Operand} (hx : offO de x = true) : x.map (val u) = x.map (val t) := by
  cases x with
  | none => rfl
  | some x => rw [Option.map_some, Option.map_some, off_x h hx]
theorem off_p : ∀ {l : List (Nat × Nat × Operand)}, offP de l = true → l.map (fun (o, n, x) => (o, n, val u x)) = l.map (fun (o, n, x) => (o, n, val t x))
  | [], _ => rfl
  | (o, n, x) :: l, hl => by
    unfold offP at hl
    rw [List.all_cons, Bool.and_eq_true] at hl
    rw [List.map_cons, List.map_cons, off_p hl.2]
    simp only
    rw [off_x h hl.1]
theorem off_eval (op : XOp) (A : H) (ho : offOp de op = true) : evalOp op (val u) A = evalOp op (val t) A := by
  cases op <;> simp only [offOp, Bool.and_eq_true] at ho <;> simp only [evalOp]
  case move x => rw [off_x h ho]
  case pick c a b => rw [off_x h ho.1.1, off_x h ho.1.2, off_x h ho.2]
  case box e x => rw [off_x h ho]
  case build z ps => rw [off_p h ho]
  case buildSlice e n z ps => rw [off_p h ho]
  case load n agg a => rw [off_x h ho]
  case store n a x => rw [off_x h ho.1, off_x h ho.2]
  case nilCheck x => rw [off_x h ho]
  case bin op d x y => rw [off_x h ho.1, off_x h ho.2]
  case un op x => rw [off_x h ho]
  case toInt k x => rw [off_x h ho]
  case toUnsafe x => rw [off_x h ho]
  case assert own z x => rw [off_x h ho]
  case isNil neg x y => rw [off_x h ho.1, off_x h ho.2]
  case eqS neg l x y => rw [off_x h ho.1, off_x h ho.2]
  case same x => rw [off_x h ho]
  case toBytes e x => rw [off_x h ho]
  case ofBytes x => rw [off_x h ho]
  case fieldAddr o x => rw [off_x h ho]
  case indexAddr arr s x i => rw [off_x h ho.1, off_x h ho.2]
  case field o s agg x => rw [off_x h ho]
  case index arr x i => rw [off_x h ho.1, off_x h ho.2]
  case sliceStr x lo hi => rw [off_x h ho.1.1, off_o h ho.1.2, off_o h ho.2]
  case slice e s arr x lo hi mx => rw [off_x h ho.1.1.1, off_o h ho.1.1.2, off_o h ho.1.2, off_o h ho.2]
  case extract x i => rw [off_x h ho]
  case makeIface ty x => rw [off_x h ho]
  case makeFunc fn fs cs => rw [off_l h ho.1, off_l h ho.2]
  case mapPut d m k x => rw [off_x h ho.1.1, off_x h ho.1.2, off_x h ho.2]
  case lookup d z m k ok => rw [off_x h ho.1, off_x h ho.2]
  case mapDel d m k => rw [off_x h ho.1, off_x h ho.2]
  case makeSlice e b s z l c => rw [off_x h ho.1, off_x h ho.2]
  case rangeStr x => rw [off_x h ho]
  case nextStr x => rw [off_x h ho]
  case len arr x => rw [off_x h ho]
  case lenStr x => rw [off_x h ho]
  case append e s b sl x => rw [off_x h ho.1, off_x h ho.2]
  case copy s d x => rw [off_x h ho.1, off_x h ho.2]
  case clear z x => rw [off_x h ho]
  case minmax mx xs => rw [off_l h ho]
  case ext kd xs => rw [off_l h ho]
theorem off_op (call : Caller) (op : XOp) (A : H) (ho : offOp de op = true) : runOp call op u A = runOp call op t A := by
  have he := off_eval h op A ho
  cases op <;> simp only [offOp, Bool.and_eq_true] at ho <;> simp only [runOp]
  case call f args => rw [off_l h ho]
  case callV f args => rw [off_x h ho.1, off_l h ho.2]
  case callI find r args => rw [off_x h ho.1, off_l h ho.2]
  all_goals exact he
theorem off_set {d : Option Tmp} (v : Value) : Off de (setT t d v) (setT u d v) := by
  intro i hi
  rw [val_setT, val_setT, h i hi]
theorem off_guard {g : Option (Tmp × Bool)} (hg : (match g with | some g => !de g.1 | none => true) = true) : wantedA u g = wantedA t g := by
  cases g with
  | none => rfl
  | some g =>
    obtain ⟨g, b⟩ := g
    simp only [wantedA]
    rw [h g (by simpa using hg)]
theorem off_one {call : Caller} {o : XOper} (ho : offOper de o = true) {A A' : H} {t' : Tm} (he : evalOne call o t A = some (t', A')) : ∃ u', evalOne call o u A = some (u', A') ∧ Off de t' u' := by
  unfold offOper at ho
  rw [Bool.and_eq_true, Bool.and_eq_true] at ho
  unfold evalOne at he ⊢
  rw [off_guard h ho.1.2, off_op h call o.op A ho.1.1]
  cases hw : wantedA t o.guard with
  | true =>
    rw [hw, cond_true] at he
    rw [cond_true]
    cases hr : runOp call o.op t A with
    | none => rw [hr] at he; cases he
    | some r =>
      obtain ⟨v, A1⟩ := r
      rw [hr] at he
      simp only [Option.some.injEq, Prod.mk.injEq] at he
      obtain ⟨rfl, rfl⟩ := he
      exact ⟨_, rfl, off_set h v⟩
  | false =>
    rw [hw, cond_false] at he
    rw [cond_false]
    simp only [Option.some.injEq, Prod.mk.injEq] at he
    obtain ⟨rfl, rfl⟩ := he
    exact ⟨_, rfl, off_set h _⟩
theorem off_again {o : XOper} (ho : offOper de o = true) (A : H) : again u A o = again t A o := by
  unfold offOper at ho
  rw [Bool.and_eq_true, Bool.and_eq_true] at ho
  unfold again
  rw [off_guard h ho.1.2, off_eval h o.op A ho.1.1]
  cases hd : o.dst with
  | none => rfl
  | some d =>
    have := ho.2
    rw [hd] at this
    have e := h d (by simpa using this)
    simp only [e]
omit h in
theorem off_ops {call : Caller} : ∀ (l : List XOper) {t u : Tm}, Off de t u → l.all (offOper de) = true → ∀ {A A' : H} {t' : Tm}, evalOps call l t A = some (t', A') → ∃ u', evalOps call l u A = some (u', A') ∧ Off de t' u'
  | [], t, u, h, _, A, A', t', he => by
    simp only [evalOps, Option.some.injEq, Prod.mk.injEq] at he
    obtain ⟨rfl, rfl⟩ := he
    exact ⟨u, rfl, h⟩
  | o :: l, t, u, h, ho, A, A', t', he => by
    rw [List.all_cons, Bool.and_eq_true] at ho
    rw [evalOps] at he
    split at he
    · rename_i t1 A1 h1
      obtain ⟨u1, k1, k2⟩ := off_one h ho.1 h1
      obtain ⟨u2, k3, k4⟩ := off_ops l k2 ho.2 he
      exact ⟨u2, by rw [evalOps, k1]; exact k3, k4⟩
    · cases he
omit h in
theorem off_draw {call : Caller} : ∀ (l : List (XOper × List XOper)) {t u : Tm}, Off de t u → (l.all fun p => offOper de p.1 && p.2.all (offOper de)) = true → ∀ {A A' : H} {t' : Tm}, evalDraw call l t A = some (t', A') → ∃ u', evalDraw call l u A = some (u', A') ∧ Off de t' u'
  | [], t, u, h, _, A, A', t', he => by
    simp only [evalDraw, Option.some.injEq, Prod.mk.injEq] at he
    obtain ⟨rfl, rfl⟩ := he
    exact ⟨u, rfl, h⟩
  | (o, re) :: l, t, u, h, ho, A, A', t', he => by
    rw [List.all_cons, Bool.and_eq_true, Bool.and_eq_true] at ho
    rw [evalDraw] at he
    split at he
    · rename_i t1 A1 h1
      obtain ⟨u1, k1, k2⟩ := off_one h ho.1.1 h1
      have hre : re.all (again u1 A1) = re.all (again t1 A1) := by
        have : ∀ (m : List XOper), m.all (offOper de) = true → m.all (again u1 A1) = m.all (again t1 A1) := by
          intro m
          induction m with
          | nil => intro _; rfl
          | cons x m ih =>
            intro hm
            rw [List.all_cons, Bool.and_eq_true] at hm
            rw [List.all_cons, List.all_cons, off_again k2 hm.1, ih hm.2]
        exact this re ho.1.2
      cases hb : re.all (again t1 A1) with
      | true =>
        rw [hb, cond_true] at he
        obtain ⟨u2, k3, k4⟩ := off_draw l k2 ho.2 he
        exact ⟨u2, by rw [evalDraw, k1]; simp only; rw [hre, hb, cond_true]; exact k3, k4⟩
      | false => rw [hb] at he; cases he
    · cases he
omit h in
theorem off_code {call : Caller} : ∀ (n : Nat) (c : XCode) {t u : Tm}, Off de t u → offC de c = true → ∀ {A A' : H} {t' : Tm} {xe : XExit}, evalC call n c t A = some (xe, t', A') → ∃ u', evalC call n c u A = some (xe, u', A') ∧ Off de t' u'
  | 0, c, t, u, h, _, A, A', t', xe, he => by cases he
  | n + 1, c, t, u, h, ho, A, A', t', xe, he => by
    cases c with
    | skip => simp only [evalC, Option.some.injEq, Prod.mk.injEq] at he ⊢; obtain ⟨rfl, rfl, rfl⟩ := he; exact ⟨u, ⟨rfl, rfl, rfl⟩, h⟩
    | exit id => simp only [evalC, Option.some.injEq, Prod.mk.injEq] at he ⊢; obtain ⟨rfl, rfl, rfl⟩ := he; exact ⟨u, ⟨rfl, rfl, rfl⟩, h⟩
    | ret => simp only [evalC, Option.some.injEq, Prod.mk.injEq] at he ⊢; obtain ⟨rfl, rfl, rfl⟩ := he; exact ⟨u, ⟨rfl, rfl, rfl⟩, h⟩
    | bad s => cases he
    | ops l =>
      simp only [evalC] at he ⊢
      split at he
      · rename_i t1 A1 h1
        simp only [Option.some.injEq, Prod.mk.injEq] at he
        obtain ⟨rfl, rfl, rfl⟩ := he
        obtain ⟨u1, k1, k2⟩ := off_ops l h ho h1
        exact ⟨u1, by rw [k1], k2⟩
      · cases he
    | draw l =>
      simp only [evalC] at he ⊢
      split at he
      · rename_i t1 A1 h1
        simp only [Option.some.injEq, Prod.mk.injEq] at he
        obtain ⟨rfl, rfl, rfl⟩ := he
        obtain ⟨u1, k1, k2⟩ := off_draw l h ho h1
        exact ⟨u1, by rw [k1], k2⟩
      · cases he
    | seq a b =>
      rw [offC, Bool.and_eq_true] at ho
      simp only [evalC] at he ⊢
      cases h1 : evalC call n a t A with
      | none => rw [h1] at he; cases he
      | some r =>
        obtain ⟨e1, t1, A1⟩ := r
        obtain ⟨u1, k1, k2⟩ := off_code n a h ho.1 h1
        rw [h1] at he
        rw [k1]
        cases e1 with
        | normal => exact off_code n b k2 ho.2 he
        | exit i => simp only [Option.some.injEq, Prod.mk.injEq] at he ⊢; obtain ⟨rfl, rfl, rfl⟩ := he; exact ⟨u1, ⟨rfl, rfl, rfl⟩, k2⟩
        | ret => simp only [Option.some.injEq, Prod.mk.injEq] at he ⊢; obtain ⟨rfl, rfl, rfl⟩ := he; exact ⟨u1, ⟨rfl, rfl, rfl⟩, k2⟩
    | cond c a b =>
      rw [offC, Bool.and_eq_true, Bool.and_eq_true] at ho
      simp only [evalC] at he ⊢
      rw [off_x h ho.1.1]
      split at he
      · exact off_code n a h ho.1.2 he
      · exact off_code n b h ho.2 he
      · cases he
    | block id b =>
      rw [offC] at ho
      simp only [evalC] at he ⊢
      cases h1 : evalC call n b t A with
      | none => rw [h1] at he; cases he
      | some r =>
        obtain ⟨e1, t1, A1⟩ := r
        obtain ⟨u1, k1, k2⟩ := off_code n b h ho h1
        rw [h1] at he
        rw [k1]
        cases e1 with
        | normal => simp only [Option.some.injEq, Prod.mk.injEq] at he ⊢; obtain ⟨rfl, rfl, rfl⟩ := he; exact ⟨u1, ⟨rfl, rfl, rfl⟩, k2⟩
        | ret => simp only [Option.some.injEq, Prod.mk.injEq] at he ⊢; obtain ⟨rfl, rfl, rfl⟩ := he; exact ⟨u1, ⟨rfl, rfl, rfl⟩, k2⟩
        | exit i =>
          simp only at he ⊢
          cases hb : Nat.beq i id with
          | true => rw [hb, cond_true] at he; simp only [Option.some.injEq, Prod.mk.injEq] at he; obtain ⟨rfl, rfl, rfl⟩ := he; exact ⟨u1, rfl, k2⟩
          | false => rw [hb, cond_false] at he; simp only [Option.some.injEq, Prod.mk.injEq] at he; obtain ⟨rfl, rfl, rfl⟩ := he; exact ⟨u1, rfl, k2⟩
    | loop b =>
      have ho' := ho
      rw [offC] at ho
      simp only [evalC] at he ⊢
      cases h1 : evalC call n b t A with
      | none => rw [h1] at he; cases he
      | some r =>
        obtain ⟨e1, t1, A1⟩ := r
        obtain ⟨u1, k1, k2⟩ := off_code n b h ho h1
        rw [h1] at he
        rw [k1]
        cases e1 with
        | normal => exact off_code n (.loop b) k2 ho' he
        | exit i => simp only [Option.some.injEq, Prod.mk.injEq] at he ⊢; obtain ⟨rfl, rfl, rfl⟩ := he; exact ⟨u1, ⟨rfl, rfl, rfl⟩, k2⟩
        | ret => simp only [Option.some.injEq, Prod.mk.injEq] at he ⊢; obtain ⟨rfl, rfl, rfl⟩ := he; exact ⟨u1, ⟨rfl, rfl, rfl⟩, k2⟩
end
end Go.Ab
namespace Go.Ab
open Go Go.RowKit
theorem off_noDst {de : Nat → Bool} {i : Nat} (hi : de i = true) : ∀ (c : XCode), offC de c = true → noDst i c = true := by
  have one : ∀ o : XOper, offOper de o = true → notD i o = true := by
    intro o ho
    unfold offOper at ho
    rw [Bool.and_eq_true, Bool.and_eq_true] at ho
    unfold notD
    cases hd : o.dst with
    | none => rfl
    | some d =>
      have h2 := ho.2
      rw [hd] at h2
      have h2 : de d = false := by simpa using h2
      simp only [Bool.not_eq_true']
      cases hb : Nat.beq d i with
      | false => rfl
      | true => rw [beq_t hb, hi] at h2; cases h2
  intro c
  induction c with
  | ops l =>
    intro h
    rw [offC, List.all_eq_true] at h
    rw [noDst, List.all_eq_true]
    exact fun o ho => one o (h o ho)
  | draw l =>
    intro h
    rw [offC, List.all_eq_true] at h
    rw [noDst, List.all_eq_true]
    intro p hp
    have := h p hp
    rw [Bool.and_eq_true] at this
    exact one p.1 this.1
  | seq a b ia ib => intro h; rw [offC, Bool.and_eq_true] at h; rw [noDst, ia h.1, ib h.2]; rfl
  | cond c a b ia ib => intro h; rw [offC, Bool.and_eq_true, Bool.and_eq_true] at h; rw [noDst, ia h.1.2, ib h.2]; rfl
  | block id b ib => intro h; rw [offC] at h; rw [noDst, ib h]
  | loop b ib => intro h; rw [offC] at h; rw [noDst, ib h]
  | _ => intro _; rfl
/-- A value that may stand in a slot that nobody reads. -/
def deadV : Value → Bool
  | .bool _ => true
  | .tuple c => c.toList.isEmpty
  | v => oneCell v && notB v
def cleanV : Value → Value
  | .bool b => .bool b
  | .tuple _ => .tuple #[]
  | _ => .float .f32 0
theorem clean_img {v : Value} (h : deadV v = true) (f : Nat → Option (Nat × Nat)) (room : Nat → Nat) (N m : Nat) : imgV f room N m (cleanV v) v = true := by
  cases v with
  | bool b => cases b <;> rfl
  | tuple c =>
    have h : c.toList = [] := by simpa [deadV] using h
    show imgL _ [] c.toList = true
    rw [h]
    rfl
  | _ => exact h
theorem clean_dead (v : Value) : deadV (cleanV v) = true := by cases v <;> rfl
theorem clean_sub (tr : Tr Nat) (v : Value) : subV tr (cleanV v) = cleanV v := by cases v <;> rfl
/-- The same values, but for the dead ones. -/
def DeadL (de : Nat → Bool) (l l' : List Value) : Prop := l.length = l'.length ∧ ∀ (i : Nat) x x', l[i]? = some x → l'[i]? = some x' → (de i = false → x' = x) ∧ (de i = true → ∃ y, x' = cleanV y)
theorem DeadL.off {de : Nat → Bool} {l l' : List Value} (h : DeadL de l l') [Unk] [Kn] [KnOk] : Off de (argsT l 0 .nil) (argsT l' 0 .nil) := by
  intro i hi
  rw [args_get, args_get, h.1]
  split
  · rename_i hlt
    have h1 : i - 0 < l.length := by have := h.1; omega
    have h2 : i - 0 < l'.length := by omega
    rw [List.getElem?_eq_getElem h1, List.getElem?_eq_getElem h2]
    have := (h.2 (i - 0) _ _ (List.getElem?_eq_getElem h1) (List.getElem?_eq_getElem h2)).1 (by simpa using hi)
    rw [this]
  · rfl
theorem DeadL.sub {de : Nat → Bool} {l l' : List Value} (h : DeadL de l l') (tr : Tr Nat) : DeadL de (l.map (subV tr)) (l'.map (subV tr)) := by
  refine ⟨by simpa using h.1, fun i x x' hx hx' => ?_⟩
  simp only [List.getElem?_map, Option.map_eq_some_iff] at hx hx'
  obtain ⟨y, hy, rfl⟩ := hx
  obtain ⟨y', hy', rfl⟩ := hx'
  obtain ⟨h1, h2⟩ := h.2 i y y' hy hy'
  refine ⟨fun hd => by rw [h1 hd], fun hd => ?_⟩
  obtain ⟨y, rfl⟩ := h2 hd
  exact ⟨y, clean_sub tr y⟩
section
variable (ty : TypeId) (de : Nat → Bool) (g nt B : Nat) (sts : Nat → LS)
/-- One of these states stands there, dead slots being bools. -/
def FitD (good : Unk → Prop) (js : Nat → Bool) : Cond := fun I t A => good I ∧ (∀ i, de i = true → deadV (val t (.tmp i)) = true) ∧ ∃ (T : TK) (t0 : Tm) (s : Spot), js s.j = true ∧ TR T t0 ∧ Off de t0 t ∧ s.m ≤ B ∧ fits ty de g nt (sts s.j) s.l s.N s.m T A = true
def AtD (good : Unk → Prop) (S : LS) (pos neg : List PairL) : Cond := fun I t A => good I ∧ PosOk I.bit pos ∧ NegOk I.bit neg ∧ (∃ ts', DeadL de S.ts ts' ∧ t = argsT ts' 0 .nil) ∧ A = S.H ∧ S.ts.length = nt
end
section
variable {ty : TypeId} {de : Nat → Bool} {g nt B : Nat} {sts : Nat → LS}
theorem fits_okD {P : Program} {W0 : World} (hgl : P.globals.size ≤ g) (hty : (P.info? ty).map (·.size) = some 1) {I : Unk} {t t0 : Tm} {A : H} {a : Act} {w : World} (hs : Sits P W0 nt I t A a w) (hdead : ∀ i, de i = true → deadV (val t (.tmp i)) = true) {T : TK} (hT : TR T t0) (hoff : Off de t0 t) {S : LS} {l : FL} {N m : Nat}
    (h : fits ty de g nt S l N m T A = true) : ∃ (hm : m ≤ 40000) (ts' : List Value), DeadL de S.ts ts' ∧ Sits P W0 nt (@thUnk I N m hm) (argsT ts' 0 .nil) S.H a w := by
  unfold fits at h
  simp only [Bool.and_eq_true] at h
  obtain ⟨⟨⟨⟨⟨h1, h2⟩, h3⟩, h4⟩, h5⟩, h6⟩ := h
  have h1 : g ≤ S.next := Nat.le_of_ble_eq_true h1
  have hm : m ≤ 40000 := Nat.le_of_ble_eq_true h2
  have h3 := beq_t h3
  have hlen : ((List.range S.ts.length).map fun i => bif de i then cleanV (val t (.tmp i)) else (S.ts[i]?).getD (.tuple #[])).length = S.ts.length := by simp
  have hget : ∀ i, i < S.ts.length → ((List.range S.ts.length).map fun i => bif de i then cleanV (val t (.tmp i)) else (S.ts[i]?).getD (.tuple #[]))[i]? = some (bif de i then cleanV (val t (.tmp i)) else (S.ts[i]?).getD (.tuple #[])) := by
    intro i hi
    rw [List.getElem?_map, List.getElem?_range hi]
    rfl
  refine ⟨hm, (List.range S.ts.length).map fun i => bif de i then cleanV (val t (.tmp i)) else (S.ts[i]?).getD (.tuple #[]), ⟨hlen.symm, fun i x x' hx hx' => ?_⟩, hs.turn hty hm (f := mapF g l) (fun i hi => ?_) (fun i hi => ?_) (fun i o ho => ?_) (fun i j k s s' o o' ho ho' hi hj => ?_) (fun i hi => ?_)⟩
  · have hlt : i < S.ts.length := (List.getElem?_eq_some_iff.1 hx).1
    rw [hget i hlt] at hx'
    cases hx'
    refine ⟨fun hd => ?_, fun hd => ?_⟩
    · rw [hd, cond_false, hx]; rfl
    · rw [hd, cond_true]; exact ⟨_, rfl⟩
  · unfold mapF
    rw [show Nat.blt i g = true from Nat.ble_eq_true_of_le (by omega)]
    rfl
  · constructor
    · unfold mapF
      rw [show Nat.blt i g = false from by rw [Bool.eq_false_iff]; intro e; have := blt_t e; have : S.next ≤ i := hi; omega]
      rw [cond_false]
      cases hl : lookF l i with
      | none => rfl
      | some k =>
        have := (soundF_mem l h4 i k.1 k.2 (lookF_mem l i k hl)).2.1
        have : S.next ≤ i := hi
        omega
    · cases ho : S.H.get i with
      | none => rfl
      | some o =>
        have := (fitsH_get S.hs h6 i o (putH_get _ _ _ ho)).1
        have : S.next ≤ i := hi
        omega
  · exact (fitsH_get S.hs h6 i o (putH_get _ _ _ ho)).2
  · unfold mapF at hi hj
    have cs : ∀ i s, (bif Nat.blt i g then some (i, 0) else lookF l i) = some (k, s) → (i < g ∧ i = k) ∨ (i, k, s) ∈ l := by
      intro i s h
      cases hb : Nat.blt i g with
      | true => rw [hb] at h; cases h; exact .inl ⟨blt_t hb, rfl⟩
      | false => rw [hb] at h; exact .inr (lookF_mem l i _ h)
    rcases cs i s hi with ⟨c1, rfl⟩ | c1
    · rcases cs j s' hj with ⟨c2, rfl⟩ | c2
      · rfl
      · have := (soundF_mem l h4 _ _ _ c2).2.2; omega
    · rcases cs j s' hj with ⟨c2, rfl⟩ | c2
      · have := (soundF_mem l h4 _ _ _ c1).2.2; omega
      · exact soundF_inj l h4 i j k s s' c1 c2
  · have hlt : i < S.ts.length := by omega
    have hv : val (argsT ((List.range S.ts.length).map fun i => bif de i then cleanV (val t (.tmp i)) else (S.ts[i]?).getD (.tuple #[])) 0 .nil) (.tmp i) = (bif de i then cleanV (val t (.tmp i)) else (S.ts[i]?).getD (.tuple #[])) := by
      rw [@args_get I knNone knNone_ok, if_pos ⟨Nat.zero_le _, by rw [hlen]; omega⟩, Nat.sub_zero, hget i hlt]
      rfl
    rw [hv]
    cases hd : de i with
    | true =>
      rw [cond_true]
      exact clean_img (hdead i hd) _ _ _ _
    | false =>
      rw [cond_false, List.getElem?_eq_getElem hlt, Option.getD_some]
      have hg := fitsT_get S.ts 0 h5 i _ (List.getElem?_eq_getElem hlt)
      rw [Nat.zero_add] at hg
      rcases hg with hg | hg
      · rw [hd] at hg; cases hg
      · rw [hoff i hd, hT i]; exact hg
theorem tri_fitsD {P : Program} (hgl : P.globals.size ≤ g) (hty : (P.info? ty).map (·.size) = some 1) {W0 : World} {good : Unk → Prop} (hgood : ∀ (I : Unk) N m (hm : m ≤ 40000), m ≤ B → good I → good (@thUnk I N m hm)) {js : Nat → Bool} {cc : Code} {post : Ends}
    (h : ∀ j, js j = true → Tri P W0 nt cc (AtD de nt good (sts j) [] []) post) : Tri P W0 nt cc (FitD ty de g nt B sts good js) post := by
  intro I t A a w ds ⟨hg, hdead, T, t0, s, hj, hT, hoff, hB, hf⟩ hs hd
  obtain ⟨hm, ts', hD, hs2⟩ := fits_okD hgl hty hs hdead hT hoff hf
  exact h s.j hj _ _ _ a w ds ⟨hgood I s.N s.m hm hB hg, (by intro C hC; cases hC), (by intro C hC; cases hC), ⟨ts', hD, rfl⟩, rfl, by unfold fits at hf; simp only [Bool.and_eq_true] at hf; exact beq_t hf.1.1.1.2⟩ hs2 hd
end
theorem fitsT_weak {ho de : Nat → Bool} (hw : ∀ i, ho i = true → de i = true) {f : Nat → Option (Nat × Nat)} {room : Nat → Nat} {N m : Nat} {T : TK} : ∀ (l : List Value) (i : Nat), fitsT ho f room N m i l T = true → fitsT de f room N m i l T = true
  | [], i, _ => rfl
  | v :: l, i, h => by
    rw [fitsT, Bool.and_eq_true, Bool.or_eq_true] at h
    rw [fitsT, fitsT_weak hw l (i + 1) h.2, Bool.and_true, Bool.or_eq_true]
    exact h.1.imp (hw i) id
theorem fits_weak {ho de : Nat → Bool} (hw : ∀ i, ho i = true → de i = true) {ty : TypeId} {g nt : Nat} {S : LS} {l : FL} {N m : Nat} {T : TK} {A : H} (h : fits ty ho g nt S l N m T A = true) : fits ty de g nt S l N m T A = true := by
  unfold fits at h ⊢
  simp only [Bool.and_eq_true] at h ⊢
  obtain ⟨⟨h1, h5⟩, h6⟩ := h
  exact ⟨⟨h1, fitsT_weak hw _ _ h5⟩, h6⟩
section
variable {kn : KnF} {code : Kn → FuncId → Option XFun} {nats : Kn → FuncId → Option KNat} {ty : TypeId} {de : Nat → Bool} {g nt B : Nat} {sts stsE : Nat → LS} {ide : Nat} {retK : ContK} {c : XCode} {fuel : Nat} {ho hoE : Nat → Bool}
variable {P : Program} (hmix : P.follows .mixedOrders = true) (hx : Ext P) (hcode : ∀ K : Kn, CodeOf P (code K)) {good : Unk → Prop} (hnat : ∀ (K : Kn) (I : Unk), good I → ∀ [@KnOk K I], @NatOk I P (code K))
  (hmono : ∀ K : Kn, @NatMono (code K)) (hok : ∀ K : Kn, @NatsOk K (code K) (nats K))
include hmix hx hcode hnat hmono hok
theorem runLT_okD (hw : ∀ i, ho i = true → de i = true) (hwE : ∀ i, hoE i = true → de i = true) (hkn : ∀ (I : Unk) pos neg, good I → PosOk I.bit pos → NegOk I.bit neg → @KnOk (kn pos neg) I) (hoc : offC de c = true) (hnt : ∀ i, de i = true → i < nt) {W0 : World} {cc : Code} (hc : compC P nt cc = c) {post : Ends} {je jn : Nat → Bool}
    (hret : ∀ I T t u A, good I → TR T t → Off de t u → retK T A = true → post .ret I u A)
    (hn : ∀ I t A, FitD ty de g nt B sts good jn I t A → post .normal I t A) (he : ∀ I t A, FitD ty de g nt B stsE good je I t A → post (.exit ide) I t A) :
    ∀ (tr : LT) (S : LS) (pos neg : List PairL), (∀ j, j ∈ tr.spots false → jn j = true) → (∀ j, j ∈ tr.spots true → je j = true) → runLT kn code nats ty ho hoE g nt B sts stsE ide retK c fuel tr S pos neg = true → Tri P W0 nt cc (AtD de nt good S pos neg) post := by
  have hpos : ∀ {I : Unk} {D : PairL} {pos : List PairL}, HoldsD I.bit D → PosOk I.bit pos → PosOk I.bit (D :: pos) := fun hD hp C hC => by
    cases hC with
    | head => exact hD
    | tail _ hC => exact hp C hC
  have hneg : ∀ {I : Unk} {D : PairL} {neg : List PairL}, ¬ HoldsD I.bit D → NegOk I.bit neg → NegOk I.bit (D :: neg) := fun hD hp C hC => by
    cases hC with
    | head => exact hD
    | tail _ hC => exact hp C hC
  have hsub : ∀ {I : Unk} {S : LS} {ts' : List Value} {a : Act} {w : World} {D : PairL}, HoldsD I.bit D → Sits P W0 nt I (argsT ts' 0 .nil) S.H a w → Sits P W0 nt I (argsT (ts'.map (subV (subT D))) 0 .nil) (S.sub (subT D)).H a w := by
    intro I S ts' a w D hD hs
    exact Sits.sub (S := ⟨ts', S.hs, S.next⟩) hD hs
  intro tr
  induction tr with
  | ask D t1 t0 ih1 ih0 =>
    intro S pos neg h1 h2 h
    rw [runLT, Bool.and_eq_true] at h
    have i1 := ih1 _ _ _ (fun j hj => h1 j (by simp [LT.spots, hj])) (fun j hj => h2 j (by simp [LT.spots, hj])) h.1
    have i0 := ih0 _ _ _ (fun j hj => h1 j (by simp [LT.spots, hj])) (fun j hj => h2 j (by simp [LT.spots, hj])) h.2
    intro I t A a w ds ⟨hg, hp, hn', ⟨ts', hD, ht⟩, hA, hl⟩ hs hd
    subst ht
    subst hA
    by_cases hh : HoldsD I.bit D
    · exact i1 I _ _ a w ds ⟨hg, hpos hh hp, normN_ok hh hn', ⟨_, hD.sub _, rfl⟩, rfl, by simpa [LS.sub] using hl⟩ (hsub hh hs) hd
    · exact i0 I _ _ a w ds ⟨hg, hp, hneg hh hn', ⟨_, hD, rfl⟩, rfl, hl⟩ hs hd
  | bit b t1 t0 ih1 ih0 =>
    intro S pos neg h1 h2 h
    rw [runLT, Bool.and_eq_true] at h
    have i1 := ih1 _ _ _ (fun j hj => h1 j (by simp [LT.spots, hj])) (fun j hj => h2 j (by simp [LT.spots, hj])) h.1
    have i0 := ih0 _ _ _ (fun j hj => h1 j (by simp [LT.spots, hj])) (fun j hj => h2 j (by simp [LT.spots, hj])) h.2
    intro I t A a w ds ⟨hg, hp, hn', ⟨ts', hD, ht⟩, hA, hl⟩ hs hd
    subst ht
    subst hA
    rcases holds_bit I.bit b with hh | ⟨hh, hh2⟩
    · exact i1 I _ _ a w ds ⟨hg, hpos hh hp, normN_ok hh hn', ⟨_, hD.sub _, rfl⟩, rfl, by simpa [LS.sub] using hl⟩ (hsub hh hs) hd
    · exact i0 I _ _ a w ds ⟨hg, hpos hh hp, hneg hh2 (normN_ok hh hn'), ⟨_, hD.sub _, rfl⟩, rfl, by simpa [LS.sub] using hl⟩ (hsub hh hs) hd
  | leaf nrm ext =>
    intro S pos neg h1 h2 h
    rw [runLT] at h
    refine Tri.run hmix hx hcode hnat fun I t A hpre => ?_
    obtain ⟨hg, hp, hneg', ⟨ts', hD, ht⟩, hA, hl⟩ := hpre
    subst ht
    subst hA
    have hK := hkn I pos neg hg hp hneg'
    obtain ⟨T, hT, hk⟩ := @argsK_spec knNone _ _ _ _ TR.none _ h
    obtain ⟨n, xe, t', A', e1, T', e2, e3⟩ := @kC_spec (kn pos neg) (code (kn pos neg)) (@kF (kn pos neg) (code (kn pos neg)) (nats (kn pos neg)) fuel) (hmono (kn pos neg)) (@kF_ok (kn pos neg) (code (kn pos neg)) (hmono (kn pos neg)) (nats (kn pos neg)) (hok (kn pos neg)) fuel) _ T _ _ hT _ _ _ hk
    obtain ⟨u', e4, e5⟩ := @off_code I (kn pos neg) hK de _ n c _ _ (@DeadL.off de _ _ hD I (kn pos neg) hK) hoc _ _ _ _ e1
    subst hc
    refine ⟨hg, kn pos neg, hK, n, xe, u', A', e4, ?_⟩
    have hdead : ∀ i, de i = true → deadV (val u' (.tmp i)) = true := by
      intro i hi
      rw [@code_keep I (kn pos neg) hK _ i n _ _ _ _ _ _ (off_noDst hi _ hoc) e4, @args_get I (kn pos neg) hK]
      have hlt : i < S.ts.length := by rw [hl]; exact hnt i hi
      have hlt' : i < ts'.length := by rw [← hD.1]; exact hlt
      rw [if_pos ⟨Nat.zero_le _, by omega⟩, Nat.sub_zero, List.getElem?_eq_getElem hlt']
      obtain ⟨y, hy⟩ := (hD.2 i _ _ (List.getElem?_eq_getElem hlt) (List.getElem?_eq_getElem hlt')).2 hi
      rw [Option.getD_some, hy]
      exact clean_dead y
    have spot : ∀ (ho : Nat → Bool) (sts : Nat → LS) (s : Option Spot) (js : Nat → Bool), (∀ i, ho i = true → de i = true) → (∀ j, j ∈ (s.map (·.j)).toList → js j = true) → spotK ty ho g nt B sts s T' A' = true → FitD ty de g nt B sts good js I u' A' := by
      intro ho sts s js hw hjs hs
      cases s with
      | none => cases hs
      | some s =>
        simp only [spotK, Bool.and_eq_true] at hs
        exact ⟨hg, hdead, T', t', s, hjs s.j (by simp), e2, e5, Nat.le_of_ble_eq_true hs.1, fits_weak hw hs.2⟩
    cases xe with
    | normal => exact hn I u' A' (spot ho sts nrm jn hw h1 e3)
    | exit i =>
      change (bif Nat.beq i ide then spotK ty hoE g nt B stsE ext else fun _ _ => false) T' A' = true at e3
      cases hb : Nat.beq i ide with
      | true =>
        rw [hb] at e3
        have e := beq_t hb
        subst e
        exact he I u' A' (spot hoE stsE ext je hwE h2 e3)
      | false => rw [hb] at e3; cases e3
    | ret => exact hret I T' t' u' A' hg e2 e5 e3
end
section
variable {ty : TypeId} {de : Nat → Bool} {g nt B : Nat}
/-- What is checked at an exit into states with dead slots. -/
noncomputable def spotD (ty : TypeId) (dl : List Nat) (de : Nat → Bool) (g nt B : Nat) (sts : Nat → LS) (s : Option Spot) : ContK := fun T A => spotK ty de g nt B sts s T A && dl.all fun i => deadV (rdT i T)
theorem spotD_fit {dl : List Nat} (hdl : ∀ i, de i = true → i ∈ dl) {sts : Nat → LS} {s : Option Spot} {T : TK} {t : Tm} {A : H} {good : Unk → Prop} {js : Nat → Bool} {I : Unk} (hg : good I) (hT : TR T t) (hjs : ∀ j, j ∈ (s.map (·.j)).toList → js j = true) (h : spotD ty dl de g nt B sts s T A = true) : FitD ty de g nt B sts good js I t A := by
  unfold spotD at h
  rw [Bool.and_eq_true] at h
  obtain ⟨h1, h2⟩ := h
  cases s with
  | none => cases h1
  | some s =>
    simp only [spotK, Bool.and_eq_true] at h1
    refine ⟨hg, fun i hi => ?_, T, t, s, hjs s.j (by simp), hT, fun i _ => rfl, Nat.le_of_ble_eq_true h1.1, h1.2⟩
    rw [List.all_eq_true] at h2
    rw [hT i]
    exact h2 i (hdl i hi)
end
theorem img_dead {f : Nat → Option (Nat × Nat)} {room : Nat → Nat} {N m : Nat} {y w : Value} (h : imgV f room N m (cleanV y) w = true) : deadV w = true := by
  cases y with
  | bool b =>
    cases w with
    | bool b' => rfl
    | _ => cases b <;> cases h
  | tuple c =>
    cases w with
    | tuple c' =>
      have h : imgL _ [] c'.toList = true := h
      cases hc : c'.toList with
      | nil => show c'.toList.isEmpty = true; rw [hc]; rfl
      | cons a l => rw [hc] at h; cases h
    | _ => cases h
  | _ =>
    have h : (oneCell w && notB w) = true := h
    cases w with
    | bool b => rfl
    | tuple c => cases h
    | _ => exact h
/-- States that were compared in all slots fit with dead ones, too. -/
theorem fitD_of {ty : TypeId} {ho de : Nat → Bool} {hv : Nat → Value} {g nt B : Nat} {sts : Nat → LS} {good : Unk → Prop} {js : Nat → Bool} (hw : ∀ i, ho i = true → de i = true) (hno : ∀ i, de i = true → ho i = false) (hcl : ∀ j, js j = true → ∀ i, de i = true → ∃ y, (sts j).ts[i]? = some (cleanV y)) {I : Unk} {t : Tm} {A : H} (h : FitsPre ty ho hv g nt B sts good js I t A) : FitD ty de g nt B sts good js I t A := by
  obtain ⟨hg, _, T, s, hj, hT, hB, hf⟩ := h
  refine ⟨hg, fun i hi => ?_, T, t, s, hj, hT, fun i _ => rfl, hB, fits_weak hw hf⟩
  unfold fits at hf
  simp only [Bool.and_eq_true] at hf
  obtain ⟨y, hy⟩ := hcl s.j hj i hi
  have hgt := fitsT_get (sts s.j).ts 0 hf.1.2 i _ hy
  rw [Nat.zero_add] at hgt
  rcases hgt with hgt | hgt
  · rw [hno i hi] at hgt; cases hgt
  · rw [hT i]
    exact img_dead hgt
end Go.Ab
