/- What the quick interpreter says, the interpreter says. -/
import Derived.Test.YtainaihfbljjoaaGreatDoorAbK
import Derived.Test.YtainaihfbljjoaaGreatDoorAbFun
set_option linter.all false
set_option linter.unusedSectionVars false
set_option linter.unusedVariables false
set_option linter.unusedSimpArgs false
namespace Go.Ab
open Go

/-! ### The tree of eights -/
section
variable {α : Type}
noncomputable def upd8 (d : D8) (f : α → α) (n : N8 α) : N8 α := match d with
  | .d0 => { n with f0 := f n.f0 } | .d1 => { n with f1 := f n.f1 } | .d2 => { n with f2 := f n.f2 } | .d3 => { n with f3 := f n.f3 }
  | .d4 => { n with f4 := f n.f4 } | .d5 => { n with f5 := f n.f5 } | .d6 => { n with f6 := f n.f6 } | .d7 => { n with f7 := f n.f7 }
theorem put8_eq (d : D8) {g : α → (α → Bool) → Bool} {f : α → α} (h : ∀ x k, g x k = k (f x)) (n : N8 α) (k : N8 α → Bool) : put8 d g n k = k (upd8 d f n) := by
  cases d <;> cases n <;> simp only [put8, upd8, h]
theorem sel_upd (d d' : D8) (f : α → α) (n : N8 α) : sel8 d' (upd8 d f n) = if d' = d then f (sel8 d' n) else sel8 d' n := by
  cases d <;> cases d' <;> rfl
theorem sel_rep (d : D8) (x : α) : sel8 d (rep8 x) = x := by cases d <;> rfl
end
theorem toD8_inj : ∀ a, a < 8 → ∀ b, b < 8 → toD8 a = toD8 b → a = b := by decide
theorem path3_inj {i j : Nat} (hi : i < 512) (hj : j < 512) (h : path3 i = path3 j) : i = j := by
  unfold path3 at h
  simp only [P3.mk.injEq] at h
  have e1 : ∀ a b, Nat.div a b = a / b := fun _ _ => rfl
  have e2 : ∀ a b, Nat.mod a b = a % b := fun _ _ => rfl
  simp only [e1, e2] at h
  obtain ⟨h1, h2, h3⟩ := h
  have h1 := toD8_inj _ (by omega) _ (by omega) h1
  have h2 := toD8_inj _ (by omega) _ (by omega) h2
  have h3 := toD8_inj _ (by omega) _ (by omega) h3
  omega
noncomputable def updT (i : Nat) (v : Value) (T : TK) : TK := upd8 (path3 i).a (fun x => upd8 (path3 i).b (fun y => upd8 (path3 i).c (fun _ => v) y) x) T
theorem putT_eq (i : Nat) (v : Value) (T : TK) (k : TK → Bool) : putT i v T k = if i < 512 then k (updT i v T) else false := by
  unfold putT
  have h := put8_eq (path3 i).a (g := fun x => put8 (path3 i).b (fun y => put8 (path3 i).c (fun _ k => k v) y) x) (f := fun x => upd8 (path3 i).b (fun y => upd8 (path3 i).c (fun _ => v) y) x)
    (fun x k => put8_eq (path3 i).b (fun y k => put8_eq (path3 i).c (fun _ _ => rfl) y k) x k) T k
  rw [h]
  cases hb : Nat.blt i 512 with
  | true => have := Nat.le_of_ble_eq_true hb; rw [if_pos (by omega)]; rfl
  | false => have hn : ¬ i < 512 := fun hh => by rw [show Nat.blt i 512 = true from Nat.ble_eq_true_of_le hh] at hb; cases hb
             rw [if_neg hn]
theorem rdT_upd {i : Nat} (hi : i < 512) (v : Value) (T : TK) (j : Nat) : rdT j (updT i v T) = if j = i then v else rdT j T := by
  unfold rdT
  cases hb : Nat.blt j 512 with
  | true =>
    have hj : j < 512 := Nat.le_of_ble_eq_true hb
    simp only
    unfold selT updT
    rw [sel_upd]
    by_cases e1 : (path3 j).a = (path3 i).a
    · rw [if_pos e1, sel_upd]
      by_cases e2 : (path3 j).b = (path3 i).b
      · rw [if_pos e2, sel_upd]
        by_cases e3 : (path3 j).c = (path3 i).c
        · rw [if_pos e3]
          have : path3 j = path3 i := by
            cases hh : path3 j; cases hk : path3 i
            rw [hh, hk] at e1 e2 e3
            simp only at e1 e2 e3
            subst e1; subst e2; subst e3; rfl
          rw [if_pos (path3_inj hj hi this)]
        · rw [if_neg e3, if_neg (fun e => e3 (by rw [e]))]
      · rw [if_neg e2, if_neg (fun e => e2 (by rw [e]))]
    · rw [if_neg e1, if_neg (fun e => e1 (by rw [e]))]
  | false =>
    have hn : ¬ j < 512 := fun hh => by rw [show Nat.blt j 512 = true from Nat.ble_eq_true_of_le hh] at hb; cases hb
    simp only
    rw [if_neg (by omega)]
theorem rdT_none (j : Nat) : rdT j TK.none = noV := by
  unfold rdT selT TK.none
  rw [sel_rep, sel_rep, sel_rep]
  cases Nat.blt j 512 <;> rfl
/-- The temporaries are the same. -/
def TR (T : TK) (t : Tm) : Prop := ∀ i, val t (.tmp i) = rdT i T
theorem TR.none : TR TK.none .nil := fun i => by rw [rdT_none]; rfl
theorem TR.put {T : TK} {t : Tm} (h : TR T t) {i : Nat} {v : Value} {k : TK → Bool} (hk : putT i v T k = true) : ∃ T', TR T' (t.put i (some v)) ∧ k T' = true := by
  rw [putT_eq] at hk
  split at hk
  · rename_i hi
    refine ⟨_, fun j => ?_, hk⟩
    rw [rdT_upd hi]
    simp only [val, Tr.get_put]
    split
    · rfl
    · exact h j
  · cases hk
theorem TR.putD {T : TK} {t : Tm} (h : TR T t) {d : Option Tmp} {v : Value} {k : TK → Bool} (hk : putD d v T k = true) : ∃ T', TR T' (setT t d v) ∧ k T' = true := by
  cases d with
  | none => exact ⟨T, h, hk⟩
  | some d => exact h.put hk
theorem TR.rd {T : TK} {t : Tm} (h : TR T t) (o : Operand) : rdK o T = val t o := by
  cases o with
  | tmp i => exact (h i).symm
  | const v => rfl
  | global g => rfl
  | func f => rfl
theorem TR.fn {T : TK} {t : Tm} (h : TR T t) : (fun o => rdK o T) = val t := funext h.rd

/-! ### Values -/
theorem natK_eq (n : Nat) (k : Nat → Bool) : natK n k = k n := by cases n <;> rfl
theorem intK_spec {v : Value} {k : IntKind → Int → Bool} (h : intK v k = true) : ∃ kd n, v = .int kd n ∧ k kd n = true := by
  cases v <;> first | exact ⟨_, _, rfl, h⟩ | cases h
theorem boolK_spec {v : Value} {k : Bool → Bool} (h : boolK v k = true) : ∃ b, v = .bool b ∧ k b = true := by
  cases v <;> first | exact ⟨_, rfl, h⟩ | cases h
theorem strK_spec {v : Value} {k : ByteArray → Bool} (h : strK v k = true) : ∃ s, v = .string s ∧ k s = true := by
  cases v <;> first | exact ⟨_, rfl, h⟩ | cases h
theorem strOr_spec {v : Value} {k : ByteArray → Bool} {f : Bool} (h : strOr v k f = true) : (∃ s, v = .string s ∧ k s = true) ∨ f = true := by
  cases v <;> first | exact .inl ⟨_, rfl, h⟩ | exact .inr h
theorem addrK_spec {a : Option Addr} {k : Nat → Nat → Bool} (h : addrK a k = true) : ∃ b o, a = some ⟨b, o, none⟩ ∧ k b o = true := by
  cases a with
  | none => cases h
  | some a =>
    obtain ⟨b, o, s⟩ := a
    cases s with
    | none => exact ⟨b, o, rfl, h⟩
    | some s => cases h
theorem ptrK_spec {v : Value} {k : Nat → Nat → Bool} (h : ptrK v k = true) : ∃ b o, v = .pointer (some ⟨b, o, none⟩) ∧ k b o = true := by
  cases v <;> first | (obtain ⟨b, o, rfl, h⟩ := addrK_spec h; exact ⟨b, o, rfl, h⟩) | cases h
theorem sliceK_spec {v : Value} {k : Option Addr → Nat → Nat → Bool} (h : sliceK v k = true) : ∃ a l c, v = .slice a l c ∧ k a l c = true := by
  cases v <;> first | exact ⟨_, _, _, rfl, h⟩ | cases h
theorem aggK_spec {v : Value} {k : Array Value → Bool} (h : aggK v k = true) : ∃ c, v = .agg c ∧ k c = true := by
  cases v <;> first | exact ⟨_, rfl, h⟩ | cases h
theorem tupK_spec {v : Value} {k : Array Value → Bool} (h : tupK v k = true) : ∃ c, v = .tuple c ∧ k c = true := by
  cases v <;> first | exact ⟨_, rfl, h⟩ | cases h
theorem oneK_spec {v : Value} (h : oneK v = true) : cellsL v = [v] ∧ oneCell v = true := by
  cases v <;> first | exact ⟨rfl, rfl⟩ | cases h
theorem optK_spec {o : Option (Value × H)} {k : Value → H → Bool} (h : optK o k = true) : ∃ v A, o = some (v, A) ∧ k v A = true := by
  cases o with
  | none => cases h
  | some p => obtain ⟨v, A⟩ := p; exact ⟨v, A, rfl, h⟩
theorem optA_spec {α : Type} {o : Option α} {k : α → Bool} (h : optA o k = true) : ∃ x, o = some x ∧ k x = true := by
  cases o with
  | none => cases h
  | some p => exact ⟨p, rfl, h⟩

/-! ### Lists -/
theorem nthK_spec {α : Type} : ∀ {i : Nat} {l : List α} {k : α → Bool}, nthK i l k = true → ∃ v, l[i]? = some v ∧ k v = true := by
  intro i
  induction i with
  | zero => intro l k h; cases l with
    | nil => cases h
    | cons v r => exact ⟨v, rfl, h⟩
  | succ i ih => intro l k h; cases l with
    | nil => cases h
    | cons v r =>
      obtain ⟨u, h1, h2⟩ := ih (l := r) h
      exact ⟨u, by simpa using h1, h2⟩
theorem setNK_spec : ∀ {i : Nat} {l : List Value} {v : Value} {k : List Value → Bool}, setNK i l v k = true → i < l.length ∧ k (l.set i v) = true := by
  intro i
  induction i with
  | zero => intro l v k h; cases l with
    | nil => cases h
    | cons x r => exact ⟨by simp, h⟩
  | succ i ih => intro l v k h; cases l with
    | nil => cases h
    | cons x r =>
      obtain ⟨h1, h2⟩ := ih (l := r) (v := v) (k := fun r' => k (x :: r')) h
      exact ⟨by simp; omega, h2⟩
theorem cut_one {c : List Value} {o : Nat} {v : Value} (h : c[o]? = some v) : cut c o 1 = some [v] := by
  have hlt := (List.getElem?_eq_some_iff.1 h).1
  have hv := (List.getElem?_eq_some_iff.1 h).2
  unfold cut
  rw [List.drop_eq_getElem_cons hlt, hv]
  rfl
theorem over_one {c : List Value} {o : Nat} {v : Value} (h : o < c.length) : over c o [v] = some (c.set o v) := by
  unfold over
  have : Nat.ble (o + [v].length) c.length = true := Nat.ble_eq_true_of_le (by simp; omega)
  rw [this]
  simp only [cond_true, Option.some.injEq]
  rw [List.set_eq_take_append_cons_drop, if_pos h]
  simp

/-! ### The heap -/
theorem getP_path {α : Type} : ∀ (d k : Nat) (t : Tr α), k < d → getP (pathF d k) t = t.get k := by
  intro d
  induction d with
  | zero => intro k t h; omega
  | succ d ih =>
    intro k t h
    unfold pathF
    cases h0 : Nat.beq k 0 with
    | true =>
      have := Nat.eq_of_beq_eq_true h0
      subst this
      simp only [cond_true]
      cases t with
      | nil => rfl
      | node v l r => rfl
    | false =>
      have hk0 := Nat.ne_of_beq_eq_false h0
      simp only [cond_false]
      cases h1 : Nat.beq (Nat.mod k 2) 1 with
      | true =>
        simp only [cond_true]
        cases t with
        | nil => rfl
        | node v l r =>
          have := ih (Nat.div k 2) l (by have : Nat.div k 2 = k / 2 := rfl; omega)
          simp only [Tr.get, h0, h1, cond_true, cond_false]
          rw [← this]
          rfl
      | false =>
        simp only [cond_false]
        cases t with
        | nil => rfl
        | node v l r =>
          have := ih (Nat.sub (Nat.div k 2) 1) r (by have h1 : Nat.div k 2 = k / 2 := rfl; have h2 : Nat.sub (Nat.div k 2) 1 = k / 2 - 1 := rfl; omega)
          simp only [Tr.get, h0, h1, cond_false]
          rw [← this]
          rfl
theorem getP_eq {α : Type} (k : Nat) (t : Tr α) : getP (pathOf k) t = t.get k := getP_path _ _ _ (Nat.lt_succ_self k)
theorem putP_path {α : Type} (x : Option α) : ∀ (d k : Nat) (t : Tr α), k < d → putP (pathF d k) x t = Tr.putD x d t k := by
  intro d
  induction d with
  | zero => intro k t h; omega
  | succ d ih =>
    intro k t h
    unfold pathF
    cases h0 : Nat.beq k 0 with
    | true =>
      simp only [cond_true]
      cases t with
      | nil => simp only [Tr.putD, h0, cond_true]; rfl
      | node v l r => simp only [Tr.putD, h0, cond_true]; rfl
    | false =>
      have hk0 := Nat.ne_of_beq_eq_false h0
      simp only [cond_false]
      cases h1 : Nat.beq (Nat.mod k 2) 1 with
      | true =>
        simp only [cond_true]
        have hlt : Nat.div k 2 < d := by have : Nat.div k 2 = k / 2 := rfl; omega
        cases t with
        | nil => simp only [Tr.putD, h0, h1, cond_true, cond_false]; rw [← ih _ _ hlt]; rfl
        | node v l r => simp only [Tr.putD, h0, h1, cond_true, cond_false]; rw [← ih _ _ hlt]; rfl
      | false =>
        simp only [cond_false]
        have hlt : Nat.sub (Nat.div k 2) 1 < d := by have h1 : Nat.div k 2 = k / 2 := rfl; have h2 : Nat.sub (Nat.div k 2) 1 = k / 2 - 1 := rfl; omega
        cases t with
        | nil => simp only [Tr.putD, h0, h1, cond_false]; rw [← ih _ _ hlt]; rfl
        | node v l r => simp only [Tr.putD, h0, h1, cond_false]; rw [← ih _ _ hlt]; rfl
theorem putP_eq {α : Type} (k : Nat) (x : Option α) (t : Tr α) : putP (pathOf k) x t = t.put k x := putP_path x _ _ _ (Nat.lt_succ_self k)
theorem cellsK_spec {A : H} {b : Nat} {k : Bool → TypeId → List Value → Bool} (h : cellsK A b k = true) : ∃ ro e c, A.get b = some (.cells ro e c) ∧ k ro e c = true := by
  unfold cellsK at h
  rw [getP_eq] at h
  unfold H.get
  cases hg : A.t.get b with
  | none => rw [hg] at h; cases h
  | some o =>
    rw [hg] at h
    cases o with
    | cells ro e c => exact ⟨ro, e, c, rfl, h⟩
    | map es c => cases h
    | iter s p => cases h
theorem setHK_eq (A : H) (b : Nat) (o : AObj) (k : H → Bool) : setHK A b o k = k (A.set b o) := by
  obtain ⟨t, n⟩ := A
  show k ⟨putP (pathOf b) (some o) t, n⟩ = _
  rw [putP_eq]
  rfl
theorem pushHK_eq (A : H) (o : AObj) (k : Nat → H → Bool) : pushHK A o k = k A.next (A.push o) := by
  obtain ⟨t, n⟩ := A
  show natK (Nat.succ n) (fun m => k n ⟨putP (pathOf n) (some o) t, m⟩) = _
  rw [natK_eq, putP_eq]
  rfl
end Go.Ab
