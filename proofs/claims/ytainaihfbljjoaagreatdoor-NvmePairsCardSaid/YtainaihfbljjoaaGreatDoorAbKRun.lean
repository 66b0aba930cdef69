/- The quick interpreter's operations and code: what it says, the interpreter says. -/
import Derived.Test.YtainaihfbljjoaaGreatDoorAbKInt
import Derived.Test.YtainaihfbljjoaaGreatDoorAbKNat
set_option linter.all false
set_option linter.unusedSectionVars false
set_option linter.unusedVariables false
set_option linter.unusedSimpArgs false
namespace Go.Ab
open Go

/-! ### More rounds, the same answer -/
def Le (c c' : Caller) : Prop := ∀ f args A r, c f args A = some r → c' f args A = some r
theorem Le.refl (c : Caller) : Le c c := fun _ _ _ _ h => h
theorem Le.trans {a b c : Caller} (h : Le a b) (k : Le b c) : Le a c := fun f args A r x => k f args A r (h f args A r x)
theorem runOp_mono {c c' : Caller} (h : Le c c') {op : XOp} {t : Tm} {A : H} {r : Value × H} (hr : runOp c op t A = some r) : runOp c' op t A = some r := by
  cases op <;> first | exact hr | skip
  · exact h _ _ _ _ hr
  · simp only [runOp] at hr ⊢
    split at hr
    · rename_i hc; exact h _ _ _ _ hr
    · cases hr
  · simp only [runOp] at hr ⊢
    split at hr
    · rename_i hc; exact h _ _ _ _ hr
    · cases hr
theorem evalOne_mono {c c' : Caller} (h : Le c c') {o : XOper} {t : Tm} {A : H} {r : Tm × H} (hr : evalOne c o t A = some r) : evalOne c' o t A = some r := by
  unfold evalOne at hr ⊢
  cases hw : wantedA t o.guard with
  | false => rw [hw] at hr; exact hr
  | true =>
    rw [hw] at hr
    simp only [cond_true] at hr ⊢
    split at hr
    · rename_i v A' hro
      rw [runOp_mono h hro]; exact hr
    · cases hr
theorem evalOps_mono {c c' : Caller} (h : Le c c') : ∀ {l : List XOper} {t : Tm} {A : H} {r : Tm × H}, evalOps c l t A = some r → evalOps c' l t A = some r := by
  intro l
  induction l with
  | nil => intro t A r hr; exact hr
  | cons o l ih =>
    intro t A r hr
    simp only [evalOps] at hr ⊢
    split at hr
    · rename_i t1 A1 h1
      rw [evalOne_mono h h1]; exact ih hr
    · cases hr
theorem evalDraw_mono {c c' : Caller} (h : Le c c') : ∀ {l : List (XOper × List XOper)} {t : Tm} {A : H} {r : Tm × H}, evalDraw c l t A = some r → evalDraw c' l t A = some r := by
  intro l
  induction l with
  | nil => intro t A r hr; exact hr
  | cons o l ih =>
    intro t A r hr
    obtain ⟨o, re⟩ := o
    simp only [evalDraw] at hr ⊢
    split at hr
    · rename_i t1 A1 h1
      rw [evalOne_mono h h1]
      simp only
      cases ha : re.all (again t1 A1) with
      | false => rw [ha] at hr; cases hr
      | true => rw [ha] at hr; exact ih hr
    · cases hr
theorem evalC_mono {c c' : Caller} (h : Le c c') : ∀ {n m : Nat}, n ≤ m → ∀ {x : XCode} {t : Tm} {A : H} {r : XExit × Tm × H}, evalC c n x t A = some r → evalC c' m x t A = some r := by
  intro n
  induction n with
  | zero => intro m _ x t A r hr; simp [evalC] at hr
  | succ n ih =>
    intro m hm x t A r hr
    obtain ⟨m, rfl⟩ : ∃ m', m = m' + 1 := ⟨m - 1, by omega⟩
    have hm : n ≤ m := by omega
    cases x with
    | skip => simpa [evalC] using hr
    | ops l =>
      simp only [evalC] at hr ⊢
      split at hr
      · rename_i h1; rw [evalOps_mono h h1]; exact hr
      · cases hr
    | draw l =>
      simp only [evalC] at hr ⊢
      split at hr
      · rename_i h1; rw [evalDraw_mono h h1]; exact hr
      · cases hr
    | seq a b =>
      simp only [evalC] at hr ⊢
      cases ha : evalC c n a t A with
      | none => rw [ha] at hr; cases hr
      | some q =>
        rw [ih hm ha]
        rw [ha] at hr
        obtain ⟨xe, t1, A1⟩ := q
        cases xe with
        | normal => exact ih hm hr
        | exit i => exact hr
        | ret => exact hr
    | cond x a b =>
      simp only [evalC] at hr ⊢
      split at hr
      · rename_i hv; exact ih hm hr
      · rename_i hv; exact ih hm hr
      · cases hr
    | block id b =>
      simp only [evalC] at hr ⊢
      cases ha : evalC c n b t A with
      | none => rw [ha] at hr; cases hr
      | some q => rw [ih hm ha]; rw [ha] at hr; exact hr
    | loop b =>
      simp only [evalC] at hr ⊢
      cases ha : evalC c n b t A with
      | none => rw [ha] at hr; cases hr
      | some q =>
        rw [ih hm ha]
        rw [ha] at hr
        obtain ⟨xe, t1, A1⟩ := q
        cases xe with
        | normal => exact ih hm hr
        | exit i => exact hr
        | ret => exact hr
    | exit id => simpa [evalC] using hr
    | ret => simpa [evalC] using hr
    | bad w => simp [evalC] at hr

/-- A told answer says no less where its callees do. -/
def NatMono (code : FuncId → Option XFun) : Prop := ∀ f g, code f = some (.nat g) → ∀ c c', Le c c' → ∀ args A r, g c args A = some r → g c' args A = some r
section
variable {code : FuncId → Option XFun}
theorem evalF_succ (hn : NatMono code) : ∀ n, Le (evalF code n) (evalF code (n + 1)) := by
  intro n
  induction n with
  | zero => intro f args A r h; simp [evalF] at h
  | succ n ih =>
    intro f args A r h
    rw [evalF] at h ⊢
    have up : ∀ {x : XCode} {t : Tm} {A : H} {r : XExit × Tm × H}, evalC (evalF code n) n x t A = some r → evalC (evalF code (n + 1)) (n + 1) x t A = some r := fun hr => evalC_mono ih (Nat.le_succ n) hr
    split at h
    · cases h
    · rename_i g hg; exact hn f g hg _ _ ih args A r h
    · rename_i nt rs x fo das y hf
      cases hb : Nat.ble args.length nt with
      | false => rw [hb] at h; cases h
      | true =>
        rw [hb] at h
        simp only [cond_true] at h ⊢
        split at h
        case h_2 => cases h
        rename_i t1 A1 he1
        rw [up he1]
        simp only
        split at h
        case h_2 => cases h
        rename_i g dl hca
        split at h
        case h_1 => cases h
        case h_3 => cases h
        rename_i xe t2 A2 hne he2
        rw [up he2]
        have hne' : ∀ {α : Type} (u v : α), (match (some (xe, t2, A2) : Option (XExit × Tm × H)) with | some (.exit _, _, _) => u | some (_, _, _) => v | none => u) = v := fun u v => by cases xe <;> first | rfl | exact absurd rfl (hne _)
        split at h
        case h_2 => cases h
        rename_i gx hgx
        cases hg1 : (Nat.ble dl.length gx.ntmps && gx.results.isEmpty) with
        | false => rw [hg1] at h; cases h
        | true =>
          rw [hg1] at h
          simp only [cond_true] at h
          split at h
          case h_1 => cases h
          case h_3 => cases h
          rename_i xe3 t3 A3 hne3 he3
          cases xe with
          | exit i => exact absurd rfl (hne i)
          | _ =>
            simp only [hgx, hg1, cond_true, up he3]
            cases xe3 with
            | exit i => exact absurd rfl (hne3 i)
            | _ => exact h
    · rename_i fn hf
      cases hb : Nat.ble args.length fn.ntmps with
      | false => rw [hb] at h; cases h
      | true =>
        rw [hb] at h
        simp only [cond_true] at h ⊢
        cases he : evalC (evalF code n) n fn.body (argsT args 0 .nil) A with
        | none => rw [he] at h; cases h
        | some q => rw [evalC_mono ih (Nat.le_succ n) he]; rw [he] at h; exact h
theorem evalF_mono (hn : NatMono code) {n m : Nat} (h : n ≤ m) : Le (evalF code n) (evalF code m) := by
  induction h with
  | refl => exact Le.refl _
  | step h ih => exact ih.trans (evalF_succ hn _)
end

/-! ### Operations -/
/-- What the quick caller says is so. -/
def CKOk (code : FuncId → Option XFun) (c : CallK) : Prop := ∀ f args A k, c f args A k = true → ∃ n v A', evalF code n f args A = some (v, A') ∧ k v A' = true
section
variable {code : FuncId → Option XFun} {c : CallK} {T : TK} {t : Tm} {A : H}
theorem slow_spec (hT : TR T t) {op : XOp} {k : Value → H → Bool} (h : slowK op T A c k = true) : ∃ v A', evalOp op (val t) A = some (v, A') ∧ k v A' = true := by
  obtain ⟨v, A', h1, h2⟩ := optK_spec h
  rw [hT.fn] at h1
  exact ⟨v, A', h1, h2⟩
theorem mapR_eq (hT : TR T t) (l : List Operand) : mapR T l = l.map (val t) := by
  induction l with
  | nil => rfl
  | cons o l ih => show rdK o T :: mapR T l = _; rw [ih, hT.rd]; rfl
theorem ofNatK_spec {n : Int} {k : Nat → Bool} (h : ofNatK n k = true) : ∃ a, n = Int.ofNat a ∧ k a = true := by
  cases n with
  | ofNat a => exact ⟨a, rfl, h⟩
  | negSucc a => cases h
theorem one1_spec {n : Nat} {agg : Bool} (h : one1 n agg = true) : n = 1 ∧ agg = false := by
  cases agg with
  | false => exact ⟨Nat.eq_of_beq_eq_true h, rfl⟩
  | true => cases h
theorem add_off (b o n : Nat) : (⟨b, o, none⟩ : Addr).add n = ⟨b, o + n, none⟩ := by
  unfold Addr.add
  split
  · subst_vars; rfl
  · rfl

/-- An operation that calls nobody, or one that does. -/
theorem kOp_spec (hc : CKOk code c) (hT : TR T t) {op : XOp} {k : Value → H → Bool} (h : kOp op T A c k = true) : ∃ n v A', runOp (evalF code n) op t A = some (v, A') ∧ k v A' = true := by
  have plain : ∀ {op : XOp}, (∀ cl, runOp cl op t A = evalOp op (val t) A) → (∃ v A', evalOp op (val t) A = some (v, A') ∧ k v A' = true) → ∃ n v A', runOp (evalF code n) op t A = some (v, A') ∧ k v A' = true := by
    intro op h1 ⟨v, A', h2, h3⟩
    exact ⟨0, v, A', by rw [h1, h2], h3⟩
  cases op with
  | move x => exact plain (fun _ => rfl) ⟨_, _, rfl, by rw [← hT.rd]; exact h⟩
  | pick cc a b =>
    refine plain (fun _ => rfl) ?_
    obtain ⟨x, h1, h2⟩ := boolK_spec (v := rdK cc T) h
    refine ⟨_, _, by simp only [evalOp, ← hT.rd, h1, boolV, Option.map_some]; rfl, ?_⟩
    cases x <;> exact h2
  | alloc e z =>
    refine plain (fun _ => rfl) ⟨_, _, rfl, ?_⟩
    have h' : pushHK A (.cells false e z) (fun n A' => k (.pointer (some ⟨n, 0, none⟩)) A') = true := h
    rw [pushHK_eq] at h'
    exact h'
  | box e x =>
    refine plain (fun _ => rfl) ⟨_, _, rfl, ?_⟩
    have h' : pushHK A (.cells false e (cellsL (rdK x T))) (fun n A' => k (.pointer (some ⟨n, 0, none⟩)) A') = true := h
    rw [pushHK_eq, hT.rd] at h'
    exact h'
  | build z ps => exact plain (fun _ => rfl) (slow_spec (c := c) hT h)
  | buildSlice e n z ps => exact plain (fun _ => rfl) (slow_spec (c := c) hT h)
  | load n agg a =>
    refine plain (fun _ => rfl) ?_
    obtain ⟨b, o, h1, h⟩ := ptrK_spec (v := rdK a T) h
    obtain ⟨ro, e, cs, h2, h⟩ := cellsK_spec h
    rw [hT.rd] at h1
    cases h1b : one1 n agg with
    | true =>
      rw [h1b] at h
      obtain ⟨rfl, rfl⟩ := one1_spec h1b
      obtain ⟨v, h3, h4⟩ := nthK_spec h
      exact ⟨v, A, by simp only [evalOp, h1, loadA, h2, cut_one h3, Option.bind_some, oneV, cond_false, Option.map_some], h4⟩
    | false =>
      rw [h1b] at h
      obtain ⟨l, h3, h⟩ := optA_spec h
      obtain ⟨v, h4, h5⟩ := optA_spec h
      exact ⟨v, A, by simp only [evalOp, h1, loadA, h2, h3, Option.bind_some, h4, Option.map_some], h5⟩
  | store n a x =>
    refine plain (fun _ => rfl) ?_
    have h' : Bool.rec (motive := fun _ => Bool) (slowK (.store n a x) T A c k)
      (ptrK (rdK a T) fun b o => cellsK A b fun ro e c => Bool.rec (motive := fun _ => Bool) (setNK o c (rdK x T) fun c' => setHK A b (.cells false e c') fun A' => k noV A') false ro) (and (Nat.beq n 1) (oneK (rdK x T))) = true := h
    cases hb : and (Nat.beq n 1) (oneK (rdK x T)) with
    | false => rw [hb] at h'; exact slow_spec (c := c) hT h'
    | true =>
      rw [hb] at h'
      simp only at h'
      have hb' : Nat.beq n 1 = true ∧ oneK (rdK x T) = true := by
        cases h1 : Nat.beq n 1 <;> cases h2 : oneK (rdK x T) <;> simp_all
      have hn := Nat.eq_of_beq_eq_true hb'.1
      subst hn
      obtain ⟨k1, k2⟩ := oneK_spec hb'.2
      obtain ⟨b, o, h1, h'⟩ := ptrK_spec h'
      obtain ⟨ro, e, cs, h2, h'⟩ := cellsK_spec h'
      cases ro with
      | true => cases h'
      | false =>
        simp only at h'
        obtain ⟨h3, h4⟩ := setNK_spec h'
        rw [setHK_eq] at h4
        rw [hT.rd] at h1 k1 k2 h4
        refine ⟨_, _, ?_, h4⟩
        simp only [evalOp, h1, k1, List.length_cons, List.length_nil]
        simp only [storeA, h2, List.all_cons, k2, List.all_nil, over_one h3]
        rfl
  | nilCheck x =>
    refine plain (fun _ => rfl) ?_
    obtain ⟨b, o, h1, h⟩ := ptrK_spec (v := rdK x T) h
    rw [hT.rd] at h1
    exact ⟨_, _, by simp only [evalOp, h1], h⟩
  | bin op d x y =>
    refine plain (fun _ => rfl) ?_
    obtain ⟨v, h1, h2⟩ := binK_spec (a := rdK x T) (b := rdK y T) h
    rw [hT.rd, hT.rd] at h1
    exact ⟨v, A, by simp only [evalOp, h1, Option.map_some], h2⟩
  | un op x =>
    refine plain (fun _ => rfl) ?_
    cases op with
    | not =>
      obtain ⟨b, h1, h⟩ := boolK_spec (v := rdK x T) h
      rw [hT.rd] at h1
      exact ⟨_, _, by simp only [evalOp, h1, unA, Option.map_some], h⟩
    | neg => exact slow_spec (c := c) hT h
    | xor => exact slow_spec (c := c) hT h
    | plus => exact slow_spec (c := c) hT h
  | toInt kd x =>
    refine plain (fun _ => rfl) ?_
    rcases intOr_spec (v := rdK x T) h with ⟨ki, n, h1, h⟩ | h
    · rw [wrapK_eq] at h
      rw [hT.rd] at h1
      exact ⟨_, _, by simp only [evalOp, h1, intV, Option.map_some], h⟩
    · exact slow_spec (c := c) hT h
  | toUnsafe x => exact plain (fun _ => rfl) (slow_spec (c := c) hT h)
  | assert u z x => exact plain (fun _ => rfl) (slow_spec (c := c) hT h)
  | isNil g x y => exact plain (fun _ => rfl) (slow_spec (c := c) hT h)
  | eqS g l x y => exact plain (fun _ => rfl) (slow_spec (c := c) hT h)
  | same x => exact plain (fun _ => rfl) (slow_spec (c := c) hT h)
  | toBytes e x => exact plain (fun _ => rfl) (slow_spec (c := c) hT h)
  | ofBytes x => exact plain (fun _ => rfl) (slow_spec (c := c) hT h)
  | fieldAddr off x =>
    refine plain (fun _ => rfl) ?_
    obtain ⟨b, o, h1, h⟩ := ptrK_spec (v := rdK x T) h
    rw [natK_eq] at h
    rw [hT.rd] at h1
    exact ⟨_, _, by simp only [evalOp, h1, add_off]; rfl, h⟩
  | indexAddr arr size x i =>
    refine plain (fun _ => rfl) ?_
    obtain ⟨ki, n, h1, h⟩ := intK_spec (v := rdK i T) h
    obtain ⟨m, rfl, h⟩ := ofNatK_spec h
    rw [hT.rd] at h1
    cases arr with
    | none =>
      simp only at h
      obtain ⟨a, l, cp, h2, h⟩ := sliceK_spec h
      obtain ⟨b, o, ha, h9⟩ := addrK_spec h
      clear h
      subst ha
      rw [hT.rd] at h2
      cases hb : Nat.blt m l with
      | false => rw [hb] at h9; cases h9
      | true =>
        rw [hb] at h9
        simp only at h9
        rw [natK_eq] at h9
        have h := h9
        have hlt : m < l := Nat.le_of_ble_eq_true hb
        refine ⟨_, _, ?_, h⟩
        simp only [evalOp, h1, h2, intV]
        rw [if_pos ⟨Int.natCast_nonneg m, by show (m : Int) < (l : Int); omega⟩, add_off]
        rfl
    | some l =>
      simp only at h
      obtain ⟨b, o, h2, h⟩ := ptrK_spec h
      rw [hT.rd] at h2
      cases hb : Nat.blt m l with
      | false => rw [hb] at h; cases h
      | true =>
        rw [hb] at h
        simp only at h
        rw [natK_eq] at h
        have hlt : m < l := Nat.le_of_ble_eq_true hb
        refine ⟨_, _, ?_, h⟩
        simp only [evalOp, h1, h2, intV]
        rw [if_pos ⟨Int.natCast_nonneg m, by show (m : Int) < (l : Int); omega⟩, add_off]
        rfl
  | field off size agg x =>
    refine plain (fun _ => rfl) ?_
    obtain ⟨cs, h1, h⟩ := aggK_spec (v := rdK x T) h
    rw [hT.rd] at h1
    cases h1b : one1 size agg with
    | true =>
      rw [h1b] at h
      obtain ⟨rfl, rfl⟩ := one1_spec h1b
      obtain ⟨v, h3, h4⟩ := nthK_spec h
      exact ⟨v, A, by simp only [evalOp, h1, cut_one h3, Option.bind_some, oneV, cond_false, Option.map_some], h4⟩
    | false =>
      rw [h1b] at h
      obtain ⟨l, h3, h⟩ := optA_spec h
      obtain ⟨v, h4, h5⟩ := optA_spec h
      exact ⟨v, A, by simp only [evalOp, h1, h3, Option.bind_some, h4, Option.map_some], h5⟩
  | index arr x i =>
    refine plain (fun _ => rfl) ?_
    cases arr with
    | some q => exact slow_spec (c := c) hT h
    | none =>
      obtain ⟨ki, n, h1, h⟩ := intK_spec (v := rdK i T) h
      obtain ⟨m, rfl, h⟩ := ofNatK_spec h
      rcases strOr_spec h with ⟨s, h2, h⟩ | h
      · obtain ⟨b, h3, h⟩ := nthK_spec h
        rw [natK_eq] at h
        rw [hT.rd] at h1 h2
        refine ⟨_, _, ?_, h⟩
        simp only [evalOp, h1, h2, intV]
        rw [if_pos (show (0 : Int) ≤ Int.ofNat m from Int.natCast_nonneg m)]
        have : (Int.ofNat m).toNat = m := rfl
        rw [this, h3]
        rfl
      · exact slow_spec (c := c) hT h
  | sliceStr x lo hi => exact plain (fun _ => rfl) (slow_spec (c := c) hT h)
  | slice e s a x lo hi mx => exact plain (fun _ => rfl) (slow_spec (c := c) hT h)
  | extract x i =>
    refine plain (fun _ => rfl) ?_
    obtain ⟨vs, h1, h⟩ := tupK_spec (v := rdK x T) h
    obtain ⟨v, h3, h4⟩ := nthK_spec h
    rw [hT.rd] at h1
    have hg : ∀ (l : List Value) (i : Nat), getN l i = l[i]? := by
      intro l
      induction l with
      | nil => intro i; rfl
      | cons x l ih =>
        intro i
        simp only [getN]
        cases i with
        | zero => rfl
        | succ i =>
          have hb : Nat.beq (i + 1) 0 = false := rfl
          rw [hb]
          simp only [cond_false, List.getElem?_cons_succ]
          exact ih i
    exact ⟨v, A, by simp only [evalOp, h1, hg, h3, Option.map_some], h4⟩
  | makeIface ty x => exact plain (fun _ => rfl) ⟨_, _, rfl, by rw [← hT.rd]; exact h⟩
  | makeFunc fn fs cs => exact plain (fun _ => rfl) (slow_spec (c := c) hT h)
  | makeMap => exact plain (fun _ => rfl) (slow_spec (c := c) hT h)
  | mapPut d m kk x => exact plain (fun _ => rfl) (slow_spec (c := c) hT h)
  | lookup d z m kk ok => exact plain (fun _ => rfl) (slow_spec (c := c) hT h)
  | mapDel d m kk => exact plain (fun _ => rfl) (slow_spec (c := c) hT h)
  | makeSlice e b s z l cp => exact plain (fun _ => rfl) (slow_spec (c := c) hT h)
  | rangeStr x => exact plain (fun _ => rfl) (slow_spec (c := c) hT h)
  | nextStr x => exact plain (fun _ => rfl) (slow_spec (c := c) hT h)
  | call f args =>
    have h' : c f (mapR T args) A k = true := h
    rw [mapR_eq hT] at h'
    obtain ⟨n, v, A', h1, h2⟩ := hc _ _ _ _ h'
    exact ⟨n, v, A', h1, h2⟩
  | callV f args =>
    obtain ⟨p, h1, h⟩ := optA_spec (o := calleeA (rdK f T) (mapR T args)) h
    rw [mapR_eq hT, hT.rd] at h1
    obtain ⟨n, v, A', h2, h3⟩ := hc _ _ _ _ h
    exact ⟨n, v, A', by simp only [runOp, h1]; exact h2, h3⟩
  | callI find r args =>
    obtain ⟨p, h1, h⟩ := optA_spec (o := calleeM find (rdK r T) (mapR T args)) h
    rw [mapR_eq hT, hT.rd] at h1
    obtain ⟨n, v, A', h2, h3⟩ := hc _ _ _ _ h
    exact ⟨n, v, A', by simp only [runOp, h1]; exact h2, h3⟩
  | len arr x =>
    refine plain (fun _ => rfl) ?_
    cases arr with
    | none =>
      obtain ⟨a, l, cp, h1, h⟩ := sliceK_spec (v := rdK x T) h
      rw [hT.rd] at h1
      exact ⟨_, _, by simp only [evalOp, h1]; rfl, h⟩
    | some n => exact ⟨_, _, by simp only [evalOp]; rfl, h⟩
  | lenStr x =>
    refine plain (fun _ => rfl) ?_
    rcases strOr_spec (v := rdK x T) h with ⟨s, h1, h⟩ | h
    · rw [natK_eq] at h
      rw [hT.rd] at h1
      exact ⟨_, _, by simp only [evalOp, h1]; rfl, h⟩
    · exact slow_spec (c := c) hT h
  | append e s b x y => exact plain (fun _ => rfl) (slow_spec (c := c) hT h)
  | copy s x y => exact plain (fun _ => rfl) (slow_spec (c := c) hT h)
  | clear z x => exact plain (fun _ => rfl) (slow_spec (c := c) hT h)
  | minmax m xs => exact plain (fun _ => rfl) (slow_spec (c := c) hT h)
  | ext kd xs => exact plain (fun _ => rfl) (slow_spec (c := c) hT h)
  | bad w => cases h
end

/-! ### Code -/
section
variable {code : FuncId → Option XFun} {c : CallK}
theorem boolOr_spec {v : Value} {k : Bool → Bool} {f : Bool} (h : boolOr v k f = true) : (∃ b, v = .bool b ∧ k b = true) ∨ ((∀ b, v ≠ .bool b) ∧ f = true) := by
  cases v <;> first | exact .inl ⟨_, rfl, h⟩ | exact .inr ⟨(fun b hb => by cases hb), h⟩
theorem guardK_spec {T : TK} {t : Tm} (hT : TR T t) {g : Option (Tmp × Bool)} {k : Bool → Bool} (h : guardK g T k = true) : k (wantedA t g) = true := by
  cases g with
  | none => exact h
  | some p =>
    obtain ⟨i, w⟩ := p
    have hv := hT i
    simp only [wantedA]
    rcases boolOr_spec (v := rdT i T) h with ⟨b, h1, h2⟩ | ⟨h1, h2⟩
    · rw [hv, h1]
      simp only
      cases b <;> cases w <;> exact h2
    · rw [hv]
      split
      · rename_i b hb; exact absurd hb (h1 b)
      · exact h2
theorem kOne_spec (hc : CKOk code c) {T : TK} {t : Tm} {A : H} (hT : TR T t) {o : XOper} {k : ContK} (h : kOne o T A c k = true) : ∃ n t' A', evalOne (evalF code n) o t A = some (t', A') ∧ ∃ T', TR T' t' ∧ k T' A' = true := by
  obtain ⟨dst, g, op⟩ := o
  have h' := guardK_spec hT (g := g) (k := fun w => Bool.rec (motive := fun _ => Bool) (putD dst noV T fun T' => k T' A) (kOp op T A c fun v A' => putD dst v T fun T' => k T' A') w) h
  simp only [evalOne]
  cases hw : wantedA t g with
  | false =>
    rw [hw] at h'
    obtain ⟨T', k1, k2⟩ := hT.putD h'
    exact ⟨0, _, A, rfl, T', k1, k2⟩
  | true =>
    rw [hw] at h'
    obtain ⟨n, v, A', k1, k2⟩ := kOp_spec hc hT h'
    obtain ⟨T', k3, k4⟩ := hT.putD k2
    exact ⟨n, _, A', by simp only [cond_true, k1], T', k3, k4⟩
theorem kOps_spec (hn : NatMono code) (hc : CKOk code c) : ∀ {l : List XOper} {T : TK} {t : Tm} {A : H}, TR T t → ∀ {k : ContK}, kOps l T A c k = true → ∃ n t' A', evalOps (evalF code n) l t A = some (t', A') ∧ ∃ T', TR T' t' ∧ k T' A' = true := by
  intro l
  induction l with
  | nil => intro T t A hT k h; exact ⟨0, t, A, rfl, T, hT, h⟩
  | cons o l ih =>
    intro T t A hT k h
    obtain ⟨n1, t1, A1, h1, T1, hT1, h⟩ := kOne_spec hc hT (k := fun T' A' => kOps l T' A' c k) h
    obtain ⟨n2, t2, A2, h2, T2, hT2, h⟩ := ih hT1 h
    refine ⟨max n1 n2, t2, A2, ?_, T2, hT2, h⟩
    simp only [evalOps]
    rw [evalOne_mono (evalF_mono hn (Nat.le_max_left n1 n2)) h1]
    exact evalOps_mono (evalF_mono hn (Nat.le_max_right n1 n2)) h2
theorem again_eq {T : TK} {t : Tm} (hT : TR T t) (A : H) (o : XOper) : againR (fun o => rdK o T) A o = again t A o := by
  unfold againR again
  rw [hT.fn]
  cases o.guard with
  | none => rfl
  | some p => rfl
theorem allK_eq {T : TK} {t : Tm} (hT : TR T t) (A : H) (l : List XOper) : allK (fun o => rdK o T) A l = l.all (again t A) := by
  induction l with
  | nil => rfl
  | cons o l ih =>
    show (Bool.rec (motive := fun _ => Bool) false (allK (fun o => rdK o T) A l) (againR (fun o => rdK o T) A o)) = _
    rw [again_eq hT, ih]
    cases h : again t A o <;> simp [h]
theorem kDraw_spec (hn : NatMono code) (hc : CKOk code c) : ∀ {l : List (XOper × List XOper)} {T : TK} {t : Tm} {A : H}, TR T t → ∀ {k : ContK}, kDraw l T A c k = true → ∃ n t' A', evalDraw (evalF code n) l t A = some (t', A') ∧ ∃ T', TR T' t' ∧ k T' A' = true := by
  intro l
  induction l with
  | nil => intro T t A hT k h; exact ⟨0, t, A, rfl, T, hT, h⟩
  | cons o l ih =>
    intro T t A hT k h
    obtain ⟨o, re⟩ := o
    obtain ⟨n1, t1, A1, h1, T1, hT1, h⟩ := kOne_spec hc hT (k := fun T' A' => Bool.rec (motive := fun _ => Bool) false (kDraw l T' A' c k) (allK (fun o => rdK o T') A' re)) h
    rw [allK_eq hT1] at h
    cases ha : re.all (again t1 A1) with
    | false => rw [ha] at h; cases h
    | true =>
      rw [ha] at h
      obtain ⟨n2, t2, A2, h2, T2, hT2, h⟩ := ih hT1 h
      refine ⟨max n1 n2, t2, A2, ?_, T2, hT2, h⟩
      simp only [evalDraw]
      rw [evalOne_mono (evalF_mono hn (Nat.le_max_left n1 n2)) h1]
      simp only [ha, cond_true]
      exact evalDraw_mono (evalF_mono hn (Nat.le_max_right n1 n2)) h2

/-- How it goes on from an exit. -/
def after (env : Nat → ContK) (ret k : ContK) : XExit → ContK
  | .normal => k
  | .exit i => env i
  | .ret => ret
def CSpec (code : FuncId → Option XFun) (x : XCode) (t : Tm) (A : H) (env : Nat → ContK) (ret k : ContK) : Prop :=
  ∃ n xe t' A', evalC (evalF code n) n x t A = some (xe, t', A') ∧ ∃ T', TR T' t' ∧ after env ret k xe T' A' = true
theorem kC_spec (hn : NatMono code) (hc : CKOk code c) : ∀ (x : XCode) {T : TK} {t : Tm} {A : H}, TR T t → ∀ {env : Nat → ContK} {ret k : ContK}, kC x c env ret k T A = true → CSpec code x t A env ret k := by
  have lift : ∀ {n m : Nat} {x : XCode} {t : Tm} {A : H} {r : XExit × Tm × H}, n ≤ m → evalC (evalF code n) n x t A = some r → evalC (evalF code m) m x t A = some r := fun h hr => evalC_mono (evalF_mono hn h) h hr
  have up : ∀ {n m m' : Nat} {x : XCode} {t : Tm} {A : H} {r : XExit × Tm × H}, n ≤ m → m ≤ m' → evalC (evalF code n) n x t A = some r → evalC (evalF code m') m x t A = some r := fun h h' hr => evalC_mono (evalF_mono hn (Nat.le_trans h h')) h hr
  intro x
  induction x with
  | skip => intro T t A hT env ret k h; exact ⟨1, .normal, t, A, rfl, T, hT, h⟩
  | ops l =>
    intro T t A hT env ret k h
    obtain ⟨n, t', A', h1, T', hT', h⟩ := kOps_spec hn hc hT (l := l) (k := k) h
    refine ⟨n + 1, .normal, t', A', ?_, T', hT', h⟩
    simp only [evalC]
    rw [evalOps_mono (evalF_mono hn (Nat.le_succ n)) h1]
  | draw l =>
    intro T t A hT env ret k h
    obtain ⟨n, t', A', h1, T', hT', h⟩ := kDraw_spec hn hc hT (l := l) (k := k) h
    refine ⟨n + 1, .normal, t', A', ?_, T', hT', h⟩
    simp only [evalC]
    rw [evalDraw_mono (evalF_mono hn (Nat.le_succ n)) h1]
  | seq a b iha ihb =>
    intro T t A hT env ret k h
    obtain ⟨n1, xe, t1, A1, h1, T1, hT1, h⟩ := iha hT (env := env) (ret := ret) (k := fun T A => kC b c env ret k T A) h
    cases xe with
    | normal =>
      obtain ⟨n2, xe2, t2, A2, h2, T2, hT2, h⟩ := ihb hT1 (env := env) (ret := ret) (k := k) h
      refine ⟨max n1 n2 + 1, xe2, t2, A2, ?_, T2, hT2, h⟩
      simp only [evalC]
      rw [up (Nat.le_max_left n1 n2) (Nat.le_succ _) h1]
      exact up (Nat.le_max_right n1 n2) (Nat.le_succ _) h2
    | exit i => exact ⟨n1 + 1, .exit i, t1, A1, by simp only [evalC]; rw [up (Nat.le_refl _) (Nat.le_succ _) h1], T1, hT1, h⟩
    | ret => exact ⟨n1 + 1, .ret, t1, A1, by simp only [evalC]; rw [up (Nat.le_refl _) (Nat.le_succ _) h1], T1, hT1, h⟩
  | cond x a b iha ihb =>
    intro T t A hT env ret k h
    obtain ⟨v, h1, h⟩ := boolK_spec (v := rdK x T) h
    rw [hT.rd] at h1
    cases v with
    | true =>
      obtain ⟨n, xe, t', A', h2, r⟩ := iha hT (env := env) (ret := ret) (k := k) h
      exact ⟨n + 1, xe, t', A', by simp only [evalC, h1]; exact up (Nat.le_refl _) (Nat.le_succ _) h2, r⟩
    | false =>
      obtain ⟨n, xe, t', A', h2, r⟩ := ihb hT (env := env) (ret := ret) (k := k) h
      exact ⟨n + 1, xe, t', A', by simp only [evalC, h1]; exact up (Nat.le_refl _) (Nat.le_succ _) h2, r⟩
  | block id b ih =>
    intro T t A hT env ret k h
    obtain ⟨n, xe, t', A', h1, T', hT', h⟩ := ih hT (env := fun i T A => Bool.rec (motive := fun _ => Bool) (env i T A) (k T A) (Nat.beq i id)) (ret := ret) (k := k) h
    cases xe with
    | normal => exact ⟨n + 1, .normal, t', A', by simp only [evalC]; rw [up (Nat.le_refl _) (Nat.le_succ _) h1], T', hT', h⟩
    | ret => exact ⟨n + 1, .ret, t', A', by simp only [evalC]; rw [up (Nat.le_refl _) (Nat.le_succ _) h1], T', hT', h⟩
    | exit i =>
      simp only [after] at h
      cases hb : Nat.beq i id with
      | true =>
        rw [hb] at h
        exact ⟨n + 1, .normal, t', A', by simp only [evalC]; rw [up (Nat.le_refl _) (Nat.le_succ _) h1]; simp only [hb, cond_true], T', hT', h⟩
      | false =>
        rw [hb] at h
        exact ⟨n + 1, .exit i, t', A', by simp only [evalC]; rw [up (Nat.le_refl _) (Nat.le_succ _) h1]; simp only [hb, cond_false], T', hT', h⟩
  | loop b ih =>
    intro T t A hT env ret k h
    have key : ∀ (m : Nat) {T : TK} {t : Tm} {A : H}, TR T t → loopK (fun self T A => kC b c env ret self T A) m T A = true → CSpec code (.loop b) t A env ret k := by
      intro m
      induction m with
      | zero => intro T t A _ h; cases h
      | succ m ihm =>
        intro T t A hT h
        obtain ⟨n1, xe, t1, A1, h1, T1, hT1, h⟩ := ih hT (env := env) (ret := ret) (k := loopK (fun self T A => kC b c env ret self T A) m) h
        cases xe with
        | normal =>
          obtain ⟨n2, xe2, t2, A2, h2, T2, hT2, h⟩ := ihm hT1 h
          refine ⟨max n1 n2 + 1, xe2, t2, A2, ?_, T2, hT2, h⟩
          rw [evalC]
          rw [up (Nat.le_max_left n1 n2) (Nat.le_succ _) h1]
          exact up (Nat.le_max_right n1 n2) (Nat.le_succ _) h2
        | exit i => exact ⟨n1 + 1, .exit i, t1, A1, by rw [evalC, up (Nat.le_refl _) (Nat.le_succ _) h1], T1, hT1, h⟩
        | ret => exact ⟨n1 + 1, .ret, t1, A1, by rw [evalC, up (Nat.le_refl _) (Nat.le_succ _) h1], T1, hT1, h⟩
    exact key roundsK hT h
  | exit id => intro T t A hT env ret k h; exact ⟨1, .exit id, t, A, rfl, T, hT, h⟩
  | ret => intro T t A hT env ret k h; exact ⟨1, .ret, t, A, rfl, T, hT, h⟩
  | bad w => intro T t A hT env ret k h; cases h

/-! ### Functions -/
theorem argsK_spec : ∀ {l : List Value} {i : Nat} {T : TK} {t : Tm}, TR T t → ∀ {k : TK → Bool}, argsK l i T k = true → ∃ T', TR T' (argsT l i t) ∧ k T' = true := by
  intro l
  induction l with
  | nil => intro i T t hT k h; exact ⟨T, hT, h⟩
  | cons v l ih =>
    intro i T t hT k h
    obtain ⟨T1, hT1, h⟩ := hT.put (i := i) (v := v) (k := fun T' => argsK l (Nat.succ i) T' k) h
    exact ih hT1 h
theorem resultsK_spec : ∀ {l : List (Nat × Option (Nat × Bool))} {T : TK} {t : Tm} {A : H}, TR T t → ∀ {k : List Value → Bool}, resultsK l T A k = true → ∃ vs, resultsA A t l = some vs ∧ k vs = true := by
  intro l
  induction l with
  | nil => intro T t A hT k h; exact ⟨[], rfl, h⟩
  | cons p l ih =>
    intro T t A hT k h
    obtain ⟨s, q⟩ := p
    cases q with
    | none =>
      obtain ⟨vs, h1, h⟩ := ih hT (A := A) (k := fun vs => k (rdT s T :: vs)) h
      exact ⟨_, by simp only [resultsA, h1, Option.map_some, hT s], h⟩
    | some q =>
      obtain ⟨n, agg⟩ := q
      obtain ⟨b, o, h1, h⟩ := ptrK_spec (v := rdT s T) h
      obtain ⟨ro, e, cs, h2, h⟩ := cellsK_spec h
      obtain ⟨l', h3, h⟩ := optA_spec h
      obtain ⟨v, h4, h⟩ := optA_spec h
      obtain ⟨vs, h5, h⟩ := ih hT (A := A) (k := fun vs => k (v :: vs)) h
      exact ⟨_, by simp only [resultsA, hT s, h1, loadA, h2, h3, Option.bind_some, h4, h5, Option.map_some], h⟩
theorem lateK_spec (hn : NatMono code) (hc : CKOk code c) {g : FuncId} {dl : List Value} {A : H} {k : H → Bool} (h : lateK code c g dl A k = true) :
    ∃ fn n xe t' A', code g = some (.body fn) ∧ (Nat.ble dl.length fn.ntmps && fn.results.isEmpty) = true ∧ (∀ i, xe ≠ .exit i) ∧ evalC (evalF code n) n fn.late (argsT dl 0 .nil) A = some (xe, t', A') ∧ k A' = true := by
  unfold lateK at h
  cases hg : code g with
  | none => rw [hg] at h; cases h
  | some xf =>
    rw [hg] at h
    cases xf with
    | dbody => cases h
    | nat g => cases h
    | body fn =>
      simp only at h
      cases hb : and (Nat.ble dl.length fn.ntmps) fn.results.isEmpty with
      | false => rw [hb] at h; cases h
      | true =>
        rw [hb] at h
        obtain ⟨T, hT, h3⟩ := argsK_spec TR.none h
        obtain ⟨m, xe, t', A', h4, T', hT', h5⟩ := kC_spec hn hc fn.late hT h3
        cases xe with
        | exit i => cases h5
        | normal => exact ⟨fn, m, .normal, t', A', rfl, hb, (fun i hi => by cases hi), h4, h5⟩
        | ret => exact ⟨fn, m, .ret, t', A', rfl, hb, (fun i hi => by cases hi), h4, h5⟩
/-- The quick form of a told answer says what it says. -/
def NatsOk (code : FuncId → Option XFun) (nats : FuncId → Option KNat) : Prop := ∀ f gk, nats f = some gk → ∃ g, code f = some (.nat g) ∧ ∀ c, CKOk code c → ∀ args A k, gk c args A k = true → ∃ n v A', g (evalF code n) args A = some (v, A') ∧ k v A' = true
/-- ████ THE QUICK INTERPRETER IS RIGHT. ████ -/
theorem kF_ok (hn : NatMono code) {nats : FuncId → Option KNat} (hk : NatsOk code nats) : ∀ n, CKOk code (kF code nats n) := by
  intro n
  induction n with
  | zero => intro f args A k h; cases h
  | succ n ih =>
    intro f args A k h
    have h' : Option.rec (motive := fun _ => Bool)
      (Option.rec (motive := fun _ => Bool) false (fun xf => XFun.rec (motive := fun _ => Bool) (fun x => runFK x (kF code nats n) args A k) (fun nt rs x fo das y => runDK code nt rs x fo das y (kF code nats n) args A k) (fun _ => false) xf) (code f))
      (fun g => g (kF code nats n) args A k) (nats f) = true := h
    clear h
    cases hg : nats f with
    | some gk =>
      rw [hg] at h'
      obtain ⟨g, h1, h2⟩ := hk f gk hg
      obtain ⟨m, v, A', h3, h4⟩ := h2 _ ih args A k h'
      exact ⟨m + 1, v, A', by rw [evalF, h1]; exact h3, h4⟩
    | none =>
      rw [hg] at h'
      simp only at h'
      cases hf : code f with
      | none => rw [hf] at h'; cases h'
      | some xf =>
        rw [hf] at h'
        cases xf with
        | nat g => cases h'
        | dbody nt rs x fo das y =>
          have h2 : runDK code nt rs x fo das y (kF code nats n) args A k = true := h'
          unfold runDK at h2
          cases hb : Nat.ble args.length nt with
          | false => rw [hb] at h2; cases h2
          | true =>
            rw [hb] at h2
            obtain ⟨T, hT, h3⟩ := argsK_spec TR.none h2
            obtain ⟨m1, xe1, t1, A1, e1, T1, hT1, h4⟩ := kC_spec hn ih x hT h3
            cases xe1 with
            | exit i => cases h4
            | ret => cases h4
            | normal =>
              obtain ⟨q, hq, h4⟩ := optA_spec (o := calleeA (rdK fo T1) (mapR T1 das)) h4
              rw [mapR_eq hT1, hT1.rd] at hq
              obtain ⟨m2, xe2, t2, A2, e2, T2, hT2, h5⟩ := kC_spec hn ih y hT1 h4
              have fin : (∀ i, xe2 ≠ .exit i) → lateK code (kF code nats n) q.1 q.2 A2 (fun A => resultsK rs T2 A fun vs => k (resultV vs) A) = true → ∃ n v A', evalF code n f args A = some (v, A') ∧ k v A' = true := by
                intro hne2 h6
                obtain ⟨fn, m3, xe3, t3, A3, hg, hg1, hne3, e3, h7⟩ := lateK_spec hn ih h6
                obtain ⟨vs, h8, h9⟩ := resultsK_spec hT2 h7
                let N := max m1 (max m2 m3)
                have u1 := evalC_mono (evalF_mono hn (show m1 ≤ N by omega)) (show m1 ≤ N by omega) e1
                have u2 := evalC_mono (evalF_mono hn (show m2 ≤ N by omega)) (show m2 ≤ N by omega) e2
                have u3 := evalC_mono (evalF_mono hn (show m3 ≤ N by omega)) (show m3 ≤ N by omega) e3
                refine ⟨N + 1, _, A3, ?_, h9⟩
                rw [evalF, hf]
                simp only [hb, cond_true, u1, hq, u2]
                cases xe2 with
                | exit i => exact absurd rfl (hne2 i)
                | _ =>
                  simp only [hg, hg1, cond_true, u3]
                  cases xe3 with
                  | exit i => exact absurd rfl (hne3 i)
                  | _ => simp only [h8]
              cases xe2 with
              | exit i => cases h5
              | normal => exact fin (fun i hi => by cases hi) h5
              | ret => exact fin (fun i hi => by cases hi) h5
        | body x =>
          have h2 : Bool.rec (motive := fun _ => Bool) false
            (argsK args 0 TK.none fun T => kC x.body (kF code nats n) (fun _ _ _ => false) (fun T A => resultsK x.results T A fun vs => k (resultV vs) A) (fun T A => resultsK x.results T A fun vs => k (resultV vs) A) T A) (Nat.ble args.length x.ntmps) = true := h'
          cases hb : Nat.ble args.length x.ntmps with
          | false => rw [hb] at h2; cases h2
          | true =>
            rw [hb] at h2
            obtain ⟨T, hT, h3⟩ := argsK_spec TR.none h2
            obtain ⟨m, xe, t', A', h4, T', hT', h5⟩ := kC_spec hn ih x.body hT h3
            cases xe with
            | exit i => cases h5
            | normal =>
              obtain ⟨vs, h6, h7⟩ := resultsK_spec hT' h5
              exact ⟨m + 1, _, A', by rw [evalF, hf]; simp only [hb, cond_true, h4, h6], h7⟩
            | ret =>
              obtain ⟨vs, h6, h7⟩ := resultsK_spec hT' h5
              exact ⟨m + 1, _, A', by rw [evalF, hf]; simp only [hb, cond_true, h4, h6], h7⟩
end
end Go.Ab
