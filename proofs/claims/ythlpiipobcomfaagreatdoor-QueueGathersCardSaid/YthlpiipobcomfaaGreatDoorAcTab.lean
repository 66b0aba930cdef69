/- Tables of numbers, bools and strings, however nested: what they read as, cell for cell. -/
/- What a row says of the package's tables, as blocks that the interpreter may read. -/
/- Tables again, where some of the package-level variables are not listed: of those only the place is known. -/
/- The interpreter's steps, one at a time, for runs that turn on what is not known. -/
/- Of the atomics and race marks without a body: what the model does at each, by name; asked of no program but that it names them plainly. -/
import Derived.OpenShut
import Derived.ChangeArms
import Derived.Test.YthlpiipobcomfaaGreatDoorAcFun
import Derived.LaidLaws
import Derived.ChangeSame
import Derived.Lib.LaidTab
import Derived.Test.YthlpiipobcomfaaGreatDoorAcEval
import Derived.KernelRfl
set_option linter.all false
set_option linter.unusedSectionVars false
set_option linter.unusedVariables false
set_option linter.unusedSimpArgs false
namespace Go.Ab
open Go
section
variable {P : Program}

def litV : Lit → Option Value
  | .int k z => some (.int k z)
  | .bool b => some (.bool b)
  | .string l => some (.string ⟨⟨l⟩⟩)
  | _ => none
def flatV {HH : Type} : Nat → DataW HH → Option (List Value)
  | _ + 1, .lit l => (litV l).map fun v => [v]
  | n + 1, .agg ps => (ps.mapM (flatV n)).map List.flatten
  | _, _ => none
def fieldsLay (P : Program) (ok : TypeId → Bool) : Nat → List Field → Option Nat
  | o, [] => some o
  | o, f :: fs => bif Nat.beq f.offset o && ok f.type then fieldsLay P ok (o + P.cellsOf f.type) fs else none
def okLay (P : Program) : Nat → TypeId → Bool
  | 0, _ => false
  | n + 1, t => match P.underlying t with
    | some .bool | some (.int _) | some .string => Nat.beq (P.cellsOf t) 1
    | some (.array k e) => okLay P n e && Nat.beq (P.cellsOf t) (k * P.cellsOf e)
    | some (.struct fs) => match fieldsLay P (okLay P n) 0 fs.toList with
      | some o => Nat.beq (P.cellsOf t) o
      | none => false
    | _ => false

variable {HH : Type} {enc : TypeId × Value → HH} {w : World} {base : Nat} {sp : Nat → Bool} {held : Bool}

theorem chunks_eq {s : Nat} {vss : List (List Value)} : ∀ {cs : List Value}, cs.length = vss.length * s → (∀ (i : Nat) v, vss[i]? = some v → (cs.drop (i * s)).take s = v) → cs = vss.flatten := by
  induction vss with
  | nil => intro cs h _; exact List.eq_nil_of_length_eq_zero (by simpa using h)
  | cons v vss ih =>
    intro cs h hg
    have h0 := hg 0 v rfl
    simp only [Nat.zero_mul, List.drop_zero] at h0
    have h1 := ih (cs := cs.drop s) (by simp only [List.length_drop, h, List.length_cons, Nat.succ_mul]; omega) (fun i u hu => by
      have := hg (i + 1) u (by simpa using hu)
      rw [Nat.succ_mul, Nat.add_comm] at this
      rw [List.drop_drop]; exact this)
    rw [List.flatten_cons, ← h0, ← h1, List.take_append_drop]

theorem mapM_parts {α β : Type} {f : α → Option β} : ∀ {l : List α} {r : List β}, l.mapM f = some r → r.length = l.length ∧ ∀ (i : Nat) a, l[i]? = some a → ∃ b, r[i]? = some b ∧ f a = some b := by
  intro l
  induction l with
  | nil => intro r h; simp at h; subst h; exact ⟨rfl, fun i a h => by simp at h⟩
  | cons x l ih =>
    intro r h
    rw [List.mapM_cons] at h
    simp only [Option.bind_eq_bind, Option.bind_eq_some_iff, Option.pure_def, Option.some.injEq] at h
    obtain ⟨b, hb, r', hr', rfl⟩ := h
    obtain ⟨h1, h2⟩ := ih hr'
    refine ⟨by simp [h1], fun i a ha => ?_⟩
    cases i with
    | zero => simp at ha; subst ha; exact ⟨b, rfl, hb⟩
    | succ i => exact h2 i a (by simpa using ha)

theorem fields_eq {ok : TypeId → Bool} {fuel k : Nat} {cs : List Value} (hok : ∀ t, ok t = true → ∀ (cs : List Value) (d : DataW HH) p vs, DataW.trod enc P w base sp held fuel t cs = some (d, p) → flatV k d = some vs → cs = vs ∧ cs.length = P.cellsOf t) :
    ∀ (fs : List Field) (o : Nat) (z : Nat) (xs : List (DataW HH × List MemPlace)) (vss : List (List Value)), fieldsLay P ok o fs = some z → cs.length = z → fs.mapM (fun f => DataW.trod enc P w base sp held fuel f.type ((cs.drop f.offset).take (P.cellsOf f.type))) = some xs → (xs.map (·.1)).mapM (flatV k) = some vss → cs.drop o = vss.flatten ∧ o ≤ z := by
  intro fs
  induction fs with
  | nil =>
    intro o z xs vss h1 h2 h3 h4
    simp only [fieldsLay, Option.some.injEq] at h1
    simp at h3
    subst h3
    simp at h4
    subst h4
    exact ⟨List.drop_eq_nil_of_le (by omega), by omega⟩
  | cons f fs ih =>
    intro o z xs vss h1 h2 h3 h4
    simp only [fieldsLay] at h1
    cases hb : (Nat.beq f.offset o && ok f.type) with
    | false => rw [hb] at h1; cases h1
    | true =>
      rw [hb] at h1
      simp only [cond_true] at h1
      rw [Bool.and_eq_true] at hb
      have ho := Nat.eq_of_beq_eq_true hb.1
      rw [List.mapM_cons] at h3
      simp only [Option.bind_eq_bind, Option.bind_eq_some_iff, Option.pure_def, Option.some.injEq] at h3
      obtain ⟨⟨d, p⟩, hx, xs', hxs, rfl⟩ := h3
      simp only [List.map_cons, List.mapM_cons, Option.bind_eq_bind, Option.bind_eq_some_iff, Option.pure_def, Option.some.injEq] at h4
      obtain ⟨v, hv, vss', hvs, rfl⟩ := h4
      obtain ⟨e1, e2⟩ := hok _ hb.2 _ _ _ _ hx hv
      obtain ⟨e3, e4⟩ := ih _ _ _ _ h1 h2 hxs hvs
      rw [ho] at e1
      refine ⟨?_, by omega⟩
      rw [List.flatten_cons, ← e1, ← e3, ← List.drop_drop, List.take_append_drop]

/-- A table that reads as flat data has the data's cells. -/
theorem lay_cells : ∀ (n : Nat) (t : TypeId), okLay P n t = true → ∀ (fuel k : Nat) (cs : List Value) (d : DataW HH) p vs, DataW.trod enc P w base sp held fuel t cs = some (d, p) → flatV k d = some vs → cs = vs ∧ cs.length = P.cellsOf t := by
  intro n
  induction n with
  | zero => intro t h; cases h
  | succ n ih =>
    intro t h fuel k cs d p vs htr hv
    cases k with
    | zero => cases d <;> cases hv
    | succ k =>
      simp only [okLay] at h
      split at h
      · rename_i hu
        obtain ⟨b, rfl, hx⟩ := DataW.trod_bool hu htr
        cases hx
        simp only [flatV, litV, Option.map_some, Option.some.injEq] at hv
        exact ⟨hv, (Nat.eq_of_beq_eq_true h).symm⟩
      · rename_i kk hu
        obtain ⟨b, rfl, hx, _⟩ := DataW.trod_int hu htr
        cases hx
        simp only [flatV, litV, Option.map_some, Option.some.injEq] at hv
        exact ⟨hv, (Nat.eq_of_beq_eq_true h).symm⟩
      · rename_i hu
        obtain ⟨b, rfl, hx, _⟩ := DataW.trod_string hu htr
        cases hx
        simp only [flatV, litV, Option.map_some, Option.some.injEq] at hv
        exact ⟨hv, (Nat.eq_of_beq_eq_true h).symm⟩
      · rename_i c e hu
        rw [Bool.and_eq_true] at h
        have hc := Nat.eq_of_beq_eq_true h.2
        obtain ⟨xs, m, rfl, hx, hlen, hxl, hget⟩ := DataW.trod_array hu htr
        cases hx
        simp only [flatV, Option.map_eq_some_iff] at hv
        obtain ⟨vss, hvs, rfl⟩ := hv
        obtain ⟨q1, q2⟩ := mapM_parts hvs
        refine ⟨chunks_eq (s := P.cellsOf e) (by rw [hlen, hc, q1]; simp [hxl]) fun i v hi => ?_, hlen⟩
        have hlt : i < c := by have := (List.getElem?_eq_some_iff.1 hi).1; rw [q1] at this; simpa [hxl] using this
        have hg := hget i hlt
        have hxi : xs[i]? = some (xs[i]'(by omega)) := List.getElem?_eq_getElem _
        rw [hxi] at hg
        obtain ⟨b, hb1, hb2⟩ := q2 i (xs[i]'(by omega)).1 (by simp [hxi])
        rw [hi] at hb1
        cases hb1
        exact (ih e h.1 _ _ _ _ _ _ hg hb2).1
      · rename_i fs hu
        split at h
        · rename_i o hl
          have hc := Nat.eq_of_beq_eq_true h
          cases fuel with
          | zero => simp [DataW.trod] at htr
          | succ fuel =>
            simp only [DataW.trod, hu] at htr
            split at htr
            · rename_i hlen
              rw [Option.map_eq_some_iff] at htr
              obtain ⟨xs, hxs, hx⟩ := htr
              simp only [Prod.mk.injEq] at hx
              obtain ⟨rfl, _⟩ := hx
              simp only [flatV, Option.map_eq_some_iff] at hv
              obtain ⟨vss, hvs, rfl⟩ := hv
              have := fields_eq (P := P) (enc := enc) (w := w) (base := base) (sp := sp) (held := held) (fun t ht cs d p vs a b => ih t ht fuel k cs d p vs a b) fs.toList 0 o xs vss hl (by omega) hxs hvs
              exact ⟨by simpa using this.1, hlen⟩
            · cases htr
        · cases h
      · cases h
end
end Go.Ab
namespace Go.Ab
open Go Go.RowKit Go.ChangeShapes Go.WideShapes
variable [Unk] [Kn] [KnOk]
section
variable {P : Program}

def tabV {HH : Type} (d : DataW HH) : Option (List Value) := flatV 8 d
def okTab (P : Program) (t : TypeId) : Bool := okLay P 8 t
variable {HH : Type} {enc : TypeId × Value → HH}

/-! ### A heap of tables -/
def tabGo : List (TypeId × List Value) → H → H
  | [], A => A
  | x :: r, A => tabGo r (A.push (.cells true x.1 x.2))
def tabH (tabs : List (TypeId × List Value)) : H := tabGo tabs ⟨.nil, 0⟩
def tabS (P : Program) (tabs : List (TypeId × List Value)) : Sg := fun i => (tabs[i]?).map fun x => ⟨i, 0, ((P.info? x.1).map (·.size)).getD 0, x.2.length⟩

theorem tabGo_next : ∀ (l : List (TypeId × List Value)) (A : H), (tabGo l A).next = A.next + l.length := by
  intro l
  induction l with
  | nil => intro A; rfl
  | cons x l ih => intro A; simp only [tabGo]; rw [ih, H.next_push]; simp; omega
theorem tabGo_get : ∀ (l : List (TypeId × List Value)) (A : H) (j : Nat), (tabGo l A).get j = if A.next ≤ j ∧ j < A.next + l.length then (l[j - A.next]?).map (fun x => AObj.cells true x.1 x.2) else A.get j := by
  intro l
  induction l with
  | nil => intro A j; simp only [tabGo, List.length_nil]; rw [if_neg (by omega)]
  | cons x l ih =>
    intro A j
    simp only [tabGo]
    rw [ih, H.next_push, H.get_push]
    by_cases h1 : A.next + 1 ≤ j ∧ j < A.next + 1 + l.length
    · rw [if_pos h1, if_pos (by simp; omega)]
      rw [show j - A.next = (j - (A.next + 1)) + 1 by omega]
      rfl
    · rw [if_neg h1]
      by_cases h2 : j = A.next
      · subst h2; rw [if_pos rfl, if_pos (by simp)]; simp
      · rw [if_neg h2, if_neg (by simp; omega)]
theorem tabH_get (tabs : List (TypeId × List Value)) (j : Nat) : (tabH tabs).get j = (tabs[j]?).map fun x => AObj.cells true x.1 x.2 := by
  unfold tabH
  rw [tabGo_get]
  simp only [Nat.zero_le, true_and, Nat.zero_add, Nat.sub_zero]
  by_cases h : j < tabs.length
  · rw [if_pos h]
  · rw [if_neg h, List.getElem?_eq_none (by omega)]
    rfl
theorem tabH_ro (tabs : List (TypeId × List Value)) {j : Nat} {o : AObj} (h : (tabH tabs).get j = some o) : o.own = false := by
  rw [tabH_get, Option.map_eq_some_iff] at h
  obtain ⟨x, _, rfl⟩ := h
  rfl

/-- What a row lists of one variable. -/
structure TabOf (P : Program) (laid : List (String × DataW Unit)) (i : Nat) (t : TypeId) (c : List Value) : Prop where
  out : ∃ n d, (n, d) ∈ laid ∧ P.globalNamed n = some i ∧ (P.globals[i]?).map (·.type) = some t ∧ okTab P t = true ∧ tabV d = some c ∧ ((P.info? t).map (·.size)).isSome = true

theorem laid_get {W : World} : ∀ {laid : List (String × DataW Unit)} {ps : List MemPlace}, DataW.LaidVars P W laid ps → ∀ {n : String} {d : DataW Unit}, (n, d) ∈ laid →
    ∃ g t cs fuel p, P.globalNamed n = some g ∧ (P.globals[g]?).map (·.type) = some t ∧ W.var? P n = some cs ∧ DataW.trod (fun _ => ()) P W 0 (fun _ => true) false fuel t cs.toList = some (d, p) := by
  intro laid
  induction laid with
  | nil => intro ps _ n d h; simp at h
  | cons x laid ih =>
    intro ps h n d hm
    obtain ⟨n', d'⟩ := x
    obtain ⟨g, t, cs, fuel, p, q, h1, h2, h3, h4, h5, _⟩ := h
    rcases List.mem_cons.1 hm with e | hm
    · cases e
      exact ⟨g, t, cs, fuel, p, h1, h2, h3, h4⟩
    · exact ih h5 hm

theorem TabOf.heap {laid : List (String × DataW Unit)} {i : Nat} {t : TypeId} {c : List Value} (h : TabOf P laid i t c) {W : World} (hl : laidMet P laid W) : ∃ e fz, W.heap[i]? = some (.cells c.toArray e fz) := by
  obtain ⟨n, d, hm, hg, ht, hok, hc, _⟩ := h.out
  obtain ⟨ps, hL, _⟩ := hl
  obtain ⟨g', t', cs, fuel, p, hg', ht', hv, htr⟩ := laid_get hL hm
  rw [hg] at hg'
  cases hg'
  rw [ht] at ht'
  cases ht'
  have := (lay_cells 8 t hok fuel 8 cs.toList d p c htr hc).1
  unfold World.var? at hv
  rw [hg] at hv
  simp only [Option.bind_some] at hv
  split at hv
  · rename_i cs' e fz hh
    cases hv
    refine ⟨e, fz, ?_⟩
    rw [hh, ← this]
  · cases hv

theorem tab_rel {tabs : List (TypeId × List Value)} {laid : List (String × DataW Unit)} (hg : P.globals.size = tabs.length) (ht : ∀ (i : Nat) t c, tabs[i]? = some (t, c) → TabOf P laid i t c) (hflat : ∀ (i : Nat) t c, tabs[i]? = some (t, c) → ∀ v ∈ c, flat1 v = true) {W : World} (hl : laidMet P laid W) : Rel P (tabS P tabs) (tabH tabs) W := by
  refine ⟨fun g hlt => ?_, fun id o p ho hs => ?_, fun i j p q o o' _ ho _ _ _ hown => ?_, fun id p hs => ?_, fun id hid => ?_⟩
  · have hlt : g < tabs.length := by omega
    simp [tabS, hlt]
  · rw [tabH_get] at ho
    simp only [tabS] at hs
    cases hx : tabs[id]? with
    | none => rw [hx] at ho; cases ho
    | some x =>
      obtain ⟨t, c⟩ := x
      rw [hx] at ho hs
      simp only [Option.map_some, Option.some.injEq] at ho hs
      subst ho
      subst hs
      obtain ⟨e, fz, hW⟩ := (ht id t c hx).heap hl
      obtain ⟨_, _, _, _, _, _, _, hsz⟩ := (ht id t c hx).out
      refine ⟨c.toArray, e, fz, hW, by simp, fun i v v' h1 h2 => ?_, ?_, by simp, fun h => by cases h⟩
      · simp only [Nat.zero_add, List.getElem?_toArray] at h2
        rw [h1] at h2
        cases h2
        exact (flat1_flat (hflat id t c hx v (List.mem_of_getElem? h1))).vrel
      · obtain ⟨n, hn⟩ := Option.isSome_iff_exists.1 hsz
        simp [hn]
  · rw [tabH_ro _ ho] at hown
    cases hown
  · simp only [tabS, Option.map_eq_some_iff] at hs
    obtain ⟨⟨t, c⟩, hx, rfl⟩ := hs
    obtain ⟨e, fz, hW⟩ := (ht id t c hx).heap hl
    exact (Array.getElem?_eq_some_iff.1 hW).1
  · unfold tabH at hid
    rw [tabGo_next] at hid
    simp only [Nat.zero_add] at hid
    exact ⟨by rw [tabH_get, List.getElem?_eq_none hid]; rfl, by simp only [tabS]; rw [List.getElem?_eq_none hid]; rfl⟩

/-- What the interpreter answers from tables alone: the program's answer; nothing old has changed. -/
theorem run_of_eval (hmix : P.follows .mixedOrders = true) (hx : Ext P) {code : FuncId → Option XFun} (hcode : CodeOf P code) (hnat : NatOk P code) {n : Nat} {f : FuncId} {args : List Value} {tabs : List (TypeId × List Value)} {r : Value} {A' : H}
    (he : evalF code n f args (tabH tabs) = some (r, A')) {σ : Sg} {W : World} (hr : Rel P σ (tabH tabs) W) {argsc : List Value} (ha : LRel σ args argsc) :
    Calls P f argsc.toArray W fun e w' => ∃ rc σ', e = .returned rc ∧ VRel σ' r rc ∧ Below W.heap.size W w' := by
  refine ((evalF_ok hmix hx hcode hnat n).calls _ _ _ _ _ he σ W argsc hr ha).mono fun e w' h => ?_
  obtain ⟨rc, σ', h1, h2, _, h4⟩ := h
  refine ⟨rc, σ', h1, h2, h4.os, h4.tape, h4.output, h4.size, fun k hk => h4.frame k hk fun ho => ?_⟩
  obtain ⟨id, p, o, _, _, hg, hown⟩ := ho
  rw [tabH_ro _ hg] at hown
  cases hown

/-- Does the answer say true? -/
def saysTrue : Option (Value × H) → Bool
  | some (.bool b, _) => b
  | _ => false
theorem calls_true (hmix : P.follows .mixedOrders = true) (hx : Ext P) {code : FuncId → Option XFun} (hcode : CodeOf P code) (hnat : NatOk P code) {n : Nat} {f : FuncId} {args : List Value} {tabs : List (TypeId × List Value)}
    (he : saysTrue (evalF code n f args (tabH tabs)) = true) {σ : Sg} {W : World} (hr : Rel P σ (tabH tabs) W) {argsc : List Value} (ha : LRel σ args argsc) :
    Calls P f argsc.toArray W fun e w' => e = .returned (.bool true) ∧ Below W.heap.size W w' := by
  unfold saysTrue at he
  split at he
  · rename_i b A' heq
    subst he
    refine (run_of_eval hmix hx hcode hnat heq hr ha).mono fun e w' h => ?_
    obtain ⟨rc, σ', rfl, h2, h3⟩ := h
    cases h2
    exact ⟨rfl, h3⟩
  · cases he

/-- The statement's behind part, where nothing old has changed. -/
theorem post_of_below {f : Func} {s : ChangeSpec} {apart fresh handsOn again : Bool} {W W' : World} {args : Array Value} {v : Value} {ds gs : List (DataW HH)} {before pa pv : List MemPlace}
    (hW : DataW.Whole enc P f.params.toList s.vars apart W args.toList ds gs before)
    (hres : ∀ (b : Nat) (sp : Nat → Bool) (hd : Bool), DataW.TrodAll enc P W' b sp hd f.resultTypes.toList (v.resultList f.resultTypes.size) (s.fn HH (ds ++ gs)).results [])
    (hargs : ∀ sp : Nat → Bool, (∀ p ∈ before, sp p.block = true) → DataW.TrodAll enc P W' 0 sp true f.params.toList args.toList (s.fn HH (ds ++ gs)).args pa)
    (hvars : ∀ sp : Nat → Bool, (∀ p ∈ before, sp p.block = true) → DataW.TrodVars enc P W' sp s.vars (s.fn HH (ds ++ gs)).vars pv)
    (hps : before = pa ++ pv) (hb : Below W.heap.size W W')
    (hok : ∀ (j : Nat) (t : TypeId) (r : Value), f.resultTypes[j]? = some t → (v.resultList f.resultTypes.size)[j]? = some r → Value.okWide P W' .any 0 t r) :
    s.post enc P f apart fresh handsOn again W args v W' := by
  have hold : ∀ p ∈ before, (fun b => decide (b < W.heap.size)) p.block = true := fun p hp => by simpa using hW.lt p hp
  have hlt : ∀ p ∈ before, p.block < W.heap.size := fun p hp => hW.lt p hp
  refine ⟨ds, gs, before, [], pa, pv, hW, hres _ _ _, hargs _ hold, hvars _ hold, World.keptBut_mono (fun p hp => ⟨hp, ?_⟩) (hb.frame (· ∈ before)), fun _ => ?_⟩
  · rw [hps, List.mem_append] at hp
    exact Or.inr hp
  · obtain ⟨_, _, _, _, _, hz, hn⟩ := hW
    refine ⟨hok, _, _, ([] ++ pa) ++ pv, ⟨[] ++ pa, pv, trodAll_append (hargs _ (fun _ _ => rfl)) (hres _ _ _), hvars _ (fun _ _ => rfl), rfl, ?_, ?_⟩, ?_⟩
    · intro b off hp
      have hp' : MemPlace.cell b off ∈ before := by rw [hps]; simpa using hp
      rw [hb.frozen (p := ⟨b, off, none⟩) (hlt _ hp')]
      exact hz b off hp'
    · intro ha
      have := hn ha
      rw [hps] at this
      simpa using this
    · intro p hp _
      rw [hps]
      simpa using hp
end
end Go.Ab
namespace Go.Ab
open Go Go.RowKit Go.ChangeShapes Go.WideShapes
variable [Unk] [Kn] [KnOk]
section
variable {P : Program}

abbrev OTabs := List (Option (TypeId × List Value))
def otabGo : OTabs → H → H
  | [], A => A
  | some x :: r, A => otabGo r (A.push (.cells true x.1 x.2))
  | none :: r, A => otabGo r { A with next := A.next + 1 }
def otabH (tabs : OTabs) : H := otabGo tabs ⟨.nil, 0⟩
def otabS (P : Program) (tabs : OTabs) : Sg := fun i => (tabs[i]?).map fun x => match x with
  | some x => ⟨i, 0, ((P.info? x.1).map (·.size)).getD 0, x.2.length⟩
  | none => ⟨i, 0, 0, 0⟩

theorem otabGo_next : ∀ (l : OTabs) (A : H), (otabGo l A).next = A.next + l.length := by
  intro l
  induction l with
  | nil => intro A; rfl
  | cons x l ih =>
    intro A
    cases x with
    | some x => simp only [otabGo]; rw [ih, H.next_push]; simp; omega
    | none => simp only [otabGo]; rw [ih]; simp; omega
theorem otabGo_get : ∀ (l : OTabs) (A : H) (j : Nat), (∀ k, A.next ≤ k → A.get k = none) → (otabGo l A).get j = if A.next ≤ j ∧ j < A.next + l.length then (l[j - A.next]?.join).map (fun x => AObj.cells true x.1 x.2) else A.get j := by
  intro l
  induction l with
  | nil => intro A j _; simp only [otabGo, List.length_nil]; rw [if_neg (by omega)]
  | cons x l ih =>
    intro A j hA
    cases x with
    | some x =>
      simp only [otabGo]
      rw [ih _ _ (fun k hk => by rw [H.next_push] at hk; rw [H.get_push, if_neg (by omega)]; exact hA k (by omega)), H.next_push, H.get_push]
      by_cases h1 : A.next + 1 ≤ j ∧ j < A.next + 1 + l.length
      · rw [if_pos h1, if_pos (by simp; omega)]
        rw [show j - A.next = (j - (A.next + 1)) + 1 by omega]
        rfl
      · rw [if_neg h1]
        by_cases h2 : j = A.next
        · subst h2; rw [if_pos rfl, if_pos (by simp)]; simp
        · rw [if_neg h2, if_neg (by simp; omega)]
    | none =>
      simp only [otabGo]
      have hget : ∀ k, ({ A with next := A.next + 1 } : H).get k = A.get k := fun k => rfl
      rw [ih _ _ (fun k hk => by simp only at hk; rw [hget]; exact hA k (by omega)), hget]
      simp only
      by_cases h1 : A.next + 1 ≤ j ∧ j < A.next + 1 + l.length
      · rw [if_pos h1, if_pos (by simp; omega)]
        rw [show j - A.next = (j - (A.next + 1)) + 1 by omega]
        rfl
      · rw [if_neg h1]
        by_cases h2 : j = A.next
        · subst h2; rw [if_pos (by simp)]; simp [hA _ (Nat.le_refl _)]
        · rw [if_neg (by simp; omega)]
theorem otabH_get (tabs : OTabs) (j : Nat) : (otabH tabs).get j = (tabs[j]?.join).map fun x => AObj.cells true x.1 x.2 := by
  unfold otabH
  rw [otabGo_get _ _ _ (fun _ _ => rfl)]
  simp only [Nat.zero_le, true_and, Nat.zero_add, Nat.sub_zero]
  by_cases h : j < tabs.length
  · rw [if_pos h]
  · rw [if_neg h, List.getElem?_eq_none (by omega)]
    rfl
theorem otabH_ro (tabs : OTabs) {j : Nat} {o : AObj} (h : (otabH tabs).get j = some o) : o.own = false := by
  rw [otabH_get, Option.map_eq_some_iff] at h
  obtain ⟨x, _, rfl⟩ := h
  rfl

theorem otab_rel {tabs : OTabs} {laid : List (String × DataW Unit)} (hg : P.globals.size = tabs.length) (ht : ∀ (i : Nat) t c, tabs[i]? = some (some (t, c)) → TabOf P laid i t c) (hflat : ∀ (i : Nat) t c, tabs[i]? = some (some (t, c)) → ∀ v ∈ c, flat1 v = true) {W : World}
    (hl : laidMet P laid W) (hW : ∀ g, tabs[g]? = some none → g < W.heap.size) : Rel P (otabS P tabs) (otabH tabs) W := by
  refine ⟨fun g hlt => ?_, fun id o p ho hs => ?_, fun i j p q o o' _ ho _ _ _ hown => ?_, fun id p hs => ?_, fun id hid => ?_⟩
  · have hlt : g < tabs.length := by omega
    cases hx : tabs[g] with
    | none => exact ⟨_, by simp only [otabS, List.getElem?_eq_getElem hlt, hx]; rfl, rfl, rfl⟩
    | some x => exact ⟨_, by simp only [otabS, List.getElem?_eq_getElem hlt, hx]; rfl, rfl, rfl⟩
  · rw [otabH_get] at ho
    simp only [otabS] at hs
    cases hx : tabs[id]? with
    | none => rw [hx] at ho; cases ho
    | some x =>
      cases x with
      | none => rw [hx] at ho; cases ho
      | some x =>
        obtain ⟨t, c⟩ := x
        rw [hx] at ho hs
        simp only [Option.join_some, Option.map_some, Option.some.injEq] at ho hs
        subst ho
        subst hs
        obtain ⟨e, fz, hW⟩ := (ht id t c hx).heap hl
        obtain ⟨_, _, _, _, _, _, _, hsz⟩ := (ht id t c hx).out
        refine ⟨c.toArray, e, fz, hW, by simp, fun i v v' h1 h2 => ?_, ?_, by simp, fun h => by cases h⟩
        · simp only [Nat.zero_add, List.getElem?_toArray] at h2
          rw [h1] at h2
          cases h2
          exact (flat1_flat (hflat id t c hx v (List.mem_of_getElem? h1))).vrel
        · obtain ⟨n, hn⟩ := Option.isSome_iff_exists.1 hsz
          simp [hn]
  · rw [otabH_ro _ ho] at hown
    cases hown
  · simp only [otabS, Option.map_eq_some_iff] at hs
    obtain ⟨x, hx, rfl⟩ := hs
    cases x with
    | none => exact hW _ hx
    | some x =>
      obtain ⟨t, c⟩ := x
      obtain ⟨e, fz, hW⟩ := (ht id t c hx).heap hl
      exact (Array.getElem?_eq_some_iff.1 hW).1
  · unfold otabH at hid
    rw [otabGo_next] at hid
    simp only [Nat.zero_add] at hid
    exact ⟨by rw [otabH_get, List.getElem?_eq_none hid]; rfl, by simp only [otabS]; rw [List.getElem?_eq_none hid]; rfl⟩

theorem ocalls_true (hmix : P.follows .mixedOrders = true) (hx : Ext P) {code : FuncId → Option XFun} (hcode : CodeOf P code) (hnat : NatOk P code) {n : Nat} {f : FuncId} {args : List Value} {tabs : OTabs}
    (he : saysTrue (evalF code n f args (otabH tabs)) = true) {σ : Sg} {W : World} (hr : Rel P σ (otabH tabs) W) {argsc : List Value} (ha : LRel σ args argsc) :
    Calls P f argsc.toArray W fun e w' => e = .returned (.bool true) ∧ Below W.heap.size W w' := by
  unfold saysTrue at he
  split at he
  · rename_i b A' heq
    subst he
    refine ((evalF_ok hmix hx hcode hnat n).calls _ _ _ _ _ heq σ W argsc hr ha).mono fun e w' h => ?_
    obtain ⟨rc, σ', rfl, h2, _, h4⟩ := h
    cases h2
    refine ⟨rfl, h4.os, h4.tape, h4.output, h4.size, fun k hk => h4.frame k hk fun ho => ?_⟩
    obtain ⟨id, p, o, _, _, hg, hown⟩ := ho
    rw [otabH_ro _ hg] at hown
    cases hown
  · cases he
end
end Go.Ab
namespace Go.Ab
open Go
variable [Kn]
variable {code : FuncId → Option XFun} {call : Caller} {n : Nat} {a b : XCode} {t t' : Tm} {A A' : H}

def sfst : XCode → XCode
  | .seq a _ => a
  | c => c
def ssnd : XCode → XCode
  | .seq _ b => b
  | c => c
def cthen : XCode → XCode
  | .cond _ a _ => a
  | c => c
def celse : XCode → XCode
  | .cond _ _ b => b
  | c => c
def bodyOf : Option XFun → XFunc
  | some (.body x) => x
  | _ => { ntmps := 0, body := .skip, results := [], late := .skip }

theorem seq_on (h : evalC call n a t A = some (.normal, t', A')) : evalC call (n + 1) (.seq a b) t A = evalC call n b t' A' := by simp [evalC, h]
theorem seq_ret (h : evalC call n a t A = some (.ret, t', A')) : evalC call (n + 1) (.seq a b) t A = some (.ret, t', A') := by simp [evalC, h]
theorem cond_on {c : Operand} {x : Bool} (h : val t c = .bool x) : evalC call (n + 1) (.cond c a b) t A = evalC call n (bif x then a else b) t A := by cases x <;> simp [evalC, h]

def finish (rs : List (Nat × Option (Nat × Bool))) : Option (XExit × Tm × H) → Option (Value × H)
  | some (.exit _, _, _) => none
  | some (_, t, A) => match resultsA A t rs with
    | some vs => some (resultV vs, A)
    | none => none
  | none => none
theorem evalF_body {f : FuncId} {args : List Value} {x : XFunc} (h : code f = some (.body x)) (hl : Nat.ble args.length x.ntmps = true) :
    evalF code (n + 1) f args A = finish x.results (evalC (evalF code n) n x.body (argsT args 0 .nil) A) := by
  rw [evalF, h]
  simp only [hl, cond_true]
  rfl
/-- Where a run came to. -/
def tmOf : Option (XExit × Tm × H) → Tm
  | some (_, t, _) => t
  | none => .nil
def hOf (A : H) : Option (XExit × Tm × H) → H
  | some (_, _, A) => A
  | none => A
def boolOf : Value → Bool
  | .bool b => b
  | _ => false
def isRet : Option (XExit × Tm × H) → Bool
  | some (.ret, _, _) => true
  | _ => false
theorem isRet_some {r : Option (XExit × Tm × H)} (h : isRet r = true) : ∃ t A, r = some (.ret, t, A) := by
  unfold isRet at h
  split at h
  · exact ⟨_, _, rfl⟩
  · cases h
def retTrue (rs : List (Nat × Option (Nat × Bool))) : Option (XExit × Tm × H) → Bool
  | some (.ret, t, A) => match resultsA A t rs with
    | some vs => boolOf (resultV vs)
    | none => false
  | _ => false
theorem retTrue_some {rs : List (Nat × Option (Nat × Bool))} {r : Option (XExit × Tm × H)} (h : retTrue rs r = true) : ∃ t A, r = some (.ret, t, A) := by
  unfold retTrue at h
  split at h
  · exact ⟨_, _, rfl⟩
  · cases h
end Go.Ab
namespace Go.Ab
open Go
set_option maxRecDepth 1000000

theorem next_empty : (Extern.allNextRows.lookup "").isNone = true := by kernel_rfl
theorem next_none {fn : Func} (h : (Extern.allNextRows.lookup fn.name).isNone = true) (ho : fn.origin = "") : Extern.findNext fn = none := by
  unfold Extern.findNext
  rw [ho]
  simp only [Option.isNone_iff_eq_none.1 h, Option.isNone_iff_eq_none.1 next_empty]
  rfl
structure OneExt (n : String) (kd : XExt) : Prop where
  num : (n == "runtime.NumGoroutine") = false
  next : (Extern.allNextRows.lookup n).isNone = true
  fn : ∀ fn : Func, fn.name = n → ExtFn kd fn
theorem add64 : OneExt "sync/atomic.AddInt64" (.add .i64) := ⟨by kernel_rfl, by kernel_rfl, fun fn hn => by show Extern.find fn = _; unfold Extern.find; rw [hn]; kernel_rfl⟩
theorem add32 : OneExt "sync/atomic.AddInt32" (.add .i32) := ⟨by kernel_rfl, by kernel_rfl, fun fn hn => by show Extern.find fn = _; unfold Extern.find; rw [hn]; kernel_rfl⟩
theorem load64 : OneExt "sync/atomic.LoadInt64" (.load .i64) := ⟨by kernel_rfl, by kernel_rfl, fun fn hn => by show Extern.find fn = _; unfold Extern.find; rw [hn]; kernel_rfl⟩
theorem loadu32 : OneExt "sync/atomic.LoadUint32" (.load .u32) := ⟨by kernel_rfl, by kernel_rfl, fun fn hn => by show Extern.find fn = _; unfold Extern.find; rw [hn]; kernel_rfl⟩
theorem load32 : OneExt "sync/atomic.LoadInt32" (.load .i32) := ⟨by kernel_rfl, by kernel_rfl, fun fn hn => by show Extern.find fn = _; unfold Extern.find; rw [hn]; kernel_rfl⟩
theorem store64 : OneExt "sync/atomic.StoreInt64" .store := ⟨by kernel_rfl, by kernel_rfl, fun fn hn => by show Extern.find fn = _; unfold Extern.find; rw [hn]; kernel_rfl⟩
theorem storeu32 : OneExt "sync/atomic.StoreUint32" .store := ⟨by kernel_rfl, by kernel_rfl, fun fn hn => by show Extern.find fn = _; unfold Extern.find; rw [hn]; kernel_rfl⟩
theorem store32 : OneExt "sync/atomic.StoreInt32" .store := ⟨by kernel_rfl, by kernel_rfl, fun fn hn => by show Extern.find fn = _; unfold Extern.find; rw [hn]; kernel_rfl⟩
theorem cas32 : OneExt "sync/atomic.CompareAndSwapInt32" (.cas .i32) := ⟨by kernel_rfl, by kernel_rfl, fun fn hn => by show Extern.find fn = _; unfold Extern.find; rw [hn]; kernel_rfl⟩
theorem casu32 : OneExt "sync/atomic.CompareAndSwapUint32" (.cas .u32) := ⟨by kernel_rfl, by kernel_rfl, fun fn hn => by show Extern.find fn = _; unfold Extern.find; rw [hn]; kernel_rfl⟩
theorem disable : OneExt "internal/race.Disable" .mark0 := ⟨by kernel_rfl, by kernel_rfl, fun fn hn => ⟨.disable, by unfold Extern.find; rw [hn]; kernel_rfl⟩⟩
theorem enable : OneExt "internal/race.Enable" .mark0 := ⟨by kernel_rfl, by kernel_rfl, fun fn hn => ⟨.enable, by unfold Extern.find; rw [hn]; kernel_rfl⟩⟩
theorem acquire : OneExt "internal/race.Acquire" .mark1 := ⟨by kernel_rfl, by kernel_rfl, fun fn hn => ⟨.acquire, by unfold Extern.find; rw [hn]; kernel_rfl⟩⟩
theorem release : OneExt "internal/race.Release" .mark1 := ⟨by kernel_rfl, by kernel_rfl, fun fn hn => ⟨.release, by unfold Extern.find; rw [hn]; kernel_rfl⟩⟩
theorem releaseMerge : OneExt "internal/race.ReleaseMerge" .mark1 := ⟨by kernel_rfl, by kernel_rfl, fun fn hn => ⟨.releaseMerge, by unfold Extern.find; rw [hn]; kernel_rfl⟩⟩

theorem one_ext {n : String} {kd : XExt} (h : extKind n = some kd) : OneExt n kd := by
  unfold extKind at h
  split at h
  · rename_i e; cases h; subst e; exact add64
  split at h
  · rename_i e; cases h; subst e; exact add32
  split at h
  · rename_i e; cases h; subst e; exact load64
  split at h
  · rename_i e; cases h; subst e; exact loadu32
  split at h
  · rename_i e; cases h; subst e; exact load32
  split at h
  · rename_i e; cases h; rcases e with e | e | e  <;> subst e <;> first | exact store64 | exact storeu32 | exact store32
  split at h
  · rename_i e; cases h; subst e; exact cas32
  split at h
  · rename_i e; cases h; subst e; exact casu32
  split at h
  · rename_i e; cases h; rcases e with e | e <;> subst e <;> first | exact disable | exact enable
  split at h
  · rename_i e; cases h; rcases e with e | e | e <;> subst e <;> first | exact acquire | exact release | exact releaseMerge
  · cases h
def chkExt (fn : Func) : Bool := fn.body.isSome || (extKind fn.name).isNone || fn.origin == ""
theorem ext_of {P : Program} (h : P.funcs.all chkExt = true) : Ext P := ⟨fun f fn kd hf hb hk => by
  have hc := Array.all_eq_true_iff_forall_mem.1 h fn (Array.mem_of_getElem? hf)
  have ho : fn.origin = "" := by
    unfold chkExt at hc
    rw [hb, hk] at hc
    simpa using hc
  have hx := one_ext hk
  exact ⟨hx.num, next_none hx.next ho, hx.fn fn rfl⟩⟩
end Go.Ab
