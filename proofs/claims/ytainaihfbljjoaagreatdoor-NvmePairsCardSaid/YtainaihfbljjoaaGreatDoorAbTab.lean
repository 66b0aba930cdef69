/- What a row says of the package's tables, as blocks that the interpreter may read. -/
import Derived.Test.YtainaihfbljjoaaGreatDoorAbFun
import Derived.Test.YtainaihfbljjoaaGreatDoorAbFlat
import Derived.OpenShut
import Derived.ChangeArms
import Derived.LaidLaws
import Derived.ChangeSame
import Derived.Lib.LaidTab
set_option linter.all false
set_option linter.unusedSectionVars false
set_option linter.unusedVariables false
set_option linter.unusedSimpArgs false
namespace Go.Ab
open Go Go.RowKit Go.ChangeShapes Go.WideShapes
variable [Unk]
section
variable {P : Program}

def tabV {HH : Type} (d : DataW HH) : Option (List Value) := flatV 8 d
def okTab (P : Program) (t : TypeId) : Bool := okLay P 8 t
variable {HH : Type} {enc : TypeId × Value → HH}

/-! ### A heap of tables -/
def tabGo : List (TypeId × List Value) → H → H
  | [], A => A
  | x :: r, A => tabGo r (A.push (.cells true x.1 x.2))
def tabH (tabs : List (TypeId × List Value)) : H := tabGo tabs ⟨.nil, 0⟩
def tabS (P : Program) (tabs : List (TypeId × List Value)) : Sg := fun i => (tabs[i]?).map fun x => ⟨i, 0, ((P.info? x.1).map (·.size)).getD 0, x.2.length⟩

theorem tabGo_next : ∀ (l : List (TypeId × List Value)) (A : H), (tabGo l A).next = A.next + l.length := by
  intro l
  induction l with
  | nil => intro A; rfl
  | cons x l ih => intro A; simp only [tabGo]; rw [ih, H.next_push]; simp; omega
theorem tabGo_get : ∀ (l : List (TypeId × List Value)) (A : H) (j : Nat), (tabGo l A).get j = if A.next ≤ j ∧ j < A.next + l.length then (l[j - A.next]?).map (fun x => AObj.cells true x.1 x.2) else A.get j := by
  intro l
  induction l with
  | nil => intro A j; simp only [tabGo, List.length_nil]; rw [if_neg (by omega)]
  | cons x l ih =>
    intro A j
    simp only [tabGo]
    rw [ih, H.next_push, H.get_push]
    by_cases h1 : A.next + 1 ≤ j ∧ j < A.next + 1 + l.length
    · rw [if_pos h1, if_pos (by simp; omega)]
      rw [show j - A.next = (j - (A.next + 1)) + 1 by omega]
      rfl
    · rw [if_neg h1]
      by_cases h2 : j = A.next
      · subst h2; rw [if_pos rfl, if_pos (by simp)]; simp
      · rw [if_neg h2, if_neg (by simp; omega)]
theorem tabH_get (tabs : List (TypeId × List Value)) (j : Nat) : (tabH tabs).get j = (tabs[j]?).map fun x => AObj.cells true x.1 x.2 := by
  unfold tabH
  rw [tabGo_get]
  simp only [Nat.zero_le, true_and, Nat.zero_add, Nat.sub_zero]
  by_cases h : j < tabs.length
  · rw [if_pos h]
  · rw [if_neg h, List.getElem?_eq_none (by omega)]
    rfl
theorem tabH_ro (tabs : List (TypeId × List Value)) {j : Nat} {o : AObj} (h : (tabH tabs).get j = some o) : o.own = false := by
  rw [tabH_get, Option.map_eq_some_iff] at h
  obtain ⟨x, _, rfl⟩ := h
  rfl

/-- What a row lists of one variable. -/
structure TabOf (P : Program) (laid : List (String × DataW Unit)) (i : Nat) (t : TypeId) (c : List Value) : Prop where
  out : ∃ n d, (n, d) ∈ laid ∧ P.globalNamed n = some i ∧ (P.globals[i]?).map (·.type) = some t ∧ okTab P t = true ∧ tabV d = some c ∧ ((P.info? t).map (·.size)).isSome = true

theorem laid_get {W : World} : ∀ {laid : List (String × DataW Unit)} {ps : List MemPlace}, DataW.LaidVars P W laid ps → ∀ {n : String} {d : DataW Unit}, (n, d) ∈ laid →
    ∃ g t cs fuel p, P.globalNamed n = some g ∧ (P.globals[g]?).map (·.type) = some t ∧ W.var? P n = some cs ∧ DataW.trod (fun _ => ()) P W 0 (fun _ => true) false fuel t cs.toList = some (d, p) := by
  intro laid
  induction laid with
  | nil => intro ps _ n d h; simp at h
  | cons x laid ih =>
    intro ps h n d hm
    obtain ⟨n', d'⟩ := x
    obtain ⟨g, t, cs, fuel, p, q, h1, h2, h3, h4, h5, _⟩ := h
    rcases List.mem_cons.1 hm with e | hm
    · cases e
      exact ⟨g, t, cs, fuel, p, h1, h2, h3, h4⟩
    · exact ih h5 hm

theorem TabOf.heap {laid : List (String × DataW Unit)} {i : Nat} {t : TypeId} {c : List Value} (h : TabOf P laid i t c) {W : World} (hl : laidMet P laid W) : ∃ e fz, W.heap[i]? = some (.cells c.toArray e fz) := by
  obtain ⟨n, d, hm, hg, ht, hok, hc, _⟩ := h.out
  obtain ⟨ps, hL, _⟩ := hl
  obtain ⟨g', t', cs, fuel, p, hg', ht', hv, htr⟩ := laid_get hL hm
  rw [hg] at hg'
  cases hg'
  rw [ht] at ht'
  cases ht'
  have := (lay_cells 8 t hok fuel 8 cs.toList d p c htr hc).1
  unfold World.var? at hv
  rw [hg] at hv
  simp only [Option.bind_some] at hv
  split at hv
  · rename_i cs' e fz hh
    cases hv
    refine ⟨e, fz, ?_⟩
    rw [hh, ← this]
  · cases hv

theorem tab_rel {tabs : List (TypeId × List Value)} {laid : List (String × DataW Unit)} (hg : P.globals.size = tabs.length) (ht : ∀ (i : Nat) t c, tabs[i]? = some (t, c) → TabOf P laid i t c) (hflat : ∀ (i : Nat) t c, tabs[i]? = some (t, c) → ∀ v ∈ c, flat1 v = true) {W : World} (hl : laidMet P laid W) : Rel P (tabS P tabs) (tabH tabs) W := by
  refine ⟨fun g hlt => ?_, fun id o p ho hs => ?_, fun i j p q o o' _ ho _ _ _ hown => ?_, fun id p hs => ?_, fun id hid => ?_⟩
  · have hlt : g < tabs.length := by omega
    simp [tabS, hlt]
  · rw [tabH_get] at ho
    simp only [tabS] at hs
    cases hx : tabs[id]? with
    | none => rw [hx] at ho; cases ho
    | some x =>
      obtain ⟨t, c⟩ := x
      rw [hx] at ho hs
      simp only [Option.map_some, Option.some.injEq] at ho hs
      subst ho
      subst hs
      obtain ⟨e, fz, hW⟩ := (ht id t c hx).heap hl
      obtain ⟨_, _, _, _, _, _, _, hsz⟩ := (ht id t c hx).out
      refine ⟨c.toArray, e, fz, hW, by simp, fun i v v' h1 h2 => ?_, ?_, by simp, fun h => by cases h⟩
      · simp only [Nat.zero_add, List.getElem?_toArray] at h2
        rw [h1] at h2
        cases h2
        exact (flat1_flat (hflat id t c hx v (List.mem_of_getElem? h1))).vrel
      · obtain ⟨n, hn⟩ := Option.isSome_iff_exists.1 hsz
        simp [hn]
  · rw [tabH_ro _ ho] at hown
    cases hown
  · simp only [tabS, Option.map_eq_some_iff] at hs
    obtain ⟨⟨t, c⟩, hx, rfl⟩ := hs
    obtain ⟨e, fz, hW⟩ := (ht id t c hx).heap hl
    exact (Array.getElem?_eq_some_iff.1 hW).1
  · unfold tabH at hid
    rw [tabGo_next] at hid
    simp only [Nat.zero_add] at hid
    exact ⟨by rw [tabH_get, List.getElem?_eq_none hid]; rfl, by simp only [tabS]; rw [List.getElem?_eq_none hid]; rfl⟩

/-- What the interpreter answers from tables alone: the program's answer; nothing old has changed. -/
theorem run_of_eval (hmix : P.follows .mixedOrders = true) (hx : Ext P) {code : FuncId → Option XFun} (hcode : CodeOf P code) (hnat : NatOk P code) {n : Nat} {f : FuncId} {args : List Value} {tabs : List (TypeId × List Value)} {r : Value} {A' : H}
    (he : evalF code n f args (tabH tabs) = some (r, A')) {σ : Sg} {W : World} (hr : Rel P σ (tabH tabs) W) {argsc : List Value} (ha : LRel σ args argsc) :
    Calls P f argsc.toArray W fun e w' => ∃ rc σ', e = .returned rc ∧ VRel σ' r rc ∧ Below W.heap.size W w' := by
  refine ((evalF_ok hmix hx hcode hnat n).calls _ _ _ _ _ he σ W argsc hr ha).mono fun e w' h => ?_
  obtain ⟨rc, σ', h1, h2, _, h4⟩ := h
  refine ⟨rc, σ', h1, h2, h4.os, h4.tape, h4.output, h4.size, fun k hk => h4.frame k hk fun ho => ?_⟩
  obtain ⟨id, p, o, _, _, hg, hown⟩ := ho
  rw [tabH_ro _ hg] at hown
  cases hown

/-- Does the answer say true? -/
def saysTrue : Option (Value × H) → Bool
  | some (.bool b, _) => b
  | _ => false
theorem calls_true (hmix : P.follows .mixedOrders = true) (hx : Ext P) {code : FuncId → Option XFun} (hcode : CodeOf P code) (hnat : NatOk P code) {n : Nat} {f : FuncId} {args : List Value} {tabs : List (TypeId × List Value)}
    (he : saysTrue (evalF code n f args (tabH tabs)) = true) {σ : Sg} {W : World} (hr : Rel P σ (tabH tabs) W) {argsc : List Value} (ha : LRel σ args argsc) :
    Calls P f argsc.toArray W fun e w' => e = .returned (.bool true) ∧ Below W.heap.size W w' := by
  unfold saysTrue at he
  split at he
  · rename_i b A' heq
    subst he
    refine (run_of_eval hmix hx hcode hnat heq hr ha).mono fun e w' h => ?_
    obtain ⟨rc, σ', rfl, h2, h3⟩ := h
    cases h2
    exact ⟨rfl, h3⟩
  · cases he

/-- The statement's behind part, where nothing old has changed. -/
theorem post_of_below {f : Func} {s : ChangeSpec} {apart fresh handsOn again : Bool} {W W' : World} {args : Array Value} {v : Value} {ds gs : List (DataW HH)} {before pa pv : List MemPlace}
    (hW : DataW.Whole enc P f.params.toList s.vars apart W args.toList ds gs before)
    (hres : ∀ (b : Nat) (sp : Nat → Bool) (hd : Bool), DataW.TrodAll enc P W' b sp hd f.resultTypes.toList (v.resultList f.resultTypes.size) (s.fn HH (ds ++ gs)).results [])
    (hargs : ∀ sp : Nat → Bool, (∀ p ∈ before, sp p.block = true) → DataW.TrodAll enc P W' 0 sp true f.params.toList args.toList (s.fn HH (ds ++ gs)).args pa)
    (hvars : ∀ sp : Nat → Bool, (∀ p ∈ before, sp p.block = true) → DataW.TrodVars enc P W' sp s.vars (s.fn HH (ds ++ gs)).vars pv)
    (hps : before = pa ++ pv) (hb : Below W.heap.size W W')
    (hok : ∀ (j : Nat) (t : TypeId) (r : Value), f.resultTypes[j]? = some t → (v.resultList f.resultTypes.size)[j]? = some r → Value.okWide P W' .any 0 t r) :
    s.post enc P f apart fresh handsOn again W args v W' := by
  have hold : ∀ p ∈ before, (fun b => decide (b < W.heap.size)) p.block = true := fun p hp => by simpa using hW.lt p hp
  have hlt : ∀ p ∈ before, p.block < W.heap.size := fun p hp => hW.lt p hp
  refine ⟨ds, gs, before, [], pa, pv, hW, hres _ _ _, hargs _ hold, hvars _ hold, World.keptBut_mono (fun p hp => ⟨hp, ?_⟩) (hb.frame (· ∈ before)), fun _ => ?_⟩
  · rw [hps, List.mem_append] at hp
    exact Or.inr hp
  · obtain ⟨_, _, _, _, _, hz, hn⟩ := hW
    refine ⟨hok, _, _, ([] ++ pa) ++ pv, ⟨[] ++ pa, pv, trodAll_append (hargs _ (fun _ _ => rfl)) (hres _ _ _), hvars _ (fun _ _ => rfl), rfl, ?_, ?_⟩, ?_⟩
    · intro b off hp
      have hp' : MemPlace.cell b off ∈ before := by rw [hps]; simpa using hp
      rw [hb.frozen (p := ⟨b, off, none⟩) (hlt _ hp')]
      exact hz b off hp'
    · intro ha
      have := hn ha
      rw [hps] at this
      simpa using this
    · intro p hp _
      rw [hps]
      simpa using hp
end
end Go.Ab
