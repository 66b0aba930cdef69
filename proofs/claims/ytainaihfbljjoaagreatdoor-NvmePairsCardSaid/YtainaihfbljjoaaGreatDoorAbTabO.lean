/- Tables again, where some of the package-level variables are not listed: of those only the place is known. -/
import Derived.Test.YtainaihfbljjoaaGreatDoorAbTab
set_option linter.all false
set_option linter.unusedSectionVars false
set_option linter.unusedVariables false
set_option linter.unusedSimpArgs false
namespace Go.Ab
open Go Go.RowKit Go.ChangeShapes Go.WideShapes
variable [Unk]
section
variable {P : Program}

abbrev OTabs := List (Option (TypeId × List Value))
def otabGo : OTabs → H → H
  | [], A => A
  | some x :: r, A => otabGo r (A.push (.cells true x.1 x.2))
  | none :: r, A => otabGo r { A with next := A.next + 1 }
def otabH (tabs : OTabs) : H := otabGo tabs ⟨.nil, 0⟩
def otabS (P : Program) (tabs : OTabs) : Sg := fun i => (tabs[i]?).map fun x => match x with
  | some x => ⟨i, 0, ((P.info? x.1).map (·.size)).getD 0, x.2.length⟩
  | none => ⟨i, 0, 0, 0⟩

theorem otabGo_next : ∀ (l : OTabs) (A : H), (otabGo l A).next = A.next + l.length := by
  intro l
  induction l with
  | nil => intro A; rfl
  | cons x l ih =>
    intro A
    cases x with
    | some x => simp only [otabGo]; rw [ih, H.next_push]; simp; omega
    | none => simp only [otabGo]; rw [ih]; simp; omega
theorem otabGo_get : ∀ (l : OTabs) (A : H) (j : Nat), (∀ k, A.next ≤ k → A.get k = none) → (otabGo l A).get j = if A.next ≤ j ∧ j < A.next + l.length then (l[j - A.next]?.join).map (fun x => AObj.cells true x.1 x.2) else A.get j := by
  intro l
  induction l with
  | nil => intro A j _; simp only [otabGo, List.length_nil]; rw [if_neg (by omega)]
  | cons x l ih =>
    intro A j hA
    cases x with
    | some x =>
      simp only [otabGo]
      rw [ih _ _ (fun k hk => by rw [H.next_push] at hk; rw [H.get_push, if_neg (by omega)]; exact hA k (by omega)), H.next_push, H.get_push]
      by_cases h1 : A.next + 1 ≤ j ∧ j < A.next + 1 + l.length
      · rw [if_pos h1, if_pos (by simp; omega)]
        rw [show j - A.next = (j - (A.next + 1)) + 1 by omega]
        rfl
      · rw [if_neg h1]
        by_cases h2 : j = A.next
        · subst h2; rw [if_pos rfl, if_pos (by simp)]; simp
        · rw [if_neg h2, if_neg (by simp; omega)]
    | none =>
      simp only [otabGo]
      have hget : ∀ k, ({ A with next := A.next + 1 } : H).get k = A.get k := fun k => rfl
      rw [ih _ _ (fun k hk => by simp only at hk; rw [hget]; exact hA k (by omega)), hget]
      simp only
      by_cases h1 : A.next + 1 ≤ j ∧ j < A.next + 1 + l.length
      · rw [if_pos h1, if_pos (by simp; omega)]
        rw [show j - A.next = (j - (A.next + 1)) + 1 by omega]
        rfl
      · rw [if_neg h1]
        by_cases h2 : j = A.next
        · subst h2; rw [if_pos (by simp)]; simp [hA _ (Nat.le_refl _)]
        · rw [if_neg (by simp; omega)]
theorem otabH_get (tabs : OTabs) (j : Nat) : (otabH tabs).get j = (tabs[j]?.join).map fun x => AObj.cells true x.1 x.2 := by
  unfold otabH
  rw [otabGo_get _ _ _ (fun _ _ => rfl)]
  simp only [Nat.zero_le, true_and, Nat.zero_add, Nat.sub_zero]
  by_cases h : j < tabs.length
  · rw [if_pos h]
  · rw [if_neg h, List.getElem?_eq_none (by omega)]
    rfl
theorem otabH_ro (tabs : OTabs) {j : Nat} {o : AObj} (h : (otabH tabs).get j = some o) : o.own = false := by
  rw [otabH_get, Option.map_eq_some_iff] at h
  obtain ⟨x, _, rfl⟩ := h
  rfl

theorem otab_rel {tabs : OTabs} {laid : List (String × DataW Unit)} (hg : P.globals.size = tabs.length) (ht : ∀ (i : Nat) t c, tabs[i]? = some (some (t, c)) → TabOf P laid i t c) (hflat : ∀ (i : Nat) t c, tabs[i]? = some (some (t, c)) → ∀ v ∈ c, flat1 v = true) {W : World}
    (hl : laidMet P laid W) (hW : ∀ g, tabs[g]? = some none → g < W.heap.size) : Rel P (otabS P tabs) (otabH tabs) W := by
  refine ⟨fun g hlt => ?_, fun id o p ho hs => ?_, fun i j p q o o' _ ho _ _ _ hown => ?_, fun id p hs => ?_, fun id hid => ?_⟩
  · have hlt : g < tabs.length := by omega
    cases hx : tabs[g] with
    | none => exact ⟨_, by simp only [otabS, List.getElem?_eq_getElem hlt, hx]; rfl, rfl, rfl⟩
    | some x => exact ⟨_, by simp only [otabS, List.getElem?_eq_getElem hlt, hx]; rfl, rfl, rfl⟩
  · rw [otabH_get] at ho
    simp only [otabS] at hs
    cases hx : tabs[id]? with
    | none => rw [hx] at ho; cases ho
    | some x =>
      cases x with
      | none => rw [hx] at ho; cases ho
      | some x =>
        obtain ⟨t, c⟩ := x
        rw [hx] at ho hs
        simp only [Option.join_some, Option.map_some, Option.some.injEq] at ho hs
        subst ho
        subst hs
        obtain ⟨e, fz, hW⟩ := (ht id t c hx).heap hl
        obtain ⟨_, _, _, _, _, _, _, hsz⟩ := (ht id t c hx).out
        refine ⟨c.toArray, e, fz, hW, by simp, fun i v v' h1 h2 => ?_, ?_, by simp, fun h => by cases h⟩
        · simp only [Nat.zero_add, List.getElem?_toArray] at h2
          rw [h1] at h2
          cases h2
          exact (flat1_flat (hflat id t c hx v (List.mem_of_getElem? h1))).vrel
        · obtain ⟨n, hn⟩ := Option.isSome_iff_exists.1 hsz
          simp [hn]
  · rw [otabH_ro _ ho] at hown
    cases hown
  · simp only [otabS, Option.map_eq_some_iff] at hs
    obtain ⟨x, hx, rfl⟩ := hs
    cases x with
    | none => exact hW _ hx
    | some x =>
      obtain ⟨t, c⟩ := x
      obtain ⟨e, fz, hW⟩ := (ht id t c hx).heap hl
      exact (Array.getElem?_eq_some_iff.1 hW).1
  · unfold otabH at hid
    rw [otabGo_next] at hid
    simp only [Nat.zero_add] at hid
    exact ⟨by rw [otabH_get, List.getElem?_eq_none hid]; rfl, by simp only [otabS]; rw [List.getElem?_eq_none hid]; rfl⟩

theorem ocalls_true (hmix : P.follows .mixedOrders = true) (hx : Ext P) {code : FuncId → Option XFun} (hcode : CodeOf P code) (hnat : NatOk P code) {n : Nat} {f : FuncId} {args : List Value} {tabs : OTabs}
    (he : saysTrue (evalF code n f args (otabH tabs)) = true) {σ : Sg} {W : World} (hr : Rel P σ (otabH tabs) W) {argsc : List Value} (ha : LRel σ args argsc) :
    Calls P f argsc.toArray W fun e w' => e = .returned (.bool true) ∧ Below W.heap.size W w' := by
  unfold saysTrue at he
  split at he
  · rename_i b A' heq
    subst he
    refine ((evalF_ok hmix hx hcode hnat n).calls _ _ _ _ _ heq σ W argsc hr ha).mono fun e w' h => ?_
    obtain ⟨rc, σ', rfl, h2, _, h4⟩ := h
    cases h2
    refine ⟨rfl, h4.os, h4.tape, h4.output, h4.size, fun k hk => h4.frame k hk fun ho => ?_⟩
    obtain ⟨id, p, o, _, _, hg, hown⟩ := ho
    rw [otabH_ro _ hg] at hown
    cases hown
  · cases he
end
end Go.Ab
