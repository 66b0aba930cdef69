/- Some of the tables; the lists of what is told. -/
import Derived.Test.YtcghikpogkigcaaGreatDoorAbDBase
import Derived.Test.YtcghikpogkigcaaGreatDoorAbMem
set_option linter.all false
set_option linter.unusedSectionVars false
set_option linter.unusedVariables false
set_option linter.unusedSimpArgs false
namespace Go.Proofs.YtcghikpogkigcaaGreatDoor
open Go Go.Ab Go.Proofs Go.RowKit
set_option maxRecDepth 1000000

noncomputable def tabsT1_5_7 : OTabs := [none, some (250, tab1), none, none, none, some (293, tab5), none, some (346, tab7), none]
theorem tabsT1_5_7_flat (i : Nat) (t : TypeId) (c : List Value) (hi : tabsT1_5_7[i]? = some (some (t, c))) : ∀ v ∈ c, flat1 v = true := by
  match i, hi with
  | 0, hi => simp [tabsT1_5_7] at hi
  | 1, hi => cases hi; exact List.all_eq_true.1 fl1
  | 2, hi => simp [tabsT1_5_7] at hi
  | 3, hi => simp [tabsT1_5_7] at hi
  | 4, hi => simp [tabsT1_5_7] at hi
  | 5, hi => cases hi; exact List.all_eq_true.1 fl5
  | 6, hi => simp [tabsT1_5_7] at hi
  | 7, hi => cases hi; exact List.all_eq_true.1 fl7
  | 8, hi => simp [tabsT1_5_7] at hi
  | n + 9, hi => simp [tabsT1_5_7] at hi
noncomputable def a7_0 : List Value := []
noncomputable def v7_0 : Value := .bool true
theorem right_in [Unk] {n : Nat} {f : FuncId} {args : List Value} {tabs : OTabs} {r : Value} (h : @kF knNone code nats n f args (otabH tabs) (fun v _ => eqx 2 v r) = true) (ha : eqArgs args args = true) : Right Tryz.prog tabs f (args, r) := by
  letI : Kn := knNone
  haveI : KnOk := knNone_ok
  obtain ⟨m, v, A', h1, h2⟩ := quick h
  exact right_of mixed ext code_body code_nat h1 h2 ha
end Go.Proofs.YtcghikpogkigcaaGreatDoor
