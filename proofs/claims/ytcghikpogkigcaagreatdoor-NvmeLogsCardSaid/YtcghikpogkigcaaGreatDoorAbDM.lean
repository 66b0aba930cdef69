/- Some of the tables; the lists of what is told. -/
import Derived.Test.YtcghikpogkigcaaGreatDoorAbDBase
import Derived.Test.YtcghikpogkigcaaGreatDoorAbMem
set_option linter.all false
set_option linter.unusedSectionVars false
set_option linter.unusedVariables false
set_option linter.unusedSimpArgs false
namespace Go.Proofs.YtcghikpogkigcaaGreatDoor
open Go Go.Ab Go.Proofs Go.RowKit
set_option maxRecDepth 1000000

noncomputable def tabsT : OTabs := [none, none, none, none, none, none, none, none, none]
theorem tabsT_flat (i : Nat) (t : TypeId) (c : List Value) (hi : tabsT[i]? = some (some (t, c))) : ∀ v ∈ c, flat1 v = true := by
  match i, hi with
  | 0, hi => simp [tabsT] at hi
  | 1, hi => simp [tabsT] at hi
  | 2, hi => simp [tabsT] at hi
  | 3, hi => simp [tabsT] at hi
  | 4, hi => simp [tabsT] at hi
  | 5, hi => simp [tabsT] at hi
  | 6, hi => simp [tabsT] at hi
  | 7, hi => simp [tabsT] at hi
  | 8, hi => simp [tabsT] at hi
  | n + 9, hi => simp [tabsT] at hi
noncomputable def tabsT1_5_7 : OTabs := [none, some (250, tab1), none, none, none, some (293, tab5), none, some (346, tab7), none]
theorem tabsT1_5_7_flat (i : Nat) (t : TypeId) (c : List Value) (hi : tabsT1_5_7[i]? = some (some (t, c))) : ∀ v ∈ c, flat1 v = true := by
  match i, hi with
  | 0, hi => simp [tabsT1_5_7] at hi
  | 1, hi => cases hi; exact List.all_eq_true.1 fl1
  | 2, hi => simp [tabsT1_5_7] at hi
  | 3, hi => simp [tabsT1_5_7] at hi
  | 4, hi => simp [tabsT1_5_7] at hi
  | 5, hi => cases hi; exact List.all_eq_true.1 fl5
  | 6, hi => simp [tabsT1_5_7] at hi
  | 7, hi => cases hi; exact List.all_eq_true.1 fl7
  | 8, hi => simp [tabsT1_5_7] at hi
  | n + 9, hi => simp [tabsT1_5_7] at hi
noncomputable def tabsT5 : OTabs := [none, none, none, none, none, some (293, tab5), none, none, none]
theorem tabsT5_flat (i : Nat) (t : TypeId) (c : List Value) (hi : tabsT5[i]? = some (some (t, c))) : ∀ v ∈ c, flat1 v = true := by
  match i, hi with
  | 0, hi => simp [tabsT5] at hi
  | 1, hi => simp [tabsT5] at hi
  | 2, hi => simp [tabsT5] at hi
  | 3, hi => simp [tabsT5] at hi
  | 4, hi => simp [tabsT5] at hi
  | 5, hi => cases hi; exact List.all_eq_true.1 fl5
  | 6, hi => simp [tabsT5] at hi
  | 7, hi => simp [tabsT5] at hi
  | 8, hi => simp [tabsT5] at hi
  | n + 9, hi => simp [tabsT5] at hi
noncomputable def a7_0 : List Value := []
noncomputable def v7_0 : Value := .bool true
noncomputable def a11_0 : List Value := [.int .i64 28]
noncomputable def v11_0 : Value := .string (nstr 28 0)
noncomputable def a11_1 : List Value := [.int .i64 20]
noncomputable def v11_1 : Value := .string (nstr 20 0)
noncomputable def a11_2 : List Value := [.int .i64 64]
noncomputable def v11_2 : Value := .string (nstr 64 0)
noncomputable def a26_0 : List Value := [.string (nstr 64 117842861051889988214486062774684396530373385298674854654013109195642480765762369858105803171518904370293370417727653281296136179631302406925619774357504), .bool true]
noncomputable def v26_0 : Value := .tuple #[.agg #[.int .i64 2, .int .i64 0, .int .i64 1, .int .u32 0, .int .i64 64, .int .u32 983168, .int .u32 0, .int .u32 0, .int .u32 0, .int .u32 0, .int .u32 0, .bool true, .bool false, .int .i64 0, .int .i64 0, .bool false, .int .i64 0], .int .i64 0]
noncomputable def a81_0 : List Value := [.int .u64 1, .int .i64 8]
noncomputable def v81_0 : Value := .string (nstr 8 72057594037927936)
noncomputable def a81_1 : List Value := [.int .u64 1, .int .i64 4]
noncomputable def v81_1 : Value := .string (nstr 4 16777216)
noncomputable def a81_2 : List Value := [.int .u64 2, .int .i64 4]
noncomputable def v81_2 : Value := .string (nstr 4 33554432)
theorem right_in [Unk] {n : Nat} {f : FuncId} {args : List Value} {tabs : OTabs} {r : Value} (h : @kF knNone code nats n f args (otabH tabs) (fun v _ => eqx 2 v r) = true) (ha : eqArgs args args = true) : Right Tryz.prog tabs f (args, r) := by
  letI : Kn := knNone
  haveI : KnOk := knNone_ok
  obtain ⟨m, v, A', h1, h2⟩ := quick h
  exact right_of mixed ext code_body code_nat h1 h2 ha
end Go.Proofs.YtcghikpogkigcaaGreatDoor
