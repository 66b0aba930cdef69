/- What early operations hang on. -/
import Derived.Test.YtainaihfbljjoaaGreatDoorAbSeq
set_option linter.all false
set_option linter.unusedSectionVars false
set_option linter.unusedVariables false
set_option linter.unusedSimpArgs false
namespace Go.Ab
open Go Go.RowKit
variable [Unk]

theorem early_iff (x : XOp) : early x = (light x || make x) := by cases x <;> rfl
theorem early_not_heavy {x : XOp} (h : heavy x = true) : early x = false := by cases x <;> first | rfl | cases h

theorem light_same {x : XOp} (hl : light x = true) {ρ : Operand → Value} {A A' : H} {v : Value} (h : evalOp x ρ A = some (v, A')) : A' = A := by
  cases x <;> first | cases hl | skip
  all_goals simp only [evalOp] at h
  case move => cases h; rfl
  case pick => rw [Option.map_eq_some_iff] at h; obtain ⟨_, _, h⟩ := h; cases h; rfl
  case build => rw [Option.map_eq_some_iff] at h; obtain ⟨_, _, h⟩ := h; cases h; rfl
  case load => split at h <;> first | (cases h; done) | (simp only [Option.bind_eq_some_iff, Option.map_eq_some_iff] at h; obtain ⟨_, _, _, _, h⟩ := h; cases h; rfl)
  case nilCheck => split at h <;> cases h; rfl
  case bin => rw [Option.map_eq_some_iff] at h; obtain ⟨_, _, h⟩ := h; cases h; rfl
  case un => rw [Option.map_eq_some_iff] at h; obtain ⟨_, _, h⟩ := h; cases h; rfl
  case toInt k x =>
    generalize ρ x = a at h
    cases a with
    | chan r => cases r with
      | some i =>
        simp only at h
        cases hk : (isKey i && decide (k = IntKind.u64)) with
        | false => rw [hk] at h; cases h
        | true => rw [hk] at h; cases h; rfl
      | none => simp [intV] at h
    | int kk n => simp only [intV, Option.map_some] at h; cases h; rfl
    | _ => simp [intV] at h
  case toUnsafe => split at h <;> first | (cases h; done) | (cases h; rfl) | (rw [Option.map_eq_some_iff] at h; obtain ⟨_, _, h⟩ := h; cases h; rfl)
  case assert => split at h <;> first | (cases h; done) | (cases h; rfl) | (split at h <;> (cases h; rfl))
  case isNil => split at h <;> first | (cases h; done) | (cases h; rfl)
  case eqS => rw [Option.map_eq_some_iff] at h; obtain ⟨_, _, h⟩ := h; cases h; rfl
  case same => rw [Option.map_eq_some_iff] at h; obtain ⟨_, _, h⟩ := h; cases h; rfl
  case ofBytes =>
    split at h
    · cases h; rfl
    · simp only [Option.bind_eq_some_iff, Option.map_eq_some_iff] at h; obtain ⟨_, _, _, _, h⟩ := h; cases h; rfl
    · cases h
  case fieldAddr => split at h <;> cases h; rfl
  case indexAddr => split at h <;> first | (cases h; done) | (split at h <;> cases h; rfl)
  case field => split at h <;> first | (cases h; done) | (simp only [Option.bind_eq_some_iff, Option.map_eq_some_iff] at h; obtain ⟨_, _, _, _, h⟩ := h; cases h; rfl)
  case index =>
    split at h
    · split at h
      · simp only [Option.bind_eq_some_iff, Option.map_eq_some_iff] at h; obtain ⟨_, _, _, _, h⟩ := h; cases h; rfl
      · cases h
    · split at h
      · simp only [Option.map_eq_some_iff] at h; obtain ⟨_, _, h⟩ := h; cases h; rfl
      · cases h
    · split at h
      · cases h; rfl
      · cases h
    · cases h
  case sliceStr =>
    split at h
    · simp only [Option.bind_eq_some_iff, Option.map_eq_some_iff] at h; obtain ⟨_, _, _, _, h⟩ := h; cases h; rfl
    · simp only [Option.bind_eq_some_iff, Option.map_eq_some_iff] at h; obtain ⟨_, _, _, _, _, _, h⟩ := h; cases h; rfl
    · cases h
  case slice => simp only [Option.bind_eq_some_iff, Option.map_eq_some_iff] at h; obtain ⟨_, _, _, _, _, _, _, _, h⟩ := h; cases h; rfl
  case extract => split at h <;> first | (cases h; done) | (rw [Option.map_eq_some_iff] at h; obtain ⟨_, _, h⟩ := h; cases h; rfl)
  case makeIface => cases h; rfl
  case makeFunc => cases h; rfl
  case lookup => simp only [Option.bind_eq_some_iff, Option.map_eq_some_iff] at h; obtain ⟨_, _, _, _, h⟩ := h; cases h; rfl
  case len => split at h <;> cases h <;> rfl
  case lenStr => split at h <;> cases h <;> rfl
  case minmax => split at h <;> first | (cases h; done) | (rw [Option.map_eq_some_iff] at h; obtain ⟨_, _, h⟩ := h; cases h; rfl)

theorem loadA_ext {A B : H} (he : ∀ i o, A.get i = some o → B.get i = some o) {a : Addr} {n : Nat} {l : List Value} (h : loadA A a n = some l) : loadA B a n = some l := by
  unfold loadA at h ⊢
  cases hg : A.get a.block with
  | none => simp [hg] at h
  | some o => rw [he _ _ hg]; rw [hg] at h; exact h

theorem head_ext {A B : H} (hof : ∀ e a, ofElem A e a = true → ofElem B e a = true) {e : TypeId} {arr : Option Nat} {v : Value} {r : Option Addr × Nat × Nat} (h : sliceHead A e arr v = some r) : sliceHead B e arr v = some r := by
  cases arr with
  | some n => cases v <;> first | exact h | (rename_i p; cases p <;> exact h)
  | none =>
    cases v with
    | slice a n c =>
      simp only [sliceHead] at h ⊢
      cases hb : (ofElem A e a && Nat.ble n c) with
      | false => rw [hb] at h; cases h
      | true =>
        rw [hb] at h
        rw [Bool.and_eq_true] at hb
        rw [show (ofElem B e a && Nat.ble n c) = true from by rw [Bool.and_eq_true]; exact ⟨hof _ _ hb.1, hb.2⟩]
        exact h
    | _ => simp [sliceHead] at h
/-- The same in a heap that holds no less. -/
theorem light_ext {x : XOp} (hl : light x = true) {ρ : Operand → Value} {A B A' : H} {v : Value} (he : ∀ i o, A.get i = some o → B.get i = some o) (h : evalOp x ρ A = some (v, A')) : evalOp x ρ B = some (v, B) := by
  cases x <;> first | cases hl | skip
  all_goals simp only [evalOp] at h ⊢
  case move => cases h; rfl
  case pick => rw [Option.map_eq_some_iff] at h ⊢; obtain ⟨t, ht, h⟩ := h; cases h; exact ⟨t, ht, rfl⟩
  case build => rw [Option.map_eq_some_iff] at h ⊢; obtain ⟨t, ht, h⟩ := h; cases h; exact ⟨t, ht, rfl⟩
  case load =>
    split at h
    · simp only [Option.bind_eq_some_iff, Option.map_eq_some_iff] at h ⊢
      obtain ⟨l, hl, u, hu, h⟩ := h
      cases h
      exact ⟨l, loadA_ext he hl, _, hu, rfl⟩
    · cases h
  case nilCheck => split at h <;> cases h; rfl
  case bin => rw [Option.map_eq_some_iff] at h ⊢; obtain ⟨t, ht, h⟩ := h; cases h; exact ⟨_, ht, rfl⟩
  case un => rw [Option.map_eq_some_iff] at h ⊢; obtain ⟨t, ht, h⟩ := h; cases h; exact ⟨_, ht, rfl⟩
  case toInt k x =>
    generalize ρ x = a at h ⊢
    cases a with
    | chan r => cases r with
      | some i =>
        simp only at h ⊢
        cases hk : (isKey i && decide (k = IntKind.u64)) with
        | false => rw [hk] at h; cases h
        | true => rw [hk] at h; cases h; rfl
      | none => simp [intV] at h
    | int kk n => simp only [intV, Option.map_some] at h ⊢; cases h; rfl
    | _ => simp [intV] at h
  case toUnsafe =>
    split at h
    · cases h; rfl
    · rw [Option.map_eq_some_iff] at h ⊢; obtain ⟨t, ht, h⟩ := h; cases h; exact ⟨_, loadA_ext he ht, rfl⟩
    · cases h
  case assert => split at h <;> first | (cases h; done) | (cases h; rfl) | (split at h <;> (cases h; rename_i e; first | rw [if_pos e] | rw [if_neg e]))
  case isNil => split at h <;> first | (cases h; done) | (cases h; rfl)
  case eqS => rw [Option.map_eq_some_iff] at h ⊢; obtain ⟨t, ht, h⟩ := h; cases h; exact ⟨_, ht, rfl⟩
  case same => rw [Option.map_eq_some_iff] at h ⊢; obtain ⟨t, ht, h⟩ := h; cases h; exact ⟨_, ht, rfl⟩
  case ofBytes =>
    split at h
    · cases h; rfl
    · simp only [Option.bind_eq_some_iff, Option.map_eq_some_iff] at h ⊢
      obtain ⟨l, hl, u, hu, h⟩ := h
      cases h
      exact ⟨l, loadA_ext he hl, _, hu, rfl⟩
    · cases h
  case fieldAddr => split at h <;> cases h; rfl
  case indexAddr =>
    split at h
    · split at h <;> cases h; rename_i hc; rw [if_pos hc]
    · split at h <;> cases h; rename_i hc; rw [if_pos hc]
    · cases h
  case field =>
    split at h
    · simp only [Option.bind_eq_some_iff, Option.map_eq_some_iff] at h ⊢; obtain ⟨l, hl, u, hu, h⟩ := h; cases h; exact ⟨l, hl, _, hu, rfl⟩
    · cases h
  case index =>
    split at h
    · split at h
      · rename_i hc
        rw [if_pos hc]
        simp only [Option.bind_eq_some_iff, Option.map_eq_some_iff] at h ⊢; obtain ⟨l, hl, u, hu, h⟩ := h; cases h; exact ⟨l, hl, _, hu, rfl⟩
      · cases h
    · split at h
      · rename_i hc
        rw [if_pos hc]
        simp only [Option.map_eq_some_iff] at h ⊢; obtain ⟨u, hu, h⟩ := h; cases h; exact ⟨_, hu, rfl⟩
      · cases h
    · split at h
      · rename_i hc
        rw [if_pos hc]
        cases h; rfl
      · cases h
    · cases h
  case sliceStr =>
    split at h
    · simp only [Option.bind_eq_some_iff, Option.map_eq_some_iff] at h ⊢; obtain ⟨l, hl, u, hu, h⟩ := h; cases h; exact ⟨l, hl, _, hu, rfl⟩
    · simp only [Option.bind_eq_some_iff, Option.map_eq_some_iff] at h ⊢; obtain ⟨l, hl, u, hu, v0, hv0, h⟩ := h; cases h; exact ⟨l, hl, u, hu, _, hv0, rfl⟩
    · cases h
  case slice =>
    simp only [Option.bind_eq_some_iff, Option.map_eq_some_iff] at h ⊢
    obtain ⟨hd, h1, m, h2, k, h3, l, h4, h⟩ := h
    cases h
    refine ⟨hd, ?_, m, h2, k, h3, l, h4, rfl⟩
    have hof : ∀ e a, ofElem A e a = true → ofElem B e a = true := by
      intro e a ho
      unfold ofElem at ho ⊢
      cases a with
      | none => rfl
      | some ad =>
        simp only at ho ⊢
        cases hg : A.get ad.block with
        | none => rw [hg] at ho; cases ho
        | some o => rw [he _ _ hg]; rw [hg] at ho; exact ho
    exact head_ext hof h1
  case extract =>
    split at h
    · rw [Option.map_eq_some_iff] at h ⊢; obtain ⟨u, hu, h⟩ := h; cases h; exact ⟨_, hu, rfl⟩
    · cases h
  case makeIface => cases h; rfl
  case makeFunc => cases h; rfl
  case lookup =>
    simp only [Option.bind_eq_some_iff, Option.map_eq_some_iff] at h ⊢
    obtain ⟨es, h1, f, h2, h⟩ := h
    cases h
    refine ⟨es, ?_, f, h2, rfl⟩
    unfold entriesA at h1 ⊢
    split at h1
    · exact h1
    · rename_i r _
      cases hg : A.get r with
      | none => rw [hg] at h1; cases h1
      | some o => simp only [he _ _ hg]; rw [hg] at h1; exact h1
    · cases h1
  case len => split at h <;> cases h <;> rfl
  case lenStr => split at h <;> cases h <;> rfl
  case minmax =>
    split at h
    · rw [Option.map_eq_some_iff] at h ⊢; obtain ⟨t, ht, h⟩ := h; cases h; exact ⟨_, ht, rfl⟩
    · cases h

/-- What reads no heap answers the same in every heap. -/
theorem light_free {x : XOp} (hl : light x = true) (hk : looks x = false) {ρ : Operand → Value} {A A' : H} {v : Value} (B : H) (h : evalOp x ρ A = some (v, A')) : evalOp x ρ B = some (v, B) := by
  have key : ∀ C : H, evalOp x ρ A = some (v, A') → ∀ D : H, (evalOp x ρ D = (evalOp x ρ A).map fun r => (r.1, D)) := by
    intro C h D
    have hs := light_same hl h
    cases x <;> first | (cases hl; done) | (cases hk; done) | skip
    all_goals simp only [evalOp]
    all_goals first
      | rfl
      | (simp only [Option.map_map, Function.comp_def]; done)
      | skip
    all_goals (repeat' split) <;> first | rfl | (simp only [Option.map_map, Function.comp_def, Option.map_none, Option.map_some, Option.map_bind]; done) | skip
    all_goals (rename_i i _; cases (isKey i && decide (_ = IntKind.u64)) <;> rfl)
  rw [key A h B, h]
  rfl

theorem make_same {x : XOp} (hm : make x = true) {ρ : Operand → Value} {A A' : H} {v : Value} (h : evalOp x ρ A = some (v, A')) : ∃ (mk : Nat → Value) (ob : AObj), v = mk A.next ∧ A' = A.push ob ∧ ob.own = true ∧ ∀ B, evalOp x ρ B = some (mk B.next, B.push ob) := by
  cases x <;> first | cases hm | skip
  all_goals simp only [evalOp] at h ⊢
  case alloc e z => cases h; exact ⟨fun id => .pointer (some ⟨id, 0, none⟩), _, rfl, rfl, rfl, fun B => rfl⟩
  case box e x => cases h; exact ⟨fun id => .pointer (some ⟨id, 0, none⟩), _, rfl, rfl, rfl, fun B => rfl⟩
  case buildSlice e n z ps => rw [Option.map_eq_some_iff] at h; obtain ⟨r, hr, h⟩ := h; cases h; exact ⟨fun id => .slice (some ⟨id, 0, none⟩) n n, _, rfl, rfl, rfl, fun B => by rw [hr]; rfl⟩
  case toBytes e x => rw [Option.map_eq_some_iff] at h; obtain ⟨r, hr, h⟩ := h; cases h; exact ⟨fun id => .slice (some ⟨id, 0, none⟩) r.length r.length, _, rfl, rfl, rfl, fun B => by rw [hr]; rfl⟩
  case makeMap => cases h; exact ⟨fun id => .map (some id), _, rfl, rfl, rfl, fun B => rfl⟩
  case makeSlice e b s z l c =>
    split at h
    · split at h
      · rename_i hc
        cases h
        exact ⟨fun id => .slice (some ⟨id, 0, none⟩) _ _, _, rfl, rfl, rfl, fun B => by rw [if_pos hc]⟩
      · cases h
    · cases h
  case rangeStr x => rw [Option.map_eq_some_iff] at h; obtain ⟨r, hr, h⟩ := h; cases h; exact ⟨fun id => .pointer (some ⟨id, 0, none⟩), _, rfl, rfl, rfl, fun B => by rw [hr]; rfl⟩

end Go.Ab
