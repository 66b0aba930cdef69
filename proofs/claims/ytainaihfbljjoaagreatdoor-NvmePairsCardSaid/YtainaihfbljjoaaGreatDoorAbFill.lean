/- Composite values. -/
import Derived.Test.YtainaihfbljjoaaGreatDoorAbLight
set_option linter.all false
set_option linter.unusedSectionVars false
set_option linter.unusedVariables false
set_option linter.unusedSimpArgs false
namespace Go.Ab
open Go
variable [Unk]
section
variable {P : Program} {σ : Sg} {A : H} {w : World}

theorem foldl_over (off : Nat) : ∀ (vs : List Value) (k : Nat) (cells : Array Value), off + k + vs.length ≤ cells.size →
    ((vs.zipIdx k).foldl (fun (cs : Array Value) (x : Value × Nat) => cs.setIfInBounds (off + x.2) x.1) cells).toList = cells.toList.take (off + k) ++ vs ++ cells.toList.drop (off + k + vs.length) := by
  intro vs
  induction vs with
  | nil => intro k cells _; simp
  | cons v vs ih =>
    intro k cells h
    simp only [List.length_cons] at h
    rw [List.zipIdx_cons, List.foldl_cons, ih (k + 1) _ (by simp; omega)]
    simp only [Array.toList_setIfInBounds]
    have h1 : (cells.toList.set (off + k) v).take (off + (k + 1)) = cells.toList.take (off + k) ++ [v] := by
      rw [← Nat.add_assoc, List.take_add_one, List.take_set_of_le (Nat.le_refl _), List.getElem?_set_self (by simp; omega)]
      rfl
    have h2 : (cells.toList.set (off + k) v).drop (off + (k + 1) + vs.length) = cells.toList.drop (off + k + (vs.length + 1)) := by
      rw [List.drop_set_of_lt (by omega)]
      congr 1
      omega
    rw [h1, h2]
    simp
theorem over_rel {l l' vs vs' r : List Value} {off : Nat} (h : over l off vs = some r) (hl : LRel σ l l') (hv : LRel σ vs vs') : off + vs.length ≤ l.length ∧ LRel σ r (l'.take off ++ vs' ++ l'.drop (off + vs'.length)) := by
  unfold over at h
  cases hb : Nat.ble (off + vs.length) l.length with
  | false => rw [hb] at h; cases h
  | true =>
    rw [hb] at h
    cases h
    exact ⟨Nat.le_of_ble_eq_true hb, by rw [← hv.len]; exact ((hl.take off).append hv).append (hl.drop _)⟩
theorem cells_rel {v v' : Value} (h : VRel σ v v') : LRel σ (cellsL v) v'.cells.toList := by rw [cells_toList]; exact cellsL_rel h
theorem fill_rel (place : Nat → Option (Nat × Nat)) : ∀ (ps : List (Nat × Operand)) (qs : List (Nat × Nat × Operand)) (c : List Value) (cc : Array Value) (r : List Value) (ρ ρ' : Operand → Value),
    ps.length = qs.length → (∀ (i : Nat) p q, ps[i]? = some p → qs[i]? = some q → place p.1 = some (q.1, q.2.1) ∧ p.2 = q.2.2 ∧ VRel σ (ρ p.2) (ρ' p.2)) → LRel σ c cc.toList →
    fillA c (qs.map fun (o, n, x) => (o, n, ρ x)) = some r → ∃ rc, Instr.fill place cc (ps.map fun (i, x) => (i, ρ' x)) = some rc ∧ LRel σ r rc.toList := by
  intro ps
  induction ps with
  | nil =>
    intro qs c cc r ρ ρ' hl _ hc h
    have : qs = [] := List.eq_nil_of_length_eq_zero (by simpa using hl.symm)
    subst this
    simp only [List.map_nil, fillA] at h
    cases h
    exact ⟨cc, rfl, hc⟩
  | cons p ps ih =>
    intro qs c cc r ρ ρ' hl hp hc h
    cases qs with
    | nil => simp at hl
    | cons q qs =>
      obtain ⟨o, n, x⟩ := q
      obtain ⟨i, y⟩ := p
      obtain ⟨h1, h2, h3⟩ := hp 0 _ _ rfl rfl
      simp only at h1 h2 h3
      subst h2
      simp only [List.map_cons, fillA] at h
      have hcl := cells_rel h3
      cases hb : Nat.beq (cellsL (ρ y)).length n with
      | false => rw [hb] at h; cases h
      | true =>
        have hn := Nat.eq_of_beq_eq_true hb
        rw [hb] at h
        simp only [cond_true, Option.bind_eq_some_iff] at h
        obtain ⟨m, hm, hrest⟩ := h
        obtain ⟨hle, hr⟩ := over_rel hm hc hcl
        have hsz : (ρ' y).cells.size = n := by rw [← Array.length_toList, ← hcl.len, hn]
        have hcc : c.length = cc.size := by rw [hc.len]; simp
        have hz : ((ρ' y).cells.zipIdx.foldl (fun (cs : Array Value) (x : Value × Nat) => cs.setIfInBounds (o + x.2) x.1) cc).toList = cc.toList.take o ++ (ρ' y).cells.toList ++ cc.toList.drop (o + (ρ' y).cells.toList.length) := by
          rw [← Array.foldl_toList, Array.toList_zipIdx]
          simpa using foldl_over o (ρ' y).cells.toList 0 cc (by simp [hsz]; omega)
        obtain ⟨rc, hrc, hrr⟩ := ih qs m ((ρ' y).cells.zipIdx.foldl (fun (cs : Array Value) (x : Value × Nat) => cs.setIfInBounds (o + x.2) x.1) cc) r ρ ρ' (by simpa using hl) (fun j a b ha hb' => hp (j + 1) a b (by simpa using ha) (by simpa using hb')) (by rw [hz]; exact hr) hrest
        refine ⟨rc, ?_, hrr⟩
        simp only [List.map_cons, Instr.fill, h1]
        rw [if_neg (by simp [hsz]; omega)]
        exact hrc
end
end Go.Ab
