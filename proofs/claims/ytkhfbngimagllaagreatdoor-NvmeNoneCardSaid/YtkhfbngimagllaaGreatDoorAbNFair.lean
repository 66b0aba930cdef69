/- Ask.Fair: three lengths are small. -/
import Derived.Test.YtkhfbngimagllaaGreatDoorProg
import Derived.Test.YtkhfbngimagllaaGreatDoorAbNat
import Derived.WalkKit
namespace Go.Ab
open Go Go.RowKit Go.Proofs

def fair (h b d : ByteArray) : Bool := decide ((h.size : Int) ≤ 1000) && decide ((b.size : Int) ≤ 1000) && decide ((d.size : Int) ≤ 70000)
set_option maxRecDepth 100000 in
set_option maxHeartbeats 1600000 in
theorem fair_walk (h b d : ByteArray) (a : Bool) (w : World) : Calls Tryz.prog 4 #[.agg #[.string h, .bool a, .string b, .string d]] w fun e w' => e = .returned (.bool (fair h b d)) ∧ Below w.heap.size w w' := by
  go_enter Tryz.func4, Tryz.ntmps4
  go_wp2
  all_goals (go_ret; exact ⟨by simp_all [fair] <;> omega, (Below.refl _ _).alloc (Nat.le_refl _) _⟩)

set_option maxRecDepth 100000 in
set_option maxHeartbeats 1600000 in
theorem fair_walk2 (h b d : ByteArray) (a : Bool) (w : World) : Calls Tryz.prog 4 #[.agg #[.string h, .bool a, .string b, .string d]] w fun e w' => e = .returned (.bool (fair h b d)) ∧ w' = w.alloc (.cells #[.string h, .bool a, .string b, .string d] 23) := by
  go_enter Tryz.func4, Tryz.ntmps4
  go_wp2
  all_goals (go_ret; exact ⟨by simp_all [fair] <;> omega, rfl⟩)

def fairA : Caller → List Value → H → Option (Value × H)
  | _, [.agg ⟨[.string h, .bool _, .string b, .string d]⟩], A => some (.bool (fair h b d), A)
  | _, _, _ => none
theorem fair_ok {call : Caller} {args : List Value} {A : H} {r : Value} {A' : H} (h : fairA call args A = some (r, A')) {σ : Sg} {w : World} {argsc : List Value} (hr : Rel Tryz.prog σ A w) (hl : LRel σ args argsc) :
    Calls Tryz.prog 4 argsc.toArray w (CPost Tryz.prog σ A w r A') := by
  unfold fairA at h
  split at h
  · rename_i s a b d
    simp only [Option.some.injEq, Prod.mk.injEq] at h
    obtain ⟨rfl, rfl⟩ := h
    obtain ⟨v1, r1, rfl, hv1, hl⟩ := hl.cons_inv
    have : r1 = [] := List.eq_nil_of_length_eq_zero (by have := hl.len; simpa using this.symm)
    subst this
    have hv : v1 = .agg #[.string s, .bool a, .string b, .string d] := by
      cases hv1 with
      | agg xs xs' h1 h2 =>
        obtain ⟨l⟩ := xs'
        simp only [List.size_toArray, List.length_cons, List.length_nil] at h1
        match l, h1 with
        | [x0, x1, x2, x3], _ =>
          have e0 := h2 0 _ x0 rfl rfl
          have e1 := h2 1 _ x1 rfl rfl
          have e2 := h2 2 _ x2 rfl rfl
          have e3 := h2 3 _ x3 rfl rfl
          cases e0; cases e1; cases e2; cases e3
          rfl
    subst hv
    exact (fair_walk s b d a w).mono fun e w' he => CPost.flat hr (.bool _) he.1 he.2
  · cases h
end Go.Ab
