/- NvmePairs, whatever the numbers and the bytes. -/
import Derived.Test.YtainaihfbljjoaaGreatDoorAbPRuns
set_option linter.all false
set_option linter.unusedSectionVars false
set_option linter.unusedVariables false
set_option linter.unusedSimpArgs false
namespace Go.Proofs.YtainaihfbljjoaaGreatDoor
open Go Go.Ab Go.Proofs Go.RowKit
set_option maxRecDepth 1000000
abbrev Holds [Unk] (W : World) : Prop := Rel Tryz.prog (otabS Tryz.prog tabs) (otabH tabs) W
theorem modV_lt (x : Int) (m : Nat) (hm : 1 ≤ m) : ∃ r : Nat, modV x (m : Int) = r ∧ r < m := by
  have h1 := Int.lt_tmod_of_pos x (show (0 : Int) < (m : Int) by omega)
  have h0 : modV x (m : Int) = (x.tmod m + m) % m := by
    unfold modV
    rw [Int.tmod_eq_emod_of_nonneg (show 0 ≤ x.tmod (m : Int) + (m : Int) by omega)]
  have h2 := Int.emod_nonneg (x.tmod (m : Int) + (m : Int)) (show (m : Int) ≠ 0 by omega)
  have h3 := Int.emod_lt_of_pos (x.tmod (m : Int) + (m : Int)) (show (0 : Int) < (m : Int) by omega)
  exact ⟨(modV x (m : Int)).toNat, by rw [h0]; omega, by rw [h0]; omega⟩
theorem unkVal_byt {f : Nat → UInt8} {g : Nat → Value} {j : Nat} (hj : j < 4096) (h0 : j % 16 = 0) : unkVal f g j = byteV (f (j / 16)) := by
  unfold unkVal
  rw [if_pos hj, h0]
  have : f (j / 16) + UInt8.ofNat 0 = f (j / 16) := by
    apply UInt8.toNat_inj.1
    rw [UInt8.toNat_add]
    have h1 := (f (j / 16)).toNat_lt
    have h2 : (UInt8.ofNat 0).toNat = 0 := rfl
    rw [h2]
    omega
  rw [this]
theorem law {W : World} (hR : ∀ [Unk], Holds W) (lba n : Int) (a b c : UInt8) :
    Calls Tryz.prog 3 #[.int .i64 lba, .int .i64 n, .agg #[byteV a, byteV b, byteV c]] W fun e w' => e = .returned (.bool true) ∧ Below W.heap.size W w' := by
  obtain ⟨q, hq, hq3⟩ := modV_lt n 3 (by omega)
  obtain ⟨p, hp, hp6⟩ := modV_lt lba (6 - q) (by omega)
  obtain ⟨r0, r16⟩ := R.runs q p hq3 hp6
  have main : ∀ (f : Nat → UInt8), f 0 ≠ f 1 → ∀ t : Nat, t = 0 ∨ t = 16 → R.run q p t = true →
      Calls Tryz.prog 3 #[.int .i64 lba, .int .i64 n, .agg #[byteV (f 0), byteV (f (t / 16)), byteV (f 2)]] W fun e w' => e = .returned (.bool true) ∧ Below W.heap.size W w' := fun f hf t ht hrun => by
    letI U : Unk := unkOf f hf (fun i => if i = 6000 then .int .i64 lba else .int .i64 n) (fun i => by split <;> rfl) (fun i b => by split <;> (intro h; cases h))
    have e0 : Unk.val 6000 = .int .i64 lba := rfl
    have e1 : Unk.val 6001 = .int .i64 n := rfl
    have byt : ∀ j, j < 4096 → j % 16 = 0 → Unk.val j = byteV (f (j / 16)) := fun j hj h0 => unkVal_byt hj h0
    have := R.law_of (q := q) (a := p) (t := t) (fun e he => by
      simp only [modP, List.mem_cons, List.mem_nil_iff, or_false] at he
      rcases he with rfl | rfl
      · exact ⟨by show 1 ≤ 3; omega, by show 3 ≤ 4096; omega, n, e1, hq⟩
      · exact ⟨by show 1 ≤ 6 - q; omega, by show 6 - q ≤ 4096; omega, lba, e0, hp⟩) hrun hR
    rw [e0, e1, byt 0 (by omega) (by omega), byt t (by omega) (by omega), byt 32 (by omega) (by omega)] at this
    exact this
  by_cases hab : a = b
  · subst hab
    have := main (fun j => if j = 0 then a else if j = 1 then a + 1 else c) (by
      intro h
      have h := congrArg UInt8.toNat h
      simp only [if_pos, if_neg, Nat.one_ne_zero, UInt8.toNat_add] at h
      have := a.toNat_lt
      have e1 : (1 : UInt8).toNat = 1 := rfl
      simp [e1] at h
      omega) 0 (.inl rfl) r0
    exact this
  · exact main (fun j => if j = 0 then a else if j = 1 then b else c) (by simpa using hab) 16 (.inr rfl) r16
end Go.Proofs.YtainaihfbljjoaaGreatDoor
