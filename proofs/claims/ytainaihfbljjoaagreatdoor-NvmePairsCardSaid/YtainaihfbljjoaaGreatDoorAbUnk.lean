/- What unknown values stand for, made of some bytes and others. -/
import Derived.Test.YtainaihfbljjoaaGreatDoorAbRel
set_option linter.all false
set_option linter.unusedSectionVars false
set_option linter.unusedVariables false
set_option linter.unusedSimpArgs false
namespace Go.Ab
open Go
/-- Byte i % 16 behind the i / 16-th of the bytes; two numbers; whatever else. -/
def unkVal (f : Nat → UInt8) (g : Nat → Value) (i : Nat) : Value :=
  if i < 4096 then byteV (f (i / 16) + UInt8.ofNat (i % 16)) else if isKey i = true then .int .u64 (Int.ofNat i - 4999) else g i
theorem byte_add {a b : UInt8} (m : Nat) (h : a ≠ b) : byteV (a + UInt8.ofNat m) ≠ byteV (b + UInt8.ofNat m) := by
  intro e
  simp only [byteV, Value.int.injEq, true_and] at e
  have e := Int.ofNat.inj e
  apply h
  apply UInt8.toNat_inj.1
  rw [UInt8.toNat_add, UInt8.toNat_add] at e
  have := a.toNat_lt
  have := b.toNat_lt
  omega
theorem key_not {i : Nat} (h : isKey i = true) : ¬ i < 4096 := by
  unfold isKey at h
  rw [Bool.or_eq_true] at h
  rcases h with h | h <;> (have := Nat.eq_of_beq_eq_true h; omega)
abbrev unkOf (f : Nat → UInt8) (hf : f 0 ≠ f 1) (g : Nat → Value) (h1 : ∀ i, oneCell (g i) = true) (h2 : ∀ i b, g i ≠ .bool b) : Unk where
  val := unkVal f g
  one i := by
    unfold unkVal
    split
    · rfl
    · split
      · rfl
      · exact h1 i
  nob i b := by
    unfold unkVal
    split
    · intro h; cases h
    · split
      · intro h; cases h
      · exact h2 i b
  byt i hi := ⟨f (i / 16) + UInt8.ofNat (i % 16), by unfold unkVal; rw [if_pos hi]⟩
  neq i j h := by
    unfold neqTok at h
    rw [Bool.and_eq_true, Bool.or_eq_true, Bool.and_eq_true, Bool.and_eq_true] at h
    obtain ⟨h0, h⟩ := h
    have h0 : i % 16 = j % 16 := Nat.eq_of_beq_eq_true h0
    rcases h with ⟨ha, hb⟩ | ⟨ha, hb⟩
    · have ha : i < 16 := Nat.le_of_ble_eq_true ha
      have hb : j / 16 = 1 := Nat.eq_of_beq_eq_true hb
      unfold unkVal
      rw [if_pos (by omega), if_pos (by omega), show i / 16 = 0 by omega, hb, h0]
      exact byte_add _ hf
    · have ha : j < 16 := Nat.le_of_ble_eq_true ha
      have hb : i / 16 = 1 := Nat.eq_of_beq_eq_true hb
      unfold unkVal
      rw [if_pos (by omega), if_pos (by omega), show j / 16 = 0 by omega, hb, h0]
      exact byte_add _ hf.symm
  key i h := by
    have hn := key_not h
    refine ⟨Int.ofNat i - 4999, by unfold unkVal; rw [if_neg hn, if_pos h], ?_, ?_⟩
    all_goals
      unfold isKey at h
      rw [Bool.or_eq_true] at h
      rcases h with h | h <;> (have := Nat.eq_of_beq_eq_true h; subst this; decide)
  keys := by
    show unkVal f g 5000 ≠ unkVal f g 5001
    unfold unkVal
    rw [if_neg (by decide : ¬ 5000 < 4096), if_pos (by decide : isKey 5000 = true), if_neg (by decide : ¬ 5001 < 4096), if_pos (by decide : isKey 5001 = true)]
    intro h
    simp at h
  sum i m hi hm := by
    refine ⟨f (i / 16) + UInt8.ofNat (i % 16), by unfold unkVal; rw [if_pos hi], ?_⟩
    unfold unkVal
    rw [if_pos (by omega), show (i + m) / 16 = i / 16 by omega, show (i + m) % 16 = i % 16 + m by omega, UInt8.ofNat_add]
    rw [UInt8.add_assoc]
end Go.Ab
