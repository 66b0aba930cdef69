/- The quick interpreter's numbers. -/
import Derived.Test.YtainaihfbljjoaaGreatDoorAbKOk
set_option linter.all false
set_option linter.unusedSectionVars false
set_option linter.unusedVariables false
set_option linter.unusedSimpArgs false
namespace Go.Ab
open Go

theorem wrap_small (kd : IntKind) {a : Nat} (h : a < lim kd) : kd.wrap (Int.ofNat a) = Int.ofNat a := by
  have e : Int.ofNat a = (a : Int) := rfl
  rw [e]
  cases kd <;> simp only [lim] at h <;> simp [IntKind.wrap, IntKind.bits, IntKind.signed] <;> omega
theorem wrapN_eq (kd : IntKind) (a : Nat) (k : Int → Bool) : wrapN kd a k = k (kd.wrap (Int.ofNat a)) := by
  unfold wrapN
  cases hb : Nat.blt a (lim kd) with
  | true =>
    have hlt : a < lim kd := Nat.le_of_ble_eq_true hb
    simp only
    rw [natK_eq, wrap_small kd hlt]
  | false => rfl
theorem wrapK_eq (kd : IntKind) (n : Int) (k : Int → Bool) : wrapK kd n k = k (kd.wrap n) := by
  cases n with
  | ofNat a => exact wrapN_eq kd a k
  | negSucc a => rfl
theorem nat2_spec {x y : Int} {k : Nat → Nat → Bool} {f : Bool} (h : nat2 x y k f = true) : (∃ a b, x = Int.ofNat a ∧ y = Int.ofNat b ∧ k a b = true) ∨ f = true := by
  cases x with
  | ofNat a => cases y with
    | ofNat b => exact .inl ⟨a, b, rfl, rfl, h⟩
    | negSucc b => exact .inr h
  | negSucc a => exact .inr h
theorem idx_eq {a b : IntKind} (h : Nat.beq (idx a) (idx b) = true) : a = b := by
  have := Nat.eq_of_beq_eq_true h
  cases a <;> cases b <;> first | rfl | (simp [idx] at this)
theorem bits_eq (k : IntKind) : bitsK k = k.bits := by cases k <;> rfl
theorem lim_bits (k : IntKind) : ∃ m, lim k = 2 ^ m ∧ m ≤ k.bits := by
  cases k
  · exact ⟨7, rfl, by decide⟩
  · exact ⟨15, rfl, by decide⟩
  · exact ⟨31, rfl, by decide⟩
  · exact ⟨63, rfl, by decide⟩
  · exact ⟨8, rfl, by decide⟩
  · exact ⟨16, rfl, by decide⟩
  · exact ⟨32, rfl, by decide⟩
  · exact ⟨64, rfl, by decide⟩
theorem ofInt_small (n a : Nat) (h : a < 2 ^ n) : (BitVec.ofInt n (Int.ofNat a)).toNat = a := by
  have e : Int.ofNat a = (a : Int) := rfl
  rw [e, BitVec.ofInt_natCast, BitVec.toNat_ofNat, Nat.mod_eq_of_lt h]
theorem lim_le (k : IntKind) {a : Nat} (h : a < lim k) : a < 2 ^ k.bits := by
  obtain ⟨m, h1, h2⟩ := lim_bits k
  rw [h1] at h
  exact Nat.lt_of_lt_of_le h (Nat.pow_le_pow_right (by decide) h2)
theorem land_ok {kd : IntKind} {a b : Nat} (ha : a < lim kd) (hb : b < lim kd) : bitsA .and kd (Int.ofNat a) (Int.ofNat b) = some (.int kd (Int.ofNat (Nat.land a b))) := by
  simp only [bitsA]
  rw [BitVec.toNat_and, ofInt_small _ _ (lim_le kd ha), ofInt_small _ _ (lim_le kd hb)]
  have : a &&& b < lim kd := Nat.lt_of_le_of_lt Nat.and_le_left ha
  have h2 := wrap_small kd this
  have e : Int.ofNat (a &&& b) = ((a &&& b : Nat) : Int) := rfl
  rw [e] at h2
  rw [h2]
  rfl
theorem lor_ok {kd : IntKind} {a b : Nat} (ha : a < lim kd) (hb : b < lim kd) : bitsA .or kd (Int.ofNat a) (Int.ofNat b) = some (.int kd (Int.ofNat (Nat.lor a b))) := by
  simp only [bitsA]
  rw [BitVec.toNat_or, ofInt_small _ _ (lim_le kd ha), ofInt_small _ _ (lim_le kd hb)]
  obtain ⟨m, h1, _⟩ := lim_bits kd
  have : a ||| b < lim kd := by rw [h1] at ha hb ⊢; exact Nat.or_lt_two_pow ha hb
  have h2 := wrap_small kd this
  have e : Int.ofNat (a ||| b) = ((a ||| b : Nat) : Int) := rfl
  rw [e] at h2
  rw [h2]
  rfl
theorem lxor_ok {kd : IntKind} {a b : Nat} (ha : a < lim kd) (hb : b < lim kd) : bitsA .xor kd (Int.ofNat a) (Int.ofNat b) = some (.int kd (Int.ofNat (Nat.xor a b))) := by
  simp only [bitsA]
  rw [BitVec.toNat_xor, ofInt_small _ _ (lim_le kd ha), ofInt_small _ _ (lim_le kd hb)]
  obtain ⟨m, h1, _⟩ := lim_bits kd
  have : a ^^^ b < lim kd := by rw [h1] at ha hb ⊢; exact Nat.xor_lt_two_pow ha hb
  have h2 := wrap_small kd this
  have e : Int.ofNat (a ^^^ b) = ((a ^^^ b : Nat) : Int) := rfl
  rw [e] at h2
  rw [h2]
  rfl
theorem landK_spec {op : Nat → Nat → Nat} {kd : IntKind} {x y : Int} {k : Value → Bool} {f : Bool} (h : landK op kd x y k f = true) :
    (∃ a b, x = Int.ofNat a ∧ y = Int.ofNat b ∧ a < lim kd ∧ b < lim kd ∧ k (.int kd (Int.ofNat (op a b))) = true) ∨ f = true := by
  replace h := nat2_spec h; rcases h with ⟨a, b, rfl, rfl, h⟩ | h
  · cases ha : Nat.blt a (lim kd) with
    | false => rw [ha] at h; exact .inr h
    | true =>
      rw [ha] at h
      cases hb : Nat.blt b (lim kd) with
      | false => rw [hb] at h; exact .inr h
      | true =>
        rw [hb] at h
        simp only at h
        rw [natK_eq] at h
        exact .inl ⟨a, b, rfl, rfl, Nat.le_of_ble_eq_true ha, Nat.le_of_ble_eq_true hb, h⟩
  · exact .inr h

/-- What an operation on two ints comes to. -/
theorem iopK_spec {op : BinOp} {d : TypeDesc} {ka kb : IntKind} {x y : Int} {k : Value → Bool} {f : Bool} (hk : isShift op = true ∨ ka = kb) (h : iopK op ka x y k f = true) :
    (∃ v, binA op d (.int ka x) (.int kb y) = some v ∧ k v = true) ∨ f = true := by
  have same : ∀ {op : BinOp}, op ≠ .shl → op ≠ .shr → ka = kb → binA op d (.int ka x) (.int kb y) = intA op ka x y := by
    intro op h1 h2 e
    subst e
    cases op <;> simp_all [binA]
  cases op with
  | add =>
    have e := hk.resolve_left (by decide)
    replace h := nat2_spec h; rcases h with ⟨a, b, rfl, rfl, h⟩ | h
    · rw [wrapN_eq] at h
      exact .inl ⟨_, by rw [same (by decide) (by decide) e]; rfl, h⟩
    · exact .inr h
  | sub =>
    have e := hk.resolve_left (by decide)
    replace h := nat2_spec h; rcases h with ⟨a, b, rfl, rfl, h⟩ | h
    · cases hb : Nat.ble b a with
      | false => rw [hb] at h; exact .inr h
      | true =>
        rw [hb] at h
        simp only at h
        rw [wrapN_eq] at h
        have hle := Nat.le_of_ble_eq_true hb
        refine .inl ⟨_, by rw [same (by decide) (by decide) e]; rfl, ?_⟩
        have : Int.ofNat a - Int.ofNat b = Int.ofNat (Nat.sub a b) := by
          show ((a : Int) - (b : Int)) = ((a - b : Nat) : Int)
          omega
        rw [this]
        exact h
    · exact .inr h
  | mul =>
    have e := hk.resolve_left (by decide)
    replace h := nat2_spec h; rcases h with ⟨a, b, rfl, rfl, h⟩ | h
    · rw [wrapN_eq] at h
      exact .inl ⟨_, by rw [same (by decide) (by decide) e]; rfl, h⟩
    · exact .inr h
  | quo => exact .inr h
  | rem =>
    have e := hk.resolve_left (by decide)
    replace h := nat2_spec h; rcases h with ⟨a, b, rfl, rfl, h⟩ | h
    · cases hb : Nat.beq b 0 with
      | true => rw [hb] at h; exact .inr h
      | false =>
        rw [hb] at h
        simp only at h
        rw [natK_eq] at h
        have hb0 := Nat.ne_of_beq_eq_false hb
        refine .inl ⟨.int ka (Int.ofNat (Nat.mod a b)), ?_, h⟩
        rw [same (by decide) (by decide) e]
        simp only [intA]
        rw [if_neg (by intro hh; exact hb0 (by exact Int.ofNat.inj hh))]
        rfl
    · exact .inr h
  | and =>
    have e := hk.resolve_left (by decide)
    replace h := landK_spec h; rcases h with ⟨a, b, rfl, rfl, ha, hb, h⟩ | h
    · exact .inl ⟨_, by rw [same (by decide) (by decide) e]; exact land_ok ha hb, h⟩
    · exact .inr h
  | or =>
    have e := hk.resolve_left (by decide)
    replace h := landK_spec h; rcases h with ⟨a, b, rfl, rfl, ha, hb, h⟩ | h
    · exact .inl ⟨_, by rw [same (by decide) (by decide) e]; exact lor_ok ha hb, h⟩
    · exact .inr h
  | xor =>
    have e := hk.resolve_left (by decide)
    replace h := landK_spec h; rcases h with ⟨a, b, rfl, rfl, ha, hb, h⟩ | h
    · exact .inl ⟨_, by rw [same (by decide) (by decide) e]; exact lxor_ok ha hb, h⟩
    · exact .inr h
  | shl =>
    replace h := nat2_spec h; rcases h with ⟨a, b, rfl, rfl, h⟩ | h
    · cases hb : Nat.ble b (bitsK ka) with
      | false => rw [hb] at h; exact .inr h
      | true =>
        rw [hb] at h
        simp only at h
        rw [wrapN_eq] at h
        have hle := Nat.le_of_ble_eq_true hb
        rw [bits_eq] at hle
        refine .inl ⟨_, ?_, h⟩
        simp only [binA, shiftA]
        rw [if_neg (by show ¬ ((b : Int) < 0); omega)]
        have hm : Nat.min (Int.ofNat b).toNat ka.bits = b := Nat.min_eq_left hle
        have hm' : min (Int.ofNat b).toNat ka.bits = b := hm
        simp only [hm', if_true]
        congr 2
        all_goals (first | rfl | (congr 1; show (a : Int) * 2 ^ b = ((a * 2 ^ b : Nat) : Int); simp))
    · exact .inr h
  | shr =>
    replace h := nat2_spec h; rcases h with ⟨a, b, rfl, rfl, h⟩ | h
    · cases hb : Nat.ble b (bitsK ka) with
      | false => rw [hb] at h; exact .inr h
      | true =>
        rw [hb] at h
        simp only at h
        rw [natK_eq] at h
        have hle := Nat.le_of_ble_eq_true hb
        rw [bits_eq] at hle
        refine .inl ⟨_, ?_, h⟩
        simp only [binA, shiftA]
        rw [if_neg (by show ¬ ((b : Int) < 0); omega)]
        have hm' : min (Int.ofNat b).toNat ka.bits = b := Nat.min_eq_left hle
        simp only [hm', Bool.false_eq_true, if_false]
        congr 2
        show (a : Int).fdiv (2 ^ b) = ((a / 2 ^ b : Nat) : Int)
        have : ((2 : Int) ^ b) = ((2 ^ b : Nat) : Int) := by simp
        rw [this, Int.fdiv_eq_ediv_of_nonneg _ (Int.natCast_nonneg _)]; rfl
    · exact .inr h
  | andNot => exact .inr h
  | eql =>
    have e := hk.resolve_left (by decide)
    replace h := nat2_spec h; rcases h with ⟨a, b, rfl, rfl, h⟩ | h
    · refine .inl ⟨.bool (Nat.beq a b), ?_, h⟩
      rw [same (by decide) (by decide) e]
      simp only [intA, cmpA, Option.some.injEq, Value.bool.injEq]
      rw [Bool.eq_iff_iff, Nat.beq_eq]; simp <;> omega
    · exact .inr h
  | neq =>
    have e := hk.resolve_left (by decide)
    replace h := nat2_spec h; rcases h with ⟨a, b, rfl, rfl, h⟩ | h
    · refine .inl ⟨.bool (not (Nat.beq a b)), ?_, h⟩
      rw [same (by decide) (by decide) e]
      simp only [intA, cmpA, Option.some.injEq, Value.bool.injEq]
      have hb : Nat.beq a b = (Int.ofNat a == Int.ofNat b) := by rw [Bool.eq_iff_iff, Nat.beq_eq]; simp <;> omega
      rw [hb]; rfl
    · exact .inr h
  | lss =>
    have e := hk.resolve_left (by decide)
    replace h := nat2_spec h; rcases h with ⟨a, b, rfl, rfl, h⟩ | h
    · refine .inl ⟨.bool (Nat.blt a b), ?_, h⟩
      rw [same (by decide) (by decide) e]
      simp only [intA, cmpA, Option.some.injEq, Value.bool.injEq]
      show decide ((a : Int) < (b : Int)) = Nat.ble (a + 1) b
      rw [Bool.eq_iff_iff, Nat.ble_eq]; simp; omega
    · exact .inr h
  | leq =>
    have e := hk.resolve_left (by decide)
    replace h := nat2_spec h; rcases h with ⟨a, b, rfl, rfl, h⟩ | h
    · refine .inl ⟨.bool (Nat.ble a b), ?_, h⟩
      rw [same (by decide) (by decide) e]
      simp only [intA, cmpA, Option.some.injEq, Value.bool.injEq]
      show decide ((a : Int) ≤ (b : Int)) = Nat.ble a b
      rw [Bool.eq_iff_iff, Nat.ble_eq]; simp
    · exact .inr h
  | gtr =>
    have e := hk.resolve_left (by decide)
    replace h := nat2_spec h; rcases h with ⟨a, b, rfl, rfl, h⟩ | h
    · refine .inl ⟨.bool (Nat.blt b a), ?_, h⟩
      rw [same (by decide) (by decide) e]
      simp only [intA, cmpA, Option.some.injEq, Value.bool.injEq]
      show decide ((b : Int) < (a : Int)) = Nat.ble (b + 1) a
      rw [Bool.eq_iff_iff, Nat.ble_eq]; simp; omega
    · exact .inr h
  | geq =>
    have e := hk.resolve_left (by decide)
    replace h := nat2_spec h; rcases h with ⟨a, b, rfl, rfl, h⟩ | h
    · refine .inl ⟨.bool (Nat.ble b a), ?_, h⟩
      rw [same (by decide) (by decide) e]
      simp only [intA, cmpA, Option.some.injEq, Value.bool.injEq]
      show decide ((b : Int) ≤ (a : Int)) = Nat.ble b a
      rw [Bool.eq_iff_iff, Nat.ble_eq]; simp
    · exact .inr h

theorem intOr_spec {v : Value} {k : IntKind → Int → Bool} {f : Bool} (h : intOr v k f = true) : (∃ kd n, v = .int kd n ∧ k kd n = true) ∨ f = true := by
  cases v <;> first | exact .inl ⟨_, _, rfl, h⟩ | exact .inr h
theorem binK_spec {op : BinOp} {d : TypeDesc} {a b : Value} {k : Value → Bool} (h : binK op d a b k = true) : ∃ v, binA op d a b = some v ∧ k v = true := by
  replace h := intOr_spec h; rcases h with ⟨ka, x, rfl, h⟩ | h
  · replace h := intOr_spec h; rcases h with ⟨kb, y, rfl, h⟩ | h
    · cases hb : (or (isShift op) (Nat.beq (idx ka) (idx kb))) with
      | false => rw [hb] at h; exact optA_spec h
      | true =>
        rw [hb] at h
        simp only at h
        have hk : isShift op = true ∨ ka = kb := by
          cases hs : isShift op with
          | true => exact .inl rfl
          | false => rw [hs] at hb; exact .inr (idx_eq hb)
        rcases iopK_spec (d := d) hk h with h | h
        · exact h
        · exact optA_spec h
    · exact optA_spec h
  · exact optA_spec h
end Go.Ab
