/- Orders: bits and lists. -/
import Derived.Test.YtainaihfbljjoaaGreatDoorAbEarly
set_option linter.all false
set_option linter.unusedSectionVars false
set_option linter.unusedVariables false
set_option linter.unusedSimpArgs false
namespace Go.Ab
open Go Go.RowKit
variable [Unk]

theorem pow_bit (i j : Nat) : Nat.testBit (Nat.pow 2 i) j = decide (i = j) := by
  show (2 ^ i).testBit j = decide (i = j)
  exact Nat.testBit_two_pow
theorem lor_bit (a b j : Nat) : Nat.testBit (Nat.lor a b) j = (Nat.testBit a j || Nat.testBit b j) := Nat.testBit_or a b j
theorem land_eq {a b : Nat} (h : Nat.beq (Nat.land a b) a = true) (j : Nat) (hj : Nat.testBit a j = true) : Nat.testBit b j = true := by
  have := Nat.eq_of_beq_eq_true h
  have h2 : Nat.testBit (Nat.land a b) j = (Nat.testBit a j && Nat.testBit b j) := Nat.testBit_and a b j
  rw [this, hj] at h2
  simpa using h2.symm
theorem land_eq_of {a b : Nat} (h : ∀ j, Nat.testBit a j = true → Nat.testBit b j = true) : Nat.beq (Nat.land a b) a = true := by
  have : Nat.land a b = a := by
    apply Nat.eq_of_testBit_eq
    intro j
    have h2 : Nat.testBit (Nat.land a b) j = (Nat.testBit a j && Nat.testBit b j) := Nat.testBit_and a b j
    rw [h2]
    cases hj : Nat.testBit a j with
    | false => rfl
    | true => rw [h j hj]; rfl
  rw [this]
  exact Nat.beq_refl a

theorem edge_fold (l : List Edge) : ∀ (s j : Nat), Nat.testBit (l.foldl (fun s (e : Edge) => bif Region.binds .any e then Nat.lor s (Nat.pow 2 e.on) else s) s) j = true ↔ Nat.testBit s j = true ∨ ∃ e ∈ l, Region.binds .any e = true ∧ e.on = j := by
  induction l with
  | nil => intro s j; simp
  | cons e l ih =>
    intro s j
    simp only [List.foldl_cons]
    rw [ih]
    cases hb : Region.binds .any e with
    | true =>
      simp only [cond_true, lor_bit, pow_bit, Bool.or_eq_true, decide_eq_true_eq]
      constructor
      · rintro ((h | h) | ⟨e', h1, h2⟩)
        · exact .inl h
        · exact .inr ⟨e, by simp, hb, h⟩
        · exact .inr ⟨e', by simp [h1], h2⟩
      · rintro (h | ⟨e', h1, h2, h3⟩)
        · exact .inl (.inl h)
        · rcases List.mem_cons.1 h1 with rfl | h1
          · exact .inl (.inr h3)
          · exact .inr ⟨e', h1, h2, h3⟩
    | false =>
      simp only [cond_false]
      constructor
      · rintro (h | ⟨e', h1, h2⟩)
        · exact .inl h
        · exact .inr ⟨e', by simp [h1], h2⟩
      · rintro (h | ⟨e', h1, h2, h3⟩)
        · exact .inl h
        · rcases List.mem_cons.1 h1 with rfl | h1
          · rw [hb] at h2; cases h2
          · exact .inr ⟨e', h1, h2, h3⟩
theorem edge_bit (o : Oper) (j : Nat) : Nat.testBit (edgeBits o) j = true ↔ ∃ e ∈ o.after.toList, Region.binds .any e = true ∧ e.on = j := by
  unfold edgeBits
  rw [edge_fold]
  simp
theorem ahead_fold (acc : List Nat) (l : List Edge) : ∀ (s j : Nat), Nat.testBit (l.foldl (fun s (e : Edge) => bif Region.binds .any e then Nat.lor (Nat.lor s (Nat.pow 2 e.on)) (acc.getD e.on 0) else s) s) j = true →
    Nat.testBit s j = true ∨ ∃ e ∈ l, Region.binds .any e = true ∧ (e.on = j ∨ Nat.testBit (acc.getD e.on 0) j = true) := by
  induction l with
  | nil => intro s j h; exact .inl h
  | cons e l ih =>
    intro s j h
    simp only [List.foldl_cons] at h
    rcases ih _ j h with h | ⟨e', h1, h2⟩
    · cases hb : Region.binds .any e with
      | true =>
        rw [hb] at h
        simp only [cond_true, lor_bit, pow_bit, Bool.or_eq_true, decide_eq_true_eq] at h
        rcases h with (h | h) | h
        · exact .inl h
        · exact .inr ⟨e, by simp, hb, .inl h⟩
        · exact .inr ⟨e, by simp, hb, .inr h⟩
      | false => rw [hb] at h; exact .inl h
    · exact .inr ⟨e', by simp [h1], h2⟩
theorem aheads_length (os : List Oper) : ∀ acc, (aheads acc os).length = acc.length + os.length := by
  induction os with
  | nil => intro acc; rfl
  | cons o os ih => intro acc; simp only [aheads, ih, List.length_append, List.length_cons, List.length_nil]; omega
theorem aheads_old (os : List Oper) : ∀ (acc : List Nat) (k : Nat), k < acc.length → (aheads acc os).getD k 0 = acc.getD k 0 := by
  induction os with
  | nil => intro acc k _; rfl
  | cons o os ih =>
    intro acc k hk
    simp only [aheads]
    rw [ih _ k (by simp; omega)]
    simp [List.getD, List.getElem?_append_left hk]
theorem aheads_get (os : List Oper) : ∀ (acc : List Nat) (k : Nat) (o : Oper), os[k]? = some o → ∃ acc', acc'.length = acc.length + k ∧ (∀ m, m < acc'.length → acc'.getD m 0 = (aheads acc os).getD m 0) ∧ (aheads acc os).getD (acc.length + k) 0 = aheadBits acc' o := by
  induction os with
  | nil => intro acc k o h; simp at h
  | cons o os ih =>
    intro acc k o' h
    cases k with
    | zero =>
      simp at h
      subst h
      refine ⟨acc, by simp, fun m hm => ?_, ?_⟩
      · simp only [aheads]
        rw [aheads_old _ _ _ (by simp; omega)]
        simp [List.getD, List.getElem?_append_left hm]
      · simp only [aheads, Nat.add_zero]
        rw [aheads_old _ _ _ (by simp)]
        simp [List.getD]
    | succ k =>
      simp at h
      obtain ⟨acc', h1, h2, h3⟩ := ih (acc ++ [aheadBits acc o]) k o' h
      refine ⟨acc', by simp at h1; omega, fun m hm => ?_, ?_⟩
      · simp only [aheads]; exact h2 m hm
      · simp only [aheads]
        rw [← h3]
        congr 1
        simp; omega

/-- What must come ahead of j comes of what is named there. -/
theorem ahead_step {l : List Oper} {j i : Nat} {o : Oper} (ho : l[j]? = some o) (h : Nat.testBit ((aheads [] l).getD j 0) i = true) : ∃ e ∈ o.after.toList, Region.binds .any e = true ∧ (e.on = i ∨ (e.on < j ∧ Nat.testBit ((aheads [] l).getD e.on 0) i = true)) := by
  obtain ⟨acc', h1, h2, h3⟩ := aheads_get l [] j o ho
  simp at h1 h3
  have h3' : (aheads [] l).getD j 0 = aheadBits acc' o := by simpa using h3
  rw [h3'] at h
  unfold aheadBits at h
  rcases ahead_fold acc' _ 0 i h with h | ⟨e, he, hb, hi⟩
  · simp at h
  · refine ⟨e, he, hb, ?_⟩
    rcases hi with hi | hi
    · exact .inl hi
    · by_cases hlt : e.on < acc'.length
      · exact .inr ⟨by omega, by rw [← h2 _ hlt]; exact hi⟩
      · simp [List.getD, List.getElem?_eq_none (Nat.le_of_not_lt hlt)] at hi
/-- A set that holds with each what is named there holds all that must come ahead. -/
theorem ahead_closed {l : List Oper} {S : Nat → Prop} (hS : ∀ j o, l[j]? = some o → S j → ∀ e ∈ o.after.toList, Region.binds .any e = true → S e.on) : ∀ (j i : Nat) (o : Oper), l[j]? = some o → (∀ e ∈ o.after.toList, Region.binds .any e = true → S e.on) →
    Nat.testBit ((aheads [] l).getD j 0) i = true → S i := by
  intro j
  induction j using Nat.strongRecOn with
  | _ j ih =>
    intro i o ho hd h
    obtain ⟨e, he, hb, hi⟩ := ahead_step ho h
    rcases hi with rfl | ⟨hlt, hi⟩
    · exact hd e he hb
    · have hlj : j < l.length := (List.getElem?_eq_some_iff.1 ho).1
      have hle : e.on < l.length := by omega
      exact ih e.on hlt i l[e.on] (List.getElem?_eq_getElem hle) (hS e.on _ (List.getElem?_eq_getElem hle) (hd e he hb)) hi
theorem ready_mem {es : List Nat} {n done i : Nat} : i ∈ readyA es n done ↔ i < n ∧ Nat.testBit done i = false ∧ ∀ j, Nat.testBit (es.getD i 0) j = true → Nat.testBit done j = true := by
  unfold readyA
  rw [List.mem_filter]
  constructor
  · rintro ⟨h1, h2⟩
    rw [Bool.and_eq_true] at h2
    exact ⟨List.mem_range.1 h1, by simpa using h2.1, fun j hj => land_eq h2.2 j hj⟩
  · rintro ⟨h1, h2, h3⟩
    refine ⟨List.mem_range.2 h1, ?_⟩
    rw [Bool.and_eq_true]
    exact ⟨by simp [h2], land_eq_of h3⟩
theorem countP_lt {p q : Nat → Bool} : ∀ (l : List Nat) (i : Nat), i ∈ l → (∀ j, q j = true → p j = true) → p i = true → q i = false → l.countP q < l.countP p := by
  intro l
  induction l with
  | nil => intro i h; cases h
  | cons x l ih =>
    intro i h hpq hp hq
    rw [List.countP_cons, List.countP_cons]
    have hle : l.countP q ≤ l.countP p := List.countP_mono_left fun j _ hj => hpq j hj
    rcases List.mem_cons.1 h with rfl | h
    · simp [hp, hq]; omega
    · have := ih i h hpq hp hq
      by_cases hx : q x = true
      · simp [hx, hpq x hx]; omega
      · simp [hx]; split <;> omega
end Go.Ab
