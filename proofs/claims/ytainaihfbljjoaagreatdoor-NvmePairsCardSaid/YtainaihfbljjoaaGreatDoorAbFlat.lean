/- Tables of numbers, bools and strings, however nested: what they read as, cell for cell. -/
import Derived.OpenShut
import Derived.ChangeArms
set_option linter.all false
set_option linter.unusedSectionVars false
set_option linter.unusedVariables false
set_option linter.unusedSimpArgs false
namespace Go.Ab
open Go
section
variable {P : Program}

def litV : Lit → Option Value
  | .int k z => some (.int k z)
  | .bool b => some (.bool b)
  | .string l => some (.string ⟨⟨l⟩⟩)
  | _ => none
def flatV {HH : Type} : Nat → DataW HH → Option (List Value)
  | _ + 1, .lit l => (litV l).map fun v => [v]
  | n + 1, .agg ps => (ps.mapM (flatV n)).map List.flatten
  | _, _ => none
def fieldsLay (P : Program) (ok : TypeId → Bool) : Nat → List Field → Option Nat
  | o, [] => some o
  | o, f :: fs => bif Nat.beq f.offset o && ok f.type then fieldsLay P ok (o + P.cellsOf f.type) fs else none
def okLay (P : Program) : Nat → TypeId → Bool
  | 0, _ => false
  | n + 1, t => match P.underlying t with
    | some .bool | some (.int _) | some .string => Nat.beq (P.cellsOf t) 1
    | some (.array k e) => okLay P n e && Nat.beq (P.cellsOf t) (k * P.cellsOf e)
    | some (.struct fs) => match fieldsLay P (okLay P n) 0 fs.toList with
      | some o => Nat.beq (P.cellsOf t) o
      | none => false
    | _ => false

variable {HH : Type} {enc : TypeId × Value → HH} {w : World} {base : Nat} {sp : Nat → Bool} {held : Bool}

theorem chunks_eq {s : Nat} {vss : List (List Value)} : ∀ {cs : List Value}, cs.length = vss.length * s → (∀ (i : Nat) v, vss[i]? = some v → (cs.drop (i * s)).take s = v) → cs = vss.flatten := by
  induction vss with
  | nil => intro cs h _; exact List.eq_nil_of_length_eq_zero (by simpa using h)
  | cons v vss ih =>
    intro cs h hg
    have h0 := hg 0 v rfl
    simp only [Nat.zero_mul, List.drop_zero] at h0
    have h1 := ih (cs := cs.drop s) (by simp only [List.length_drop, h, List.length_cons, Nat.succ_mul]; omega) (fun i u hu => by
      have := hg (i + 1) u (by simpa using hu)
      rw [Nat.succ_mul, Nat.add_comm] at this
      rw [List.drop_drop]; exact this)
    rw [List.flatten_cons, ← h0, ← h1, List.take_append_drop]

theorem mapM_parts {α β : Type} {f : α → Option β} : ∀ {l : List α} {r : List β}, l.mapM f = some r → r.length = l.length ∧ ∀ (i : Nat) a, l[i]? = some a → ∃ b, r[i]? = some b ∧ f a = some b := by
  intro l
  induction l with
  | nil => intro r h; simp at h; subst h; exact ⟨rfl, fun i a h => by simp at h⟩
  | cons x l ih =>
    intro r h
    rw [List.mapM_cons] at h
    simp only [Option.bind_eq_bind, Option.bind_eq_some_iff, Option.pure_def, Option.some.injEq] at h
    obtain ⟨b, hb, r', hr', rfl⟩ := h
    obtain ⟨h1, h2⟩ := ih hr'
    refine ⟨by simp [h1], fun i a ha => ?_⟩
    cases i with
    | zero => simp at ha; subst ha; exact ⟨b, rfl, hb⟩
    | succ i => exact h2 i a (by simpa using ha)

theorem fields_eq {ok : TypeId → Bool} {fuel k : Nat} {cs : List Value} (hok : ∀ t, ok t = true → ∀ (cs : List Value) (d : DataW HH) p vs, DataW.trod enc P w base sp held fuel t cs = some (d, p) → flatV k d = some vs → cs = vs ∧ cs.length = P.cellsOf t) :
    ∀ (fs : List Field) (o : Nat) (z : Nat) (xs : List (DataW HH × List MemPlace)) (vss : List (List Value)), fieldsLay P ok o fs = some z → cs.length = z → fs.mapM (fun f => DataW.trod enc P w base sp held fuel f.type ((cs.drop f.offset).take (P.cellsOf f.type))) = some xs → (xs.map (·.1)).mapM (flatV k) = some vss → cs.drop o = vss.flatten ∧ o ≤ z := by
  intro fs
  induction fs with
  | nil =>
    intro o z xs vss h1 h2 h3 h4
    simp only [fieldsLay, Option.some.injEq] at h1
    simp at h3
    subst h3
    simp at h4
    subst h4
    exact ⟨List.drop_eq_nil_of_le (by omega), by omega⟩
  | cons f fs ih =>
    intro o z xs vss h1 h2 h3 h4
    simp only [fieldsLay] at h1
    cases hb : (Nat.beq f.offset o && ok f.type) with
    | false => rw [hb] at h1; cases h1
    | true =>
      rw [hb] at h1
      simp only [cond_true] at h1
      rw [Bool.and_eq_true] at hb
      have ho := Nat.eq_of_beq_eq_true hb.1
      rw [List.mapM_cons] at h3
      simp only [Option.bind_eq_bind, Option.bind_eq_some_iff, Option.pure_def, Option.some.injEq] at h3
      obtain ⟨⟨d, p⟩, hx, xs', hxs, rfl⟩ := h3
      simp only [List.map_cons, List.mapM_cons, Option.bind_eq_bind, Option.bind_eq_some_iff, Option.pure_def, Option.some.injEq] at h4
      obtain ⟨v, hv, vss', hvs, rfl⟩ := h4
      obtain ⟨e1, e2⟩ := hok _ hb.2 _ _ _ _ hx hv
      obtain ⟨e3, e4⟩ := ih _ _ _ _ h1 h2 hxs hvs
      rw [ho] at e1
      refine ⟨?_, by omega⟩
      rw [List.flatten_cons, ← e1, ← e3, ← List.drop_drop, List.take_append_drop]

/-- A table that reads as flat data has the data's cells. -/
theorem lay_cells : ∀ (n : Nat) (t : TypeId), okLay P n t = true → ∀ (fuel k : Nat) (cs : List Value) (d : DataW HH) p vs, DataW.trod enc P w base sp held fuel t cs = some (d, p) → flatV k d = some vs → cs = vs ∧ cs.length = P.cellsOf t := by
  intro n
  induction n with
  | zero => intro t h; cases h
  | succ n ih =>
    intro t h fuel k cs d p vs htr hv
    cases k with
    | zero => cases d <;> cases hv
    | succ k =>
      simp only [okLay] at h
      split at h
      · rename_i hu
        obtain ⟨b, rfl, hx⟩ := DataW.trod_bool hu htr
        cases hx
        simp only [flatV, litV, Option.map_some, Option.some.injEq] at hv
        exact ⟨hv, (Nat.eq_of_beq_eq_true h).symm⟩
      · rename_i kk hu
        obtain ⟨b, rfl, hx, _⟩ := DataW.trod_int hu htr
        cases hx
        simp only [flatV, litV, Option.map_some, Option.some.injEq] at hv
        exact ⟨hv, (Nat.eq_of_beq_eq_true h).symm⟩
      · rename_i hu
        obtain ⟨b, rfl, hx, _⟩ := DataW.trod_string hu htr
        cases hx
        simp only [flatV, litV, Option.map_some, Option.some.injEq] at hv
        exact ⟨hv, (Nat.eq_of_beq_eq_true h).symm⟩
      · rename_i c e hu
        rw [Bool.and_eq_true] at h
        have hc := Nat.eq_of_beq_eq_true h.2
        obtain ⟨xs, m, rfl, hx, hlen, hxl, hget⟩ := DataW.trod_array hu htr
        cases hx
        simp only [flatV, Option.map_eq_some_iff] at hv
        obtain ⟨vss, hvs, rfl⟩ := hv
        obtain ⟨q1, q2⟩ := mapM_parts hvs
        refine ⟨chunks_eq (s := P.cellsOf e) (by rw [hlen, hc, q1]; simp [hxl]) fun i v hi => ?_, hlen⟩
        have hlt : i < c := by have := (List.getElem?_eq_some_iff.1 hi).1; rw [q1] at this; simpa [hxl] using this
        have hg := hget i hlt
        have hxi : xs[i]? = some (xs[i]'(by omega)) := List.getElem?_eq_getElem _
        rw [hxi] at hg
        obtain ⟨b, hb1, hb2⟩ := q2 i (xs[i]'(by omega)).1 (by simp [hxi])
        rw [hi] at hb1
        cases hb1
        exact (ih e h.1 _ _ _ _ _ _ hg hb2).1
      · rename_i fs hu
        split at h
        · rename_i o hl
          have hc := Nat.eq_of_beq_eq_true h
          cases fuel with
          | zero => simp [DataW.trod] at htr
          | succ fuel =>
            simp only [DataW.trod, hu] at htr
            split at htr
            · rename_i hlen
              rw [Option.map_eq_some_iff] at htr
              obtain ⟨xs, hxs, hx⟩ := htr
              simp only [Prod.mk.injEq] at hx
              obtain ⟨rfl, _⟩ := hx
              simp only [flatV, Option.map_eq_some_iff] at hv
              obtain ⟨vss, hvs, rfl⟩ := hv
              have := fields_eq (P := P) (enc := enc) (w := w) (base := base) (sp := sp) (held := held) (fun t ht cs d p vs a b => ih t ht fuel k cs d p vs a b) fs.toList 0 o xs vss hl (by omega) hxs hvs
              exact ⟨by simpa using this.1, hlen⟩
            · cases htr
        · cases h
      · cases h
end
end Go.Ab
