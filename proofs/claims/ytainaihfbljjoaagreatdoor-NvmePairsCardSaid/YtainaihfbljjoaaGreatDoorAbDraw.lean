/- Regions that draw their order: the interpreter's one order stands for all. -/
import Derived.Test.YtainaihfbljjoaaGreatDoorAbBits
set_option linter.all false
set_option linter.unusedSectionVars false
set_option linter.unusedVariables false
set_option linter.unusedSimpArgs false
namespace Go.Ab
open Go Go.RowKit
variable [Unk]
section
variable {P : Program}

def inX (done i : Nat) : Prop := Nat.testBit done i = true
def inL (listed : Array Bool) (i : Nat) : Prop := listed.getD i false = true
def xsOf (P : Program) (nt : Nat) (ops : Array Oper) : List XOper := ops.toList.map (compOper P nt ops)
def dstAt (ops : Array Oper) (i : Nat) : Option Tmp := (ops.toList.map (·.dst)).getD i none
def slotsAt (ops : Array Oper) (i : Nat) : List Tmp := (ops.toList.map (slotsA ops)).getD i []
def ahead (ops : Array Oper) (i j : Nat) : Prop := Nat.testBit ((aheads [] ops.toList).getD j 0) i = true

/-- What the checks of a region give. -/
structure Static (P : Program) (nt : Nat) (ops : Array Oper) : Prop where
  pairs : ∀ i j d, i < ops.size → j < ops.size → i ≠ j → dstAt ops i = some d → dstAt ops j ≠ some d ∧ (d ∈ slotsAt ops j → ahead ops i j ∨ ahead ops j i)
  lk : ∀ e k d, e < ops.size → k < ops.size → looks (opAt (xsOf P nt ops) e).op = true → dstAt ops k = some d → d ∈ slotsAt ops e → ahead ops k e

theorem static_of {nt : Nat} {ops : Array Oper} (h1 : okPairs (ops.toList.map (·.dst)) (ops.toList.map (slotsA ops)) (aheads [] ops.toList) ops.toList.length = true)
    (h2 : okLooks (xsOf P nt ops) (ops.toList.map (·.dst)) (ops.toList.map (slotsA ops)) (aheads [] ops.toList) ops.toList.length = true) : Static P nt ops := by
  refine ⟨fun i j d hi hj hij hd => ?_, fun e k d he hk hl hd hs => ?_⟩
  · unfold okPairs at h1
    rw [List.all_eq_true] at h1
    have h := h1 i (List.mem_range.2 (by simpa using hi))
    have hd' : (ops.toList.map (·.dst)).getD i none = some d := hd
    rw [hd'] at h
    simp only at h
    rw [List.all_eq_true] at h
    have h := h j (List.mem_range.2 (by simpa using hj))
    have hne : Nat.beq i j = false := by
      cases hb : Nat.beq i j with
      | false => rfl
      | true => exact absurd (Nat.eq_of_beq_eq_true hb) hij
    rw [hne] at h
    simp only [Bool.false_or, Bool.and_eq_true, Bool.or_eq_true, Bool.not_eq_true', List.contains_eq_mem, decide_eq_false_iff_not] at h
    obtain ⟨k1, k2⟩ := h
    refine ⟨fun hd2 => ?_, fun hs => ?_⟩
    · have hd2' : (ops.toList.map (·.dst)).getD j none = some d := hd2
      rw [hd2'] at k1
      simp at k1
    · rcases k2 with (k2 | k2) | k2
      · exact absurd hs k2
      · exact .inl k2
      · exact .inr k2
  · unfold okLooks at h2
    rw [List.all_eq_true] at h2
    have h := h2 e (List.mem_range.2 (by simpa using he))
    rw [hl] at h
    simp only [Bool.not_true, Bool.false_or] at h
    rw [List.all_eq_true] at h
    have h := h k (List.mem_range.2 (by simpa using hk))
    have hd' : (ops.toList.map (·.dst)).getD k none = some d := hd
    rw [hd'] at h
    simp only [Bool.or_eq_true, Bool.not_eq_true', List.contains_eq_mem, decide_eq_false_iff_not] at h
    rcases h with h | h
    · exact absurd hs h
    · exact h

theorem opAt_get {nt : Nat} {ops : Array Oper} {i : Nat} {o : Oper} (h : ops.toList[i]? = some o) : opAt (xsOf P nt ops) i = compOper P nt ops o := by simp [opAt, xsOf, List.getD, h]
theorem dst_get {ops : Array Oper} {i : Nat} {o : Oper} (h : ops.toList[i]? = some o) : dstAt ops i = o.dst := by simp [dstAt, List.getD, h]
theorem slots_get {ops : Array Oper} {i : Nat} {o : Oper} (h : ops.toList[i]? = some o) : slotsAt ops i = slotsA ops o := by simp [slotsAt, List.getD, h]
theorem edges_get {ops : Array Oper} {i : Nat} {o : Oper} (h : ops.toList[i]? = some o) (j : Nat) : Nat.testBit ((ops.toList.map edgeBits).getD i 0) j = true ↔ ∃ e ∈ o.after.toList, Region.binds .any e = true ∧ e.on = j := by
  have : (ops.toList.map edgeBits).getD i 0 = edgeBits o := by simp [List.getD, h]
  rw [this]
  exact edge_bit o j

/-- One of the early operations that the interpreter has carried out, and the program has not. -/
structure Pend (P : Program) (nt : Nat) (ops : Array Oper) (A0 : H) (t0 tX : Tm) (AX : H) (σ : Sg) (idOf : Nat → Option Nat) (e : Nat) : Prop where
  out : ∃ te : Tm, (∀ s ∈ slotsAt ops e, (∀ k, dstAt ops k = some s → ahead ops k e → val te (.tmp s) = val tX (.tmp s)) ∧ ((∀ k, dstAt ops k = some s → ¬ ahead ops k e) → val te (.tmp s) = val t0 (.tmp s))) ∧
    (wantedA te (opAt (xsOf P nt ops) e).guard = false → ∀ d, dstAt ops e = some d → val tX (.tmp d) = .tuple #[]) ∧
    (wantedA te (opAt (xsOf P nt ops) e).guard = true → light (opAt (xsOf P nt ops) e).op = true → ∃ v, evalOp (opAt (xsOf P nt ops) e).op (val te) AX = some (v, AX) ∧ ∀ d, dstAt ops e = some d → val tX (.tmp d) = v) ∧
    (wantedA te (opAt (xsOf P nt ops) e).guard = true → make (opAt (xsOf P nt ops) e).op = true → ∃ (mk : Nat → Value) (ob : AObj) (id : Nat), idOf e = some id ∧ (∀ B, evalOp (opAt (xsOf P nt ops) e).op (val te) B = some (mk B.next, B.push ob)) ∧ (∀ d, dstAt ops e = some d → val tX (.tmp d) = mk id) ∧
      AX.get id = some ob ∧ σ id = none ∧ A0.next ≤ id ∧ id < AX.next)
  early : early (opAt (xsOf P nt ops) e).op = true

structure Inv (P : Program) (nt : Nat) (ops : Array Oper) (ds : List Deferred) (σ0 : Sg) (A0 : H) (w0 : World) (t0 : Tm) (done : Nat) (listed : Array Bool) (tX : Tm) (AX : H) (a : Act) (w : World) (σ : Sg) (idOf : Nat → Option Nat) : Prop where
  lsize : listed.size = ops.size
  sub : ∀ i, inL listed i → inX done i
  bound : ∀ i, inX done i → i < ops.size
  clL : ∀ (j : Nat) (o : Oper), ops.toList[j]? = some o → inL listed j → ∀ e ∈ o.after.toList, Region.binds .any e = true → inL listed e.on
  clX : ∀ (j : Nat) (o : Oper), ops.toList[j]? = some o → inX done j → ∀ e ∈ o.after.toList, Region.binds .any e = true → inX done e.on
  size : a.tmps.size = nt
  dfr : a.defers = ds
  rel : Rel P σ AX w
  fr : Fr σ0 A0 w0 σ AX w
  un : ∀ s, (∀ e, inX done e → dstAt ops e ≠ some s) → val tX (.tmp s) = val t0 (.tmp s)
  slotP : ∀ s e, s < nt → inX done e → ¬ inL listed e → dstAt ops e = some s → VRel σ (val t0 (.tmp s)) (a.eval (.tmp s))
  slotN : ∀ s, s < nt → (∀ e, inX done e → ¬ inL listed e → dstAt ops e ≠ some s) → VRel σ (val tX (.tmp s)) (a.eval (.tmp s))
  pend : ∀ e, inX done e → ¬ inL listed e → Pend P nt ops A0 t0 tX AX σ idOf e
  distinct : ∀ e e' i, inX done e → ¬ inL listed e → inX done e' → ¬ inL listed e' → e ≠ e' → idOf e = some i → idOf e' ≠ some i
  idlt : ∀ e i, idOf e = some i → i < AX.next
  made : ∀ e o, inX done e → ops.toList[e]? = some o → Made P nt ops o (compOper P nt ops o)

theorem Rel.push_free {σ : Sg} {A : H} {w : World} (h : Rel P σ A w) (ob : AObj) : Rel P σ (A.push ob) w := by
  have hn := (h.dom A.next (Nat.le_refl _)).2
  refine ⟨h.glob, fun id x q ha hs => ?_, fun i j q r x y hij hx hy hq hr hox => ?_, h.lt, fun id hid => ?_⟩
  · rw [H.get_push] at ha
    by_cases e : id = A.next
    · subst e; rw [hn] at hs; cases hs
    · rw [if_neg e] at ha; exact h.obj id x q ha hs
  · rw [H.get_push] at hx hy
    by_cases e : i = A.next
    · subst e; rw [hn] at hq; cases hq
    · by_cases e' : j = A.next
      · subst e'; rw [hn] at hr; cases hr
      · rw [if_neg e] at hx; rw [if_neg e'] at hy; exact h.inj i j q r x y hij hx hy hq hr hox
  · rw [H.next_push] at hid
    rw [H.get_push, if_neg (by omega)]
    exact h.dom id (by omega)
theorem Fr.push_free {σ : Sg} {A : H} {w : World} (h : Rel P σ A w) (ob : AObj) : Fr σ A w σ (A.push ob) w := by
  have hn := (h.dom A.next (Nat.le_refl _)).2
  refine ⟨Sg.le_refl σ, rfl, rfl, rfl, Nat.le_refl _, fun _ _ _ => rfl, fun b hb => ?_, by rw [H.next_push]; omega, fun id hid hs => ⟨hs, by rw [H.get_push, if_neg (by omega)]⟩⟩
  obtain ⟨id, q, x, hs, hq, hg, hx⟩ := hb
  rw [H.get_push] at hg
  by_cases e : id = A.next
  · subst e; rw [hn] at hs; cases hs
  · rw [if_neg e] at hg; exact .inl ⟨id, q, x, hs, hq, hg, hx⟩
/-- A block that was set aside comes to stand. -/
theorem Rel.place_at {σ : Sg} {A : H} {w w' : World} {id : Nat} {o : AObj} {p : Pl} (h : Rel P σ A w) (ha : A.get id = some o) (hs : σ id = none) (hid : id < A.next) (hw : OneMore w w') (hp : p.b = w.heap.size) (ho : ORel P (σ.add id p) w' p o) : Rel P (σ.add id p) A w' := by
  have hl := Sg.le_add p hs
  refine ⟨fun g hg => ?_, fun i x q hx hq => ?_, fun i j q r x y hij hx hy hq hr hox => ?_, fun i q hq => ?_, fun i hi => ?_⟩
  · obtain ⟨q, h1, h2⟩ := h.glob g hg; exact ⟨q, hl _ _ h1, h2⟩
  · by_cases e : i = id
    · subst e; rw [Sg.add_same] at hq; cases hq; rw [ha] at hx; cases hx; exact ho
    · rw [Sg.add_other p e] at hq; exact (h.obj i x q hx hq).keep hl (hw.old _ (h.lt i q hq))
  · by_cases e : i = id
    · subst e
      have e' : j ≠ i := fun e' => hij e'.symm
      rw [Sg.add_same] at hq; cases hq
      rw [Sg.add_other p e'] at hr
      have := h.lt j r hr
      omega
    · rw [Sg.add_other p e] at hq
      by_cases e' : j = id
      · subst e'; rw [Sg.add_same] at hr; cases hr; have := h.lt i q hq; omega
      · rw [Sg.add_other p e'] at hr; exact h.inj i j q r x y hij hx hy hq hr hox
  · have := hw.size
    by_cases e : i = id
    · subst e; rw [Sg.add_same] at hq; cases hq; omega
    · rw [Sg.add_other p e] at hq; have := h.lt i q hq; omega
  · have := h.dom i hi
    rw [Sg.add_other p (by omega)]
    exact this
theorem Fr.place_at {σ0 σ : Sg} {A0 A : H} {w0 w w' : World} {id : Nat} {p : Pl} (h : Fr σ0 A0 w0 σ A w) (hs : σ id = none) (hid : A0.next ≤ id) (hw : OneMore w w') (hp : p.b = w.heap.size) : Fr σ0 A0 w0 (σ.add id p) A w' := by
  have hl := Sg.le_add p hs
  have hsz := hw.size
  refine ⟨Sg.le_trans h.ext hl, hw.os.trans h.os, hw.tape.trans h.tape, hw.output.trans h.output, by have := h.size; omega, fun b hb hn => (hw.old b (by have := h.size; omega)).trans (h.frame b hb hn), fun b hb => ?_, h.next, fun i hi hs' => ?_⟩
  · obtain ⟨i, q, x, hq, hqb, hg, hx⟩ := hb
    by_cases e : i = id
    · subst e; rw [Sg.add_same] at hq; cases hq; exact .inr (by have := h.size; omega)
    · rw [Sg.add_other p e] at hq; exact h.owned b ⟨i, q, x, hq, hqb, hg, hx⟩
  · obtain ⟨h1, h2⟩ := h.unm i hi hs'
    rw [Sg.add_other p (by omega)]
    exact ⟨h1, h2⟩
theorem inX_add {done i j : Nat} : inX (Nat.lor done (Nat.pow 2 i)) j ↔ inX done j ∨ i = j := by
  unfold inX
  rw [lor_bit, pow_bit]
  simp
theorem inL_set {listed : Array Bool} {i j : Nat} (hi : i < listed.size) : inL (listed.setIfInBounds i true) j ↔ inL listed j ∨ i = j := by
  unfold inL
  by_cases e : i = j
  · subst e; simp [hi]
  · simp [Array.getElem?_setIfInBounds_ne e, e]
theorem setT_other {t : Tm} {d : Option Tmp} {v : Value} {s : Tmp} (h : d ≠ some s) : val (setT t d v) (.tmp s) = val t (.tmp s) := by rw [val_setT, if_neg h]
theorem setT_same {t : Tm} {d : Tmp} {v : Value} : val (setT t (some d) v) (.tmp d) = v := by rw [val_setT, if_pos rfl]

variable {nt : Nat} {ops : Array Oper} {ds : List Deferred} {σ0 σ : Sg} {A0 AX : H} {w0 w : World} {t0 tX : Tm} {done : Nat} {listed : Array Bool} {a : Act} {idOf : Nat → Option Nat}

theorem ahead_inL (hI : Inv P nt ops ds σ0 A0 w0 t0 done listed tX AX a w σ idOf) {j i : Nat} {o : Oper} (ho : ops.toList[j]? = some o) (hd : ∀ e ∈ o.after.toList, Region.binds .any e = true → inL listed e.on) (h : ahead ops i j) : inL listed i :=
  ahead_closed (S := inL listed) hI.clL j i o ho hd h
theorem ahead_inX (hI : Inv P nt ops ds σ0 A0 w0 t0 done listed tX AX a w σ idOf) {j i : Nat} {o : Oper} (ho : ops.toList[j]? = some o) (hd : ∀ e ∈ o.after.toList, Region.binds .any e = true → inX done e.on) (h : ahead ops i j) : inX done i :=
  ahead_closed (S := inX done) hI.clX j i o ho hd h
theorem dst_lt {i : Nat} {d : Tmp} (h : dstAt ops i = some d) : i < ops.size := by
  unfold dstAt at h
  rcases Nat.lt_or_ge i ops.size with hl | hl
  · exact hl
  · simp [List.getD, hl] at h

/-- The interpreter carries out an early operation. -/
theorem inv_early (hS : Static P nt ops) (hI : Inv P nt ops ds σ0 A0 w0 t0 done listed tX AX a w σ idOf) {call : Caller} {j : Nat} {o : Oper} (ho : ops.toList[j]? = some o) (hm : Made P nt ops o (compOper P nt ops o)) (hj : ¬ inX done j)
    (hdir : ∀ e ∈ o.after.toList, Region.binds .any e = true → inX done e.on) (he : early (compOper P nt ops o).op = true) {tY : Tm} {AY : H} (h : evalOne call (compOper P nt ops o) tX AX = some (tY, AY)) :
    ∃ idOf', Inv P nt ops ds σ0 A0 w0 t0 (Nat.lor done (Nat.pow 2 j)) listed tY AY a w σ idOf' := by
  have hjlt : j < ops.size := by have := (List.getElem?_eq_some_iff.1 ho).1; simpa using this
  have hjL : ¬ inL listed j := fun h => hj (hI.sub j h)
  have hdj : dstAt ops j = o.dst := dst_get ho
  have hxj : opAt (xsOf P nt ops) j = compOper P nt ops o := opAt_get ho
  -- what the operation came to
  have hcases : (wantedA tX (compOper P nt ops o).guard = false ∧ tY = setT tX o.dst (.tuple #[]) ∧ AY = AX) ∨
      (wantedA tX (compOper P nt ops o).guard = true ∧ light (compOper P nt ops o).op = true ∧ ∃ v, evalOp (compOper P nt ops o).op (val tX) AX = some (v, AX) ∧ tY = setT tX o.dst v ∧ AY = AX) ∨
      (wantedA tX (compOper P nt ops o).guard = true ∧ make (compOper P nt ops o).op = true ∧ ∃ (mk : Nat → Value) (ob : AObj), (∀ B, evalOp (compOper P nt ops o).op (val tX) B = some (mk B.next, B.push ob)) ∧ tY = setT tX o.dst (mk AX.next) ∧ AY = AX.push ob) := by
    unfold evalOne at h
    rw [hm.dst] at h
    cases hw : wantedA tX (compOper P nt ops o).guard with
    | false =>
      rw [hw] at h
      simp only [cond_false, Option.some.injEq, Prod.mk.injEq] at h
      exact .inl ⟨rfl, h.1.symm, h.2.symm⟩
    | true =>
      rw [hw] at h
      simp only [cond_true] at h
      have hro : runOp call (compOper P nt ops o).op tX AX = evalOp (compOper P nt ops o).op (val tX) AX := by
        revert he
        cases (compOper P nt ops o).op <;> intro he <;> first | rfl | cases he
      rw [hro] at h
      split at h
      · rename_i v A2 hev
        simp only [Option.some.injEq, Prod.mk.injEq] at h
        obtain ⟨rfl, rfl⟩ := h
        rw [early_iff, Bool.or_eq_true] at he
        rcases he with hl | hmk
        · have := light_same hl hev
          subst this
          exact .inr (.inl ⟨rfl, hl, v, hev, rfl, rfl⟩)
        · obtain ⟨mk, ob, rfl, rfl, _, hall⟩ := make_same hmk hev
          exact .inr (.inr ⟨rfl, hmk, mk, ob, hall, rfl, rfl⟩)
      · cases h
  obtain ⟨v, htY⟩ : ∃ v, tY = setT tX o.dst v := by
    rcases hcases with ⟨_, h1, _⟩ | ⟨_, _, v, _, h1, _⟩ | ⟨_, _, mk, ob, _, h1, _⟩ <;> exact ⟨_, h1⟩
  have hgrow : AX.next ≤ AY.next ∧ (∀ i ob, i < AX.next → AX.get i = some ob → AY.get i = some ob) ∧ (∀ i ob, AX.get i = some ob → AY.get i = some ob) ∧ Rel P σ AY w ∧ Fr σ0 A0 w0 σ AY w := by
    rcases hcases with ⟨_, _, h1⟩ | ⟨_, _, v, _, _, h1⟩ | ⟨_, _, mk, ob, _, _, h1⟩
    · subst h1; exact ⟨Nat.le_refl _, fun _ _ _ h => h, fun _ _ h => h, hI.rel, hI.fr⟩
    · subst h1; exact ⟨Nat.le_refl _, fun _ _ _ h => h, fun _ _ h => h, hI.rel, hI.fr⟩
    · subst h1
      have hnx := (hI.rel.dom AX.next (Nat.le_refl _)).1
      exact ⟨by rw [H.next_push]; omega, fun i ob hi h => by rw [H.get_push, if_neg (by omega)]; exact h, fun i ob h => by
        rw [H.get_push]
        by_cases e : i = AX.next
        · subst e; rw [hnx] at h; cases h
        · rw [if_neg e]; exact h, hI.rel.push_free ob, hI.fr.trans (Fr.push_free hI.rel ob)⟩
  obtain ⟨g1, g2, g3, g4, g5⟩ := hgrow
  -- slots that were written before keep their values
  have keep : ∀ k s, dstAt ops k = some s → inX done k → val tY (.tmp s) = val tX (.tmp s) := by
    intro k s hk hkX
    rw [htY]
    refine setT_other fun e => ?_
    rw [← hdj] at e
    have hkj : k ≠ j := fun e2 => by subst e2; exact hj hkX
    exact (hS.pairs k j s (hI.bound k hkX) hjlt hkj hk).1 e
  have keepU : ∀ s, (∀ e, inX done e → dstAt ops e ≠ some s) → dstAt ops j ≠ some s → val tY (.tmp s) = val t0 (.tmp s) := by
    intro s h1 h2
    rw [htY, setT_other (by rw [← hdj]; exact h2)]
    exact hI.un s h1
  -- what the new operation looks at
  have lookj : ∀ s ∈ slotsAt ops j, (∀ k, dstAt ops k = some s → ahead ops k j → val tX (.tmp s) = val tY (.tmp s)) ∧ ((∀ k, dstAt ops k = some s → ¬ ahead ops k j) → val tX (.tmp s) = val t0 (.tmp s)) := by
    intro s hs
    refine ⟨fun k hk hak => ?_, fun hno => ?_⟩
    · exact (keep k s hk (ahead_inX hI ho hdir hak)).symm
    · refine hI.un s fun e heX hed => ?_
      have hej : e ≠ j := fun e2 => by subst e2; exact hj heX
      rcases (hS.pairs e j s (hI.bound e heX) hjlt hej hed).2 hs with h1 | h1
      · exact hno e hed h1
      · have hoe : ∃ oe, ops.toList[e]? = some oe := ⟨ops.toList[e]'(by simpa using hI.bound e heX), List.getElem?_eq_getElem _⟩
        obtain ⟨oe, hoe⟩ := hoe
        exact hj (ahead_inX hI hoe (hI.clX e oe hoe heX) h1)
  refine ⟨fun i => if i = j then (if wantedA tX (compOper P nt ops o).guard && make (compOper P nt ops o).op then some AX.next else none) else idOf i, ?_⟩
  refine ⟨hI.lsize, fun i hi => inX_add.2 (.inl (hI.sub i hi)), fun i hi => ?_, hI.clL, fun k ok hk hkX e he hb => ?_, hI.size, hI.dfr, g4, g5, fun s hs => ?_, fun s e hs heX heL hd => ?_, fun s hs hno => ?_, fun e heX heL => ?_, fun e e' i heX heL heX' heL' hne hi => ?_, fun e i hi => ?_, fun e oe heX hoe => ?_⟩
  · rcases inX_add.1 hi with h1 | rfl
    · exact hI.bound i h1
    · exact hjlt
  · rcases inX_add.1 hkX with h1 | rfl
    · exact inX_add.2 (.inl (hI.clX k ok hk h1 e he hb))
    · rw [ho] at hk; cases hk; exact inX_add.2 (.inl (hdir e he hb))
  · exact keepU s (fun e he => hs e (inX_add.2 (.inl he))) (hs j (inX_add.2 (.inr rfl)))
  · rcases inX_add.1 heX with h1 | rfl
    · exact hI.slotP s e hs h1 heL hd
    · -- the new one's slot: nobody else writes it
      have hu : ∀ e', inX done e' → dstAt ops e' ≠ some s := fun e' he' hd' => (hS.pairs e' j s (hI.bound e' he') hjlt (fun e2 => by subst e2; exact hj he') hd').1 hd
      rw [← hI.un s hu]
      exact hI.slotN s hs fun e' he' _ => hu e' he'
  · have h1 := hI.slotN s hs fun e he heL => hno e (inX_add.2 (.inl he)) heL
    rw [htY, setT_other (by rw [← hdj]; exact hno j (inX_add.2 (.inr rfl)) hjL)]
    exact h1
  · rcases inX_add.1 heX with h1 | rfl
    · obtain ⟨⟨te, q1, q2, q3, q4⟩, q5⟩ := hI.pend e h1 heL
      have hej : e ≠ j := fun e2 => by subst e2; exact hj h1
      have hke : ∀ d, dstAt ops e = some d → val tY (.tmp d) = val tX (.tmp d) := fun d hd => keep e d hd h1
      refine ⟨⟨te, fun s hs => ⟨fun k hk hak => ?_, (q1 s hs).2⟩, fun hw d hd => ?_, fun hw hl => ?_, fun hw hmk => ?_⟩, q5⟩
      · rw [(q1 s hs).1 k hk hak]
        have hoe : ∃ oe, ops.toList[e]? = some oe := ⟨ops.toList[e]'(by simpa using hI.bound e h1), List.getElem?_eq_getElem _⟩
        obtain ⟨oe, hoe⟩ := hoe
        exact (keep k s hk (ahead_inX hI hoe (hI.clX e oe hoe h1) hak)).symm
      · rw [hke d hd]; exact q2 hw d hd
      · obtain ⟨v, hv, hvd⟩ := q3 hw hl
        exact ⟨v, light_ext hl g3 hv, fun d hd => by rw [hke d hd]; exact hvd d hd⟩
      · obtain ⟨mk, ob, id, r1, r2, r3, r4, r5, r6, r7⟩ := q4 hw hmk
        exact ⟨mk, ob, id, by simp only [if_neg hej]; exact r1, r2, fun d hd => by rw [hke d hd]; exact r3 d hd, g2 id ob r7 r4, r5, r6, by omega⟩
    · refine ⟨⟨tX, lookj, fun hw d hd => ?_, fun hw hl => ?_, fun hw hmk => ?_⟩, by rw [hxj]; exact he⟩
      · rw [hxj] at hw
        rw [hdj] at hd
        rcases hcases with ⟨_, h1, _⟩ | ⟨h1, _⟩ | ⟨h1, _⟩
        · rw [h1, hd, setT_same]
        · rw [h1] at hw; cases hw
        · rw [h1] at hw; cases hw
      · rw [hxj] at hw hl ⊢
        rcases hcases with ⟨h1, _⟩ | ⟨_, _, v, h1, h2, h3⟩ | ⟨_, h1, _⟩
        · rw [h1] at hw; cases hw
        · exact ⟨v, by rw [h3]; exact h1, fun d hd => by rw [hdj] at hd; rw [h2, hd, setT_same]⟩
        · exfalso
          revert hl h1
          cases (compOper P nt ops o).op <;> intro hl h1 <;> first | (cases h1; done) | (cases hl; done)
      · rw [hxj] at hw hmk ⊢
        rcases hcases with ⟨h1, _⟩ | ⟨_, h1, _⟩ | ⟨hw0, _, mk, ob, h1, h2, h3⟩
        · rw [h1] at hw; cases hw
        · exfalso
          revert hmk h1
          cases (compOper P nt ops o).op <;> intro hmk h1 <;> first | (cases h1; done) | (cases hmk; done)
        · have hwant := hw0
          exact ⟨mk, ob, AX.next, by simp [hmk, hwant], h1, fun d hd => by rw [hdj] at hd; rw [h2, hd, setT_same], by rw [h3, H.get_push, if_pos rfl], (hI.rel.dom AX.next (Nat.le_refl _)).2, hI.fr.next, by rw [h3, H.next_push]; omega⟩
  · by_cases e1 : e = j
    · subst e1
      rw [if_pos rfl] at hi
      rw [if_neg (fun e2 => hne e2.symm)]
      intro h2
      have := hI.idlt e' i h2
      split at hi
      · cases hi; omega
      · cases hi
    · rw [if_neg e1] at hi
      by_cases e2 : e' = j
      · subst e2
        rw [if_pos rfl]
        intro h2
        have := hI.idlt e i hi
        split at h2
        · cases h2; omega
        · cases h2
      · rw [if_neg e2]
        rcases inX_add.1 heX with h1 | h1
        · rcases inX_add.1 heX' with h2 | h2
          · exact hI.distinct e e' i h1 heL h2 heL' hne hi
          · exact absurd h2.symm e2
        · exact absurd h1.symm e1
  · split at hi
    · split at hi
      · rename_i hmk
        cases hi
        rw [Bool.and_eq_true] at hmk
        obtain ⟨hmw, hmk⟩ := hmk
        rcases hcases with ⟨h1, _⟩ | ⟨_, h1, _⟩ | ⟨_, _, mk, ob, _, _, h1⟩
        · rw [h1] at hmw; cases hmw
        · exfalso
          revert hmk h1
          cases (compOper P nt ops o).op <;> intro hmk h1 <;> first | (cases h1; done) | (cases hmk; done)
        · rw [h1, H.next_push]; omega
      · cases hi
    · have := hI.idlt e i hi; omega
  · rcases inX_add.1 heX with h1 | rfl
    · exact hI.made e oe h1 hoe
    · rw [ho] at hoe; cases hoe; exact hm
theorem slot_operand {o : Oper} {i : Nat} (h : Operand.tmp i ∈ o.op.operands) : i ∈ slotsA ops o := by
  unfold slotsA
  refine List.mem_append.2 (.inl (List.mem_filterMap.2 ⟨.tmp i, by simpa using h, rfl⟩))
theorem slot_guard {o : Oper} {x : XOper} (hm : Made P nt ops o x) {d : Tmp} {b : Bool} (h : x.guard = some (d, b)) : d ∈ slotsA ops o := by
  unfold slotsA
  refine List.mem_append.2 (.inr ?_)
  have hg := hm.guard
  rw [h] at hg
  cases ho : o.guard with
  | none => rw [ho] at hg; simp [compGuard] at hg
  | some jw =>
    obtain ⟨j, wv⟩ := jw
    rw [ho] at hg
    simp only [compGuard, Option.map_eq_some_iff, Option.some.injEq, Prod.mk.injEq] at hg
    obtain ⟨d', hd, rfl, _⟩ := hg
    have hd' : (ops[j]?).bind (·.dst) = some d' := hd
    show d' ∈ ((ops[j]?).bind (·.dst)).toList
    rw [hd']
    simp
theorem slot_lt {o : Oper} {x : XOper} (hm : Made P nt ops o x) {s : Tmp} (h : s ∈ slotsA ops o) : s < nt := by
  unfold slotsA at h
  rcases List.mem_append.1 h with h | h
  · obtain ⟨y, hy, hys⟩ := List.mem_filterMap.1 h
    cases y with
    | tmp t =>
      simp only [Option.some.injEq] at hys
      subst hys
      exact blt_lt (hm.operands (.tmp t) (by simpa using hy))
    | _ => cases hys
  · have hg := hm.guard
    cases ho : o.guard with
    | none => rw [ho] at h; simp at h
    | some jw =>
      obtain ⟨j, wv⟩ := jw
      rw [ho] at hg h
      simp only [compGuard, Option.map_eq_some_iff] at hg
      obtain ⟨d', hd, hx⟩ := hg
      have hd' : (ops[j]?).bind (·.dst) = some d' := hd
      have h : s ∈ ((ops[j]?).bind (·.dst)).toList := h
      rw [hd'] at h
      simp only [Option.toList_some, List.mem_singleton] at h
      subst h
      exact hm.okg _ _ hx.symm

/-- What a pending operation looks at, when its turn has come. -/
theorem pend_slots (hS : Static P nt ops) (hI : Inv P nt ops ds σ0 A0 w0 t0 done listed tX AX a w σ idOf) {e : Nat} {o : Oper} (ho : ops.toList[e]? = some o) (heX : inX done e) (heL : ¬ inL listed e)
    (hdir : ∀ e' ∈ o.after.toList, Region.binds .any e' = true → inL listed e'.on) {te : Tm}
    (hte : ∀ s ∈ slotsAt ops e, (∀ k, dstAt ops k = some s → ahead ops k e → val te (.tmp s) = val tX (.tmp s)) ∧ ((∀ k, dstAt ops k = some s → ¬ ahead ops k e) → val te (.tmp s) = val t0 (.tmp s))) :
    ∀ s ∈ slotsA ops o, s < nt → VRel σ (val te (.tmp s)) (a.eval (.tmp s)) := by
  intro s hs hsn
  have hs' : s ∈ slotsAt ops e := by rw [slots_get ho]; exact hs
  obtain ⟨c1, c2⟩ := hte s hs'
  by_cases hw : ∃ k, dstAt ops k = some s ∧ ahead ops k e
  · obtain ⟨k, hk, hak⟩ := hw
    rw [c1 k hk hak]
    have hkL := ahead_inL hI ho hdir hak
    refine hI.slotN s hsn fun e' heX' heL' hd => ?_
    have hne : k ≠ e' := fun h => by subst h; exact heL' hkL
    exact (hS.pairs k e' s (dst_lt hk) (dst_lt hd) hne hk).1 hd
  · have hno : ∀ k, dstAt ops k = some s → ¬ ahead ops k e := fun k hk hak => hw ⟨k, hk, hak⟩
    rw [c2 hno]
    by_cases hp : ∃ e', inX done e' ∧ ¬ inL listed e' ∧ dstAt ops e' = some s
    · obtain ⟨e', h1, h2, h3⟩ := hp
      exact hI.slotP s e' hsn h1 h2 h3
    · rw [← hI.un s fun k hkX hk => ?_]
      · exact hI.slotN s hsn fun e' h1 h2 h3 => hp ⟨e', h1, h2, h3⟩
      · by_cases hkL : inL listed k
        · have hke : k ≠ e := fun h => by subst h; exact heL hkL
          rcases (hS.pairs k e s (dst_lt hk) (hI.bound e heX) hke hk).2 hs' with h1 | h1
          · exact hno k hk h1
          · obtain ⟨ok, hok⟩ : ∃ ok, ops.toList[k]? = some ok := ⟨ops.toList[k]'(by simpa using dst_lt hk), List.getElem?_eq_getElem _⟩
            exact heL (ahead_inL hI hok (hI.clL k ok hok hkL) h1)
        · exact hp ⟨k, hkX, hkL, hk⟩

theorem put_size (a : Act) (d : Option Tmp) (v : Value) : (a.put d v).tmps.size = a.tmps.size := by cases d <;> simp [Act.put]
theorem put_defers (a : Act) (d : Option Tmp) (v : Value) : (a.put d v).defers = a.defers := by cases d <;> rfl

/-- The program carries out one that was pending. -/
theorem inv_listed (hS : Static P nt ops) (hI : Inv P nt ops ds σ0 A0 w0 t0 done listed tX AX a w σ idOf) {e : Nat} {o : Oper} (ho : ops.toList[e]? = some o) (heX : inX done e) (heL : ¬ inL listed e)
    (hdir : ∀ e' ∈ o.after.toList, Region.binds .any e' = true → inL listed e'.on) (hd : okDst nt o.dst = true) {σ' : Sg} {w' : World} {v' : Value} (hle : σ.le σ') (hv : ∀ d, o.dst = some d → VRel σ' (val tX (.tmp d)) v') (hr : Rel P σ' AX w') (hf : Fr σ0 A0 w0 σ' AX w')
    (hid : ∀ e' id, inX done e' → ¬ inL listed e' → e' ≠ e → idOf e' = some id → σ id = none → σ' id = none) :
    Inv P nt ops ds σ0 A0 w0 t0 done (listed.setIfInBounds e true) tX AX (a.put o.dst v') w' σ' idOf := by
  have hel : e < listed.size := by rw [hI.lsize]; exact hI.bound e heX
  have hde : dstAt ops e = o.dst := dst_get ho
  have hsz : ∀ x, o.dst = some x → x < a.tmps.size := fun x hx => by rw [hx] at hd; rw [hI.size]; exact blt_lt hd
  refine ⟨by rw [Array.size_setIfInBounds]; exact hI.lsize, fun i hi => ?_, hI.bound, fun k ok hk hkL e' he' hb => ?_, hI.clX, by rw [put_size]; exact hI.size, by rw [put_defers]; exact hI.dfr, hr, hf, hI.un, fun s e' hs hX hL hds => ?_, fun s hs hno => ?_, fun e' hX hL => ?_, fun e1 e2 i h1 h2 h3 h4 hne hi => ?_, hI.idlt, hI.made⟩
  · rcases (inL_set hel).1 hi with h | rfl
    · exact hI.sub i h
    · exact heX
  · rcases (inL_set hel).1 hkL with h | rfl
    · exact (inL_set hel).2 (.inl (hI.clL k ok hk h e' he' hb))
    · rw [ho] at hk; cases hk; exact (inL_set hel).2 (.inl (hdir e' he' hb))
  · have hL0 : ¬ inL listed e' := fun h => hL ((inL_set hel).2 (.inl h))
    have hne : e ≠ e' := fun h => hL ((inL_set hel).2 (.inr h))
    rw [eval_put a o.dst v' s hsz, if_neg (fun h => (hS.pairs e e' s (hI.bound e heX) (hI.bound e' hX) hne (by rw [hde]; exact h)).1 hds)]
    exact (hI.slotP s e' hs hX hL0 hds).mono hle
  · rw [eval_put a o.dst v' s hsz]
    by_cases hdd : o.dst = some s
    · rw [if_pos hdd]; exact hv s hdd
    · rw [if_neg hdd]
      refine (hI.slotN s hs fun e' hX hL hds => ?_).mono hle
      by_cases hne : e = e'
      · subst hne; rw [hde] at hds; exact hdd hds
      · exact hno e' hX (fun h => ((inL_set hel).1 h).elim hL hne) hds
  · have hL0 : ¬ inL listed e' := fun h => hL ((inL_set hel).2 (.inl h))
    have hne : e' ≠ e := fun h => hL ((inL_set hel).2 (.inr h.symm))
    obtain ⟨⟨te, q1, q2, q3, q4⟩, q5⟩ := hI.pend e' hX hL0
    refine ⟨⟨te, q1, q2, q3, fun hw hmk => ?_⟩, q5⟩
    obtain ⟨mk, ob, id, r1, r2, r3, r4, r5, r6, r7⟩ := q4 hw hmk
    exact ⟨mk, ob, id, r1, r2, r3, r4, hid e' id hX hL0 hne r1 r5, r6, r7⟩
  · exact hI.distinct e1 e2 i h1 (fun h => h2 ((inL_set hel).2 (.inl h))) h3 (fun h => h4 ((inL_set hel).2 (.inl h))) hne hi

theorem ops_get {e : Nat} {o : Oper} (ho : ops.toList[e]? = some o) : ops[e]? = some o := by simpa using ho

theorem inv_take (hS : Static P nt ops) (hI : Inv P nt ops ds σ0 A0 w0 t0 done listed tX AX a w σ idOf) {e : Nat} {o : Oper} (ho : ops.toList[e]? = some o) (heX : inX done e) (heL : ¬ inL listed e)
    (hdir : ∀ e' ∈ o.after.toList, Region.binds .any e' = true → inL listed e'.on) {K : Act → World → Prop} {Q : Exit → Act → World → Prop}
    (hk : ∀ a' w' σ', Inv P nt ops ds σ0 A0 w0 t0 done (listed.setIfInBounds e true) tX AX a' w' σ' idOf → K a' w') : wpOp P ops Q e K a w := by
  have hm := hI.made e o heX ho
  have hxe : opAt (xsOf P nt ops) e = compOper P nt ops o := opAt_get ho
  have hde : dstAt ops e = o.dst := dst_get ho
  obtain ⟨⟨te, q1, q2, q3, q4⟩, q5⟩ := hI.pend e heX heL
  rw [hxe] at q2 q3 q4 q5
  have hsl := pend_slots hS hI ho heX heL hdir q1
  have hwant := wanted_eq (σ := σ) (t := te) hm hI.size fun d b hg => hsl d (slot_guard hm hg) (slot_lt hm (slot_guard hm hg))
  have hρ : ∀ y ∈ o.op.operands, VRel σ (val te y) (a.eval y) := fun y hy => operand_rel hI.rel (hm.operands y hy) fun i hi => by subst hi; exact hsl i (slot_operand hy) (slot_lt hm (slot_operand hy))
  unfold wpOp
  rw [ops_get ho]
  simp only
  rw [hwant]
  cases hw : wantedA te (compOper P nt ops o).guard with
  | false =>
    simp only [Bool.false_eq_true, if_false]
    exact hk _ _ σ (inv_listed hS hI ho heX heL hdir hm.okd (Sg.le_refl σ) (fun d hd => by rw [q2 hw d (by rw [hde]; exact hd)]; exact undef_rel) hI.rel hI.fr fun _ _ _ _ _ _ h => h)
  | true =>
    simp only [if_true]
    refine .inl ?_
    rw [early_iff, Bool.or_eq_true] at q5
    rcases q5 with hl | hmk
    · obtain ⟨v, hv, hvd⟩ := q3 hw hl
      obtain ⟨_, v', h1, h2⟩ := light_sound hm.op hl hρ hI.rel hv
      unfold Oper.wp
      rw [h1]
      exact hk _ _ σ (inv_listed hS hI ho heX heL hdir hm.okd (Sg.le_refl σ) (fun d hd => by rw [hvd d (by rw [hde]; exact hd)]; exact h2) hI.rel hI.fr fun _ _ _ _ _ _ h => h)
    · obtain ⟨mk, ob, id, r1, r2, r3, r4, r5, r6, r7⟩ := q4 hw hmk
      obtain ⟨mk', ob', h1, h2⟩ := make_sound (σ := σ) (P := P) hm.op hmk hρ (r2 AX)
      obtain ⟨v', w', p, k1, k2, k3, k4⟩ := h1.run w
      have e1 := h2 ({ AX with next := id })
      rw [r2] at e1
      have e2 := h2 AX
      rw [r2] at e2
      simp only [Option.some.injEq, Prod.mk.injEq] at e1 e2
      have e3 : mk id = mk' id := e1.1
      have e4 : ob' = ob := by
        have e5 : (AX.push ob).get AX.next = (AX.push ob').get AX.next := by rw [e2.2]
        rw [H.get_push, H.get_push, if_pos rfl, if_pos rfl] at e5
        cases e5; rfl
      subst e4
      obtain ⟨k5, k6⟩ := k4 (σ.add id p) id (Sg.le_add p r5) (Sg.add_same _ _ _)
      unfold Oper.wp
      rw [k1]
      refine hk _ _ (σ.add id p) (inv_listed hS hI ho heX heL hdir hm.okd (Sg.le_add p r5) (fun d hd => by rw [r3 d (by rw [hde]; exact hd), e3]; exact k5) (Rel.place_at hI.rel r4 r5 r7 k2 k3 k6) (Fr.place_at hI.fr r5 r6 k2 k3) fun e' id' hX hL hne hi hs => ?_)
      rw [Sg.add_other p (fun h => ?_)]
      · exact hs
      · subst h
        exact hI.distinct e' e id' hX hL heX heL hne hi r1

/-- One that both carry out. -/
theorem inv_both (hS : Static P nt ops) (hI : Inv P nt ops ds σ0 A0 w0 t0 done listed tX AX a w σ idOf) {h : Nat} {o : Oper} (ho : ops.toList[h]? = some o) (hm : Made P nt ops o (compOper P nt ops o)) (hh : ¬ inX done h)
    (hdir : ∀ e' ∈ o.after.toList, Region.binds .any e' = true → inL listed e'.on) {σ' : Sg} {A' : H} {w' : World} {v v' : Value} (hv : VRel σ' v v') (hr : Rel P σ' A' w') (hf : Fr σ AX w σ' A' w')
    (hre : ∀ e, e < ops.size → inX done e → looks (opAt (xsOf P nt ops) e).op = true → ¬ ahead ops e h → again (setT tX o.dst v) A' (opAt (xsOf P nt ops) e) = true) :
    Inv P nt ops ds σ0 A0 w0 t0 (Nat.lor done (Nat.pow 2 h)) (listed.setIfInBounds h true) (setT tX o.dst v) A' (a.put o.dst v') w' σ' idOf := by
  have hlt : h < ops.size := by have := (List.getElem?_eq_some_iff.1 ho).1; simpa using this
  have hel : h < listed.size := by rw [hI.lsize]; exact hlt
  have hde : dstAt ops h = o.dst := dst_get ho
  have hsz : ∀ x, o.dst = some x → x < a.tmps.size := fun x hx => by have hd := hm.okd; rw [hx] at hd; rw [hI.size]; exact blt_lt hd
  have hdirX : ∀ e' ∈ o.after.toList, Region.binds .any e' = true → inX done e'.on := fun e' he hb => hI.sub _ (hdir e' he hb)
  have keep : ∀ k s, dstAt ops k = some s → k ≠ h → val (setT tX o.dst v) (.tmp s) = val tX (.tmp s) := by
    intro k s hk hkh
    refine setT_other fun e => ?_
    exact (hS.pairs k h s (dst_lt hk) hlt hkh hk).1 (by rw [hde]; exact e)
  have hun : ∀ s, (∀ e, inX (Nat.lor done (Nat.pow 2 h)) e → dstAt ops e ≠ some s) → val (setT tX o.dst v) (.tmp s) = val t0 (.tmp s) := by
    intro s hs
    rw [setT_other (by rw [← hde]; exact hs h (inX_add.2 (.inr rfl)))]
    exact hI.un s fun e he => hs e (inX_add.2 (.inl he))
  have pendOld : ∀ {e}, inX (Nat.lor done (Nat.pow 2 h)) e → ¬ inL (listed.setIfInBounds h true) e → inX done e ∧ ¬ inL listed e ∧ e ≠ h := by
    intro e hX hL
    have hne : e ≠ h := fun h' => hL ((inL_set hel).2 (.inr h'.symm))
    exact ⟨(inX_add.1 hX).resolve_right (fun h' => hne h'.symm), fun h' => hL ((inL_set hel).2 (.inl h')), hne⟩
  refine ⟨by rw [Array.size_setIfInBounds]; exact hI.lsize, fun i hi => ?_, fun i hi => ?_, fun k ok hk hkL e' he' hb => ?_, fun k ok hk hkX e' he' hb => ?_, by rw [put_size]; exact hI.size, by rw [put_defers]; exact hI.dfr, hr, hI.fr.trans hf, hun, fun s e' hs hX hL hds => ?_, fun s hs hno => ?_, fun e hX hL => ?_, fun e1 e2 i h1 h2 h3 h4 hne hi => ?_, fun e i hi => Nat.lt_of_lt_of_le (hI.idlt e i hi) hf.next, fun e oe hX hoe => ?_⟩
  · rcases (inL_set hel).1 hi with h1 | rfl
    · exact inX_add.2 (.inl (hI.sub i h1))
    · exact inX_add.2 (.inr rfl)
  · rcases inX_add.1 hi with h1 | rfl
    · exact hI.bound i h1
    · exact hlt
  · rcases (inL_set hel).1 hkL with h1 | rfl
    · exact (inL_set hel).2 (.inl (hI.clL k ok hk h1 e' he' hb))
    · rw [ho] at hk; cases hk; exact (inL_set hel).2 (.inl (hdir e' he' hb))
  · rcases inX_add.1 hkX with h1 | rfl
    · exact inX_add.2 (.inl (hI.clX k ok hk h1 e' he' hb))
    · rw [ho] at hk; cases hk; exact inX_add.2 (.inl (hdirX e' he' hb))
  · obtain ⟨p1, p2, p3⟩ := pendOld hX hL
    rw [eval_put a o.dst v' s hsz, if_neg (fun h' => (hS.pairs e' h s (hI.bound e' p1) hlt p3 hds).1 (by rw [hde]; exact h'))]
    exact (hI.slotP s e' hs p1 p2 hds).mono hf.ext
  · rw [eval_put a o.dst v' s hsz, val_setT]
    by_cases hdd : o.dst = some s
    · rw [if_pos hdd, if_pos hdd]; exact hv
    · rw [if_neg hdd, if_neg hdd]
      refine (hI.slotN s hs fun e' hX hL hds => ?_).mono hf.ext
      have hne : h ≠ e' := fun h' => by subst h'; exact hh hX
      exact hno e' (inX_add.2 (.inl hX)) (fun h' => ((inL_set hel).1 h').elim hL hne) hds
  · obtain ⟨p1, p2, p3⟩ := pendOld hX hL
    obtain ⟨⟨te, q1, q2, q3, q4⟩, q5⟩ := hI.pend e p1 p2
    have heb := hI.bound e p1
    obtain ⟨oe, hoe⟩ : ∃ oe, ops.toList[e]? = some oe := ⟨ops.toList[e]'(by simpa using heb), List.getElem?_eq_getElem _⟩
    have hke : ∀ d, dstAt ops e = some d → val (setT tX o.dst v) (.tmp d) = val tX (.tmp d) := fun d hd => keep e d hd p3
    have q1' : ∀ s ∈ slotsAt ops e, (∀ k, dstAt ops k = some s → ahead ops k e → val te (.tmp s) = val (setT tX o.dst v) (.tmp s)) ∧ ((∀ k, dstAt ops k = some s → ¬ ahead ops k e) → val te (.tmp s) = val t0 (.tmp s)) := by
      intro s hs
      refine ⟨fun k hk hak => ?_, (q1 s hs).2⟩
      rw [(q1 s hs).1 k hk hak]
      have hkX := ahead_inX hI hoe (hI.clX e oe hoe p1) hak
      exact (keep k s hk fun h' => by subst h'; exact hh hkX).symm
    by_cases hlk : looks (opAt (xsOf P nt ops) e).op = true
    · -- it reads the heap: it was asked again
      have hnm : make (opAt (xsOf P nt ops) e).op = false := by
        revert hlk
        cases (opAt (xsOf P nt ops) e).op <;> intro hlk <;> first | rfl | (cases hlk; done)
      have hnah : ¬ ahead ops e h := fun hak => p2 (ahead_inL hI ho hdir hak)
      have hag := hre e heb p1 hlk hnah
      have same : ∀ s ∈ slotsAt ops e, val te (.tmp s) = val (setT tX o.dst v) (.tmp s) := by
        intro s hs
        by_cases hw : ∃ k, dstAt ops k = some s
        · obtain ⟨k, hk⟩ := hw
          exact (q1' s hs).1 k hk (hS.lk e k s heb (dst_lt hk) hlk hk hs)
        · rw [(q1' s hs).2 fun k hk => absurd ⟨k, hk⟩ hw]
          exact (hun s fun k _ hk => hw ⟨k, hk⟩).symm
      have hme := hI.made e oe p1 hoe
      have hxe : opAt (xsOf P nt ops) e = compOper P nt ops oe := opAt_get hoe
      have hwe : wantedA te (opAt (xsOf P nt ops) e).guard = wantedA (setT tX o.dst v) (opAt (xsOf P nt ops) e).guard := by
        rw [hxe]
        cases hg : (compOper P nt ops oe).guard with
        | none => rfl
        | some dw =>
          obtain ⟨d, b⟩ := dw
          simp only [wantedA]
          rw [same d (by rw [slots_get hoe]; exact slot_guard hme hg)]
      refine ⟨⟨setT tX o.dst v, fun s hs => ⟨fun _ _ _ => rfl, fun hno => ?_⟩, fun hw d hd => ?_, fun hw hl => ?_, fun hw hmk => ?_⟩, q5⟩
      · rw [← same s hs]; exact (q1' s hs).2 hno
      · rw [hke d hd]; exact q2 (by rw [hwe]; exact hw) d hd
      · unfold again at hag
        rw [hw] at hag
        simp only [cond_true] at hag
        split at hag
        · rename_i v1 A1 hev
          have hA := light_same hl hev
          subst hA
          refine ⟨v1, hev, fun d hd => ?_⟩
          have hdx : (opAt (xsOf P nt ops) e).dst = some d := by rw [hxe, hme.dst, ← dst_get hoe]; exact hd
          rw [hdx] at hag
          exact (sameV_eq hag).symm
        · cases hag
      · rw [hnm] at hmk; cases hmk
    · have hlk' : looks (opAt (xsOf P nt ops) e).op = false := by cases hb : looks (opAt (xsOf P nt ops) e).op <;> first | rfl | exact absurd hb hlk
      refine ⟨⟨te, q1', fun hw d hd => by rw [hke d hd]; exact q2 hw d hd, fun hw hl => ?_, fun hw hmk => ?_⟩, q5⟩
      · obtain ⟨v1, hv1, hvd⟩ := q3 hw hl
        exact ⟨v1, light_free hl hlk' A' hv1, fun d hd => by rw [hke d hd]; exact hvd d hd⟩
      · obtain ⟨mk, ob, id, r1, r2, r3, r4, r5, r6, r7⟩ := q4 hw hmk
        obtain ⟨u1, u2⟩ := hf.unm id r7 r5
        exact ⟨mk, ob, id, r1, r2, fun d hd => by rw [hke d hd]; exact r3 d hd, by rw [u2]; exact r4, u1, r6, Nat.lt_of_lt_of_le r7 hf.next⟩
  · obtain ⟨p1, p2, _⟩ := pendOld h1 h2
    obtain ⟨p3, p4, _⟩ := pendOld h3 h4
    exact hI.distinct e1 e2 i p1 p2 p3 p4 hne hi
  · rcases inX_add.1 hX with h1 | rfl
    · exact hI.made e oe h1 hoe
    · rw [ho] at hoe; cases hoe; exact hm

theorem inv_heavy (hS : Static P nt ops) (hx : Ext P) {call : Caller} (hcall : CallOk P call) (hI : Inv P nt ops ds σ0 A0 w0 t0 done listed tX AX a w σ idOf) {h : Nat} {o : Oper} (ho : ops.toList[h]? = some o) (hm : Made P nt ops o (compOper P nt ops o)) (hh : ¬ inX done h)
    (hdir : ∀ e' ∈ o.after.toList, Region.binds .any e' = true → inL listed e'.on) {tY : Tm} {AY : H} (hev : evalOne call (compOper P nt ops o) tX AX = some (tY, AY))
    (hre : ∀ e, e < ops.size → inX done e → looks (opAt (xsOf P nt ops) e).op = true → ¬ ahead ops e h → again tY AY (opAt (xsOf P nt ops) e) = true) {K : Act → World → Prop} {Q : Exit → Act → World → Prop}
    (hk : ∀ a' w' σ', Inv P nt ops ds σ0 A0 w0 t0 (Nat.lor done (Nat.pow 2 h)) (listed.setIfInBounds h true) tY AY a' w' σ' idOf → K a' w') : wpOp P ops Q h K a w := by
  have hlt : h < ops.size := by have := (List.getElem?_eq_some_iff.1 ho).1; simpa using this
  have hsl : ∀ s ∈ slotsA ops o, s < nt → VRel σ (val tX (.tmp s)) (a.eval (.tmp s)) := by
    intro s hs hsn
    refine hI.slotN s hsn fun e heX heL hds => ?_
    have hne : e ≠ h := fun h' => by subst h'; exact hh heX
    rcases (hS.pairs e h s (hI.bound e heX) hlt hne hds).2 (by rw [slots_get ho]; exact hs) with h1 | h1
    · exact heL (ahead_inL hI ho hdir h1)
    · obtain ⟨oe, hoe⟩ : ∃ oe, ops.toList[e]? = some oe := ⟨ops.toList[e]'(by simpa using hI.bound e heX), List.getElem?_eq_getElem _⟩
      exact hh (ahead_inX hI hoe (hI.clX e oe hoe heX) h1)
  have hwant := wanted_eq (σ := σ) (t := tX) hm hI.size fun d b hg => hsl d (slot_guard hm hg) (slot_lt hm (slot_guard hm hg))
  have hρ : ∀ y ∈ o.op.operands, VRel σ (val tX y) (a.eval y) := fun y hy => operand_rel hI.rel (hm.operands y hy) fun i hi => by subst hi; exact hsl i (slot_operand hy) (slot_lt hm (slot_operand hy))
  unfold wpOp
  rw [ops_get ho]
  simp only
  rw [hwant]
  unfold evalOne at hev
  rw [hm.dst] at hev
  cases hw : wantedA tX (compOper P nt ops o).guard with
  | false =>
    rw [hw] at hev
    simp only [cond_false, Option.some.injEq, Prod.mk.injEq] at hev
    obtain ⟨rfl, rfl⟩ := hev
    simp only [Bool.false_eq_true, if_false]
    exact hk _ _ σ (inv_both hS hI ho hm hh hdir undef_rel hI.rel (Fr.refl _ _ _) hre)
  | true =>
    rw [hw] at hev
    simp only [cond_true] at hev
    split at hev
    · rename_i v A2 hrun
      simp only [Option.some.injEq, Prod.mk.injEq] at hev
      obtain ⟨rfl, rfl⟩ := hev
      simp only [if_true]
      exact .inl (runOp_sound hx hcall hm.op hI.rel hρ hrun fun v' w' σ' k1 k2 k3 => hk _ _ σ' (inv_both hS hI ho hm hh hdir k1 k2 k3 hre))
    · cases hev

theorem not_inL {listed : Array Bool} {i : Nat} (hi : i < listed.size) : listed.getD i true = false ↔ ¬ inL listed i := by
  unfold inL
  simp [hi]
theorem ready_iff {listed : Array Bool} (hs : listed.size = ops.size) {i : Nat} : i ∈ Region.ready .any ops listed ↔ ¬ inL listed i ∧ ∃ o, ops.toList[i]? = some o ∧ ∀ e ∈ o.after.toList, Region.binds .any e = true → inL listed e.on := by
  rw [mem_ready]
  constructor
  · rintro ⟨h0, o, ho, hall⟩
    have hlt : i < listed.size := by rw [hs]; exact (Array.getElem?_eq_some_iff.1 ho).1
    exact ⟨(not_inL hlt).1 h0, o, by simpa using ho, fun e he hb => hall e (by simpa using he) hb⟩
  · rintro ⟨h0, o, ho, hall⟩
    have hlt : i < listed.size := by rw [hs]; have := (List.getElem?_eq_some_iff.1 ho).1; simpa using this
    exact ⟨(not_inL hlt).2 h0, o, by simpa using ho, fun e he hb => hall e (by simpa using he) hb⟩
theorem readyA_iff {i : Nat} : i ∈ readyA (ops.toList.map edgeBits) (xsOf P nt ops).length done ↔ ¬ inX done i ∧ ∃ o, ops.toList[i]? = some o ∧ ∀ e ∈ o.after.toList, Region.binds .any e = true → inX done e.on := by
  rw [ready_mem]
  constructor
  · rintro ⟨h1, h2, h3⟩
    have hlt : i < ops.toList.length := by simpa [xsOf] using h1
    refine ⟨by unfold inX; rw [h2]; simp, ops.toList[i], List.getElem?_eq_getElem hlt, fun e he hb => h3 e.on ?_⟩
    exact (edges_get (List.getElem?_eq_getElem hlt) e.on).2 ⟨e, he, hb, rfl⟩
  · rintro ⟨h1, o, ho, h2⟩
    have hlt := (List.getElem?_eq_some_iff.1 ho).1
    refine ⟨by simpa [xsOf] using hlt, by unfold inX at h1; simpa using h1, fun j hj => ?_⟩
    obtain ⟨e, he, hb, rfl⟩ := (edges_get ho j).1 hj
    exact h2 e he hb

theorem order_head {i : Nat} {c : List Nat} (h : okOrder (ops.toList.map edgeBits) (xsOf P nt ops) done (i :: c) = true) : i ∈ readyA (ops.toList.map edgeBits) (xsOf P nt ops).length done ∧ okOrder (ops.toList.map edgeBits) (xsOf P nt ops) (Nat.lor done (Nat.pow 2 i)) c = true ∧
    (early (opAt (xsOf P nt ops) i).op = false → readyA (ops.toList.map edgeBits) (xsOf P nt ops).length done = [i]) := by
  simp only [okOrder, Bool.and_eq_true] at h
  obtain ⟨h1, h2⟩ := h
  cases he : early (opAt (xsOf P nt ops) i).op with
  | true =>
    rw [he] at h1
    exact ⟨by simpa using h1, h2, fun h => by cases h⟩
  | false =>
    rw [he] at h1
    have h1 : readyA (ops.toList.map edgeBits) (xsOf P nt ops).length done = [i] := by simpa using h1
    exact ⟨by rw [h1]; simp, h2, fun _ => h1⟩

theorem all_listed {listed : Array Bool} (hs : listed.size = ops.size) (hr : Region.ready .any ops listed = []) : ∀ (c : List Nat) (d : Nat), okOrder (ops.toList.map edgeBits) (xsOf P nt ops) d c = true → (∀ j, inX d j → inL listed j) → ∀ i, i < ops.size → inL listed i := by
  intro c
  induction c with
  | nil =>
    intro d h hd i hi
    simp only [okOrder, List.all_eq_true] at h
    exact hd i (h i (List.mem_range.2 (by simpa [xsOf] using hi)))
  | cons j c ih =>
    intro d h hd
    obtain ⟨h1, h2, _⟩ := order_head h
    obtain ⟨h3, o, ho, h4⟩ := readyA_iff.1 h1
    refine ih _ h2 fun k hk => ?_
    rcases inX_add.1 hk with h5 | rfl
    · exact hd k h5
    · by_cases hL : inL listed j
      · exact hL
      · have : j ∈ Region.ready .any ops listed := (ready_iff hs).2 ⟨hL, o, ho, fun e he hb => hd _ (h4 e he hb)⟩
        rw [hr] at this
        cases this

theorem inv_end (hI : Inv P nt ops ds σ0 A0 w0 t0 done listed tX AX a w σ idOf) (hall : ∀ i, i < ops.size → inL listed i) {c : List Nat} (hc : okOrder (ops.toList.map edgeBits) (xsOf P nt ops) done c = true) : c = [] ∧ TRel σ nt tX a := by
  refine ⟨?_, hI.size, fun s hs => hI.slotN s hs fun e heX heL => absurd (hall e (hI.bound e heX)) heL⟩
  cases c with
  | nil => rfl
  | cons j c =>
    obtain ⟨h1, _, _⟩ := order_head hc
    obtain ⟨h3, o, ho, _⟩ := readyA_iff.1 h1
    have hlt := (List.getElem?_eq_some_iff.1 ho).1
    exact absurd (hI.sub j (hall j (by simpa using hlt))) h3

theorem draw_run (hS : Static P nt ops) (hx : Ext P) {call : Caller} (hcall : CallOk P call) {t' : Tm} {A' : H} {c0 : List Nat} (hc0 : okOrder (ops.toList.map edgeBits) (xsOf P nt ops) 0 c0 = true) {Q : Exit → Act → World → Prop}
    (hq : ∀ a1 w1 σ1, TRel σ1 nt t' a1 → Rel P σ1 A' w1 → Fr σ0 A0 w0 σ1 A' w1 → a1.defers = ds → Q .normal a1 w1) : ∀ (fuel : Nat) (listed : Array Bool) (done : Nat) (c : List Nat) (tX : Tm) (AX : H) (a : Act) (w : World) (σ : Sg) (idOf : Nat → Option Nat),
    Inv P nt ops ds σ0 A0 w0 t0 done listed tX AX a w σ idOf → okOrder (ops.toList.map edgeBits) (xsOf P nt ops) done c = true → evalDraw call (stepsA (aheads [] ops.toList) (xsOf P nt ops) done c) tX AX = some (t', A') →
    (List.range ops.size).countP (fun i => !listed.getD i false) ≤ fuel → wpAny P .any ops Q fuel listed a w := by
  intro fuel
  have fin : ∀ (listed : Array Bool) (done : Nat) (c : List Nat) (tX : Tm) (AX : H) (a : Act) (w : World) (σ : Sg) (idOf : Nat → Option Nat),
      Inv P nt ops ds σ0 A0 w0 t0 done listed tX AX a w σ idOf → okOrder (ops.toList.map edgeBits) (xsOf P nt ops) done c = true → evalDraw call (stepsA (aheads [] ops.toList) (xsOf P nt ops) done c) tX AX = some (t', A') → Region.ready .any ops listed = [] → Q .normal a w := by
    intro listed done c tX AX a w σ idOf hI hc hev hr
    have hall := all_listed hI.lsize hr c0 0 hc0 fun j hj => by simp [inX] at hj
    obtain ⟨rfl, ht⟩ := inv_end hI hall hc
    simp only [stepsA, evalDraw, Option.some.injEq, Prod.mk.injEq] at hev
    obtain ⟨rfl, rfl⟩ := hev
    exact hq _ _ σ ht hI.rel hI.fr hI.dfr
  induction fuel with
  | zero =>
    intro listed done c tX AX a w σ idOf hI hc hev hcnt
    have hr : Region.ready .any ops listed = [] := by
      apply List.eq_nil_iff_forall_not_mem.2
      intro i hi
      obtain ⟨h1, o, ho, _⟩ := (ready_iff hI.lsize).1 hi
      have hlt := (List.getElem?_eq_some_iff.1 ho).1
      have h0 : (List.range ops.size).countP (fun i => !listed.getD i false) = 0 := by omega
      rw [List.countP_eq_zero] at h0
      have := h0 i (List.mem_range.2 (by simpa using hlt))
      unfold inL at h1
      cases hb : listed.getD i false <;> simp_all
    exact ⟨hr, fin listed done c tX AX a w σ idOf hI hc hev hr⟩
  | succ fuel ih =>
    intro listed done c tX AX a w σ idOf hI hc hev hcnt
    refine ⟨fin listed done c tX AX a w σ idOf hI hc hev, fun i hi => ?_⟩
    obtain ⟨hiL, o, ho, hdir⟩ := (ready_iff hI.lsize).1 hi
    have hlt : i < ops.size := by have := (List.getElem?_eq_some_iff.1 ho).1; simpa using this
    have hcnt' : (List.range ops.size).countP (fun k => !(listed.setIfInBounds i true).getD k false) ≤ fuel := by
      have hel : i < listed.size := by rw [hI.lsize]; exact hlt
      have : (List.range ops.size).countP (fun k => !(listed.setIfInBounds i true).getD k false) < (List.range ops.size).countP (fun k => !listed.getD k false) := by
        refine countP_lt _ i (List.mem_range.2 hlt) (fun j hj => ?_) ?_ ?_
        · have h1 : ¬ inL (listed.setIfInBounds i true) j := by unfold inL; simpa using hj
          have h2 : ¬ inL listed j := fun h => h1 ((inL_set hel).2 (.inl h))
          unfold inL at h2; simpa using h2
        · unfold inL at hiL; simpa using hiL
        · have h1 : inL (listed.setIfInBounds i true) i := (inL_set hel).2 (.inr rfl)
          unfold inL at h1; simp [h1]
      omega
    revert done tX AX σ idOf
    induction c with
    | nil =>
      intro done tX AX σ idOf hI hc hev
      exact inv_take hS hI ho (by simp only [okOrder, List.all_eq_true] at hc; exact hc i (List.mem_range.2 (by simpa [xsOf] using hlt))) hiL hdir fun a' w' σ' hI' => ih _ _ [] tX AX a' w' σ' idOf hI' hc hev hcnt'
    | cons j c ihc =>
      intro done tX AX σ idOf hI hc hev
      by_cases hiX : inX done i
      · exact inv_take hS hI ho hiX hiL hdir fun a' w' σ' hI' => ih _ _ (j :: c) tX AX a' w' σ' idOf hI' hc hev hcnt'
      · obtain ⟨h1, h2, h3⟩ := order_head hc
        obtain ⟨h4, oj, hoj, h5⟩ := readyA_iff.1 h1
        have hxj : opAt (xsOf P nt ops) j = compOper P nt ops oj := opAt_get hoj
        simp only [stepsA, evalDraw] at hev
        rw [hxj] at hev
        split at hev
        · rename_i tY AY h6
          have hmade : Made P nt ops oj (compOper P nt ops oj) := by
            rcases compOper_made (P := P) (nt := nt) (ops := ops) (o := oj) with hm | ⟨s, hb, hg⟩
            · exact hm
            · rw [evalOne_bad hb hg] at h6; cases h6
          cases he : early (compOper P nt ops oj).op with
          | true =>
            rw [he] at hev
            simp only [cond_true, List.all_nil] at hev
            obtain ⟨idOf', hI'⟩ := inv_early hS hI hoj hmade h4 h5 he h6
            exact ihc _ tY AY σ idOf' hI' h2 hev
          | false =>
            rw [he] at hev
            simp only [cond_false] at hev
            have hrj := h3 (by rw [hxj]; exact he)
            have hij : i = j := by
              have : i ∈ readyA (ops.toList.map edgeBits) (xsOf P nt ops).length done := readyA_iff.2 ⟨hiX, o, ho, fun e he hb => hI.sub _ (hdir e he hb)⟩
              rw [hrj] at this
              simpa using this
            subst hij
            rw [ho] at hoj
            cases hoj
            cases hall : ((List.filter (fun e => Nat.testBit done e && looks (opAt (xsOf P nt ops) e).op && !Nat.testBit ((aheads [] ops.toList).getD i 0) e) (List.range (xsOf P nt ops).length)).map (opAt (xsOf P nt ops))).all (again tY AY) with
            | false => rw [hall] at hev; cases hev
            | true =>
              rw [hall] at hev
              simp only [cond_true] at hev
              refine inv_heavy hS hx hcall hI ho hmade h4 hdir h6 (fun e heb heX hlk hna => ?_) fun a' w' σ' hI' => ih _ _ c tY AY a' w' σ' idOf hI' h2 hev hcnt'
              rw [List.all_eq_true] at hall
              refine hall _ (List.mem_map.2 ⟨e, List.mem_filter.2 ⟨List.mem_range.2 (by simpa [xsOf] using heb), ?_⟩, rfl⟩)
              unfold inX at heX
              unfold ahead at hna
              rw [heX, hlk]
              simpa using hna
        · cases hev

theorem draw_sound (hmix : P.follows .mixedOrders = true) (hx : Ext P) {call : Caller} (hcall : CallOk P call) {nt id : Nat} {ops : Array Oper} {l : List (XOper × List XOper)} (hcd : compDraw P nt ops = .draw l) {σ : Sg} {t t' : Tm} {a : Act} {A A' : H} {w : World} (h : evalDraw call l t A = some (t', A')) (ht : TRel σ nt t a) (hr : Rel P σ A w) {Q : Exit → Act → World → Prop} (hq : ∀ a1 w1 σ1, TRel σ1 nt t' a1 → Rel P σ1 A' w1 → Fr σ A w σ1 A' w1 → a1.defers = a.defers → Q .normal a1 w1) : (Code.region id ops true).wp P Q a w := by
  unfold compDraw at hcd
  dsimp only at hcd
  generalize hc : orderA (ops.toList.map edgeBits) (ops.toList.map (compOper P nt ops)) ops.toList.length 0 = c at hcd
  cases hok : (okOrder (ops.toList.map edgeBits) (ops.toList.map (compOper P nt ops)) 0 c && okPairs (ops.toList.map (·.dst)) (ops.toList.map (slotsA ops)) (aheads [] ops.toList) ops.toList.length && okLooks (ops.toList.map (compOper P nt ops)) (ops.toList.map (·.dst)) (ops.toList.map (slotsA ops)) (aheads [] ops.toList) ops.toList.length) with
  | false => rw [hok] at hcd; cases hcd
  | true =>
    rw [hok] at hcd
    simp only [cond_true, XCode.draw.injEq] at hcd
    subst hcd
    rw [Bool.and_eq_true, Bool.and_eq_true] at hok
    obtain ⟨⟨h1, h2⟩, h3⟩ := hok
    refine wp_region_any hmix ?_
    have n0 : ∀ i, ¬ inX 0 i := fun i h => by simp [inX] at h
    refine draw_run (static_of h2 h3) hx hcall (t0 := t) (σ0 := σ) (A0 := A) (w0 := w) (ds := a.defers) h1 hq ops.size (Array.replicate ops.size false) 0 c t A a w.drew σ (fun _ => none) ?_ h1 h ?_
    · have nL : ∀ i, ¬ inL (Array.replicate ops.size false) i := fun i h => by
        unfold inL at h
        simp only [Array.getD_eq_getD_getElem?, Array.getElem?_replicate] at h
        split at h <;> simp at h
      exact ⟨by simp, fun i h => absurd h (nL i), fun i h => absurd h (n0 i), fun j o _ h => absurd h (nL j), fun j o _ h => absurd h (n0 j), ht.size, rfl, hr.drew, (Fr.refl σ A w).drew, fun _ _ => rfl, fun s e _ h => absurd h (n0 e), fun s hs _ => ht.rel s hs, fun e h => absurd h (n0 e), fun e _ _ h => absurd h (n0 e), fun e i h => (by cases h), fun e o h => absurd h (n0 e)⟩
    · refine Nat.le_trans List.countP_le_length ?_
      simp
end
end Go.Ab
