/- Runs with told operations and told functions, over the seat's program. -/
/- States of the interpreter that stand in the world, one behind the other. -/
/- What the interpreter knows of a block, cell by cell; its states. -/
import Derived.Test.YthlpiipobcomfaaGreatDoorQxPut
import Derived.Test.YthlpiipobcomfaaGreatDoorAcSay
import Derived.Test.YthlpiipobcomfaaGreatDoorQxEng
import Derived.Test.YthlpiipobcomfaaGreatDoorAcHoare
set_option linter.all false
set_option linter.unusedSectionVars false
set_option linter.unusedVariables false
set_option linter.unusedSimpArgs false
namespace Go.Proofs.YthlpiipobcomfaaGreatDoor
open Go Go.Ab Go.Proofs Go.RowKit
set_option maxRecDepth 1000000
section
variable [Kn] (T : Tolds)
noncomputable def codeT (f : FuncId) : Option XFun := match lookT f T with
  | some l => some (.nat (memA tabs l))
  | none => comp f
noncomputable def natsT (f : FuncId) : Option KNat := match lookT f T with
  | some l => some (plainK (memA tabs l))
  | none => none
theorem codeT_body : CodeOf Tryz.prog (codeT T) := fun f x h hn => by
  unfold codeT at h
  split at h
  · cases h; exact absurd rfl (hn _)
  · rw [← comp_eq]; exact h
theorem codeT_nat [Unk] [KnOk] (hT : AllTold Tryz.prog tabs T) : NatOk Tryz.prog (codeT T) := fun f g h => by
  unfold codeT at h
  split at h
  · rename_i l hl
    cases h
    obtain ⟨h1, h2⟩ := lookT_ok hT hl
    refine ⟨h1, fun call hcall hD args A r A' hm σ w argsc hr ha => ?_⟩
    exact mem_ok count tabs_flat h2 hm hr ha
  · rw [comp_eq] at h; exact absurd h comp_no_nat
theorem codeT_mono : NatMono (codeT T) := fun f g h c c' hc args A r hr => by
  unfold codeT at h
  split at h
  · cases h; rw [memA_any tabs _ c' c]; exact hr
  · rw [comp_eq] at h; exact absurd h comp_no_nat
theorem natsT_ok : NatsOk (codeT T) (natsT T) := fun f gk h => by
  unfold natsT at h
  split at h
  · rename_i l hl
    cases h
    refine ⟨memA tabs l, by unfold codeT; rw [hl], fun c hc args A k hk => plainK_ok (memA_any tabs l) hk⟩
  · cases h
theorem quickT {n : Nat} {f : FuncId} {args : List Value} {A : H} {k : Value → H → Bool} (h : kF (codeT T) (natsT T) n f args A k = true) : ∃ m v A', evalF (codeT T) m f args A = some (v, A') ∧ k v A' = true := kF_ok (codeT_mono T) (natsT_ok T) n f args A k h
end
/-- What a run says that was told of operations and of functions. -/
theorem say_of (I : Unk) {E : List Ent} {T : Tolds} (hE : AllTrue E) (hT : letI : Kn := knT E; haveI : KnOk := knT_ok hE; AllTold Tryz.prog tabs T) {f : FuncId} {args argsc : List Value} {v c : Value}
    (hrun : (letI : Kn := knT E; kF (codeT T) (natsT T) 3000 f args (otabH tabs) (fun r _ => eqx 3 r v)) = true) (ha : ∀ σ, LRel σ args argsc) (hv : Den v c) {w : World} (hL : Laid w) :
    Calls Tryz.prog f argsc.toArray w fun e w' => e = .returned c ∧ Below w.heap.size w w' := by
  letI : Kn := knT E
  haveI : KnOk := knT_ok hE
  obtain ⟨m, r, A', h1, h2⟩ := quickT T hrun
  have e := (eqx_eq 3 _ _ h2).1
  subst e
  obtain ⟨σ0, hr⟩ := hL I (knT E) (knT_ok hE)
  refine ((evalF_ok mixed ext (codeT_body T) (codeT_nat T hT) m).calls _ _ _ _ _ h1 _ w argsc hr (ha _)).mono ?_
  rintro e w' ⟨rc, σ', rfl, k1, k2, k3⟩
  refine ⟨by rw [hv σ' rc k1], k3.os, k3.tape, k3.output, k3.size, fun b hb => k3.frame b hb fun ho => ?_⟩
  obtain ⟨id, p, o, _, _, hg, hown⟩ := ho
  rw [otabH_ro _ hg] at hown
  cases hown
/-- A function's contract, as it is told. -/
theorem tell1 (I : Unk) (K : Kn) (hk : @KnOk K I) {f : FuncId} {args argsc : List Value} {v c : Value} (ha : ∀ σ l, @LRel I σ args l → l = argsc) (hv : @StandsV I v c) (h : ∀ w, Laid w → Calls Tryz.prog f argsc.toArray w fun e w' => e = .returned c ∧ Below w.heap.size w w') :
    @Right I Tryz.prog tabs f (args, v) := fun σ W hr l hl => by
  rw [ha σ l hl]
  refine (h W (@laid_rel I σ W hr)).mono ?_
  rintro e w' ⟨rfl, hb⟩
  exact ⟨c, rfl, fun τ => hv τ, hb⟩
section
variable [Unk]
theorem vagg {σ : Ab.Sg} {l l' : List Value} (h : LRel σ l l') : VRel σ (.agg ⟨l⟩) (.agg ⟨l'⟩) := .agg _ _ h.len h.get
theorem vtup {σ : Ab.Sg} {l l' : List Value} (h : LRel σ l l') : VRel σ (.tuple ⟨l⟩) (.tuple ⟨l'⟩) := .tuple _ _ h.len h.get
inductive DenL : List Value → List Value → Prop where
  | nil : DenL [] []
  | cons {a c : Value} {l m : List Value} (h : Den a c) (t : DenL l m) : DenL (a :: l) (c :: m)
theorem DenL.eq {l m : List Value} (h : DenL l m) : ∀ σ l', LRel σ l l' → l' = m := by
  induction h with
  | nil => intro σ l' h; have := h.len; cases l' with
    | nil => rfl
    | cons _ _ => simp at this
  | cons h t ih =>
    intro σ l' hl
    obtain ⟨v, r, rfl, h1, h2⟩ := hl.cons_inv
    rw [h σ v h1, ih σ r h2]
theorem den_agg {l m : List Value} (h : DenL l m) : Den (.agg ⟨l⟩) (.agg ⟨m⟩) := fun σ v' hv => by
  cases hv with
  | agg _ as' h1 h2 =>
    have := h.eq σ as'.toList ⟨by simpa using h1, h2⟩
    cases as'; simp_all
theorem den_tup {l m : List Value} (h : DenL l m) : Den (.tuple ⟨l⟩) (.tuple ⟨m⟩) := fun σ v' hv => by
  cases hv with
  | tuple _ as' h1 h2 =>
    have := h.eq σ as'.toList ⟨by simpa using h1, h2⟩
    cases as'; simp_all
theorem st_agg {l m : List Value} (h : ∀ σ, LRel σ l m) : StandsV (.agg ⟨l⟩) (.agg ⟨m⟩) := fun σ => vagg (h σ)
theorem st_tup {l m : List Value} (h : ∀ σ, LRel σ l m) : StandsV (.tuple ⟨l⟩) (.tuple ⟨m⟩) := fun σ => vtup (h σ)
end
end Go.Proofs.YthlpiipobcomfaaGreatDoor
namespace Go.Proofs.YthlpiipobcomfaaGreatDoor
open Go Go.Ab Go.Proofs Go.RowKit
set_option maxRecDepth 1000000
/-- A state that stands in the world; what it owns is new since W0; values, and what they are. -/
structure AtL (W0 : World) (I : Unk) (A : H) (vs cs : List Value) (w : World) : Prop where
  st : ∃ σ, @LRel I σ vs cs ∧ @Rel I Tryz.prog σ A w ∧ ∀ b, Owned σ A b → W0.heap.size ≤ b
  below : Below W0.heap.size W0 w
theorem closedL_ok {I I' : Unk} {n : Nat} {σ : Ab.Sg} : ∀ {vs cs : List Value}, vs.all (closed n) = true → @LRel I σ vs cs → @LRel I' (cutS n σ) vs cs
  | [], cs, _, h => by
    have := @LRel.len I _ _ _ h
    cases cs with
    | nil => exact @LRel.nil I' _
    | cons _ _ => simp at this
  | a :: vs, cs, ha, h => by
    rw [List.all_cons, Bool.and_eq_true] at ha
    obtain ⟨v, r, rfl, h1, h2⟩ := @LRel.cons_inv I _ _ _ _ h
    exact @LRel.cons I' _ _ _ _ _ (closed_ok ha.1 h1) (closedL_ok ha.2 h2)
theorem at_start {W0 w : World} (hL : Laid w) (hb : Below W0.heap.size W0 w) (I : Unk) : AtL W0 I (ofL tabs [] 4) [] [] w := by
  obtain ⟨σ, hr⟩ := hL I knNone knNone_ok
  refine ⟨⟨cutS 4 σ, @LRel.nil I _, reshape (I := I) (PL := []) count tabs_flat (fun p hp => by cases hp) (by decide) hr (by kernel_rfl) rfl, fun b ho => ?_⟩, hb⟩
  have := owned_cut (PL := []) (A := otabH tabs) (L := []) (n := 4) (tabs := tabs) rfl ho
  obtain ⟨id, p, o, _, _, hg, hown⟩ := this
  rw [oget, Option.map_eq_some_iff] at hg
  obtain ⟨x, _, rfl⟩ := hg
  cases hown
theorem AtL.mono {W0 : World} {I : Unk} {A : H} {vs cs : List Value} {w w' : World} (h : AtL W0 I A vs cs w) (hb : Below w.heap.size w w') : AtL W0 I A vs cs w' := by
  obtain ⟨σ, h1, h2, h3⟩ := h.st
  letI : Unk := I
  letI : Kn := knNone
  haveI : KnOk := knNone_ok
  exact ⟨⟨σ, h1, (Rel.below h2 hb).1, h3⟩, below_step h.below hb (Nat.le_refl _)⟩
theorem AtL.laid {W0 : World} {I : Unk} {L : Blks} {n : Nat} {vs cs : List Value} {w : World} (h : AtL W0 I (ofL tabs L n) vs cs w) (hL : Laid W0) : Laid w := hL.of h.below
/-- A call from such a state. -/
theorem at_run {W0 : World} {I I' : Unk} {A : H} {vs cs vs' cs' : List Value} {w : World} (h : AtL W0 I A vs cs w) {E : List Ent} {T : Tolds} (hE : @AllTrue I E)
    (hT : letI : Unk := I; letI : Kn := knT E; haveI : KnOk := knT_ok hE; AllTold Tryz.prog tabs T) {f : FuncId} {args argsc : List Value} {vr c : Value} {L : Blks} {n : Nat} {PL : List (Value × Value)}
    (hrun : (letI : Kn := knT E; kF (codeT T) (natsT T) 5000 f args A (fun r A' => eqx 3 r vr && (tabsIn tabs 0 A' && fitL PL 4 n A' L))) = true)
    (ha : ∀ σ, @LRel I σ vs cs → @LRel I σ args argsc) (hk : ∀ σ, @LRel I σ vs cs → @LRel I σ vs' cs') (hcl : vs'.all (closed n) = true) (hn : 4 ≤ n) (hPL : Turns I I' PL) (hv : @Den I vr c) :
    Calls Tryz.prog f argsc.toArray w fun e w' => e = .returned c ∧ AtL W0 I' (ofL tabs L n) vs' cs' w' := by
  letI : Unk := I
  letI : Kn := knT E
  haveI : KnOk := knT_ok hE
  obtain ⟨σ, h1, h2, h3⟩ := h.st
  obtain ⟨m, r, A', e1, e2⟩ := quickT T hrun
  rw [Bool.and_eq_true, Bool.and_eq_true] at e2
  obtain ⟨q0, q1, q2⟩ := e2
  have e := (eqx_eq 3 _ _ q0).1
  subst e
  refine ((evalF_ok mixed ext (codeT_body T) (codeT_nat T hT) m).calls _ _ _ _ _ e1 σ w argsc h2 (ha σ h1)).mono ?_
  rintro e w' ⟨rc, σ', rfl, k1, k2, k3⟩
  obtain ⟨b1, b2⟩ := below_fr h.below h3 k3
  refine ⟨by rw [hv σ' rc k1], ⟨cutS n σ', closedL_ok hcl (LRel.mono k3.ext (hk σ h1)), reshape count tabs_flat hPL (by exact hn) k2 q1 q2, fun b ho => b2 b (owned_cut q2 ho)⟩, b1⟩
/-- The same, of an answer that has places. -/
theorem at_runP {W0 : World} {I I' : Unk} {A : H} {vs cs vs' cs' : List Value} {w : World} (h : AtL W0 I A vs cs w) {E : List Ent} {T : Tolds} (hE : @AllTrue I E)
    (hT : letI : Unk := I; letI : Kn := knT E; haveI : KnOk := knT_ok hE; AllTold Tryz.prog tabs T) {f : FuncId} {args argsc : List Value} {vr : Value} {L : Blks} {n : Nat} {PL : List (Value × Value)}
    (hrun : (letI : Kn := knT E; kF (codeT T) (natsT T) 5000 f args A (fun r A' => same1 r vr && (tabsIn tabs 0 A' && fitL PL 4 n A' L))) = true)
    (ha : ∀ σ, @LRel I σ vs cs → @LRel I σ args argsc) (hk : ∀ σ, @LRel I σ vs cs → @LRel I σ vs' cs') (hcl : vs'.all (closed n) = true) (hn : 4 ≤ n) (hPL : Turns I I' PL) (hv : closed n vr = true) :
    Calls Tryz.prog f argsc.toArray w fun e w' => ∃ rc, e = .returned rc ∧ AtL W0 I' (ofL tabs L n) (vr :: vs') (rc :: cs') w' := by
  letI : Unk := I
  letI : Kn := knT E
  haveI : KnOk := knT_ok hE
  obtain ⟨σ, h1, h2, h3⟩ := h.st
  obtain ⟨m, r, A', e1, e2⟩ := quickT T hrun
  rw [Bool.and_eq_true, Bool.and_eq_true] at e2
  obtain ⟨q0, q1, q2⟩ := e2
  have e := same1_eq q0
  subst e
  refine ((evalF_ok mixed ext (codeT_body T) (codeT_nat T hT) m).calls _ _ _ _ _ e1 σ w argsc h2 (ha σ h1)).mono ?_
  rintro e w' ⟨rc, σ', rfl, k1, k2, k3⟩
  obtain ⟨b1, b2⟩ := below_fr h.below h3 k3
  exact ⟨rc, rfl, ⟨cutS n σ', @LRel.cons I' _ _ _ _ _ (closed_ok hv k1) (closedL_ok hcl (LRel.mono k3.ext (hk σ h1))), reshape count tabs_flat hPL (by exact hn) k2 q1 q2, fun b ho => b2 b (owned_cut q2 ho)⟩, b1⟩
/-- The same state, seen otherwise. -/
theorem at_turn {W0 : World} {I I' : Unk} {A : H} {vs cs vs' cs' : List Value} {w : World} (h : AtL W0 I A vs cs w) {L : Blks} {n : Nat} {PL : List (Value × Value)}
    (hf : (tabsIn tabs 0 A && fitL PL 4 n A L) = true) (hk : ∀ σ, @LRel I σ vs cs → @LRel I σ vs' cs') (hcl : vs'.all (closed n) = true) (hn : 4 ≤ n) (hPL : Turns I I' PL) : AtL W0 I' (ofL tabs L n) vs' cs' w := by
  obtain ⟨σ, h1, h2, h3⟩ := h.st
  rw [Bool.and_eq_true] at hf
  exact ⟨⟨cutS n σ, closedL_ok hcl (hk σ h1), reshape count tabs_flat hPL (by exact hn) h2 hf.1 hf.2, fun b ho => h3 b (owned_cut hf.2 ho)⟩, h.below⟩
end Go.Proofs.YthlpiipobcomfaaGreatDoor
namespace Go.Proofs.YthlpiipobcomfaaGreatDoor
open Go Go.Ab Go.Proofs Go.RowKit
set_option maxRecDepth 1000000
def cellsAt (A : H) (i : Nat) : Option (List Value) := match A.get i with
  | some (.cells false _ c) => some c
  | _ => none
section
variable [Unk] {σ : Ab.Sg} {A : H} {w : World}
theorem cellsAt_get {i : Nat} {c : List Value} (h : cellsAt A i = some c) : ∃ e, A.get i = some (.cells false e c) := by
  unfold cellsAt at h
  split at h
  · rename_i e c' hg; cases h; exact ⟨e, hg⟩
  · cases h
theorem rel_cell (hr : Rel Tryz.prog σ A w) {i : Nat} {c : List Value} {p : Pl} (h : cellsAt A i = some c) (hp : σ i = some p) (j : Nat) {v : Value} (hv : c[j]? = some v) :
    ∃ v', w.cell? ⟨p.b, p.sh + j, none⟩ = some v' ∧ VRel σ v v' ∧ w.frozen? ⟨p.b, p.sh + j, none⟩ = false := by
  obtain ⟨e, hg⟩ := cellsAt_get h
  obtain ⟨cur, e', fz, h1, h2, h3, _, _, h6⟩ := hr.obj i _ p hg hp
  have hj : j < c.length := (List.getElem?_eq_some_iff.1 hv).1
  have hlt : p.sh + j < cur.size := by omega
  have hc : cur[p.sh + j]? = some cur[p.sh + j] := Array.getElem?_eq_getElem hlt
  refine ⟨cur[p.sh + j], by simp [World.cell?, h1, hc], h3 j v _ hv hc, ?_⟩
  have hu := (h6 rfl).1 (p.sh + j) hlt
  simp only [World.frozen?, h1]
  simpa using hu
theorem own_of {i : Nat} {c : List Value} (h : cellsAt A i = some c) : ∃ o, A.get i = some o ∧ o.own = true := by
  obtain ⟨e, hg⟩ := cellsAt_get h
  exact ⟨_, hg, rfl⟩
theorem ne_of (hr : Rel Tryz.prog σ A w) {i j : Nat} {c d : List Value} {p q : Pl} (hi : cellsAt A i = some c) (hj : cellsAt A j = some d) (hp : σ i = some p) (hq : σ j = some q) (hn : (!Nat.beq i j) = true) : p.b ≠ q.b := by
  obtain ⟨o, h1, h2⟩ := own_of hi
  obtain ⟨o', h3, _⟩ := own_of hj
  exact hr.inj i j p q o o' (Nat.ne_of_beq_eq_false (by simpa using hn)) h1 h3 hp hq h2
theorem four_le (hr : Rel Tryz.prog σ A w) {i : Nat} {c : List Value} {p : Pl} (hi : cellsAt A i = some c) (hp : σ i = some p) (h4 : Nat.ble 4 i = true) (hg : ∀ g, g < 4 → (A.get g).isSome = true) : 4 ≤ p.b := by
  rcases Nat.lt_or_ge p.b 4 with h | h
  · exfalso
    obtain ⟨o, h1, h2⟩ := own_of hi
    obtain ⟨o', h3⟩ := Option.isSome_iff_exists.1 (hg p.b h)
    obtain ⟨q, k1, k2, _⟩ := hr.glob p.b (by rw [count]; exact h)
    have hle : 4 ≤ i := Nat.le_of_ble_eq_true h4
    exact hr.inj i p.b p q o o' (by omega) h1 h3 hp k1 h2 k2.symm
  · exact h
end
/-- A state of the interpreter that stands in the world; what it owns is new since W0. -/
structure At (W0 : World) (k : Value → H → Bool) (v : Value) (w : World) : Prop where
  st : ∃ σ va A, @VRel (bitsI 0) σ va v ∧ @Rel (bitsI 0) Tryz.prog σ A w ∧ k va A = true ∧ ∀ b, Owned σ A b → W0.heap.size ≤ b
  below : Below W0.heap.size W0 w
theorem At.mono {W0 : World} {k : Value → H → Bool} {v : Value} {w w' : World} (h : At W0 k v w) (hb : Below w.heap.size w w') : At W0 k v w' := by
  obtain ⟨σ, va, A, h1, h2, h3, h4⟩ := h.st
  letI : Unk := bitsI 0
  letI : Kn := knNone
  haveI : KnOk := knNone_ok
  exact ⟨⟨σ, va, A, h1, (Rel.below h2 hb).1, h3, h4⟩, below_step h.below hb (Nat.le_refl _)⟩
end Go.Proofs.YthlpiipobcomfaaGreatDoor
