/- A run's ways by what is known of unknown bits: pairs of bits that are alike, and lists of pairs not all of which are. -/
/- Functions of one text whose answers are told way by way, for whatever bits the text has. -/
import Derived.Test.YtcghikpogkigcaaGreatDoorAbMem
import Derived.Test.YtcghikpogkigcaaGreatDoorAbOps
set_option linter.all false
set_option linter.unusedSectionVars false
set_option linter.unusedVariables false
set_option linter.unusedSimpArgs false
namespace Go.Ab
open Go
abbrev PairL := List (Nat × Nat)
def eqP : PairL → PairL → Bool
  | [], [] => true
  | p :: l, q :: m => Nat.beq p.1 q.1 && Nat.beq p.2 q.2 && eqP l m
  | _, _ => false
def hasP (D : PairL) (q : Nat × Nat) : Bool := D.any fun p => (Nat.beq p.1 q.1 && Nat.beq p.2 q.2) || (Nat.beq p.1 q.2 && Nat.beq p.2 q.1)
def lenLe : PairL → PairL → Bool
  | [], _ => true
  | _ :: l, _ :: m => lenLe l m
  | _ :: _, [] => false
/-- Of the lists of which not all pairs are alike: does one say so of D? -/
def askN (neg : List PairL) (D : PairL) : Option Bool := bif neg.any (fun C => lenLe C D && (eqP C D || C.all (hasP D))) then some false else none
abbrev Step := PairL × Bool
def subT (D : PairL) : Tr Nat := D.foldl (fun t p => bif Nat.blt 1 p.1 then t.put p.1 (some p.2) else t.put p.2 (some p.1)) .nil
def substC (t : Tr Nat) (c : Nat) : Nat := (t.get c).getD c
def normD (t : Tr Nat) (C : PairL) : PairL := dropEq (C.map fun p => (substC t p.1, substC t p.2))
def normN (t : Tr Nat) (neg : List PairL) : List PairL := (neg.map (normD t)).filter fun C => !clash C
/-- One bit that is not another, which is known: so it is the other one. -/
def unitOf : PairL → Option PairL
  | [p] => bif Nat.beq p.2 0 then some [(p.1, 1)] else bif Nat.beq p.2 1 then some [(p.1, 0)] else bif Nat.beq p.1 0 then some [(p.2, 1)] else bif Nat.beq p.1 1 then some [(p.2, 0)] else none
  | _ => none
/-- What follows of that. -/
def closeS : Nat → List Nat → List PairL → List Nat × List PairL
  | 0, cs, neg => (cs, neg)
  | n + 1, cs, neg => match neg.findSome? unitOf with
    | some E => closeS n (cs.map (substC (subT E))) (normN (subT E) neg)
    | none => (cs, neg)
/-- The codes of what is unknown, and what is known not to hold, behind a way's steps. -/
def walkS : List Step → List Nat → List PairL → List Nat × List PairL
  | [], cs, neg => (cs, neg)
  | (D, true) :: r, cs, neg =>
    let q := closeS 40 (cs.map (substC (subT D))) (normN (subT D) neg)
    walkS r q.1 q.2
  | (D, false) :: r, cs, neg =>
    let q := closeS 40 cs (D :: neg)
    walkS r q.1 q.2
/-- A byte of eight bits. -/
def charOf (l : List Nat) : Value := bif knownL l then .int .u8 (.ofNat (maxL l)) else .complex .f32 12 (pkB l)
def charsL : Nat → List Nat → List Value
  | 0, _ => []
  | n + 1, cs => charOf (cs.take 8) :: charsL n (cs.drop 8)
/-- A text of n bytes of these bits. -/
def textV (n : Nat) (cs : List Nat) : Value := (mkStr (charsL n cs)).getD .nilIface

theorem cond_ofN {α : Type} {b : Bool} {x y : Option α} {v : α} (h : (bif b then x else y) = some v) (hy : y = none) : b = true ∧ x = some v := by
  cases b with
  | true => exact ⟨rfl, h⟩
  | false => rw [cond_false, hy] at h; cases h
theorem size_eqN (s : ByteArray) : s.size = (bytesOf s).length := by simp [bytesOf]
section
variable {bit : Nat → Bool}
theorem subT_ok : ∀ (D : PairL) (t : Tr Nat), HoldsD bit D → (∀ k c, t.get k = some c → bitV bit k = bitV bit c) → ∀ k c, (D.foldl (fun t p => bif Nat.blt 1 p.1 then t.put p.1 (some p.2) else t.put p.2 (some p.1)) t).get k = some c → bitV bit k = bitV bit c
  | [], t, _, h => h
  | p :: D, t, hd, h => by
    rw [List.foldl_cons]
    refine subT_ok D _ (fun q hq => hd q (by simp [hq])) ?_
    intro k c hk
    have hp := hd p (by simp)
    cases hb : Nat.blt 1 p.1 with
    | true =>
      rw [hb, cond_true, Tr.get_put] at hk
      split at hk
      · rename_i e; cases hk; rw [e]; exact hp
      · exact h k c hk
    | false =>
      rw [hb, cond_false, Tr.get_put] at hk
      split at hk
      · rename_i e; cases hk; rw [e]; exact hp.symm
      · exact h k c hk
theorem substC_ok {D : PairL} (hd : HoldsD bit D) (c : Nat) : bitV bit (substC (subT D) c) = bitV bit c := by
  unfold substC
  cases hg : (subT D).get c with
  | none => rfl
  | some k => exact (subT_ok D .nil hd (fun k c h => by cases h) c k hg).symm
theorem den_subst {D : PairL} (hd : HoldsD bit D) : ∀ l : List Nat, denL bit (l.map (substC (subT D))) = denL bit l
  | [] => rfl
  | c :: l => by
    show (bitV bit (substC (subT D) c)).toNat + 2 * denL bit (l.map _) = _
    rw [substC_ok hd, den_subst hd l]
    rfl
theorem normD_ok {D : PairL} (hd : HoldsD bit D) (C : PairL) : HoldsD bit (normD (subT D) C) ↔ HoldsD bit C := by
  unfold normD
  rw [dropEq_ok]
  constructor
  · intro h p hp
    have := h _ (List.mem_map.2 ⟨p, hp, rfl⟩)
    rwa [substC_ok hd, substC_ok hd] at this
  · intro h p hp
    obtain ⟨q, hq, rfl⟩ := List.mem_map.1 hp
    show bitV bit (substC _ q.1) = bitV bit (substC _ q.2)
    rw [substC_ok hd, substC_ok hd]
    exact h q hq
/-- What a way's steps say. -/
def HoldsS (bit : Nat → Bool) (p : List Step) : Prop := ∀ s ∈ p, (s.2 = true ↔ HoldsD bit s.1)
def NegOk (bit : Nat → Bool) (neg : List PairL) : Prop := ∀ C ∈ neg, ¬ HoldsD bit C
/-- The same bits, byte by byte. -/
def SameBits (bit : Nat → Bool) (cs ds : List Nat) : Prop := ∀ k n : Nat, denL bit ((cs.drop k).take n) = denL bit ((ds.drop k).take n)
theorem SameBits.trans {bit : Nat → Bool} {a b c : List Nat} (h : SameBits bit a b) (k : SameBits bit b c) : SameBits bit a c := fun x y => (h x y).trans (k x y)
theorem same_subst {D : PairL} (hd : HoldsD bit D) (cs : List Nat) : SameBits bit (cs.map (substC (subT D))) cs := fun k n => by rw [← List.map_drop, ← List.map_take, den_subst hd]
theorem normN_ok {D : PairL} (hd : HoldsD bit D) {neg : List PairL} (hn : NegOk bit neg) : NegOk bit (normN (subT D) neg) := by
  intro C hC
  unfold normN at hC
  obtain ⟨C0, h0, rfl⟩ := List.mem_map.1 (List.mem_filter.1 hC).1
  rw [normD_ok hd]
  exact hn C0 h0
theorem unitOf_ok {C E : PairL} (h : unitOf C = some E) (hn : ¬ HoldsD bit C) : HoldsD bit E := by
  unfold unitOf at h
  split at h
  · rename_i p
    have hp : bitV bit p.1 ≠ bitV bit p.2 := fun e => hn fun q hq => by rw [List.mem_singleton.1 hq]; exact e
    have flip : ∀ {x y : Bool}, x ≠ y → x = !y := by intro x y; cases x <;> cases y <;> simp
    cases h1 : Nat.beq p.2 0 with
    | true =>
      rw [h1] at h; cases h
      intro q hq
      rw [List.mem_singleton.1 hq]
      have := flip hp
      rw [beq_t h1] at this
      exact this
    | false =>
      rw [h1, cond_false] at h
      cases h2 : Nat.beq p.2 1 with
      | true =>
        rw [h2] at h; cases h
        intro q hq
        rw [List.mem_singleton.1 hq]
        have := flip hp
        rw [beq_t h2] at this
        exact this
      | false =>
        rw [h2, cond_false] at h
        cases h3 : Nat.beq p.1 0 with
        | true =>
          rw [h3] at h; cases h
          intro q hq
          rw [List.mem_singleton.1 hq]
          have := flip hp.symm
          rw [beq_t h3] at this
          exact this
        | false =>
          rw [h3, cond_false] at h
          cases h4 : Nat.beq p.1 1 with
          | true =>
            rw [h4] at h; cases h
            intro q hq
            rw [List.mem_singleton.1 hq]
            have := flip hp.symm
            rw [beq_t h4] at this
            exact this
          | false => rw [h4] at h; cases h
  · cases h
theorem closeS_ok : ∀ (n : Nat) (cs : List Nat) (neg : List PairL), NegOk bit neg → SameBits bit (closeS n cs neg).1 cs ∧ NegOk bit (closeS n cs neg).2
  | 0, cs, neg, hn => ⟨fun _ _ => rfl, hn⟩
  | n + 1, cs, neg, hn => by
    unfold closeS
    split
    · rename_i E hE
      obtain ⟨C, hC, hu⟩ := List.exists_of_findSome?_eq_some hE
      have hd := unitOf_ok hu (hn C hC)
      obtain ⟨h1, h2⟩ := closeS_ok n (cs.map (substC (subT E))) (normN (subT E) neg) (normN_ok hd hn)
      exact ⟨h1.trans (same_subst hd cs), h2⟩
    · exact ⟨fun _ _ => rfl, hn⟩
theorem closeS_len : ∀ (n : Nat) (cs : List Nat) (neg : List PairL), (closeS n cs neg).1.length = cs.length
  | 0, cs, neg => rfl
  | n + 1, cs, neg => by
    unfold closeS
    split
    · rw [closeS_len n, List.length_map]
    · rfl
theorem walkS_ok : ∀ (p : List Step) (cs : List Nat) (neg : List PairL), HoldsS bit p → NegOk bit neg → SameBits bit (walkS p cs neg).1 cs ∧ NegOk bit (walkS p cs neg).2
  | [], cs, neg, _, hn => ⟨fun _ _ => rfl, hn⟩
  | (D, true) :: r, cs, neg, hp, hn => by
    have hd : HoldsD bit D := (hp (D, true) (by simp)).1 rfl
    obtain ⟨k1, k2⟩ := closeS_ok 40 (cs.map (substC (subT D))) (normN (subT D) neg) (normN_ok hd hn)
    obtain ⟨h1, h2⟩ := walkS_ok r _ _ (fun s hs => hp s (by simp [hs])) k2
    exact ⟨h1.trans (k1.trans (same_subst hd cs)), h2⟩
  | (D, false) :: r, cs, neg, hp, hn => by
    have hd : ¬ HoldsD bit D := fun h => by have := (hp (D, false) (by simp)).2 h; cases this
    obtain ⟨k1, k2⟩ := closeS_ok 40 cs (D :: neg) (fun C hC => by
      rcases List.mem_cons.1 hC with rfl | hC
      · exact hd
      · exact hn C hC)
    obtain ⟨h1, h2⟩ := walkS_ok r _ _ (fun s hs => hp s (by simp [hs])) k2
    exact ⟨h1.trans k1, h2⟩
theorem eqP_eq : ∀ {C D : PairL}, eqP C D = true → C = D
  | [], [], _ => rfl
  | p :: l, q :: m, h => by
    rw [eqP, Bool.and_eq_true, Bool.and_eq_true] at h
    rw [eqP_eq h.2, Prod.ext (beq_t h.1.1) (beq_t h.1.2)]
theorem hasP_ok {D : PairL} {q : Nat × Nat} (h : hasP D q = true) (hd : HoldsD bit D) : bitV bit q.1 = bitV bit q.2 := by
  unfold hasP at h
  rw [List.any_eq_true] at h
  obtain ⟨p, hp, h⟩ := h
  rw [Bool.or_eq_true, Bool.and_eq_true, Bool.and_eq_true] at h
  have := hd p hp
  rcases h with h | h
  · rw [← beq_t h.1, ← beq_t h.2]; exact this
  · rw [← beq_t h.1, ← beq_t h.2]; exact this.symm
theorem askN_ok {neg : List PairL} (hn : NegOk bit neg) {D : PairL} {b : Bool} (h : askN neg D = some b) : b = true ↔ HoldsD bit D := by
  unfold askN at h
  obtain ⟨ha, hb⟩ := cond_ofN h rfl
  cases hb
  rw [List.any_eq_true] at ha
  obtain ⟨C, hC, ha⟩ := ha
  rw [Bool.and_eq_true, Bool.or_eq_true] at ha
  simp only [Bool.false_eq_true, false_iff]
  intro hd
  apply hn C hC
  rcases ha.2 with h1 | h1
  · rw [eqP_eq h1]; exact hd
  · intro q hq
    exact hasP_ok (List.all_eq_true.1 h1 q hq) hd
end
/-- A bit of the length of the text 7000, as it is known. -/
def lenC (cs : List Nat) (c : Nat) : Nat := bif Nat.ble 40002 c && Nat.blt c 40065 then cs.getD (Nat.sub c 40002) 0 else c
def askL (cs : List Nat) (neg : List PairL) (D : PairL) : Option Bool :=
  let E := dropEq (D.map fun p => (lenC cs p.1, lenC cs p.2))
  bif clash E then some false else match E with
  | [] => some true
  | p :: r => askN neg (p :: r)
theorem askL_ok {bit : Nat → Bool} {cs : List Nat} {neg : List PairL} (hc : ∀ j, j < 63 → bitV bit (cs.getD j 0) = bitV bit (40002 + j)) (hn : NegOk bit neg) {D : PairL} {b : Bool} (h : askL cs neg D = some b) : b = true ↔ HoldsD bit D := by
  have hl : ∀ c, bitV bit (lenC cs c) = bitV bit c := by
    intro c
    unfold lenC
    cases hb : (Nat.ble 40002 c && Nat.blt c 40065) with
    | false => rfl
    | true =>
      rw [Bool.and_eq_true] at hb
      have h1 := ble_t hb.1
      have h2 := blt_t hb.2
      rw [cond_true]
      show bitV bit (cs.getD (c - 40002) 0) = _
      rw [hc _ (by omega), show 40002 + (c - 40002) = c by omega]
  have hd : HoldsD bit (dropEq (D.map fun p => (lenC cs p.1, lenC cs p.2))) ↔ HoldsD bit D := by
    rw [dropEq_ok]
    constructor
    · intro h p hp
      have := h _ (List.mem_map.2 ⟨p, hp, rfl⟩)
      rwa [hl, hl] at this
    · intro h p hp
      obtain ⟨q, hq, rfl⟩ := List.mem_map.1 hp
      show bitV bit (lenC cs q.1) = bitV bit (lenC cs q.2)
      rw [hl, hl]
      exact h q hq
  rw [← hd]
  unfold askL at h
  simp only at h
  generalize dropEq (D.map fun p => (lenC cs p.1, lenC cs p.2)) = E at h ⊢
  cases hx : clash E with
  | true => rw [hx] at h; cases h; simp [clash_ok (bit := bit) hx]
  | false =>
    rw [hx, cond_false] at h
    split at h
    · cases h; simp [HoldsD]
    · exact askN_ok hn h
theorem take1 {l : List Nat} {j x : Nat} (h : l[j]? = some x) : (l.drop j).take 1 = [x] := by
  obtain ⟨hlt, e⟩ := List.getElem?_eq_some_iff.1 h
  rw [List.drop_eq_getElem_cons hlt, e]
  rfl
@[reducible] def knL (cs : List Nat) (neg : List PairL) : Kn := ⟨askL cs neg⟩
theorem knL_ok [Unk] {cs : List Nat} {neg : List PairL} (hc : SameBits Unk.bit cs (lenBits 7000)) (hlen : cs.length = 63) (h : NegOk Unk.bit neg) : @KnOk (knL cs neg) _ := @KnOk.mk (knL cs neg) _ (fun _ _ hh => askL_ok (fun j hj => by
  have := hc j 1
  have e1 : (cs.drop j).take 1 = [cs.getD j 0] := take1 (by rw [List.getD_eq_getElem?_getD, List.getElem?_eq_getElem (by omega)]; rfl)
  have e2 : ((lenBits 7000).drop j).take 1 = [40002 + j] := take1 (by
    unfold lenBits
    rw [List.getElem?_map, List.getElem?_range hj]
    show some (40002 + (64 * (7000 % 100) + j)) = _
    rw [show 64 * (7000 % 100) + j = j by omega])
  rw [e1, e2] at this
  apply bool_nat
  simpa [denL] using this) h hh)
@[reducible] def knN (neg : List PairL) : Kn := ⟨askN neg⟩
theorem knN_ok [Unk] {neg : List PairL} (h : NegOk Unk.bit neg) : @KnOk (knN neg) _ := @KnOk.mk (knN neg) _ (fun _ _ hh => askN_ok h hh)
section
variable [Unk]
theorem charOf_rel {l : List Nat} {b : UInt8} (hl : l.length = 8) (hc : l.all (Nat.blt · 65536) = true) (h : denL Unk.bit l = b.toNat) : CharRel (charOf l) b := by
  unfold charOf
  cases hk : knownL l with
  | true =>
    refine .inl ?_
    simp only [cond_true, byteV, Value.int.injEq, true_and]
    rw [← denL_known (bit := Unk.bit) l hk, h]
  | false =>
    refine .inr (.inr ⟨_, rfl, ?_⟩)
    have := un_pk l hc
    rw [hl] at this
    rw [this, h]
/-- A text's bits are those of the codes. -/
def TextBits (bit : Nat → Bool) (cs : List Nat) (s : ByteArray) : Prop := cs.length = 8 * s.size ∧ ∀ j b, (bytesOf s)[j]? = some b → denL bit ((cs.drop (8 * j)).take 8) = b.toNat
theorem charsL_rel : ∀ (bs : List UInt8) (cs : List Nat), cs.all (Nat.blt · 65536) = true → cs.length = 8 * bs.length → (∀ j b, bs[j]? = some b → denL Unk.bit ((cs.drop (8 * j)).take 8) = b.toNat) → CRel (charsL bs.length cs) bs
  | [], cs, _, _, _ => trivial
  | b :: bs, cs, hc, hl, h => by
    rw [List.length_cons] at hl
    refine ⟨charOf_rel (by rw [List.length_take]; omega) ?_ (by have := h 0 b rfl; simpa using this), charsL_rel bs (cs.drop 8) ?_ (by rw [List.length_drop]; omega) fun j c hj => ?_⟩
    · rw [List.all_eq_true] at hc ⊢
      exact fun x hx => hc x (List.mem_of_mem_take hx)
    · rw [List.all_eq_true] at hc ⊢
      exact fun x hx => hc x (List.mem_of_mem_drop hx)
    · have := h (j + 1) c (by simpa using hj)
      rw [List.drop_drop]
      rw [show 8 + 8 * j = 8 * (j + 1) by omega]
      exact this
theorem textV_rel {σ : Sg} {s : ByteArray} {cs : List Nat} {v : Value} (hc : cs.all (Nat.blt · 65536) = true) (h : TextBits Unk.bit cs s) (hv : mkStr (charsL s.size cs) = some v) : VRel σ v (.string s) := by
  have hs := size_eqN s
  have := mkStr_rel (σ := σ) hv (by rw [hs]; exact charsL_rel (bytesOf s) cs hc (by rw [h.1, hs]) h.2)
  have e : ofBytes (bytesOf s) = s := rfl
  rwa [e] at this
theorem TextBits.walk {bit : Nat → Bool} {cs ds : List Nat} {s : ByteArray} (h : TextBits bit ds s) (hl : cs.length = ds.length) (hb : SameBits bit cs ds) : TextBits bit cs s :=
  ⟨hl.trans h.1, fun j b hj => (hb _ _).trans (h.2 j b hj)⟩
end
theorem walkS_len : ∀ (p : List Step) (cs : List Nat) (neg : List PairL), (walkS p cs neg).1.length = cs.length
  | [], _, _ => rfl
  | (D, true) :: r, cs, neg => by
    simp only [walkS]
    rw [walkS_len r, closeS_len, List.length_map]
  | (D, false) :: r, cs, neg => by
    simp only [walkS]
    rw [walkS_len r, closeS_len]
/-- The codes of a text's bits, from the o-th on. -/
def codes0 (o n : Nat) : List Nat := (List.range (8 * n)).map fun i => Nat.add i (Nat.add o 2)
def bitsOfS (o : Nat) (s : ByteArray) (i : Nat) : Bool := (((bytesOf s).getD ((i - o) / 8) 0).toNat).testBit ((i - o) % 8)
theorem codes0_bits {bit : Nat → Bool} {o : Nat} {s : ByteArray} (h : ∀ i, i < 8 * s.size → bit (o + i) = bitsOfS o s (o + i)) : TextBits bit (codes0 o s.size) s := by
  refine ⟨by simp [codes0], fun j b hj => ?_⟩
  have hlt : j < s.size := by rw [size_eqN]; exact (List.getElem?_eq_some_iff.1 hj).1
  apply Nat.eq_of_testBit_eq
  intro i
  rw [test_den]
  by_cases hi : i < 8
  · have e : (((codes0 o s.size).drop (8 * j)).take 8).getD i 0 = 8 * j + i + (o + 2) := by
      rw [List.getD_eq_getElem?_getD, List.getElem?_take, if_pos hi, List.getElem?_drop]
      unfold codes0
      rw [List.getElem?_map, List.getElem?_range (by omega)]
      rfl
    rw [e]
    unfold bitV
    rw [if_neg (by omega), if_neg (by omega), show 8 * j + i + (o + 2) - 2 = o + (8 * j + i) by omega, h _ (by omega)]
    unfold bitsOfS
    rw [show (o + (8 * j + i) - o) / 8 = j by omega, show (o + (8 * j + i) - o) % 8 = i by omega, List.getD_eq_getElem?_getD, hj]
    rfl
  · have e : (((codes0 o s.size).drop (8 * j)).take 8).getD i 0 = 0 := by
      rw [List.getD_eq_getElem?_getD, List.getElem?_take, if_neg hi]
      rfl
    rw [e, bitV0]
    exact (Nat.testBit_lt_two_pow (Nat.lt_of_lt_of_le b.toNat_lt (Nat.pow_le_pow_right (n := 2) (by decide) (by omega : 8 ≤ i)))).symm
/-- All ways that begin with p. -/
theorem ways_node {bit : Nat → Bool} {Q : Prop} (p : List Step) (D : PairL) (h1 : HoldsS bit (p ++ [(D, true)]) → Q) (h0 : HoldsS bit (p ++ [(D, false)]) → Q) : HoldsS bit p → Q := by
  intro hp
  by_cases hd : HoldsD bit D
  · refine h1 fun s hs => ?_
    rcases List.mem_append.1 hs with hs | hs
    · exact hp s hs
    · rw [List.mem_singleton.1 hs]; simp [hd]
  · refine h0 fun s hs => ?_
    rcases List.mem_append.1 hs with hs | hs
    · exact hp s hs
    · rw [List.mem_singleton.1 hs]; simp [hd]
end Go.Ab
namespace Go.Ab
open Go Go.RowKit

/-! ### Bits put in the place of others -/
/-- The place's bit, out of N's digits. -/
def thC (N m c : Nat) : Nat := bif Nat.blt c 2 then c else bif Nat.blt (Nat.sub c 2) m then Nat.mod (Nat.div N (Nat.pow 65536 (Nat.sub c 2))) 65536 else c
def thD (N m : Nat) (D : PairL) : PairL := D.map fun p => (thC N m p.1, thC N m p.2)
def thL (g : Value → Option Value) : List Value → Option (List Value)
  | [] => some []
  | v :: l => (g v).bind fun w => (thL g l).map (w :: ·)
/-- A byte. -/
def byteW : Value → Option Value
  | .complex .f32 c n => bif Nat.beq c 12 then some (.complex .f32 c n) else none
  | v => some v
def thB (N m : Nat) : Value → Option Value
  | .complex .f32 c n => bif Nat.beq c 12 then (mkV ⟨.u8, 1, 0, (unB 8 n).map (thC N m)⟩).bind byteW else none
  | .int .u8 a => some (.int .u8 a)
  | .chan (some i) => some (.chan (some i))
  | _ => none
def thV (N m : Nat) : Nat → Value → Option Value
  | _, .complex .f32 c n => mkV ⟨symK c, symMul c, symAdd c, (symL c n).map (thC N m)⟩
  | _, .complex .f64 L n => (thL (thB N m) (decR L n)).bind mkStr
  | k + 1, .agg vs => (thL (thV N m k) vs.toList).map fun l => .agg ⟨l⟩
  | k + 1, .tuple vs => (thL (thV N m k) vs.toList).map fun l => .tuple ⟨l⟩
  | _, .bool b => some (.bool b)
  | _, .int k n => some (.int k n)
  | _, .string s => some (.string s)
  | _, .pointer none => some (.pointer none)
  | _, .slice none l c => some (.slice none l c)
  | _, .nilIface => some .nilIface
  | _, .chan (some i) => some (.chan (some i))
  | _, _ => none
/-- A text's bits, eight a byte. -/
def codesL : List Value → Option (List Nat)
  | [] => some []
  | v :: l => (bitsC v).bind fun c => (codesL l).map (c ++ ·)
def codesV (v : Value) : Option (List Nat) := (charsOf v).bind codesL

/-- A function's answers: asked what is asked on its way, in order. -/
inductive TT where
  | leaf (v : Value)
  | node (D : PairL) (a b : TT)
  | no
def goT [Kn] (N m : Nat) : TT → Option Value
  | .leaf v => thV N m 4 v
  | .node D a b => match alikeD (thD N m D) with
    | some true => goT N m a
    | some false => goT N m b
    | none => none
  | .no => none
def wayA [Kn] (tabs : OTabs) (n : Nat) (rest : List Value) (T : TT) : Caller → List Value → H → Option (Value × H)
  | _, v :: l, A => bif eqArgs l rest then (codesV v).bind fun cs => bif Nat.beq cs.length (Nat.mul 8 n) && cs.all (Nat.blt · 65536) && tabsIn tabs 0 A then (goT (pkB cs) (Nat.mul 8 n) T).map fun r => (r, A) else none else none
  | _, _, _ => none
theorem wayA_any [Kn] (tabs : OTabs) (n : Nat) (rest : List Value) (T : TT) (c c' : Caller) (args : List Value) (A : H) : wayA tabs n rest T c args A = wayA tabs n rest T c' args A := by
  unfold wayA; split <;> rfl

section
theorem pkB_digit : ∀ (l : List Nat) (i : Nat), l.all (Nat.blt · 65536) = true → pkB l / 65536 ^ i % 65536 = l.getD i 0
  | [], i, _ => by simp [pkB]
  | c :: l, 0, h => by
    rw [List.all_cons, Bool.and_eq_true] at h
    have hc := blt_t h.1
    show (c + 65536 * pkB l) / 65536 ^ 0 % 65536 = c
    simp
    omega
  | c :: l, i + 1, h => by
    rw [List.all_cons, Bool.and_eq_true] at h
    have hc := blt_t h.1
    show (c + 65536 * pkB l) / 65536 ^ (i + 1) % 65536 = _
    rw [Nat.pow_succ, Nat.mul_comm (65536 ^ i), ← Nat.div_div_eq_div_mul, show (c + 65536 * pkB l) / 65536 = pkB l by omega, pkB_digit l i h.2]
    simp
/-- The bits as they are put there. -/
def thBit (bit : Nat → Bool) (N m : Nat) (i : Nat) : Bool := bitV bit (thC N m (i + 2))
theorem thC_ok (bit : Nat → Bool) (N m c : Nat) : bitV (thBit bit N m) c = bitV bit (thC N m c) := by
  by_cases h0 : c = 0
  · subst h0; rfl
  · by_cases h1 : c = 1
    · subst h1; rfl
    · conv => lhs; unfold bitV
      rw [if_neg h0, if_neg h1]
      unfold thBit
      rw [show c - 2 + 2 = c by omega]
theorem thD_ok (bit : Nat → Bool) (N m : Nat) (D : PairL) : HoldsD (thBit bit N m) D ↔ HoldsD bit (thD N m D) := by
  unfold thD
  constructor
  · intro h p hp
    obtain ⟨q, hq, rfl⟩ := List.mem_map.1 hp
    have := h q hq
    rwa [thC_ok, thC_ok] at this
  · intro h p hp
    have := h _ (List.mem_map.2 ⟨p, hp, rfl⟩)
    rw [thC_ok, thC_ok]
    exact this
theorem den_th (bit : Nat → Bool) (N m : Nat) : ∀ l : List Nat, denL (thBit bit N m) l = denL bit (l.map (thC N m))
  | [] => rfl
  | c :: l => by
    show (bitV (thBit bit N m) c).toNat + 2 * denL _ l = (bitV bit (thC N m c)).toNat + 2 * denL bit (l.map _)
    rw [thC_ok, den_th bit N m l]
end
section
variable [I : Unk]
theorem stands_relN {τ : Sg} {v : Value} {k : IntKind} {n : Nat} (h : StandsI I.bit v k n) : VRel τ v (.int k (Int.ofNat n)) := by
  rcases h with rfl | ⟨c, m, rfl, rfl, rfl⟩
  · exact .int _ _
  · exact .sym c m
theorem len_keep {N m : Nat} (hm : m ≤ 40000) (i : Nat) : denL (thBit I.bit N m) (lenBits i) = denL I.bit (lenBits i) := by
  rw [den_th]
  congr 1
  have : ∀ l : List Nat, (∀ c ∈ l, 40002 ≤ c) → l.map (thC N m) = l := by
    intro l
    induction l with
    | nil => intro _; rfl
    | cons c l ih =>
      intro h
      have hc := h c (by simp)
      rw [List.map_cons, ih fun d hd => h d (by simp [hd])]
      congr 1
      unfold thC
      have e1 : Nat.blt c 2 = false := by
        cases hx : Nat.blt c 2 with
        | false => rfl
        | true => have := blt_t hx; omega
      have e2 : Nat.blt (Nat.sub c 2) m = false := by
        cases hx : Nat.blt (Nat.sub c 2) m with
        | false => rfl
        | true => have := blt_t hx; have : c - 2 < m := this; omega
      rw [e1, e2]
      rfl
  refine this _ fun c hc => ?_
  unfold lenBits at hc
  obtain ⟨j, _, rfl⟩ := List.mem_map.1 hc
  exact Nat.le_add_right _ _
/-- The same unknown values, of other bits. -/
@[reducible] def thUnk (N m : Nat) (hm : m ≤ 40000) : Unk where
  val := I.val
  one := I.one
  nob := I.nob
  byt := I.byt
  neq := I.neq
  key := I.key
  keys := I.keys
  sum := I.sum
  bit := thBit I.bit N m
  text i hi := by
    obtain ⟨s, h1, h2⟩ := I.text i hi
    exact ⟨s, h1, by rw [len_keep hm]; exact h2⟩
section
variable {N m : Nat} {hm : m ≤ 40000}
theorem thB_ok {v w : Value} {b : UInt8} (h : thB N m v = some w) (hv : @CharRel (thUnk N m hm) v b) : CharRel w b := by
  rcases hv with rfl | ⟨i, rfl, h1, h2⟩ | ⟨n, rfl, h1⟩
  · cases h; exact .inl rfl
  · cases h; exact .inr (.inl ⟨i, rfl, h1, h2⟩)
  · unfold thB at h
    obtain ⟨_, h⟩ := cond_ofN h rfl
    rw [Option.bind_eq_some_iff] at h
    obtain ⟨u, hu, h⟩ := h
    have hk := (mkV_ok (bit := I.bit) hu).1
    rw [fmDen_plain, ← den_th] at hk
    have h1 : denL (thBit I.bit N m) (unB 8 n) = b.toNat := h1
    rw [h1] at hk
    rcases hk with rfl | ⟨c, k, rfl, e1, e2⟩
    · cases h; exact .inl rfl
    · unfold byteW at h
      obtain ⟨hc, h⟩ := cond_ofN h rfl
      cases h
      have hn := beq_t hc
      subst hn
      refine .inr (.inr ⟨k, rfl, ?_⟩)
      have a1 : symMul 12 = 1 := rfl
      have a2 : symAdd 12 = 0 := rfl
      have a3 : symL 12 k = unB 8 k := rfl
      rw [a1, a2, a3] at e2
      omega
theorem thL_char : ∀ (l : List Value) {r : List Value} {bs : List UInt8}, thL (thB N m) l = some r → @CRel (thUnk N m hm) l bs → CRel r bs := by
  intro l
  induction l with
  | nil =>
    intro r bs h hc
    cases h
    cases bs with
    | nil => trivial
    | cons b bs => cases hc
  | cons v l ih =>
    intro r bs h hc
    simp only [thL, Option.bind_eq_some_iff, Option.map_eq_some_iff] at h
    obtain ⟨w, hw, q, hq, rfl⟩ := h
    cases bs with
    | nil => cases hc
    | cons b bs => exact ⟨thB_ok (hm := hm) hw hc.1, ih hq hc.2⟩
theorem thL_all {τ : Sg} {g : Value → Option Value} : ∀ (l : List Value) {r l' : List Value}, (∀ v ∈ l, ∀ w v', g v = some w → @VRel (thUnk N m hm) τ v v' → VRel τ w v') → thL g l = some r → l.length = l'.length →
    (∀ (i : Nat) v v', l[i]? = some v → l'[i]? = some v' → @VRel (thUnk N m hm) τ v v') → r.length = l'.length ∧ ∀ (i : Nat) v v', r[i]? = some v → l'[i]? = some v' → VRel τ v v' := by
  intro l
  induction l with
  | nil =>
    intro r l' _ h hl _
    cases h
    exact ⟨hl, fun i v v' h => by simp at h⟩
  | cons v l ih =>
    intro r l' hg h hl hr
    simp only [thL, Option.bind_eq_some_iff, Option.map_eq_some_iff] at h
    obtain ⟨w, hw, q, hq, rfl⟩ := h
    cases l' with
    | nil => simp at hl
    | cons v' l' =>
      obtain ⟨h1, h2⟩ := ih (l' := l') (fun u hu => hg u (by simp [hu])) hq (by simpa using hl) (fun i a b ha hb => hr (i + 1) a b (by simpa using ha) (by simpa using hb))
      refine ⟨by simp [h1], fun i a b ha hb => ?_⟩
      cases i with
      | zero =>
        simp only [List.getElem?_cons_zero, Option.some.injEq] at ha hb
        subst ha; subst hb
        exact hg v (by simp) _ _ hw (hr 0 v v' rfl rfl)
      | succ i => exact h2 i a b (by simpa using ha) (by simpa using hb)
theorem thV_sym {τ : Sg} {c n : Nat} {w : Value} (h : mkV ⟨symK c, symMul c, symAdd c, (symL c n).map (thC N m)⟩ = some w) : VRel τ w (.int (symK c) (Int.ofNat (symMul c * denL (thBit I.bit N m) (symL c n) + symAdd c))) := by
  have hk := (mkV_ok (bit := I.bit) h).1
  rw [den_th]
  exact stands_relN hk
theorem thV_rope {τ : Sg} {l n : Nat} {s : ByteArray} {w : Value} (h : (thL (thB N m) (decR l n)).bind mkStr = some w) (hs : @CRel (thUnk N m hm) (decR l n) (bytesOf s)) : VRel τ w (.string s) := by
  rw [Option.bind_eq_some_iff] at h
  obtain ⟨r, hr, h⟩ := h
  have := mkStr_rel (σ := τ) h (thL_char (hm := hm) _ hr hs)
  have e : ofBytes (bytesOf s) = s := rfl
  rwa [e] at this
theorem thV_ok {τ : Sg} : ∀ (k : Nat) (v : Value) {w v' : Value}, thV N m k v = some w → @VRel (thUnk N m hm) τ v v' → VRel τ w v' := by
  intro k
  induction k with
  | zero =>
    intro v w v' h hv
    cases hv with
    | bool b => cases h; exact .bool _
    | int k n => cases h; exact .int _ _
    | string s => cases h; exact .string _
    | ptrNil => cases h; exact .ptrNil
    | sliceNil l c => cases h; exact .sliceNil _ _
    | nilIface => cases h; exact .nilIface
    | unk i => cases h; exact .unk _
    | rope l n s hs => exact thV_rope (hm := hm) h hs
    | sym c n => exact thV_sym h
    | _ => cases h
  | succ k ih =>
    intro v w v' h hv
    cases hv with
    | bool b => cases h; exact .bool _
    | int k n => cases h; exact .int _ _
    | string s => cases h; exact .string _
    | ptrNil => cases h; exact .ptrNil
    | sliceNil l c => cases h; exact .sliceNil _ _
    | nilIface => cases h; exact .nilIface
    | unk i => cases h; exact .unk _
    | rope l n s hs => exact thV_rope (hm := hm) h hs
    | sym c n => exact thV_sym h
    | agg as as' h1 h2 =>
      simp only [thV, Option.map_eq_some_iff] at h
      obtain ⟨r, hr, rfl⟩ := h
      obtain ⟨k1, k2⟩ := thL_all (hm := hm) (τ := τ) as.toList (l' := as'.toList) (fun u _ w v' hw hv => ih u hw hv) hr (by simpa using h1) h2
      exact .agg _ _ (by simpa using k1) k2
    | tuple as as' h1 h2 =>
      simp only [thV, Option.map_eq_some_iff] at h
      obtain ⟨r, hr, rfl⟩ := h
      obtain ⟨k1, k2⟩ := thL_all (hm := hm) (τ := τ) as.toList (l' := as'.toList) (fun u _ w v' hw hv => ih u hw hv) hr (by simpa using h1) h2
      exact .tuple _ _ (by simpa using k1) k2
    | _ => cases h
end
end
theorem flat1_any [Unk] {σ : Sg} {v v' : Value} (hv : flat1 v = true) (h : VRel σ v v') : v' = v := by
  cases h <;> first | rfl | (simp [flat1] at hv)
theorem flat1_still {v : Value} (h : flat1 v = true) : Flat v := by
  unfold flat1 at h
  split at h <;> first | constructor | cases h
/-- The answer on a way, to a text of which something is known, and other arguments. -/
def RightG (P : Program) (tabs : OTabs) (f : FuncId) (pre : Unk → ByteArray → Prop) (rest : List Value) (p : List Step) (r : Value) : Prop :=
  ∀ [I : Unk] (s : ByteArray), pre I s → HoldsS Unk.bit p → ∀ (σ : Sg) (W : World), Rel P σ (otabH tabs) W → Calls P f (.string s :: rest).toArray W fun x w' => ∃ rc, x = .returned rc ∧ (∀ τ, VRel τ r rc) ∧ Below W.heap.size W w'
def RightT (P : Program) (tabs : OTabs) (f : FuncId) (pre : Unk → ByteArray → Prop) (rest : List Value) : TT → List Step → Prop
  | .leaf r, p => RightG P tabs f pre rest p r
  | .node D a b, p => RightT P tabs f pre rest a (p ++ [(D, true)]) ∧ RightT P tabs f pre rest b (p ++ [(D, false)])
  | .no, p => ∀ [I : Unk] (s : ByteArray), pre I s → ¬ HoldsS Unk.bit p
theorem right_gen {P : Program} (hmix : P.follows .mixedOrders = true) (hx : Ext P) {f : FuncId} {pre : Unk → ByteArray → Prop} {rest : List Value} {p : List Step} {tabs : OTabs} {r t : Value} {K : Kn} (hrest : rest.all flat1 = true)
    (harg : ∀ [I : Unk] (s : ByteArray), pre I s → HoldsS Unk.bit p → @KnOk K I ∧ ∀ σ, VRel σ t (.string s))
    {code : FuncId → Option XFun} (hcode : CodeOf P code) (hnat : ∀ [Unk] [@KnOk K _], NatOk P code) {k : Nat} {v : Value} {A' : H} (he : @evalF K code k f (t :: rest) (otabH tabs) = some (v, A')) (hv : eqx 4 v r = true) : RightG P tabs f pre rest p r := by
  intro I s hpre hp σ W hr
  obtain ⟨rfl, hf⟩ := eqx_eq _ _ _ hv
  obtain ⟨h2, hval⟩ := harg s hpre hp
  letI : Kn := K
  haveI : KnOk := h2
  refine ((evalF_ok hmix hx hcode hnat k).calls _ _ _ _ _ he σ W (.string s :: rest) hr (.cons (hval σ) (.flat fun v hv => (flat1_still (List.all_eq_true.1 hrest v hv)).vrel))).mono fun e w' h => ?_
  obtain ⟨rc, σ', rfl, h2, _, h4⟩ := h
  refine ⟨rc, rfl, fun τ => hf.move h2, h4.os, h4.tape, h4.output, h4.size, fun k hk => h4.frame k hk fun ho => ?_⟩
  obtain ⟨id, p, o, _, _, hg, hown⟩ := ho
  rw [otabH_ro _ hg] at hown
  cases hown
/-- A text of so many bytes. -/
def preT (n : Nat) (I : Unk) (s : ByteArray) : Prop := s.size = n ∧ TextBits I.bit (codes0 0 n) s
/-- An unknown text, of whose length something is known not to hold. -/
def preL (neg : List PairL) (I : Unk) (s : ByteArray) : Prop := I.val 7000 = .string s ∧ NegOk I.bit neg
theorem argT {n : Nat} {p : List Step} {cs : List Nat} {neg : List PairL} {t : Value} (hw : walkS p (codes0 0 n) [] = (cs, neg)) (hcs : cs.all (Nat.blt · 65536) = true) (ht : mkStr (charsL n cs) = some t)
    [I : Unk] (s : ByteArray) (hpre : preT n I s) (hp : HoldsS Unk.bit p) : NegOk Unk.bit neg ∧ ∀ σ, VRel σ t (.string s) := by
  obtain ⟨hs, hb⟩ := hpre
  have hl := walkS_len p (codes0 0 n) []
  obtain ⟨h1, h2⟩ := walkS_ok p (codes0 0 n) [] hp (fun C hC => by cases hC)
  rw [hw] at h1 h2 hl
  subst hs
  exact ⟨h2, fun σ => textV_rel hcs (hb.walk hl h1) ht⟩
theorem argL {p : List Step} {neg0 : List PairL} {cs : List Nat} {neg : List PairL} (hw : walkS p (lenBits 7000) neg0 = (cs, neg))
    [I : Unk] (s : ByteArray) (hpre : preL neg0 I s) (hp : HoldsS Unk.bit p) : @KnOk (knL cs neg) I ∧ ∀ σ, VRel σ (.chan (some 7000)) (.string s) := by
  obtain ⟨hs, hb⟩ := hpre
  obtain ⟨h1, h2⟩ := walkS_ok p (lenBits 7000) neg0 hp hb
  have hl := walkS_len p (lenBits 7000) neg0
  rw [hw] at h1 h2 hl
  exact ⟨knL_ok h1 (by rw [hl]; simp [lenBits]) h2, fun σ => hs ▸ VRel.unk 7000⟩
/-- A way that nobody can go. -/
theorem no_way {pre : Unk → ByteArray → Prop} {p : List Step} {neg0 : List PairL} {c0 cs : List Nat} {neg : List PairL} (hw : walkS p c0 neg0 = (cs, neg)) (hn : neg.any (·.isEmpty) = true) (h0 : ∀ (I : Unk) s, pre I s → NegOk I.bit neg0) :
    ∀ [I : Unk] (s : ByteArray), pre I s → ¬ HoldsS Unk.bit p := by
  intro I s hpre hp
  obtain ⟨_, h2⟩ := walkS_ok p c0 neg0 hp (h0 I s hpre)
  rw [hw] at h2
  rw [List.any_eq_true] at hn
  obtain ⟨C, hC, he⟩ := hn
  have := h2 C hC
  rw [List.isEmpty_iff.1 he] at this
  exact this fun q hq => by cases hq
theorem bitsC_len {v : Value} {c : List Nat} (h : bitsC v = some c) : c.length = 8 := by
  unfold bitsC at h
  split at h
  · obtain ⟨_, h⟩ := cond_ofN h rfl; cases h; exact constB_len _ _
  · obtain ⟨_, h⟩ := cond_ofN h rfl; cases h; exact unB_len _ _
  · cases h
theorem codesL_rel [Unk] : ∀ (l : List Value) {cs : List Nat} {bs : List UInt8}, codesL l = some cs → CRel l bs → cs.length = 8 * bs.length ∧ ∀ j b, bs[j]? = some b → denL Unk.bit ((cs.drop (8 * j)).take 8) = b.toNat := by
  intro l
  induction l with
  | nil =>
    intro cs bs h hc
    cases h
    rw [hc.nil_inv]
    exact ⟨rfl, fun j b hj => by simp at hj⟩
  | cons v l ih =>
    intro cs bs h hc
    obtain ⟨x, m, rfl, h1, h2⟩ := hc.inv
    simp only [codesL, Option.bind_eq_some_iff, Option.map_eq_some_iff] at h
    obtain ⟨c, hc, r, hr, rfl⟩ := h
    have hl := bitsC_len hc
    obtain ⟨k1, k2⟩ := ih hr h2
    refine ⟨by simp [hl, k1]; omega, fun j b hj => ?_⟩
    cases j with
    | zero =>
      simp only [List.getElem?_cons_zero, Option.some.injEq] at hj
      subst hj
      have : ((c ++ r).drop (8 * 0)).take 8 = c := by
        rw [Nat.mul_zero, List.drop_zero, List.take_append_of_le_length (by omega), List.take_of_length_le (by omega)]
      rw [this]
      exact bitsC_rel hc h1
    | succ j =>
      have : (c ++ r).drop (8 * (j + 1)) = r.drop (8 * j) := by
        rw [List.drop_append, List.drop_of_length_le (by omega), List.nil_append]
        congr 1
        omega
      rw [this]
      exact k2 j b (by simpa using hj)
theorem codesV_rel [Unk] {σ : Sg} {v v' : Value} {cs : List Nat} (h : codesV v = some cs) (hv : VRel σ v v') : ∃ s : ByteArray, v' = .string s ∧ TextBits Unk.bit cs s := by
  unfold codesV at h
  rw [Option.bind_eq_some_iff] at h
  obtain ⟨l, hl, h⟩ := h
  obtain ⟨s, rfl, hs⟩ := charsOf_rel hv hl
  obtain ⟨k1, k2⟩ := codesL_rel _ h hs
  exact ⟨s, rfl, by rw [k1, size_eqN], k2⟩
/-- The text's bits as they are put there. -/
theorem th_text {bit : Nat → Bool} {cs : List Nat} {s : ByteArray} (hc : cs.all (Nat.blt · 65536) = true) (h : TextBits bit cs s) : TextBits (thBit bit (pkB cs) (8 * s.size)) (codes0 0 s.size) s := by
  refine ⟨by simp [codes0], fun j b hj => ?_⟩
  rw [den_th]
  have hlt : j < s.size := by rw [size_eqN]; exact (List.getElem?_eq_some_iff.1 hj).1
  have e : (((codes0 0 s.size).drop (8 * j)).take 8).map (thC (pkB cs) (8 * s.size)) = (cs.drop (8 * j)).take 8 := by
    apply List.ext_getElem?
    intro i
    rw [List.getElem?_map, List.getElem?_take, List.getElem?_take]
    by_cases hi : i < 8
    · rw [if_pos hi, if_pos hi, List.getElem?_drop, List.getElem?_drop]
      unfold codes0
      rw [List.getElem?_map, List.getElem?_range (by omega)]
      have h1 : (8 * j + i) < cs.length := by rw [h.1]; omega
      rw [List.getElem?_eq_getElem h1]
      simp only [Option.map_some, Option.some.injEq]
      unfold thC
      have e1 : Nat.add (8 * j + i) (Nat.add 0 2) = 8 * j + i + 2 := by show 8 * j + i + (0 + 2) = _; omega
      rw [e1]
      have e2 : Nat.blt (8 * j + i + 2) 2 = false := by
        cases hx : Nat.blt (8 * j + i + 2) 2 with
        | false => rfl
        | true => have := blt_t hx; omega
      have e3 : Nat.sub (8 * j + i + 2) 2 = 8 * j + i := by show 8 * j + i + 2 - 2 = _; omega
      have e4 : Nat.blt (8 * j + i) (8 * s.size) = true := Nat.ble_eq_true_of_le (by omega)
      rw [e2, e3, e4]
      simp only [cond_true, cond_false]
      show pkB cs / 65536 ^ (8 * j + i) % 65536 = _
      rw [pkB_digit _ _ hc, List.getD_eq_getElem?_getD, List.getElem?_eq_getElem h1]
      rfl
    · rw [if_neg hi, if_neg hi]
      rfl
  rw [e]
  exact h.2 j b hj
/-- Tables say the same of whatever is unknown. -/
theorem otab_obj {tabs : OTabs} {id : Nat} {o : AObj} (h : (otabH tabs).get id = some o) : ∃ t c, tabs[id]? = some (some (t, c)) ∧ o = .cells true t c := by
  letI : Unk := unkOf (fun i => UInt8.ofNat i) (by decide) (fun _ => .nilIface) (fun _ => rfl) (fun _ _ h => by cases h) (fun _ => false) (fun _ => ByteArray.empty) (fun _ => by decide)
  letI : Kn := knNone
  haveI : KnOk := knNone_ok
  rw [otabH_get, Option.map_eq_some_iff] at h
  obtain ⟨x, hx, rfl⟩ := h
  rw [Option.join_eq_some_iff] at hx
  exact ⟨x.1, x.2, hx, rfl⟩
theorem otab_any {P : Program} {tabs : OTabs} (hflat : ∀ (i : Nat) t c, tabs[i]? = some (some (t, c)) → ∀ v ∈ c, flat1 v = true) {σ : Sg} {w : World} (I J : Unk) (hr : @Rel I P σ (otabH tabs) w) : @Rel J P σ (otabH tabs) w := by
  refine @Rel.mk J P σ _ w (@Rel.glob I P σ _ w hr) (fun id o p ho hs => ?_) (@Rel.inj I P σ _ w hr) (@Rel.lt I P σ _ w hr) (@Rel.dom I P σ _ w hr)
  have h := @Rel.obj I P σ _ w hr id o p ho hs
  obtain ⟨t, c, hx, rfl⟩ := otab_obj ho
  obtain ⟨cur, e', fz, q1, q2, q3, q4, q5, q6⟩ := h
  refine ⟨cur, e', fz, q1, q2, fun i v v' h1 h2 => ?_, q4, q5, q6⟩
  have hf := hflat id t c hx v (List.mem_of_getElem? h1)
  rw [@flat1_any I σ v v' hf (q3 i v v' h1 h2)]
  exact @Flat.vrel J σ v (flat1_still hf)
section
variable [I : Unk] [Kn] [KnOk] {P : Program}
theorem goT_ok {tabs : OTabs} {f : FuncId} {rest : List Value} {N m : Nat} (hm : m ≤ 40000) {s : ByteArray} (hb : TextBits (thBit I.bit N m) (codes0 0 s.size) s) {σ : Sg} {w : World} (hr : @Rel (thUnk N m hm) P σ (otabH tabs) w) :
    ∀ (T : TT) (p : List Step) {r : Value}, RightT P tabs f (preT s.size) rest T p → HoldsS (thBit I.bit N m) p → goT N m T = some r → Calls P f (.string s :: rest).toArray w fun x w' => ∃ rc, x = .returned rc ∧ (∀ τ, VRel τ r rc) ∧ Below w.heap.size w w'
  | .leaf v, p, r, hT, hp, h => by
    have h := h
    exact (@hT (thUnk N m hm) s ⟨rfl, hb⟩ hp σ w hr).mono fun x w' ⟨rc, h1, h2, h3⟩ => ⟨rc, h1, fun τ => thV_ok (hm := hm) 4 v h (h2 τ), h3⟩
  | .node D a b, p, r, hT, hp, h => by
    simp only [goT] at h
    have step : ∀ u : Bool, alikeD (thD N m D) = some u → HoldsS (thBit I.bit N m) (p ++ [(D, u)]) := by
      intro u hu t ht
      rcases List.mem_append.1 ht with ht | ht
      · exact hp t ht
      · rw [List.mem_singleton.1 ht, thD_ok]
        exact alike_ok KnOk.ok hu
    split at h
    · rename_i hu; exact goT_ok hm hb hr a _ hT.1 (step _ hu) h
    · rename_i hu; exact goT_ok hm hb hr b _ hT.2 (step _ hu) h
    · cases h
  | .no, p, r, _, _, h => by cases h
theorem way_ok {tabs : OTabs} (hg : P.globals.size = tabs.length) (hflat : ∀ (i : Nat) t c, tabs[i]? = some (some (t, c)) → ∀ v ∈ c, flat1 v = true) {f : FuncId} {n : Nat} {rest : List Value} {T : TT} (hn : n ≤ 5000) (hrest : rest.all flat1 = true) (hT : RightT P tabs f (preT n) rest T [])
    {call : Caller} {args : List Value} {A : H} {r : Value} {A' : H} (h : wayA tabs n rest T call args A = some (r, A')) {σ : Sg} {w : World} {argsc : List Value} (hr : Rel P σ A w) (ha : LRel σ args argsc) :
    Calls P f argsc.toArray w (CPost P σ A w r A') := by
  unfold wayA at h
  split at h
  case h_2 => cases h
  rename_i _ v l
  obtain ⟨he, h5⟩ := cond_ofN h rfl
  clear h
  have he := (eqArgs_eq he).1
  subst he
  rw [Option.bind_eq_some_iff] at h5
  obtain ⟨cs, hcs, h⟩ := h5
  obtain ⟨hb, h⟩ := cond_ofN h rfl
  rw [Option.map_eq_some_iff] at h
  obtain ⟨r0, hr0, h⟩ := h
  cases h
  rw [Bool.and_eq_true, Bool.and_eq_true] at hb
  obtain ⟨⟨h1, h2⟩, h3⟩ := hb
  obtain ⟨v', q, rfl, hv, hq⟩ := ha.cons_inv
  have : q = l := by
    apply List.ext_getElem?
    intro i
    have hl := hq.len
    by_cases hi : i < l.length
    · have e1 := List.getElem?_eq_getElem hi
      have e2 := List.getElem?_eq_getElem (show i < q.length by omega)
      rw [e1, e2]
      have := hq.get i _ _ e1 e2
      rw [flat1_any (List.all_eq_true.1 hrest _ (List.getElem_mem hi)) this]
    · rw [List.getElem?_eq_none (by omega), List.getElem?_eq_none (by omega)]
  subst this
  obtain ⟨s, rfl, hs⟩ := codesV_rel hcs hv
  have h1 : cs.length = 8 * n := beq_t h1
  have hsn : s.size = n := by have := hs.1; omega
  subst hsn
  have hm : 8 * s.size ≤ 40000 := by omega
  have hrel := tabs_rel hg hflat hr h3
  refine (goT_ok hm (th_text h2 hs) (otab_any hflat _ _ hrel) T [] hT (fun t ht => by cases ht) hr0).mono fun x w' hx => ?_
  obtain ⟨rc, hrc, hv, hb⟩ := hx
  obtain ⟨k1, k2⟩ := hr.below hb
  exact ⟨rc, σ, hrc, hv σ, k1, k2⟩
end
/-- All the answers are one. -/
def allT (g : Value → Bool) : TT → Bool
  | .leaf v => g v
  | .node _ a b => allT g a && allT g b
  | .no => true
def isTrueV : Value → Bool
  | .bool b => b
  | _ => false
theorem true_of [I : Unk] {P : Program} {tabs : OTabs} {f : FuncId} {pre : Unk → ByteArray → Prop} {rest : List Value} {s : ByteArray} (hpre : pre I s) {σ : Sg} {W : World} (hr : Rel P σ (otabH tabs) W) :
    ∀ (T : TT) (p : List Step), RightT P tabs f pre rest T p → allT isTrueV T = true → HoldsS I.bit p → Calls P f (.string s :: rest).toArray W fun e w' => e = .returned (.bool true) ∧ Below W.heap.size W w'
  | .leaf v, p, hT, ht, hp => by
    cases v <;> first | (cases ht; done) | skip
    rename_i b
    have ht : b = true := ht
    subst ht
    refine (hT s hpre hp σ W hr).mono fun x w' ⟨rc, h1, h2, h3⟩ => ⟨?_, h3⟩
    have h2 := h2 (fun _ => none)
    cases h2
    exact h1
  | .node D a b, p, hT, ht, hp => by
    rw [allT, Bool.and_eq_true] at ht
    exact ways_node p D (true_of hpre hr a _ hT.1 ht.1) (true_of hpre hr b _ hT.2 ht.2) hp
  | .no, p, hT, _, hp => absurd hp (hT s hpre)
theorem holds_nil (bit : Nat → Bool) : HoldsS bit [] := fun s hs => by cases hs
end Go.Ab
