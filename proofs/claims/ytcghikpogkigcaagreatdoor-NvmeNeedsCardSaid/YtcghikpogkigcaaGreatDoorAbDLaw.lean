/- NvmeNeeds, whatever the block. -/
import Derived.Test.YtcghikpogkigcaaGreatDoorAbDLAll
import Derived.Test.YtcghikpogkigcaaGreatDoorAbMem
set_option linter.all false
set_option linter.unusedSectionVars false
set_option linter.unusedVariables false
set_option linter.unusedSimpArgs false
namespace Go.Proofs.YtcghikpogkigcaaGreatDoor.R
open Go Go.Ab Go.Proofs Go.RowKit
set_option maxRecDepth 1000000
abbrev Holds [Unk] (W : World) : Prop := Rel Tryz.prog (otabS Tryz.prog tabs) (otabH tabs) W
theorem law_T {n : Nat} {rest : List Value} {T : TT} {p : List Step} (hp : p = []) (hT : RightT Tryz.prog tabs 4 (preT n) rest T p) (ha : allT isTrueV T = true) (hn : n ≤ 4000) {W : World} (hR : ∀ [Unk], Holds W) (s : ByteArray) (hs : s.size = n) :
    Calls Tryz.prog 4 (.string s :: rest).toArray W fun e w' => e = .returned (.bool true) ∧ Below W.heap.size W w' := by
  letI I : Unk := unkOf (fun i => UInt8.ofNat i) (by decide) (fun _ => .nilFunc) (fun _ => rfl) (fun _ _ h => by cases h) (bitsOfS 0 s) (fun _ => ByteArray.empty) (fun _ => by decide)
  have hb : TextBits I.bit (codes0 0 s.size) s := codes0_bits (o := 0) fun i hi => by
    show unkBit (bitsOfS 0 s) _ (0 + i) = _
    unfold unkBit
    rw [if_neg (by omega)]
  subst hp
  exact true_of (I := I) (pre := preT n) ⟨hs, by rw [← hs]; exact hb⟩ hR T [] hT ha (holds_nil _)
theorem law_L {neg : List PairL} {ks : List Nat} (hneg : neg = ks.map fun k => dropEq (pairsD (lenBits 7000) (constB 63 k))) (hks : ∀ k ∈ ks, k < 9223372036854775808) {rest : List Value} {T : TT} {p : List Step} (hp : p = []) (hT : RightT Tryz.prog tabs 4 (preL neg) rest T p) (ha : allT isTrueV T = true) {W : World} (hR : ∀ [Unk], Holds W) (s : ByteArray) (hs : s.size < 9223372036854775808) (hk : ∀ k ∈ ks, s.size ≠ k) :
    Calls Tryz.prog 4 (.string s :: rest).toArray W fun e w' => e = .returned (.bool true) ∧ Below W.heap.size W w' := by
  letI I : Unk := unkOf (fun i => UInt8.ofNat i) (by decide) (fun _ => .nilFunc) (fun _ => rfl) (fun _ _ h => by cases h) (fun _ => false) (fun _ => s) (fun _ => hs)
  have hl : denL I.bit (lenBits 7000) = s.size := (lenBits_den (fun _ => false) (fun _ => s) 7000 hs).symm
  subst hp
  refine true_of (I := I) (pre := preL neg) ⟨rfl, fun C hC => ?_⟩ hR T [] hT ha (holds_nil _)
  rw [hneg] at hC
  obtain ⟨k, hk1, rfl⟩ := List.mem_map.1 hC
  rw [dropEq_ok, pairs_ok, hl, den_constB]
  have h1 := hks k hk1
  rw [Nat.mod_eq_of_lt (show k < 2 ^ 63 by omega)]
  exact hk k hk1
theorem law {W : World} (hR : ∀ [Unk], Holds W) (s : ByteArray) (hs : s.size < 9223372036854775808) (b : Bool) :
    Calls Tryz.prog 4 #[.string s, .bool b] W fun e w' => e = .returned (.bool true) ∧ Below W.heap.size W w' := by
  by_cases h64 : s.size = 64
  · cases b with
    | false => exact law_T (p := p0_0) rfl r0_0 all0 (by decide) hR s h64
    | true => exact law_T (p := p1_0) rfl r1_0 all1 (by decide) hR s h64
  · by_cases h128 : s.size = 128
    · cases b with
      | false => exact law_T (p := p2_0) rfl r2_0 all2 (by decide) hR s h128
      | true => exact law_T (p := p3_0) rfl r3_0 all3 (by decide) hR s h128
    · have hk : ∀ k ∈ [64, 128], s.size ≠ k := fun k hk => by
        simp only [List.mem_cons, List.mem_nil_iff, or_false] at hk
        rcases hk with rfl | rfl <;> assumption
      have h0 : ∀ k ∈ [64, 128], k < 9223372036854775808 := by decide
      cases b with
      | false => exact law_L (ks := [64, 128]) (p := p4_0) rfl h0 rfl r4_0 all4 hR s hs hk
      | true => exact law_L (ks := [64, 128]) (p := p5_0) rfl h0 rfl r5_0 all5 hR s hs hk
end Go.Proofs.YtcghikpogkigcaaGreatDoor.R
