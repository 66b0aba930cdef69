/- NvmePairs as the interpreter runs it: its numbers and bytes unknown. -/
import Derived.Test.YtainaihfbljjoaaGreatDoorAbPR
import Derived.Test.YtainaihfbljjoaaGreatDoorAbUnk
set_option linter.all false
set_option linter.unusedSectionVars false
set_option linter.unusedVariables false
set_option linter.unusedSimpArgs false
namespace Go.Proofs.YtainaihfbljjoaaGreatDoor.R
open Go Go.Ab Go.Proofs Go.RowKit
set_option maxRecDepth 1000000
abbrev argsA (t : Nat) : List Value := [.chan (some 6000), .chan (some 6001), .agg #[.chan (some 0), .chan (some t), .chan (some 32)]]
/-- A run: of k = q + 1 blocks, from a on; the second byte: token t. -/
noncomputable def run (q a t : Nat) : Bool := @kF (@code ⟨q, a⟩) (@nats ⟨q, a⟩) 5000 3 (argsA t) (otabH tabs) (fun v _ => boolK v fun b => b)
theorem law_of [Unk] {q a t : Nat} (hm : letI : Par := ⟨q, a⟩; ∀ e ∈ modP, 1 ≤ e.2.1 ∧ e.2.1 ≤ 4096 ∧ ∃ x : Int, Unk.val e.1 = .int .i64 x ∧ modV x (e.2.1 : Int) = (e.2.2 : Int)) (h : run q a t = true) {W : World} (hR : Rel Tryz.prog (otabS Tryz.prog tabs) (otabH tabs) W) :
    Calls Tryz.prog 3 #[Unk.val 6000, Unk.val 6001, .agg #[Unk.val 0, Unk.val t, Unk.val 32]] W fun e w' => e = .returned (.bool true) ∧ Below W.heap.size W w' := by
  letI : Par := ⟨q, a⟩
  obtain ⟨m, v, A', h1, h2⟩ := quick (show kF code nats 5000 3 (argsA t) (otabH tabs) (fun v _ => boolK v fun b => b) = true from h)
  obtain ⟨b, rfl, hb⟩ := boolK_spec h2
  refine ocalls_true mixed ext code_body (code_nat hm) (n := m) (args := argsA t) (by rw [h1]; exact hb) hR (argsc := [Unk.val 6000, Unk.val 6001, .agg #[Unk.val 0, Unk.val t, Unk.val 32]]) (.cons (.unk 6000) (.cons (.unk 6001) (.cons (.agg #[.chan (some 0), .chan (some t), .chan (some 32)] _ rfl fun i v v' h h' => ?_) .nil)))
  match i, h, h' with
  | 0, h, h' => cases h; cases h'; exact .unk 0
  | 1, h, h' => cases h; cases h'; exact .unk t
  | 2, h, h' => cases h; cases h'; exact .unk 32
  | _ + 3, h, h' => simp at h
end Go.Proofs.YtainaihfbljjoaaGreatDoor.R
