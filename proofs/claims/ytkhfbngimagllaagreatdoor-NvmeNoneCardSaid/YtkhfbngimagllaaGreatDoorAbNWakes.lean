/- 'wakes' of the layer nvme: true, whatever else lies in the heap. -/
import Derived.Test.YtkhfbngimagllaaGreatDoorAbNBase
namespace Go.Proofs.YtkhfbngimagllaaGreatDoor
open Go Go.Ab Go.Proofs Go.RowKit
set_option maxRecDepth 1000000

theorem wakes_run : kF code nats 3000 5 [] (otabH tabs) (fun v _ => boolK v fun b => b) = true := by kernel_rfl
theorem wakes {W : World} (h : Rel Tryz.prog (otabS Tryz.prog tabs) (otabH tabs) W) : Calls Tryz.prog 5 #[] W fun e w' => e = .returned (.bool true) ∧ Below W.heap.size W w' := by
  obtain ⟨m, v, A', h1, h2⟩ := quick wakes_run
  obtain ⟨b, rfl, hb⟩ := boolK_spec h2
  exact ocalls_true mixed ext code_body code_nat (n := m) (by rw [h1]; exact hb) h .nil
end Go.Proofs.YtkhfbngimagllaaGreatDoor
