/- Three bytes, opened. -/
import Derived.Test.YtainaihfbljjoaaGreatDoorProg
import Derived.Test.YtainaihfbljjoaaGreatDoorAbEval
import Derived.ProofKit
import Derived.OpenShut
import Derived.ChangeSame
import Derived.ChangeArms
import Derived.Laws.IdiomArrays
import Derived.KernelRfl
set_option linter.all false
set_option linter.unusedSectionVars false
set_option linter.unusedVariables false
set_option linter.unusedSimpArgs false
namespace Go.Proofs.YtainaihfbljjoaaGreatDoor
open Go Go.Proofs Go.ChangeShapes Go.WideShapes Go.RowKit
set_option maxRecDepth 100000
theorem byte_of {n : Int} (h : (Lit.int .u8 n).wf = true) : ∃ b : UInt8, Value.int .u8 n = Ab.byteV b := by
  have hb : 0 ≤ n ∧ n ≤ 255 := by simpa [Lit.wf, IntKind.min, IntKind.max, IntKind.signed, IntKind.bits] using h
  refine ⟨UInt8.ofNat n.toNat, ?_⟩
  simp only [Ab.byteV, Value.int.injEq, true_and]
  rw [UInt8.toNat_ofNat']
  show n = ((n.toNat % 2 ^ 8 : Nat) : Int)
  omega
theorem open_fills {HH : Type} {enc : TypeId × Value → HH} {W : World} {base b0 : Nat} {sp : Nat → Bool} {hd : Bool} {r : Reach} {v : Value} {d : DataW HH} {p : List MemPlace} (hval : Value.okWide Tryz.prog W r base 22 v) (h : DataW.Trod enc Tryz.prog W b0 sp hd 22 v d p) :
    ∃ a b c : UInt8, v = .agg #[Ab.byteV a, Ab.byteV b, Ab.byteV c] := by
  simp only [Value.okWide, Tryz.underlying22] at hval
  obtain ⟨cs, rfl, hcs, _⟩ := hval
  obtain ⟨fuel, h⟩ := h
  obtain ⟨l⟩ := cs
  have c22 : Tryz.prog.cellsOf 22 = 3 := by kernel_rfl
  have c5 : Tryz.prog.cellsOf 5 = 1 := by kernel_rfl
  rw [c22] at hcs
  simp only [List.size_toArray] at hcs
  match l, hcs with
  | [v0, v1, v2], _ =>
    obtain ⟨y0, y1, y2, n, _, e0, e1, e2⟩ := trod_array3 Tryz.underlying22 c5 h
    obtain ⟨n0, q0, _, w0⟩ := DataW.trod_int Tryz.underlying5 e0
    obtain ⟨n1, q1, _, w1⟩ := DataW.trod_int Tryz.underlying5 e1
    obtain ⟨n2, q2, _, w2⟩ := DataW.trod_int Tryz.underlying5 e2
    cases q0; cases q1; cases q2
    obtain ⟨a, ha⟩ := byte_of w0
    obtain ⟨b, hb⟩ := byte_of w1
    obtain ⟨c, hc⟩ := byte_of w2
    exact ⟨a, b, c, by rw [ha, hb, hc]⟩
end Go.Proofs.YtainaihfbljjoaaGreatDoor
