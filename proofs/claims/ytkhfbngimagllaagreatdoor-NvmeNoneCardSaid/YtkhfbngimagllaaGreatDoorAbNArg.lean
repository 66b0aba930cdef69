/- An 'Ask', opened: a text, a bool, two texts. -/
import Derived.Test.YtkhfbngimagllaaGreatDoorProg
import Derived.ProofKit
import Derived.OpenShut
import Derived.ChangeSame
import Derived.ChangeArms
import Derived.KernelRfl
namespace Go.Proofs.YtkhfbngimagllaaGreatDoor
open Go Go.Proofs Go.ChangeShapes Go.WideShapes Go.RowKit
set_option maxRecDepth 100000

theorem open_ask {HH : Type} {enc : TypeId × Value → HH} {W : World} {base b0 : Nat} {sp : Nat → Bool} {hd : Bool} {r : Reach} {v : Value} {d : DataW HH} {p : List MemPlace} (hval : Value.okWide Tryz.prog W r base 23 v) (h : DataW.Trod enc Tryz.prog W b0 sp hd 23 v d p) :
    ∃ s a b x, v = .agg #[.string s, .bool a, .string b, .string x] ∧ p = [] ∧ (∀ (W' : World) (b1 : Nat) (sp' : Nat → Bool) (hd' : Bool), DataW.Trod enc Tryz.prog W' b1 sp' hd' 23 v d []) := by
  obtain ⟨cs, rfl, hcs⟩ := okWide_struct Tryz.underlying23 hval
  obtain ⟨fuel, h⟩ := h
  obtain ⟨l⟩ := cs
  obtain ⟨xs, n, rfl, hx, hl, hlen, hf⟩ := DataW.trod_struct Tryz.underlying23 h
  have c4 : Tryz.prog.cellsOf 23 = 4 := by kernel_rfl
  have c9 : Tryz.prog.cellsOf 9 = 1 := by kernel_rfl
  have cb : Tryz.prog.cellsOf 4 = 1 := by kernel_rfl
  rw [c4] at hcs
  simp only [List.size_toArray] at hcs
  match l, hcs, xs, hlen with
  | [v0, v1, v2, v3], _, [y0, y1, y2, y3], _ =>
    have e0 := hf 0 _ rfl
    have e1 := hf 1 _ rfl
    have e2 := hf 2 _ rfl
    have e3 := hf 3 _ rfl
    simp [Value.cells, c9, cb] at e0 e1 e2 e3
    obtain ⟨s, q0, z0, w0⟩ := DataW.trod_string Tryz.underlying9 e0
    obtain ⟨a, q1, z1⟩ := DataW.trod_bool Tryz.underlying4 e1
    obtain ⟨b, q2, z2, w2⟩ := DataW.trod_string Tryz.underlying9 e2
    obtain ⟨x, q3, z3, w3⟩ := DataW.trod_string Tryz.underlying9 e3
    cases q0; cases q1; cases q2; cases q3
    subst z0; subst z1; subst z2; subst z3
    simp only [Prod.mk.injEq] at hx
    obtain ⟨rfl, rfl⟩ := hx
    refine ⟨s, a, b, x, rfl, rfl, fun W' b1 sp' hd' => ⟨2 + 1, ?_⟩⟩
    refine trod_struct_mk (xs := [(.lit (.string s.data.toList), []), (.lit (.bool a), []), (.lit (.string b.data.toList), []), (.lit (.string x.data.toList), [])]) Tryz.underlying23 (by rw [c4]; rfl) ?_
    simp [Value.cells, DataW.trod, Tryz.underlying9, Tryz.underlying4, c9, cb, w0, w2, w3]
end Go.Proofs.YtkhfbngimagllaaGreatDoor
