/- QueueGathers: the list of ints, opened. -/
import Derived.Test.YthlpiipobcomfaaGreatDoorQhLaw
import Derived.ProofKit
import Derived.OpenShut
import Derived.ChangeSame
import Derived.ChangeArms
import Derived.KernelRfl
set_option linter.all false
set_option linter.unusedSectionVars false
set_option linter.unusedVariables false
set_option linter.unusedSimpArgs false
namespace Go.Proofs.YthlpiipobcomfaaGreatDoor
open Go Go.Ab Go.Proofs Go.ChangeShapes Go.WideShapes Go.RowKit
set_option maxRecDepth 1000000
theorem cellsOf3 : Tryz.prog.cellsOf 3 = 1 := by kernel_rfl
theorem open_ints {HH : Type} {enc : TypeId × Value → HH} {W : World} {r : Reach} {base : Nat} {v : Value} {d : DataW HH} {p : List MemPlace} (hval : Value.okWide Tryz.prog W r base 22 v) (h : DataW.Trod enc Tryz.prog W 0 (fun _ => true) true 22 v d p) : IntsAt W v := by
  obtain ⟨a0, len0, cap0, rfl⟩ := okWide_slice Tryz.underlying22 hval
  obtain ⟨fuel, hf⟩ := h
  rcases DataW.trod_slice Tryz.underlying22 hf with ⟨hcs, _⟩ | ⟨a, len, cap, elems, rest, n, rfl, hcs, hx, _, hl, hm, hlen, hel, hrest, _⟩
  · have e : Value.slice a0 len0 cap0 = .slice none 0 0 := by simpa [Value.cells] using hcs
    rw [e]
    exact ⟨_, _, _, rfl, by omega, fun i hi => by omega⟩
  · have e : Value.slice a0 len0 cap0 = .slice (some a) len cap := by simpa [Value.cells] using hcs
    rw [e] at hval ⊢
    have hsp : a.spot = none := by
      simp only [Value.okWide, Tryz.underlying22, Cell.okWide, Cell.ok] at hval
      exact hval.2.2.2.1
    obtain ⟨b, o, s⟩ := a
    simp only at hsp
    subst hsp
    unfold maxLen at hm
    refine ⟨_, _, _, rfl, by omega, fun i hi => ?_⟩
    have key : ∃ y, (W.cells? 0 ((⟨b, o, none⟩ : Addr).add (i * Tryz.prog.cellsOf 3)) (Tryz.prog.cellsOf 3)).bind (DataW.trod enc Tryz.prog W 0 (fun _ => true) true n 3) = some y := by
      rw [hel i hi]
      exact ⟨_, List.getElem?_eq_getElem (by omega)⟩
    obtain ⟨y, hy⟩ := key
    rw [cellsOf3, Option.bind_eq_some_iff] at hy
    obtain ⟨cs, hcs, hy⟩ := hy
    have hadd : ∀ q m : Nat, (⟨b, q, none⟩ : Addr).add m = ⟨b, q + m, none⟩ := by
      intro q m
      unfold Addr.add
      split
      · rename_i h; rw [h]; rfl
      · rfl
    unfold World.cells? at hcs
    rw [if_pos (Nat.zero_le _)] at hcs
    simp only [List.range_succ, List.range_zero, List.nil_append, List.mapM_cons, List.mapM_nil, hadd, Nat.mul_one, Nat.add_zero] at hcs
    cases h0 : W.cell? ⟨b, o + i, none⟩ with
    | none => simp [h0] at hcs
    | some c0 =>
      simp [h0] at hcs
      subst hcs
      obtain ⟨n0, q0, _, _⟩ := DataW.trod_int Tryz.underlying3 hy
      cases q0
      exact ⟨b, o, n0, rfl, h0⟩
end Go.Proofs.YthlpiipobcomfaaGreatDoor
