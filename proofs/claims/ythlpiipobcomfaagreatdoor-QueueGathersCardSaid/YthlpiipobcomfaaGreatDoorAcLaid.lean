/- A world holds listed tables: each by itself. -/
import Derived.LaidLaws
import Derived.WalkKit
set_option linter.all false
set_option linter.unusedSectionVars false
set_option linter.unusedVariables false
set_option linter.unusedSimpArgs false
namespace Go.Ab
open Go
def plainCell : Value → Bool
  | .iface _ _ => false
  | _ => true
/-- One listed table lies in a world, without addresses. -/
structure LaidOne (P : Program) (w : World) (n : String) (d : DataW Unit) (g : Nat) (c : List Value) : Prop where
  named : P.globalNamed n = some g
  run : ((P.globals[g]?).map (·.type)).bind (fun t => DataW.trod (fun _ => ()) P w 0 (fun _ => true) false 8 t c) = some (d, [])
  var : w.var? P n = some c.toArray
  heap : ∃ t, w.heap[g]? = some (.cells c.toArray t (0, 0))
  plain : c.all plainCell = true
def LaidAll (P : Program) (w : World) : List (String × DataW Unit) → List Nat → Prop
  | [], gs => gs = []
  | x :: r, gs => ∃ g c s, gs = g :: s ∧ LaidOne P w x.1 x.2 g c ∧ LaidAll P w r s
theorem row_nodup (g : Nat) : ∀ n, (MemPlace.row ⟨g, 0, none⟩ n).Nodup := by
  intro n
  unfold MemPlace.row
  refine List.Pairwise.map _ (fun a b hab => ?_) List.nodup_range
  intro h
  simp at h
  exact hab h
theorem laid_rows {P : Program} {w : World} : ∀ {l : List (String × DataW Unit)} {gs : List Nat}, LaidAll P w l gs → gs.Nodup →
    ∃ ps, DataW.LaidVars P w l ps ∧ ps.Nodup ∧ (∀ b off, MemPlace.cell b off ∈ ps → b ∈ gs ∧ ∃ c t, w.heap[b]? = some (.cells c t (0, 0)) ∧ c.toList.all plainCell = true) ∧ ∀ p ∈ ps, ∃ b off, p = MemPlace.cell b off
  | [], gs, h, hn => ⟨[], rfl, List.nodup_nil, fun b off h => by simp at h, fun p h => by simp at h⟩
  | x :: r, gs, h, hn => by
    obtain ⟨g, c, s, rfl, h1, h2⟩ := h
    rw [List.nodup_cons] at hn
    obtain ⟨q, k1, k2, k3, k4⟩ := laid_rows h2 hn.2
    have hrun := h1.run
    rw [Option.bind_eq_some_iff] at hrun
    obtain ⟨t, ht, hrun⟩ := hrun
    obtain ⟨t', hh⟩ := h1.heap
    have hrow : ∀ p, p ∈ MemPlace.row ⟨g, 0, none⟩ c.toArray.size → ∃ off, p = MemPlace.cell g off := fun p hp => by
      unfold MemPlace.row at hp
      simp at hp
      obtain ⟨a, _, rfl⟩ := hp
      exact ⟨_, rfl⟩
    refine ⟨MemPlace.row ⟨g, 0, none⟩ c.toArray.size ++ [] ++ q, ⟨g, t, c.toArray, 8, [], q, h1.named, ht, h1.var, hrun, k1, rfl⟩, ?_, fun b off hb => ?_, fun p hp => ?_⟩
    · rw [List.append_nil, List.nodup_append]
      refine ⟨row_nodup _ _, k2, fun p hp p' hp' e => ?_⟩
      subst e
      obtain ⟨off, rfl⟩ := hrow p hp
      exact hn.1 (k3 _ _ hp').1
    · simp only [List.append_nil, List.mem_append] at hb
      rcases hb with hb | hb
      · obtain ⟨off', e⟩ := hrow _ hb
        cases e
        exact ⟨by simp, _, _, hh, by simpa using h1.plain⟩
      · obtain ⟨e1, e2⟩ := k3 b off hb
        exact ⟨by simp [e1], e2⟩
    · simp only [List.append_nil, List.mem_append] at hp
      rcases hp with hp | hp
      · obtain ⟨off', rfl⟩ := hrow _ hp
        exact ⟨_, _, rfl⟩
      · exact k4 p hp
theorem laidMet_of_all {P : Program} {w : World} {l : List (String × DataW Unit)} {gs : List Nat} (h : LaidAll P w l gs) (hn : decide gs.Nodup = true) : laidMet P l w := by
  obtain ⟨ps, h1, h2, h3, _⟩ := laid_rows h (of_decide_eq_true hn)
  refine ⟨ps, h1, h2, fun b off hb => ?_⟩
  obtain ⟨_, c, t, hh, hc⟩ := h3 b off hb
  refine ⟨⟨c, t, hh⟩, fun u v hv => ?_⟩
  have : c[off]? = some (.iface u v) := by
    simp only [World.cell?, hh] at hv
    simpa using hv
  have hm := List.mem_of_getElem? (show c.toList[off]? = some (.iface u v) by simpa using this)
  have := List.all_eq_true.1 hc _ hm
  cases this
end Go.Ab
