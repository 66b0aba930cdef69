/- (*sync.Once).doSlow: what it does, told by what the lock, the flag and the function do. -/
import Derived.Test.YtcghikpogkigcaaGreatDoorProg
import Derived.Test.YtcghikpogkigcaaGreatDoorAbNat
import Derived.WalkKit
set_option linter.all false
set_option linter.unusedSectionVars false
set_option linter.unusedVariables false
set_option linter.unusedSimpArgs false
namespace Go.Ab
open Go Go.RowKit Go.Proofs
variable [Unk] [Kn] [KnOk]

set_option maxRecDepth 100000 in
set_option maxHeartbeats 1600000 in
theorem once_ok {call : Caller} (hcall : CallOk Tryz.prog call) (hs : DOk Tryz.prog call 209) (hu : DOk Tryz.prog call 208) {args : List Value} {A : H} {r : Value} {A' : H} (h : onceA 207 178 209 208 call args A = some (r, A')) {σ : Sg} {w : World} {argsc : List Value} (hr : Rel Tryz.prog σ A w) (hl : LRel σ args argsc) :
    Calls Tryz.prog 179 argsc.toArray w (CPost Tryz.prog σ A w r A') := by
  unfold onceA at h
  split at h
  case h_2 => cases h
  rename_i id off f
  split at h
  case h_1 => cases h
  rename_i v1 A1 h1
  split at h
  case h_2 => cases h
  rename_i A2 h2
  split at h
  case h_1 => cases h
  rename_i g asl hca
  split at h
  case h_1 => cases h
  rename_i v3 A3 h3
  split at h
  case h_1 => cases h
  rename_i v4 A4 h4
  split at h
  case h_1 => cases h
  rename_i v5 A5 h5
  simp only [Option.some.injEq, Prod.mk.injEq] at h
  obtain ⟨rfl, rfl⟩ := h
  obtain ⟨x1, r1, rfl, hx1, hl⟩ := hl.cons_inv
  obtain ⟨x2, r2, rfl, hx2, hl⟩ := hl.cons_inv
  have : r2 = [] := List.eq_nil_of_length_eq_zero (by have := hl.len; simpa using this.symm)
  subst this
  generalize hvv : (Value.pointer (some ⟨id, off, none⟩)) = vv at hx1
  cases hx1 <;> first | (cases hvv; done) | skip
  rename_i id' p off' hsp
  cases hvv
  cases hx2 with
  | func fn as0 bs0 cs0 ds0 l1 l2 q1 q2 =>
    cases fn with
    | func g' =>
      simp only [calleeA, List.append_nil, Option.some.injEq, Prod.mk.injEq] at hca
      obtain ⟨rfl, rfl⟩ := hca
      have hptr : ∀ (τ : Sg) (d : Nat), σ.le τ → VRel τ (.pointer (some ⟨id, off + d, none⟩)) (.pointer (some ⟨p.b, p.sh + off + d, none⟩)) := fun τ d hle => by
        have := VRel.ptr (off + d) (hle _ _ hsp)
        rw [← Nat.add_assoc] at this
        exact this
      have hlock := hcall.calls _ _ _ _ _ h1 σ w [.pointer (some ⟨p.b, p.sh + off + 1, none⟩)] hr (.cons (hptr σ 1 (Sg.le_refl _)) .nil)
      go_enter_defers Tryz.func179, Tryz.ntmps179
      go_wp2_with (go_at_call 207; refine hlock.mono ?_; rintro e w1 ⟨rc, σ1, rfl, hv1, hr1, hf1⟩)
      have hload := hcall.calls _ _ _ _ _ h2 σ1 w1 [.pointer (some ⟨p.b, p.sh + off, none⟩)] hr1 (.cons (hptr σ1 0 hf1.ext) .nil)
      have hnot : ∀ (x : Bool) (w : World), (Op.unary .not (.bool x)).run Tryz.prog w = .ok (.bool (!x)) w := fun _ _ => rfl
      refine hload.mono ?_
      rintro e w2 ⟨rc2, σ2, rfl, hv2, hr2, hf2⟩
      cases hv2
      go_wp2
      obtain ⟨gn, hg, hgb, hgname⟩ := hcall.enters _ _ _ _ _ h3
      have hcf : (callFunc g' (bs0 ++ ds0)).run Tryz.prog w2 = .ok (.enter g' (bs0 ++ ds0)) w2 := by
        obtain ⟨bd, hbd⟩ := Option.isSome_iff_exists.1 hgb
        simp [callFunc, hg, hgname, hbd]
      rw [hcf]
      simp only [Oper.upon]
      have hle2 := Sg.le_trans hf1.ext hf2.ext
      have hg3 := hcall.calls _ _ _ _ _ h3 σ2 w2 (bs0.toList ++ ds0.toList) hr2 (((⟨by simpa using l1, q1⟩ : LRel σ as0.toList bs0.toList).append (⟨by simpa using l2, q2⟩ : LRel σ cs0.toList ds0.toList)).mono hle2)
      have harr : (bs0.toList ++ ds0.toList).toArray = bs0 ++ ds0 := by apply Array.ext'; simp
      rw [harr] at hg3
      refine hg3.mono ?_
      rintro e w3 ⟨rc3, σ3, rfl, hv3, hr3, hf3⟩
      go_wp2
      have hle3 := Sg.le_trans hle2 hf3.ext
      refine leaves_cons (f := 209) (args := #[.pointer (some ⟨p.b, p.sh + off, none⟩), .bool true]) (by simp) (by simp [go_sem]) ?_
      refine (hs _ _ _ _ h4 σ3 w3 [.pointer (some ⟨p.b, p.sh + off, none⟩), .bool true] hr3 (.cons (hptr σ3 0 hle3) (.cons (.bool true) .nil))).mono ?_
      rintro e u w4 ⟨rfl, rc4, σ4, rfl, hv4, hr4, hf4⟩
      refine leaves_cons (f := 208) (args := #[.pointer (some ⟨p.b, p.sh + off + 1, none⟩)]) (by simp [settle]) (by simp [go_sem]) ?_
      refine (hu _ _ _ _ h5 σ4 w4 [.pointer (some ⟨p.b, p.sh + off + 1, none⟩)] hr4 (.cons (hptr σ4 1 (Sg.le_trans hle3 hf4.ext)) .nil)).mono ?_
      rintro e u w5 ⟨rfl, rc5, σ5, rfl, hv5, hr5, hf5⟩
      exact ⟨.tuple #[], by simp [results, Tryz.results179], .tuple #[], σ5, rfl, undef_rel, hr5, (((hf1.trans hf2).trans hf3).trans hf4).trans hf5⟩
    | _ => simp [calleeA] at hca
  | _ => simp [calleeA] at hca
end Go.Ab
