/- The quick forms of the told answers. -/
import Derived.Test.YtainaihfbljjoaaGreatDoorAbKRun
import Derived.Test.YtainaihfbljjoaaGreatDoorAbNatD
set_option linter.all false
set_option linter.unusedSectionVars false
set_option linter.unusedVariables false
set_option linter.unusedSimpArgs false
namespace Go.Ab
open Go
section
variable {code : FuncId → Option XFun} {c : CallK}

theorem plainK_ok {g : Caller → List Value → H → Option (Value × H)} (hg : ∀ c c' args A, g c args A = g c' args A) {args : List Value} {A : H} {k : Value → H → Bool} (h : plainK g c args A k = true) : ∃ n v A', g (evalF code n) args A = some (v, A') ∧ k v A' = true := by
  obtain ⟨v, A', h1, h2⟩ := optK_spec h
  exact ⟨0, v, A', by rw [hg _ noCall]; exact h1, h2⟩
theorem repeatA_any (c c' : Caller) (args : List Value) (A : H) : repeatA c args A = repeatA c' args A := by
  unfold repeatA; split <;> rfl
theorem copyCheckA_any (T : TypeId) (c c' : Caller) (args : List Value) (A : H) : copyCheckA T c args A = copyCheckA T c' args A := by
  unfold copyCheckA; split <;> rfl
theorem stringA_any (B : TypeId) (c c' : Caller) (args : List Value) (A : H) : stringA B c args A = stringA B c' args A := by
  unfold stringA; split <;> rfl

theorem onceA_mono {l o s u : FuncId} {c c' : Caller} (h : Le c c') {args : List Value} {A : H} {r : Value × H} (hr : onceA l o s u c args A = some r) : onceA l o s u c' args A = some r := by
  unfold onceA at hr ⊢
  split at hr
  case h_2 => cases hr
  rename_i id off f
  split at hr
  case h_1 => cases hr
  rename_i v1 A1 h1
  rw [h _ _ _ _ h1]
  simp only
  split at hr
  case h_2 => cases hr
  rename_i A2 h2
  rw [h _ _ _ _ h2]
  simp only
  split at hr
  case h_1 => cases hr
  rename_i g asl hca
  split at hr
  case h_1 => cases hr
  rename_i v3 A3 h3
  rw [h _ _ _ _ h3]
  simp only
  split at hr
  case h_1 => cases hr
  rename_i v4 A4 h4
  rw [h _ _ _ _ h4]
  simp only
  split at hr
  case h_1 => cases hr
  rename_i v5 A5 h5
  rw [h _ _ _ _ h5]
  exact hr
theorem onceK_ok (hn : NatMono code) (hc : CKOk code c) {l o s u : FuncId} {args : List Value} {A : H} {k : Value → H → Bool} (h : onceK l o s u c args A k = true) : ∃ n v A', onceA l o s u (evalF code n) args A = some (v, A') ∧ k v A' = true := by
  unfold onceK at h
  cases hb : Nat.beq args.length 2 with
  | false => rw [hb] at h; cases h
  | true =>
    rw [hb] at h
    have hlen := Nat.eq_of_beq_eq_true hb
    match args, hlen with
    | [p, f], _ =>
      obtain ⟨p', hp, h⟩ := nthK_spec h
      obtain ⟨f', hf, h⟩ := nthK_spec h
      simp only [List.getElem?_cons_zero, List.getElem?_cons_succ, Option.some.injEq] at hp hf
      subst hp; subst hf
      obtain ⟨id, off, h0, h⟩ := ptrK_spec h
      obtain ⟨n1, v1, A1, e1, h⟩ := hc _ _ _ _ h
      obtain ⟨n2, v2, A2, e2, h⟩ := hc _ _ _ _ h
      obtain ⟨b, hb2, h⟩ := boolK_spec h
      cases b with
      | true => cases h
      | false =>
        obtain ⟨q, hq, h⟩ := optA_spec h
        obtain ⟨n3, v3, A3, e3, h⟩ := hc _ _ _ _ h
        obtain ⟨n4, v4, A4, e4, h⟩ := hc _ _ _ _ h
        obtain ⟨n5, v5, A5, e5, h⟩ := hc _ _ _ _ h
        let N := max n1 (max n2 (max n3 (max n4 n5)))
        refine ⟨N, _, A5, ?_, h⟩
        have m1 := evalF_mono hn (show n1 ≤ N by omega) _ _ _ _ e1
        have m2 := evalF_mono hn (show n2 ≤ N by omega) _ _ _ _ e2
        have m3 := evalF_mono hn (show n3 ≤ N by omega) _ _ _ _ e3
        have m4 := evalF_mono hn (show n4 ≤ N by omega) _ _ _ _ e4
        have m5 := evalF_mono hn (show n5 ≤ N by omega) _ _ _ _ e5
        rw [hb2] at m2
        rw [h0]
        simp only [ptr1] at m1 m2 m3 m4 m5
        simp only [onceA, m1, m2, hq, m3, m4, m5]
end
end Go.Ab
