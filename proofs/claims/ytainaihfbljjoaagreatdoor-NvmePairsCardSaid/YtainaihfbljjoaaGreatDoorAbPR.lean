/- The seat's program as the interpreter sees it: its tables, the functions whose answers are told, and what its soundness asks of it. -/
import Derived.Test.YtainaihfbljjoaaGreatDoorRows
import Derived.Test.YtainaihfbljjoaaGreatDoorAbTabO
import Derived.Test.YtainaihfbljjoaaGreatDoorAbStep
import Derived.Test.YtainaihfbljjoaaGreatDoorAbExt
import Derived.Test.YtainaihfbljjoaaGreatDoorAbNat
import Derived.Test.YtainaihfbljjoaaGreatDoorAbKNatOk
import Derived.Test.YtainaihfbljjoaaGreatDoorAbComp
import Derived.KernelRfl
import Derived.Test.YtainaihfbljjoaaGreatDoorAbPMAll
import Derived.Test.YtainaihfbljjoaaGreatDoorAbPPar
import Derived.Test.YtainaihfbljjoaaGreatDoorAbPMod
set_option linter.all false
set_option linter.unusedSectionVars false
set_option linter.unusedVariables false
set_option linter.unusedSimpArgs false
namespace Go.Proofs.YtainaihfbljjoaaGreatDoor.R
open Go Go.Ab Go.Proofs
set_option maxRecDepth 1000000
variable [Par]
noncomputable def natOf (f : FuncId) : Option (Caller → List Value → H → Option (Value × H)) :=
  if f = 113 then some (repeatA) else if f = 150 then some (copyCheckA 255) else if f = 120 then some (stringA 5) else if f = 161 then some (onceA 189 160 191 190) else if f = 9 then some (memA tabsT3_4_7 told9) else if f = 14 then some (memA tabsT told14) else if f = 17 then some (memA tabsT3 told17) else if f = 43 then some (memA tabsT told43) else if f = 54 then some (memA tabsT3 told54) else if f = 82 then some (memA tabsT told82) else if f = 117 then some (memA tabsT told117) else if f = 124 then some (memA tabsT told124) else if f = 147 then some (memA tabsT7 told147) else if f = 5 then some (modL modP) else none
noncomputable def code (f : FuncId) : Option XFun := match natOf f with
  | some g => some (.nat g)
  | none => comp f
theorem code_body : CodeOf Tryz.prog code := fun f x h hn => by
  unfold code at h
  split at h
  · cases h; exact absurd rfl (hn _)
  · rw [← comp_eq]; exact h
theorem body191 : code 191 = some (.body (bodyOf (code 191))) := by kernel_rfl
theorem body190 : code 190 = some (.body (bodyOf (code 190))) := by kernel_rfl
theorem ent113 : Ab.Enters Tryz.prog 113 := ent_of Tryz.func113 (by kernel_rfl) (by kernel_rfl)
theorem ent150 : Ab.Enters Tryz.prog 150 := ent_of Tryz.func150 (by kernel_rfl) (by kernel_rfl)
theorem ent120 : Ab.Enters Tryz.prog 120 := ent_of Tryz.func120 (by kernel_rfl) (by kernel_rfl)
theorem ent161 : Ab.Enters Tryz.prog 161 := ent_of Tryz.func161 (by kernel_rfl) (by kernel_rfl)
theorem ent9 : Ab.Enters Tryz.prog 9 := ent_of Tryz.func9 (by kernel_rfl) (by kernel_rfl)
theorem ent14 : Ab.Enters Tryz.prog 14 := ent_of Tryz.func14 (by kernel_rfl) (by kernel_rfl)
theorem ent17 : Ab.Enters Tryz.prog 17 := ent_of Tryz.func17 (by kernel_rfl) (by kernel_rfl)
theorem ent43 : Ab.Enters Tryz.prog 43 := ent_of Tryz.func43 (by kernel_rfl) (by kernel_rfl)
theorem ent54 : Ab.Enters Tryz.prog 54 := ent_of Tryz.func54 (by kernel_rfl) (by kernel_rfl)
theorem ent82 : Ab.Enters Tryz.prog 82 := ent_of Tryz.func82 (by kernel_rfl) (by kernel_rfl)
theorem ent117 : Ab.Enters Tryz.prog 117 := ent_of Tryz.func117 (by kernel_rfl) (by kernel_rfl)
theorem ent124 : Ab.Enters Tryz.prog 124 := ent_of Tryz.func124 (by kernel_rfl) (by kernel_rfl)
theorem ent147 : Ab.Enters Tryz.prog 147 := ent_of Tryz.func147 (by kernel_rfl) (by kernel_rfl)
theorem ent5 : Ab.Enters Tryz.prog 5 := ent_of Tryz.func5 (by kernel_rfl) (by kernel_rfl)
theorem code_nat [Unk] (hm : ∀ e ∈ modP, 1 ≤ e.2.1 ∧ e.2.1 ≤ 4096 ∧ ∃ x : Int, Unk.val e.1 = .int .i64 x ∧ modV x (e.2.1 : Int) = (e.2.2 : Int)) : NatOk Tryz.prog code := fun f g h => by
  unfold code at h
  split at h
  · rename_i g2 hg
    cases h
    unfold natOf at hg
    by_cases e : f = 113
    · rw [if_pos e] at hg; subst e; cases hg; exact ⟨ent113, fun call hcall hD args A r A' h σ w argsc hr hl => repeat_ok (ρ := Tryz.lays105_ren) Tryz.lays105 Tryz.Builder_Extra_105 h hr hl⟩
    rw [if_neg e] at hg
    by_cases e : f = 150
    · rw [if_pos e] at hg; subst e; cases hg; exact ⟨ent150, fun call hcall hD args A r A' h σ w argsc hr hl => copyCheck_ok (ρ := Tryz.lays105_ren) { Tryz.lays105 with } Tryz.Builder_Extra_105.toX72 h hr hl⟩
    rw [if_neg e] at hg
    by_cases e : f = 120
    · rw [if_pos e] at hg; subst e; cases hg; exact ⟨ent120, fun call hcall hD args A r A' h σ w argsc hr hl => string_ok (ρ := Tryz.lays105_ren) { Tryz.lays105 with } Tryz.Builder_Extra_105 h hr hl⟩
    rw [if_neg e] at hg
    by_cases e : f = 161
    · rw [if_pos e] at hg; subst e; cases hg; exact ⟨ent161, fun call hcall hD args A r A' h σ w argsc hr hl => once_ok hcall (hD 191 (bodyOf (code 191)) body191) (hD 190 (bodyOf (code 190)) body190) h hr hl⟩
    rw [if_neg e] at hg
    by_cases e : f = 9
    · rw [if_pos e] at hg; subst e; cases hg; exact ⟨ent9, fun call hcall hD args A r A' h σ w argsc hr hl => mem_ok count tabsT3_4_7_flat all9 h hr hl⟩
    rw [if_neg e] at hg
    by_cases e : f = 14
    · rw [if_pos e] at hg; subst e; cases hg; exact ⟨ent14, fun call hcall hD args A r A' h σ w argsc hr hl => mem_ok count tabsT_flat all14 h hr hl⟩
    rw [if_neg e] at hg
    by_cases e : f = 17
    · rw [if_pos e] at hg; subst e; cases hg; exact ⟨ent17, fun call hcall hD args A r A' h σ w argsc hr hl => mem_ok count tabsT3_flat all17 h hr hl⟩
    rw [if_neg e] at hg
    by_cases e : f = 43
    · rw [if_pos e] at hg; subst e; cases hg; exact ⟨ent43, fun call hcall hD args A r A' h σ w argsc hr hl => mem_ok count tabsT_flat all43 h hr hl⟩
    rw [if_neg e] at hg
    by_cases e : f = 54
    · rw [if_pos e] at hg; subst e; cases hg; exact ⟨ent54, fun call hcall hD args A r A' h σ w argsc hr hl => mem_ok count tabsT3_flat all54 h hr hl⟩
    rw [if_neg e] at hg
    by_cases e : f = 82
    · rw [if_pos e] at hg; subst e; cases hg; exact ⟨ent82, fun call hcall hD args A r A' h σ w argsc hr hl => mem_ok count tabsT_flat all82 h hr hl⟩
    rw [if_neg e] at hg
    by_cases e : f = 117
    · rw [if_pos e] at hg; subst e; cases hg; exact ⟨ent117, fun call hcall hD args A r A' h σ w argsc hr hl => mem_ok count tabsT_flat all117 h hr hl⟩
    rw [if_neg e] at hg
    by_cases e : f = 124
    · rw [if_pos e] at hg; subst e; cases hg; exact ⟨ent124, fun call hcall hD args A r A' h σ w argsc hr hl => mem_ok count tabsT_flat all124 h hr hl⟩
    rw [if_neg e] at hg
    by_cases e : f = 147
    · rw [if_pos e] at hg; subst e; cases hg; exact ⟨ent147, fun call hcall hD args A r A' h σ w argsc hr hl => mem_ok count tabsT7_flat all147 h hr hl⟩
    rw [if_neg e] at hg
    by_cases e : f = 5
    · rw [if_pos e] at hg; subst e; cases hg; exact ⟨ent5, fun call hcall hD args A r A' h σ w argsc hr hl => modL_ok mod_walk hm h hr hl⟩
    rw [if_neg e] at hg
    cases hg
  · rw [comp_eq] at h; exact absurd h comp_no_nat
noncomputable def nats (f : FuncId) : Option KNat :=
  bif Nat.beq f 113 then some (plainK repeatA) else bif Nat.beq f 150 then some (plainK (copyCheckA 255)) else bif Nat.beq f 120 then some (plainK (stringA 5)) else bif Nat.beq f 161 then some (onceK 189 160 191 190) else bif Nat.beq f 9 then some (plainK (memA tabsT3_4_7 told9)) else bif Nat.beq f 14 then some (plainK (memA tabsT told14)) else bif Nat.beq f 17 then some (plainK (memA tabsT3 told17)) else bif Nat.beq f 43 then some (plainK (memA tabsT told43)) else bif Nat.beq f 54 then some (plainK (memA tabsT3 told54)) else bif Nat.beq f 82 then some (plainK (memA tabsT told82)) else bif Nat.beq f 117 then some (plainK (memA tabsT told117)) else bif Nat.beq f 124 then some (plainK (memA tabsT told124)) else bif Nat.beq f 147 then some (plainK (memA tabsT7 told147)) else bif Nat.beq f 5 then some (plainK (modL modP)) else none
theorem nat113 : code 113 = some (.nat (repeatA)) := rfl
theorem nat150 : code 150 = some (.nat (copyCheckA 255)) := rfl
theorem nat120 : code 120 = some (.nat (stringA 5)) := rfl
theorem nat161 : code 161 = some (.nat (onceA 189 160 191 190)) := rfl
theorem nat9 : code 9 = some (.nat (memA tabsT3_4_7 told9)) := rfl
theorem nat14 : code 14 = some (.nat (memA tabsT told14)) := rfl
theorem nat17 : code 17 = some (.nat (memA tabsT3 told17)) := rfl
theorem nat43 : code 43 = some (.nat (memA tabsT told43)) := rfl
theorem nat54 : code 54 = some (.nat (memA tabsT3 told54)) := rfl
theorem nat82 : code 82 = some (.nat (memA tabsT told82)) := rfl
theorem nat117 : code 117 = some (.nat (memA tabsT told117)) := rfl
theorem nat124 : code 124 = some (.nat (memA tabsT told124)) := rfl
theorem nat147 : code 147 = some (.nat (memA tabsT7 told147)) := rfl
theorem nat5 : code 5 = some (.nat (modL modP)) := rfl
theorem code_mono : NatMono code := fun f g h c c' hc args A r hr => by
  unfold code at h
  split at h
  · rename_i g2 hg
    cases h
    unfold natOf at hg
    by_cases e : f = 113
    · rw [if_pos e] at hg; cases hg; rw [repeatA_any c' c]; exact hr
    rw [if_neg e] at hg
    by_cases e : f = 150
    · rw [if_pos e] at hg; cases hg; rw [copyCheckA_any 255 c' c]; exact hr
    rw [if_neg e] at hg
    by_cases e : f = 120
    · rw [if_pos e] at hg; cases hg; rw [stringA_any 5 c' c]; exact hr
    rw [if_neg e] at hg
    by_cases e : f = 161
    · rw [if_pos e] at hg; cases hg; exact onceA_mono hc hr
    rw [if_neg e] at hg
    by_cases e : f = 9
    · rw [if_pos e] at hg; cases hg; rw [memA_any tabsT3_4_7 told9 c' c]; exact hr
    rw [if_neg e] at hg
    by_cases e : f = 14
    · rw [if_pos e] at hg; cases hg; rw [memA_any tabsT told14 c' c]; exact hr
    rw [if_neg e] at hg
    by_cases e : f = 17
    · rw [if_pos e] at hg; cases hg; rw [memA_any tabsT3 told17 c' c]; exact hr
    rw [if_neg e] at hg
    by_cases e : f = 43
    · rw [if_pos e] at hg; cases hg; rw [memA_any tabsT told43 c' c]; exact hr
    rw [if_neg e] at hg
    by_cases e : f = 54
    · rw [if_pos e] at hg; cases hg; rw [memA_any tabsT3 told54 c' c]; exact hr
    rw [if_neg e] at hg
    by_cases e : f = 82
    · rw [if_pos e] at hg; cases hg; rw [memA_any tabsT told82 c' c]; exact hr
    rw [if_neg e] at hg
    by_cases e : f = 117
    · rw [if_pos e] at hg; cases hg; rw [memA_any tabsT told117 c' c]; exact hr
    rw [if_neg e] at hg
    by_cases e : f = 124
    · rw [if_pos e] at hg; cases hg; rw [memA_any tabsT told124 c' c]; exact hr
    rw [if_neg e] at hg
    by_cases e : f = 147
    · rw [if_pos e] at hg; cases hg; rw [memA_any tabsT7 told147 c' c]; exact hr
    rw [if_neg e] at hg
    by_cases e : f = 5
    · rw [if_pos e] at hg; cases hg; rw [modL_any modP c' c]; exact hr
    rw [if_neg e] at hg
    cases hg
  · rw [comp_eq] at h; exact absurd h comp_no_nat
theorem nats_ok : NatsOk code nats := fun f gk h => by
  unfold nats at h
  cases hb : Nat.beq f 113 with
  | true =>
    have e := Nat.eq_of_beq_eq_true hb; subst e
    rw [hb] at h; cases h
    exact ⟨_, nat113, fun c hc args A k hk => plainK_ok repeatA_any hk⟩
  | false =>
  rw [hb] at h; simp only [cond_false] at h
  cases hb : Nat.beq f 150 with
  | true =>
    have e := Nat.eq_of_beq_eq_true hb; subst e
    rw [hb] at h; cases h
    exact ⟨_, nat150, fun c hc args A k hk => plainK_ok (copyCheckA_any 255) hk⟩
  | false =>
  rw [hb] at h; simp only [cond_false] at h
  cases hb : Nat.beq f 120 with
  | true =>
    have e := Nat.eq_of_beq_eq_true hb; subst e
    rw [hb] at h; cases h
    exact ⟨_, nat120, fun c hc args A k hk => plainK_ok (stringA_any 5) hk⟩
  | false =>
  rw [hb] at h; simp only [cond_false] at h
  cases hb : Nat.beq f 161 with
  | true =>
    have e := Nat.eq_of_beq_eq_true hb; subst e
    rw [hb] at h; cases h
    exact ⟨_, nat161, fun c hc args A k hk => onceK_ok code_mono hc hk⟩
  | false =>
  rw [hb] at h; simp only [cond_false] at h
  cases hb : Nat.beq f 9 with
  | true =>
    have e := Nat.eq_of_beq_eq_true hb; subst e
    rw [hb] at h; cases h
    exact ⟨_, nat9, fun c hc args A k hk => plainK_ok (memA_any tabsT3_4_7 told9) hk⟩
  | false =>
  rw [hb] at h; simp only [cond_false] at h
  cases hb : Nat.beq f 14 with
  | true =>
    have e := Nat.eq_of_beq_eq_true hb; subst e
    rw [hb] at h; cases h
    exact ⟨_, nat14, fun c hc args A k hk => plainK_ok (memA_any tabsT told14) hk⟩
  | false =>
  rw [hb] at h; simp only [cond_false] at h
  cases hb : Nat.beq f 17 with
  | true =>
    have e := Nat.eq_of_beq_eq_true hb; subst e
    rw [hb] at h; cases h
    exact ⟨_, nat17, fun c hc args A k hk => plainK_ok (memA_any tabsT3 told17) hk⟩
  | false =>
  rw [hb] at h; simp only [cond_false] at h
  cases hb : Nat.beq f 43 with
  | true =>
    have e := Nat.eq_of_beq_eq_true hb; subst e
    rw [hb] at h; cases h
    exact ⟨_, nat43, fun c hc args A k hk => plainK_ok (memA_any tabsT told43) hk⟩
  | false =>
  rw [hb] at h; simp only [cond_false] at h
  cases hb : Nat.beq f 54 with
  | true =>
    have e := Nat.eq_of_beq_eq_true hb; subst e
    rw [hb] at h; cases h
    exact ⟨_, nat54, fun c hc args A k hk => plainK_ok (memA_any tabsT3 told54) hk⟩
  | false =>
  rw [hb] at h; simp only [cond_false] at h
  cases hb : Nat.beq f 82 with
  | true =>
    have e := Nat.eq_of_beq_eq_true hb; subst e
    rw [hb] at h; cases h
    exact ⟨_, nat82, fun c hc args A k hk => plainK_ok (memA_any tabsT told82) hk⟩
  | false =>
  rw [hb] at h; simp only [cond_false] at h
  cases hb : Nat.beq f 117 with
  | true =>
    have e := Nat.eq_of_beq_eq_true hb; subst e
    rw [hb] at h; cases h
    exact ⟨_, nat117, fun c hc args A k hk => plainK_ok (memA_any tabsT told117) hk⟩
  | false =>
  rw [hb] at h; simp only [cond_false] at h
  cases hb : Nat.beq f 124 with
  | true =>
    have e := Nat.eq_of_beq_eq_true hb; subst e
    rw [hb] at h; cases h
    exact ⟨_, nat124, fun c hc args A k hk => plainK_ok (memA_any tabsT told124) hk⟩
  | false =>
  rw [hb] at h; simp only [cond_false] at h
  cases hb : Nat.beq f 147 with
  | true =>
    have e := Nat.eq_of_beq_eq_true hb; subst e
    rw [hb] at h; cases h
    exact ⟨_, nat147, fun c hc args A k hk => plainK_ok (memA_any tabsT7 told147) hk⟩
  | false =>
  rw [hb] at h; simp only [cond_false] at h
  cases hb : Nat.beq f 5 with
  | true =>
    have e := Nat.eq_of_beq_eq_true hb; subst e
    rw [hb] at h; cases h
    exact ⟨_, nat5, fun c hc args A k hk => plainK_ok (modL_any modP) hk⟩
  | false =>
  rw [hb] at h; simp only [cond_false] at h
  cases h
theorem quick {n : Nat} {f : FuncId} {args : List Value} {A : H} {k : Value → H → Bool} (h : kF code nats n f args A k = true) : ∃ m v A', evalF code m f args A = some (v, A') ∧ k v A' = true := kF_ok code_mono nats_ok n f args A k h
end Go.Proofs.YtainaihfbljjoaaGreatDoor.R
