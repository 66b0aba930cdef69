/- The seat's program as the interpreter sees it: its tables, the functions whose answers are told, and what its soundness asks of it. -/
import Derived.Test.YtcghikpogkigcaaGreatDoorRows
import Derived.Test.YtcghikpogkigcaaGreatDoorAbTab
import Derived.Test.YtcghikpogkigcaaGreatDoorAbNat
import Derived.Test.YtcghikpogkigcaaGreatDoorAbK
import Derived.Test.YtcghikpogkigcaaGreatDoorAbMem
import Derived.KernelRfl
import Derived.Test.YtcghikpogkigcaaGreatDoorAbDMAll
import Derived.Test.YtcghikpogkigcaaGreatDoorAbDWAll
set_option linter.all false
set_option linter.unusedSectionVars false
set_option linter.unusedVariables false
set_option linter.unusedSimpArgs false
namespace Go.Proofs.YtcghikpogkigcaaGreatDoor.R
open Go Go.Ab Go.Proofs
set_option maxRecDepth 1000000
section
variable [Kn]
noncomputable def natOf (f : FuncId) : Option (Caller → List Value → H → Option (Value × H)) :=
  if f = 135 then some (repeatA) else if f = 172 then some (copyCheckA 278) else if f = 142 then some (stringA 5) else if f = 179 then some (onceA 207 178 209 208) else if f = 7 then some (memA tabsT1_5_7 told7) else if f = 63 then some (wayA wtabsT5 64 rest0 t0_0) else if f = 40 then some (wayA wtabsT 64 rest1 t1_0) else none
noncomputable def code (f : FuncId) : Option XFun := match natOf f with
  | some g => some (.nat g)
  | none => comp f
theorem code_body : CodeOf Tryz.prog code := fun f x h hn => by
  unfold code at h
  split at h
  · cases h; exact absurd rfl (hn _)
  · rw [← comp_eq]; exact h
theorem body209 : code 209 = some (.body (bodyOf (code 209))) := by kernel_rfl
theorem body208 : code 208 = some (.body (bodyOf (code 208))) := by kernel_rfl
theorem ent135 : Ab.Enters Tryz.prog 135 := ent_of Tryz.func135 (by kernel_rfl) (by kernel_rfl)
theorem ent172 : Ab.Enters Tryz.prog 172 := ent_of Tryz.func172 (by kernel_rfl) (by kernel_rfl)
theorem ent142 : Ab.Enters Tryz.prog 142 := ent_of Tryz.func142 (by kernel_rfl) (by kernel_rfl)
theorem ent179 : Ab.Enters Tryz.prog 179 := ent_of Tryz.func179 (by kernel_rfl) (by kernel_rfl)
theorem ent7 : Ab.Enters Tryz.prog 7 := ent_of Tryz.func7 (by kernel_rfl) (by kernel_rfl)
theorem ent63 : Ab.Enters Tryz.prog 63 := ent_of Tryz.func63 (by kernel_rfl) (by kernel_rfl)
theorem ent40 : Ab.Enters Tryz.prog 40 := ent_of Tryz.func40 (by kernel_rfl) (by kernel_rfl)
theorem code_nat [Unk] [KnOk] : NatOk Tryz.prog code := fun f g h => by
  unfold code at h
  split at h
  · rename_i g2 hg
    cases h
    unfold natOf at hg
    by_cases e : f = 135
    · rw [if_pos e] at hg; subst e; cases hg; exact ⟨ent135, fun call hcall hD args A r A' h σ w argsc hr hl => repeat_ok (ρ := Tryz.lays105_ren) Tryz.lays105 Tryz.Builder_Extra_105 h hr hl⟩
    rw [if_neg e] at hg
    by_cases e : f = 172
    · rw [if_pos e] at hg; subst e; cases hg; exact ⟨ent172, fun call hcall hD args A r A' h σ w argsc hr hl => copyCheck_ok (ρ := Tryz.lays105_ren) { Tryz.lays105 with } Tryz.Builder_Extra_105.toX72 h hr hl⟩
    rw [if_neg e] at hg
    by_cases e : f = 142
    · rw [if_pos e] at hg; subst e; cases hg; exact ⟨ent142, fun call hcall hD args A r A' h σ w argsc hr hl => string_ok (ρ := Tryz.lays105_ren) { Tryz.lays105 with } Tryz.Builder_Extra_105 h hr hl⟩
    rw [if_neg e] at hg
    by_cases e : f = 179
    · rw [if_pos e] at hg; subst e; cases hg; exact ⟨ent179, fun call hcall hD args A r A' h σ w argsc hr hl => once_ok hcall (hD 209 (bodyOf (code 209)) body209) (hD 208 (bodyOf (code 208)) body208) h hr hl⟩
    rw [if_neg e] at hg
    by_cases e : f = 7
    · rw [if_pos e] at hg; subst e; cases hg; exact ⟨ent7, fun call hcall hD args A r A' h σ w argsc hr hl => mem_ok count tabsT1_5_7_flat all7 h hr hl⟩
    rw [if_neg e] at hg
    by_cases e : f = 63
    · rw [if_pos e] at hg; subst e; cases hg; exact ⟨ent63, fun call hcall hD args A r A' h σ w argsc hr hl => way_ok count wtabsT5_flat (by decide) (by kernel_rfl) r0_0 h hr hl⟩
    rw [if_neg e] at hg
    by_cases e : f = 40
    · rw [if_pos e] at hg; subst e; cases hg; exact ⟨ent40, fun call hcall hD args A r A' h σ w argsc hr hl => way_ok count wtabsT_flat (by decide) (by kernel_rfl) r1_0 h hr hl⟩
    rw [if_neg e] at hg
    cases hg
  · rw [comp_eq] at h; exact absurd h comp_no_nat
noncomputable def nats (f : FuncId) : Option KNat :=
  bif Nat.beq f 135 then some (plainK repeatA) else bif Nat.beq f 172 then some (plainK (copyCheckA 278)) else bif Nat.beq f 142 then some (plainK (stringA 5)) else bif Nat.beq f 179 then some (onceK 207 178 209 208) else bif Nat.beq f 7 then some (plainK (memA tabsT1_5_7 told7)) else bif Nat.beq f 63 then some (plainK (wayA wtabsT5 64 rest0 t0_0)) else bif Nat.beq f 40 then some (plainK (wayA wtabsT 64 rest1 t1_0)) else none
theorem nat135 : code 135 = some (.nat (repeatA)) := rfl
theorem nat172 : code 172 = some (.nat (copyCheckA 278)) := rfl
theorem nat142 : code 142 = some (.nat (stringA 5)) := rfl
theorem nat179 : code 179 = some (.nat (onceA 207 178 209 208)) := rfl
theorem nat7 : code 7 = some (.nat (memA tabsT1_5_7 told7)) := rfl
theorem nat63 : code 63 = some (.nat (wayA wtabsT5 64 rest0 t0_0)) := rfl
theorem nat40 : code 40 = some (.nat (wayA wtabsT 64 rest1 t1_0)) := rfl
theorem code_mono : NatMono code := fun f g h c c' hc args A r hr => by
  unfold code at h
  split at h
  · rename_i g2 hg
    cases h
    unfold natOf at hg
    by_cases e : f = 135
    · rw [if_pos e] at hg; cases hg; rw [repeatA_any c' c]; exact hr
    rw [if_neg e] at hg
    by_cases e : f = 172
    · rw [if_pos e] at hg; cases hg; rw [copyCheckA_any 278 c' c]; exact hr
    rw [if_neg e] at hg
    by_cases e : f = 142
    · rw [if_pos e] at hg; cases hg; rw [stringA_any 5 c' c]; exact hr
    rw [if_neg e] at hg
    by_cases e : f = 179
    · rw [if_pos e] at hg; cases hg; exact onceA_mono hc hr
    rw [if_neg e] at hg
    by_cases e : f = 7
    · rw [if_pos e] at hg; cases hg; rw [memA_any tabsT1_5_7 told7 c' c]; exact hr
    rw [if_neg e] at hg
    by_cases e : f = 63
    · rw [if_pos e] at hg; cases hg; rw [wayA_any wtabsT5 64 rest0 t0_0 c' c]; exact hr
    rw [if_neg e] at hg
    by_cases e : f = 40
    · rw [if_pos e] at hg; cases hg; rw [wayA_any wtabsT 64 rest1 t1_0 c' c]; exact hr
    rw [if_neg e] at hg
    cases hg
  · rw [comp_eq] at h; exact absurd h comp_no_nat
theorem nats_ok : NatsOk code nats := fun f gk h => by
  unfold nats at h
  cases hb : Nat.beq f 135 with
  | true =>
    have e := Nat.eq_of_beq_eq_true hb; subst e
    rw [hb] at h; cases h
    exact ⟨_, nat135, fun c hc args A k hk => plainK_ok repeatA_any hk⟩
  | false =>
  rw [hb] at h; simp only [cond_false] at h
  cases hb : Nat.beq f 172 with
  | true =>
    have e := Nat.eq_of_beq_eq_true hb; subst e
    rw [hb] at h; cases h
    exact ⟨_, nat172, fun c hc args A k hk => plainK_ok (copyCheckA_any 278) hk⟩
  | false =>
  rw [hb] at h; simp only [cond_false] at h
  cases hb : Nat.beq f 142 with
  | true =>
    have e := Nat.eq_of_beq_eq_true hb; subst e
    rw [hb] at h; cases h
    exact ⟨_, nat142, fun c hc args A k hk => plainK_ok (stringA_any 5) hk⟩
  | false =>
  rw [hb] at h; simp only [cond_false] at h
  cases hb : Nat.beq f 179 with
  | true =>
    have e := Nat.eq_of_beq_eq_true hb; subst e
    rw [hb] at h; cases h
    exact ⟨_, nat179, fun c hc args A k hk => onceK_ok code_mono hc hk⟩
  | false =>
  rw [hb] at h; simp only [cond_false] at h
  cases hb : Nat.beq f 7 with
  | true =>
    have e := Nat.eq_of_beq_eq_true hb; subst e
    rw [hb] at h; cases h
    exact ⟨_, nat7, fun c hc args A k hk => plainK_ok (memA_any tabsT1_5_7 told7) hk⟩
  | false =>
  rw [hb] at h; simp only [cond_false] at h
  cases hb : Nat.beq f 63 with
  | true =>
    have e := Nat.eq_of_beq_eq_true hb; subst e
    rw [hb] at h; cases h
    exact ⟨_, nat63, fun c hc args A k hk => plainK_ok (wayA_any wtabsT5 64 rest0 t0_0) hk⟩
  | false =>
  rw [hb] at h; simp only [cond_false] at h
  cases hb : Nat.beq f 40 with
  | true =>
    have e := Nat.eq_of_beq_eq_true hb; subst e
    rw [hb] at h; cases h
    exact ⟨_, nat40, fun c hc args A k hk => plainK_ok (wayA_any wtabsT 64 rest1 t1_0) hk⟩
  | false =>
  rw [hb] at h; simp only [cond_false] at h
  cases h
theorem quick {n : Nat} {f : FuncId} {args : List Value} {A : H} {k : Value → H → Bool} (h : kF code nats n f args A k = true) : ∃ m v A', evalF code m f args A = some (v, A') ∧ k v A' = true := kF_ok code_mono nats_ok n f args A k h
end
end Go.Proofs.YtcghikpogkigcaaGreatDoor.R
