/- NvmeLogs: remainders of the unknown numbers of the list's entries, told by their bits; the host's name. -/
/- The seat's program as the interpreter sees it: its tables, the functions whose answers are told, and what its soundness asks of it. -/
/- The seat's program as the interpreter sees it: its tables, the functions whose answers are told, and what its soundness asks of it. -/
import Derived.Test.YtcghikpogkigcaaGreatDoorAbDName
import Derived.Test.YtcghikpogkigcaaGreatDoorAbMem
import Derived.Test.YtcghikpogkigcaaGreatDoorAbLoop
import Derived.WalkKit
import Derived.WalkLawsBesides
import Derived.Test.YtcghikpogkigcaaGreatDoorRows
import Derived.Test.YtcghikpogkigcaaGreatDoorAbTab
import Derived.Test.YtcghikpogkigcaaGreatDoorAbNat
import Derived.Test.YtcghikpogkigcaaGreatDoorAbK
import Derived.KernelRfl
import Derived.Test.YtcghikpogkigcaaGreatDoorAbDMAll
set_option linter.all false
set_option linter.unusedSectionVars false
set_option linter.unusedVariables false
set_option linter.unusedSimpArgs false
namespace Go.Proofs.YtcghikpogkigcaaGreatDoor
open Go Go.Ab Go.Proofs Go.RowKit
set_option maxRecDepth 1000000
set_option maxHeartbeats 1000000 in
theorem mod_walk (k m : Int) (w : World) (h1 : 1 ≤ m) (h2 : m ≤ 4096) : Calls Tryz.prog 8 #[.int .i64 k, .int .i64 m] w fun e w' => e = .returned (.int .i64 (modV k m)) ∧ Below w.heap.size w w' := by
  have hb : -m < k.tmod m ∧ k.tmod m < m := ⟨by have := Int.lt_tmod_of_pos k (show 0 < m by omega); omega, Int.tmod_lt_of_pos k (by omega)⟩
  go_enter Tryz.func8, Tryz.ntmps8
  go_wp2
  all_goals (go_ret; refine ⟨?_, Below.refl _ _⟩; simp [modV]; rw [Int.tmod_eq_emod_of_nonneg (show 0 ≤ k.tmod m + m by omega), Int.add_emod_right])
/-- Which bits tell what is left of the k-th unknown number by m. -/
def bitsFor (k : Nat) (m : Int) : Option (List Nat) :=
  bif Nat.ble 6100 k && Nat.blt k 6116 then
    bif decide (m = 2) && Nat.beq (Nat.mod k 2) 0 then some [Nat.add 66 (Nat.mul 3 (Nat.div (Nat.sub k 6100) 2))]
    else bif decide (m = 4) && Nat.beq (Nat.mod k 2) 1 then some [Nat.add 67 (Nat.mul 3 (Nat.div (Nat.sub k 6100) 2)), Nat.add 68 (Nat.mul 3 (Nat.div (Nat.sub k 6100) 2))]
    else none
  else none
def modQ [Kn] : Caller → List Value → H → Option (Value × H)
  | _, [.chan (some k), .int .i64 m], A => (bitsFor k m).bind fun l => (match l with
    | [c] => (match Kn.ask [(c, 1)] with
      | some b => some (Value.int .i64 (bif b then 1 else 0))
      | none => none)
    | l => mkV ⟨.i64, 1, 0, l⟩).map fun v => (v, A)
  | _, [.int .i64 k, .int .i64 m], A => if 1 ≤ m ∧ m ≤ 4096 then some (.int .i64 (modV k m), A) else none
  | _, _, _ => none
theorem modQ_any [Kn] (c c' : Caller) (args : List Value) (A : H) : modQ c args A = modQ c' args A := by
  unfold modQ; split <;> rfl
/-- What is known of what is unknown: the host is a text, a name or not; the entries' remainders are what bits tell. -/
structure GoodL (b : Bool) (I : Unk) : Prop where
  host : ∃ s : ByteArray, I.val 7000 = .string s ∧ nameB s = b ∧ s.size ≤ maxLen
  ent : ∀ k m l, bitsFor k m = some l → ∃ x : Int, I.val k = .int .i64 x ∧ modV x m = (denL I.bit l : Int)
theorem bitsFor_mem {k : Nat} {m : Int} {l : List Nat} (h : bitsFor k m = some l) : 1 ≤ m ∧ m ≤ 4096 ∧ ∀ c ∈ l, 66 ≤ c ∧ c < 90 := by
  unfold bitsFor at h
  cases h0 : (Nat.ble 6100 k && Nat.blt k 6116) with
  | false => rw [h0] at h; cases h
  | true =>
    rw [h0, cond_true] at h
    rw [Bool.and_eq_true] at h0
    have hk1 := Nat.le_of_ble_eq_true h0.1
    have hk2 := blt_t h0.2
    have hd : (k - 6100) / 2 < 8 := by omega
    cases h1 : (decide (m = 2) && Nat.beq (Nat.mod k 2) 0) with
    | true =>
      rw [h1, cond_true] at h
      rw [Bool.and_eq_true] at h1
      have hm := of_decide_eq_true h1.1
      cases h
      refine ⟨by omega, by omega, fun c hc => ?_⟩
      have e : c = 66 + 3 * ((k - 6100) / 2) := List.mem_singleton.1 hc
      omega
    | false =>
      rw [h1, cond_false] at h
      cases h2 : (decide (m = 4) && Nat.beq (Nat.mod k 2) 1) with
      | false => rw [h2] at h; cases h
      | true =>
        rw [h2, cond_true] at h
        rw [Bool.and_eq_true] at h2
        have hm := of_decide_eq_true h2.1
        cases h
        refine ⟨by omega, by omega, fun c hc => ?_⟩
        have e : c = 67 + 3 * ((k - 6100) / 2) ∨ c = 68 + 3 * ((k - 6100) / 2) := by
          rcases List.mem_cons.1 hc with hc | hc
          · exact .inl hc
          · exact .inr (List.mem_singleton.1 hc)
        omega
theorem good_th {b : Bool} {I : Unk} {N m : Nat} {hm : m ≤ 40000} (h64 : m ≤ 64) (h : GoodL b I) : GoodL b (@thUnk I N m hm) := by
  refine ⟨h.host, fun k q l hl => ?_⟩
  obtain ⟨x, h1, h2⟩ := h.ent k q l hl
  refine ⟨x, h1, ?_⟩
  rw [h2]
  have hc := (bitsFor_mem hl).2.2
  show (denL I.bit l : Int) = (denL (thBit I.bit N m) l : Int)
  rw [den_th]
  congr 2
  clear hl h2
  induction l with
  | nil => rfl
  | cons c l ih =>
    rw [List.map_cons, ← ih (fun c hc' => hc c (.tail _ hc'))]
    congr 1
    have := hc c (.head _)
    unfold thC
    rw [show Nat.blt c 2 = false from by rw [Bool.eq_false_iff]; intro e; have := blt_t e; omega, cond_false,
      show Nat.blt (Nat.sub c 2) m = false from by rw [Bool.eq_false_iff]; intro e; have := blt_t e; have e2 : Nat.sub c 2 = c - 2 := rfl; omega, cond_false]
section
variable [I : Unk] [Kn] [KnOk]
theorem modQ_ok {b : Bool} (hg : GoodL b I) {call : Caller} {args : List Value} {A : H} {r : Value} {A' : H} (h : modQ call args A = some (r, A')) {σ : Sg} {w : World} {argsc : List Value} (hr : Rel Tryz.prog σ A w) (hl : LRel σ args argsc) :
    Calls Tryz.prog 8 argsc.toArray w (CPost Tryz.prog σ A w r A') := by
  unfold modQ at h
  split at h
  · rename_i k m
    rw [Option.bind_eq_some_iff] at h
    obtain ⟨l, hl0, h⟩ := h
    rw [Option.map_eq_some_iff] at h
    obtain ⟨v, hv, he⟩ := h
    cases he
    obtain ⟨h1, h2, _⟩ := bitsFor_mem hl0
    obtain ⟨x, hx, hm⟩ := hg.ent k m l hl0
    obtain ⟨v1, r1, rfl, hv1, hl⟩ := hl.cons_inv
    obtain ⟨v2, r2, rfl, hv2, hl⟩ := hl.cons_inv
    have : r2 = [] := List.eq_nil_of_length_eq_zero (by have := hl.len; simpa using this.symm)
    subst this
    cases hv1; cases hv2
    rw [hx]
    refine (mod_walk x m w h1 h2).mono fun e w' he => ?_
    obtain ⟨q1, q2⟩ := hr.below he.2
    refine ⟨_, σ, he.1, ?_, q1, q2⟩
    rw [hm]
    have hv' : mkV ⟨.i64, 1, 0, l⟩ = some r ∨ ∃ c b, l = [c] ∧ Kn.ask [(c, 1)] = some b ∧ r = .int .i64 (bif b then 1 else 0) := by
      split at hv
      · rename_i c _ _ _
        split at hv
        · rename_i b hb
          cases hv
          exact .inr ⟨_, b, rfl, hb, rfl⟩
        · cases hv
      · exact .inl hv
    rcases hv' with hv | ⟨c, b', rfl, hb, rfl⟩
    case inr =>
      have hk := KnOk.ok _ _ hb
      have e : (if b' then (1 : Int) else 0) = (denL I.bit [c] : Int) := by
        have h1 : denL I.bit [c] = (bitV I.bit c).toNat := by show (bitV I.bit c).toNat + 2 * 0 = _; omega
        rw [h1]
        have h2 : b' = bitV I.bit c := by
          rw [Bool.eq_iff_iff, hk]
          constructor
          · intro hh
            exact hh (c, 1) (.head _)
          · intro hh p hp
            have e : p = (c, 1) := by simpa using hp
            subst e
            exact hh
        rw [← h2]
        cases b' <;> rfl
      have e2 : (bif b' then (1 : Int) else 0) = (denL I.bit [c] : Int) := by rw [← e]; cases b' <;> rfl
      rw [e2]
      exact VRel.int _ _
    have hs := (mkV_ok (bit := I.bit) hv).1
    have hd : fmDen I.bit ⟨.i64, 1, 0, l⟩ = denL I.bit l := by show 1 * denL I.bit l + 0 = _; omega
    rw [hd] at hs
    rcases hs with rfl | ⟨c2, n2, rfl, e1, e2⟩
    · exact VRel.int _ _
    · have h2 := VRel.sym (σ := σ) c2 n2
      rw [e1, ← e2] at h2
      exact h2
  · rename_i k m
    split at h
    · rename_i hm
      simp only [Option.some.injEq, Prod.mk.injEq] at h
      obtain ⟨rfl, rfl⟩ := h
      obtain ⟨v1, r1, rfl, hv1, hl⟩ := hl.cons_inv
      obtain ⟨v2, r2, rfl, hv2, hl⟩ := hl.cons_inv
      have : r2 = [] := List.eq_nil_of_length_eq_zero (by have := hl.len; simpa using this.symm)
      subst this
      cases hv1; cases hv2
      refine (mod_walk k m w hm.1 hm.2).mono fun e w' he => ?_
      exact CPost.flat hr (.int _ _) he.1 he.2
    · cases h
  · cases h
end
/-- Is the host a name? -/
def nameA (b : Bool) : Caller → List Value → H → Option (Value × H)
  | _, [.chan (some k)], A => bif Nat.beq k 7000 then some (.bool b, A) else none
  | _, [.string s], A => bif Nat.ble s.size 4096 then some (.bool (nameB s), A) else none
  | _, _, _ => none
theorem nameA_any (b : Bool) (c c' : Caller) (args : List Value) (A : H) : nameA b c args A = nameA b c' args A := by
  unfold nameA; split <;> rfl
section
variable [I : Unk] [Kn] [KnOk]
theorem nameA_ok {f : FuncId} (hw : ∀ (σ : Sg) (A : H) (w : World), Rel Tryz.prog σ A w → ∀ s : ByteArray, s.size ≤ maxLen → Calls Tryz.prog f #[.string s] w fun e w' => e = .returned (.bool (nameB s)) ∧ Below w.heap.size w w')
    {b : Bool} (hg : GoodL b I) {call : Caller} {args : List Value} {A : H} {r : Value} {A' : H} (h : nameA b call args A = some (r, A')) {σ : Sg} {w : World} {argsc : List Value} (hr : Rel Tryz.prog σ A w) (hl : LRel σ args argsc) :
    Calls Tryz.prog f argsc.toArray w (CPost Tryz.prog σ A w r A') := by
  unfold nameA at h
  split at h
  · rename_i k
    cases hb : Nat.beq k 7000 with
    | false => rw [hb] at h; cases h
    | true =>
      rw [hb] at h
      cases h
      have e := Nat.eq_of_beq_eq_true hb
      subst e
      obtain ⟨v1, r1, rfl, hv1, hl⟩ := hl.cons_inv
      have : r1 = [] := List.eq_nil_of_length_eq_zero (by have := hl.len; simpa using this.symm)
      subst this
      cases hv1
      obtain ⟨s, h1, h2, h3⟩ := hg.host
      rw [h1]
      refine (hw σ A w hr s h3).mono fun e w' he => ?_
      rw [h2] at he
      exact CPost.flat hr (.bool _) he.1 he.2
  · rename_i s
    cases hb : Nat.ble s.size 4096 with
    | false => rw [hb] at h; cases h
    | true =>
      rw [hb] at h
      cases h
      obtain ⟨v1, r1, rfl, hv1, hl⟩ := hl.cons_inv
      have : r1 = [] := List.eq_nil_of_length_eq_zero (by have := hl.len; simpa using this.symm)
      subst this
      cases hv1
      exact (hw σ A w hr s (by have := Nat.le_of_ble_eq_true hb; unfold maxLen; omega)).mono fun e w' he => CPost.flat hr (.bool _) he.1 he.2
  · cases h
end
end Go.Proofs.YtcghikpogkigcaaGreatDoor
namespace Go.Proofs.YtcghikpogkigcaaGreatDoor.L
open Go Go.Ab Go.Proofs
set_option maxRecDepth 1000000
section
variable [Kn]
noncomputable def natOf (f : FuncId) : Option (Caller → List Value → H → Option (Value × H)) :=
  if f = 135 then some (repeatA) else if f = 172 then some (copyCheckA 278) else if f = 142 then some (stringA 5) else if f = 179 then some (onceA 207 178 209 208) else if f = 7 then some (memA tabsT1_5_7 told7) else if f = 11 then some (memA tabsT told11) else if f = 26 then some (memA tabsT5 told26) else if f = 81 then some (memA tabsT told81) else if f = 8 then some (modQ) else if f = 23 then some (nameA true) else if f = 6 then some (nameA true) else none
noncomputable def code (f : FuncId) : Option XFun := match natOf f with
  | some g => some (.nat g)
  | none => comp f
theorem code_body : CodeOf Tryz.prog code := fun f x h hn => by
  unfold code at h
  split at h
  · cases h; exact absurd rfl (hn _)
  · rw [← comp_eq]; exact h
theorem body209 : code 209 = some (.body (bodyOf (code 209))) := by kernel_rfl
theorem body208 : code 208 = some (.body (bodyOf (code 208))) := by kernel_rfl
theorem ent135 : Ab.Enters Tryz.prog 135 := ent_of Tryz.func135 (by kernel_rfl) (by kernel_rfl)
theorem ent172 : Ab.Enters Tryz.prog 172 := ent_of Tryz.func172 (by kernel_rfl) (by kernel_rfl)
theorem ent142 : Ab.Enters Tryz.prog 142 := ent_of Tryz.func142 (by kernel_rfl) (by kernel_rfl)
theorem ent179 : Ab.Enters Tryz.prog 179 := ent_of Tryz.func179 (by kernel_rfl) (by kernel_rfl)
theorem ent7 : Ab.Enters Tryz.prog 7 := ent_of Tryz.func7 (by kernel_rfl) (by kernel_rfl)
theorem ent11 : Ab.Enters Tryz.prog 11 := ent_of Tryz.func11 (by kernel_rfl) (by kernel_rfl)
theorem ent26 : Ab.Enters Tryz.prog 26 := ent_of Tryz.func26 (by kernel_rfl) (by kernel_rfl)
theorem ent81 : Ab.Enters Tryz.prog 81 := ent_of Tryz.func81 (by kernel_rfl) (by kernel_rfl)
theorem ent8 : Ab.Enters Tryz.prog 8 := ent_of Tryz.func8 (by kernel_rfl) (by kernel_rfl)
theorem ent23 : Ab.Enters Tryz.prog 23 := ent_of Tryz.func23 (by kernel_rfl) (by kernel_rfl)
theorem ent6 : Ab.Enters Tryz.prog 6 := ent_of Tryz.func6 (by kernel_rfl) (by kernel_rfl)
theorem code_nat [Unk] [KnOk] (hG : GoodL true ‹Unk›) : NatOk Tryz.prog code := fun f g h => by
  unfold code at h
  split at h
  · rename_i g2 hg
    cases h
    unfold natOf at hg
    by_cases e : f = 135
    · rw [if_pos e] at hg; subst e; cases hg; exact ⟨ent135, fun call hcall hD args A r A' h σ w argsc hr hl => repeat_ok (ρ := Tryz.lays105_ren) Tryz.lays105 Tryz.Builder_Extra_105 h hr hl⟩
    rw [if_neg e] at hg
    by_cases e : f = 172
    · rw [if_pos e] at hg; subst e; cases hg; exact ⟨ent172, fun call hcall hD args A r A' h σ w argsc hr hl => copyCheck_ok (ρ := Tryz.lays105_ren) { Tryz.lays105 with } Tryz.Builder_Extra_105.toX72 h hr hl⟩
    rw [if_neg e] at hg
    by_cases e : f = 142
    · rw [if_pos e] at hg; subst e; cases hg; exact ⟨ent142, fun call hcall hD args A r A' h σ w argsc hr hl => string_ok (ρ := Tryz.lays105_ren) { Tryz.lays105 with } Tryz.Builder_Extra_105 h hr hl⟩
    rw [if_neg e] at hg
    by_cases e : f = 179
    · rw [if_pos e] at hg; subst e; cases hg; exact ⟨ent179, fun call hcall hD args A r A' h σ w argsc hr hl => once_ok hcall (hD 209 (bodyOf (code 209)) body209) (hD 208 (bodyOf (code 208)) body208) h hr hl⟩
    rw [if_neg e] at hg
    by_cases e : f = 7
    · rw [if_pos e] at hg; subst e; cases hg; exact ⟨ent7, fun call hcall hD args A r A' h σ w argsc hr hl => mem_ok count tabsT1_5_7_flat all7 h hr hl⟩
    rw [if_neg e] at hg
    by_cases e : f = 11
    · rw [if_pos e] at hg; subst e; cases hg; exact ⟨ent11, fun call hcall hD args A r A' h σ w argsc hr hl => mem_ok count tabsT_flat all11 h hr hl⟩
    rw [if_neg e] at hg
    by_cases e : f = 26
    · rw [if_pos e] at hg; subst e; cases hg; exact ⟨ent26, fun call hcall hD args A r A' h σ w argsc hr hl => mem_ok count tabsT5_flat all26 h hr hl⟩
    rw [if_neg e] at hg
    by_cases e : f = 81
    · rw [if_pos e] at hg; subst e; cases hg; exact ⟨ent81, fun call hcall hD args A r A' h σ w argsc hr hl => mem_ok count tabsT_flat all81 h hr hl⟩
    rw [if_neg e] at hg
    by_cases e : f = 8
    · rw [if_pos e] at hg; subst e; cases hg; exact ⟨ent8, fun call hcall hD args A r A' h σ w argsc hr hl => modQ_ok hG h hr hl⟩
    rw [if_neg e] at hg
    by_cases e : f = 23
    · rw [if_pos e] at hg; subst e; cases hg; exact ⟨ent23, fun call hcall hD args A r A' h σ w argsc hr hl => nameA_ok (fun σ A w hr s hs => name_walk hr s hs) hG h hr hl⟩
    rw [if_neg e] at hg
    by_cases e : f = 6
    · rw [if_pos e] at hg; subst e; cases hg; exact ⟨ent6, fun call hcall hD args A r A' h σ w argsc hr hl => nameA_ok (fun σ A w hr s hs => (ref_name s w hs).mono fun e w' he => ⟨he.1, by rw [he.2]; exact Go.RowKit.Below.refl _ _⟩) hG h hr hl⟩
    rw [if_neg e] at hg
    cases hg
  · rw [comp_eq] at h; exact absurd h comp_no_nat
noncomputable def nats (f : FuncId) : Option KNat :=
  bif Nat.beq f 135 then some (plainK repeatA) else bif Nat.beq f 172 then some (plainK (copyCheckA 278)) else bif Nat.beq f 142 then some (plainK (stringA 5)) else bif Nat.beq f 179 then some (onceK 207 178 209 208) else bif Nat.beq f 7 then some (plainK (memA tabsT1_5_7 told7)) else bif Nat.beq f 11 then some (plainK (memA tabsT told11)) else bif Nat.beq f 26 then some (plainK (memA tabsT5 told26)) else bif Nat.beq f 81 then some (plainK (memA tabsT told81)) else bif Nat.beq f 8 then some (plainK modQ) else bif Nat.beq f 23 then some (plainK (nameA true)) else bif Nat.beq f 6 then some (plainK (nameA true)) else none
theorem nat135 : code 135 = some (.nat (repeatA)) := rfl
theorem nat172 : code 172 = some (.nat (copyCheckA 278)) := rfl
theorem nat142 : code 142 = some (.nat (stringA 5)) := rfl
theorem nat179 : code 179 = some (.nat (onceA 207 178 209 208)) := rfl
theorem nat7 : code 7 = some (.nat (memA tabsT1_5_7 told7)) := rfl
theorem nat11 : code 11 = some (.nat (memA tabsT told11)) := rfl
theorem nat26 : code 26 = some (.nat (memA tabsT5 told26)) := rfl
theorem nat81 : code 81 = some (.nat (memA tabsT told81)) := rfl
theorem nat8 : code 8 = some (.nat (modQ)) := rfl
theorem nat23 : code 23 = some (.nat (nameA true)) := rfl
theorem nat6 : code 6 = some (.nat (nameA true)) := rfl
theorem code_mono : NatMono code := fun f g h c c' hc args A r hr => by
  unfold code at h
  split at h
  · rename_i g2 hg
    cases h
    unfold natOf at hg
    by_cases e : f = 135
    · rw [if_pos e] at hg; cases hg; rw [repeatA_any c' c]; exact hr
    rw [if_neg e] at hg
    by_cases e : f = 172
    · rw [if_pos e] at hg; cases hg; rw [copyCheckA_any 278 c' c]; exact hr
    rw [if_neg e] at hg
    by_cases e : f = 142
    · rw [if_pos e] at hg; cases hg; rw [stringA_any 5 c' c]; exact hr
    rw [if_neg e] at hg
    by_cases e : f = 179
    · rw [if_pos e] at hg; cases hg; exact onceA_mono hc hr
    rw [if_neg e] at hg
    by_cases e : f = 7
    · rw [if_pos e] at hg; cases hg; rw [memA_any tabsT1_5_7 told7 c' c]; exact hr
    rw [if_neg e] at hg
    by_cases e : f = 11
    · rw [if_pos e] at hg; cases hg; rw [memA_any tabsT told11 c' c]; exact hr
    rw [if_neg e] at hg
    by_cases e : f = 26
    · rw [if_pos e] at hg; cases hg; rw [memA_any tabsT5 told26 c' c]; exact hr
    rw [if_neg e] at hg
    by_cases e : f = 81
    · rw [if_pos e] at hg; cases hg; rw [memA_any tabsT told81 c' c]; exact hr
    rw [if_neg e] at hg
    by_cases e : f = 8
    · rw [if_pos e] at hg; cases hg; rw [modQ_any c' c]; exact hr
    rw [if_neg e] at hg
    by_cases e : f = 23
    · rw [if_pos e] at hg; cases hg; rw [nameA_any true c' c]; exact hr
    rw [if_neg e] at hg
    by_cases e : f = 6
    · rw [if_pos e] at hg; cases hg; rw [nameA_any true c' c]; exact hr
    rw [if_neg e] at hg
    cases hg
  · rw [comp_eq] at h; exact absurd h comp_no_nat
theorem nats_ok : NatsOk code nats := fun f gk h => by
  unfold nats at h
  cases hb : Nat.beq f 135 with
  | true =>
    have e := Nat.eq_of_beq_eq_true hb; subst e
    rw [hb] at h; cases h
    exact ⟨_, nat135, fun c hc args A k hk => plainK_ok repeatA_any hk⟩
  | false =>
  rw [hb] at h; simp only [cond_false] at h
  cases hb : Nat.beq f 172 with
  | true =>
    have e := Nat.eq_of_beq_eq_true hb; subst e
    rw [hb] at h; cases h
    exact ⟨_, nat172, fun c hc args A k hk => plainK_ok (copyCheckA_any 278) hk⟩
  | false =>
  rw [hb] at h; simp only [cond_false] at h
  cases hb : Nat.beq f 142 with
  | true =>
    have e := Nat.eq_of_beq_eq_true hb; subst e
    rw [hb] at h; cases h
    exact ⟨_, nat142, fun c hc args A k hk => plainK_ok (stringA_any 5) hk⟩
  | false =>
  rw [hb] at h; simp only [cond_false] at h
  cases hb : Nat.beq f 179 with
  | true =>
    have e := Nat.eq_of_beq_eq_true hb; subst e
    rw [hb] at h; cases h
    exact ⟨_, nat179, fun c hc args A k hk => onceK_ok code_mono hc hk⟩
  | false =>
  rw [hb] at h; simp only [cond_false] at h
  cases hb : Nat.beq f 7 with
  | true =>
    have e := Nat.eq_of_beq_eq_true hb; subst e
    rw [hb] at h; cases h
    exact ⟨_, nat7, fun c hc args A k hk => plainK_ok (memA_any tabsT1_5_7 told7) hk⟩
  | false =>
  rw [hb] at h; simp only [cond_false] at h
  cases hb : Nat.beq f 11 with
  | true =>
    have e := Nat.eq_of_beq_eq_true hb; subst e
    rw [hb] at h; cases h
    exact ⟨_, nat11, fun c hc args A k hk => plainK_ok (memA_any tabsT told11) hk⟩
  | false =>
  rw [hb] at h; simp only [cond_false] at h
  cases hb : Nat.beq f 26 with
  | true =>
    have e := Nat.eq_of_beq_eq_true hb; subst e
    rw [hb] at h; cases h
    exact ⟨_, nat26, fun c hc args A k hk => plainK_ok (memA_any tabsT5 told26) hk⟩
  | false =>
  rw [hb] at h; simp only [cond_false] at h
  cases hb : Nat.beq f 81 with
  | true =>
    have e := Nat.eq_of_beq_eq_true hb; subst e
    rw [hb] at h; cases h
    exact ⟨_, nat81, fun c hc args A k hk => plainK_ok (memA_any tabsT told81) hk⟩
  | false =>
  rw [hb] at h; simp only [cond_false] at h
  cases hb : Nat.beq f 8 with
  | true =>
    have e := Nat.eq_of_beq_eq_true hb; subst e
    rw [hb] at h; cases h
    exact ⟨_, nat8, fun c hc args A k hk => plainK_ok modQ_any hk⟩
  | false =>
  rw [hb] at h; simp only [cond_false] at h
  cases hb : Nat.beq f 23 with
  | true =>
    have e := Nat.eq_of_beq_eq_true hb; subst e
    rw [hb] at h; cases h
    exact ⟨_, nat23, fun c hc args A k hk => plainK_ok (nameA_any true) hk⟩
  | false =>
  rw [hb] at h; simp only [cond_false] at h
  cases hb : Nat.beq f 6 with
  | true =>
    have e := Nat.eq_of_beq_eq_true hb; subst e
    rw [hb] at h; cases h
    exact ⟨_, nat6, fun c hc args A k hk => plainK_ok (nameA_any true) hk⟩
  | false =>
  rw [hb] at h; simp only [cond_false] at h
  cases h
theorem quick {n : Nat} {f : FuncId} {args : List Value} {A : H} {k : Value → H → Bool} (h : kF code nats n f args A k = true) : ∃ m v A', evalF code m f args A = some (v, A') ∧ k v A' = true := kF_ok code_mono nats_ok n f args A k h
end
end Go.Proofs.YtcghikpogkigcaaGreatDoor.L
namespace Go.Proofs.YtcghikpogkigcaaGreatDoor.F
open Go Go.Ab Go.Proofs
set_option maxRecDepth 1000000
section
variable [Kn]
noncomputable def natOf (f : FuncId) : Option (Caller → List Value → H → Option (Value × H)) :=
  if f = 135 then some (repeatA) else if f = 172 then some (copyCheckA 278) else if f = 142 then some (stringA 5) else if f = 179 then some (onceA 207 178 209 208) else if f = 7 then some (memA tabsT1_5_7 told7) else if f = 11 then some (memA tabsT told11) else if f = 26 then some (memA tabsT5 told26) else if f = 81 then some (memA tabsT told81) else if f = 8 then some (modQ) else if f = 23 then some (nameA false) else if f = 6 then some (nameA false) else none
noncomputable def code (f : FuncId) : Option XFun := match natOf f with
  | some g => some (.nat g)
  | none => comp f
theorem code_body : CodeOf Tryz.prog code := fun f x h hn => by
  unfold code at h
  split at h
  · cases h; exact absurd rfl (hn _)
  · rw [← comp_eq]; exact h
theorem body209 : code 209 = some (.body (bodyOf (code 209))) := by kernel_rfl
theorem body208 : code 208 = some (.body (bodyOf (code 208))) := by kernel_rfl
theorem ent135 : Ab.Enters Tryz.prog 135 := ent_of Tryz.func135 (by kernel_rfl) (by kernel_rfl)
theorem ent172 : Ab.Enters Tryz.prog 172 := ent_of Tryz.func172 (by kernel_rfl) (by kernel_rfl)
theorem ent142 : Ab.Enters Tryz.prog 142 := ent_of Tryz.func142 (by kernel_rfl) (by kernel_rfl)
theorem ent179 : Ab.Enters Tryz.prog 179 := ent_of Tryz.func179 (by kernel_rfl) (by kernel_rfl)
theorem ent7 : Ab.Enters Tryz.prog 7 := ent_of Tryz.func7 (by kernel_rfl) (by kernel_rfl)
theorem ent11 : Ab.Enters Tryz.prog 11 := ent_of Tryz.func11 (by kernel_rfl) (by kernel_rfl)
theorem ent26 : Ab.Enters Tryz.prog 26 := ent_of Tryz.func26 (by kernel_rfl) (by kernel_rfl)
theorem ent81 : Ab.Enters Tryz.prog 81 := ent_of Tryz.func81 (by kernel_rfl) (by kernel_rfl)
theorem ent8 : Ab.Enters Tryz.prog 8 := ent_of Tryz.func8 (by kernel_rfl) (by kernel_rfl)
theorem ent23 : Ab.Enters Tryz.prog 23 := ent_of Tryz.func23 (by kernel_rfl) (by kernel_rfl)
theorem ent6 : Ab.Enters Tryz.prog 6 := ent_of Tryz.func6 (by kernel_rfl) (by kernel_rfl)
theorem code_nat [Unk] [KnOk] (hG : GoodL false ‹Unk›) : NatOk Tryz.prog code := fun f g h => by
  unfold code at h
  split at h
  · rename_i g2 hg
    cases h
    unfold natOf at hg
    by_cases e : f = 135
    · rw [if_pos e] at hg; subst e; cases hg; exact ⟨ent135, fun call hcall hD args A r A' h σ w argsc hr hl => repeat_ok (ρ := Tryz.lays105_ren) Tryz.lays105 Tryz.Builder_Extra_105 h hr hl⟩
    rw [if_neg e] at hg
    by_cases e : f = 172
    · rw [if_pos e] at hg; subst e; cases hg; exact ⟨ent172, fun call hcall hD args A r A' h σ w argsc hr hl => copyCheck_ok (ρ := Tryz.lays105_ren) { Tryz.lays105 with } Tryz.Builder_Extra_105.toX72 h hr hl⟩
    rw [if_neg e] at hg
    by_cases e : f = 142
    · rw [if_pos e] at hg; subst e; cases hg; exact ⟨ent142, fun call hcall hD args A r A' h σ w argsc hr hl => string_ok (ρ := Tryz.lays105_ren) { Tryz.lays105 with } Tryz.Builder_Extra_105 h hr hl⟩
    rw [if_neg e] at hg
    by_cases e : f = 179
    · rw [if_pos e] at hg; subst e; cases hg; exact ⟨ent179, fun call hcall hD args A r A' h σ w argsc hr hl => once_ok hcall (hD 209 (bodyOf (code 209)) body209) (hD 208 (bodyOf (code 208)) body208) h hr hl⟩
    rw [if_neg e] at hg
    by_cases e : f = 7
    · rw [if_pos e] at hg; subst e; cases hg; exact ⟨ent7, fun call hcall hD args A r A' h σ w argsc hr hl => mem_ok count tabsT1_5_7_flat all7 h hr hl⟩
    rw [if_neg e] at hg
    by_cases e : f = 11
    · rw [if_pos e] at hg; subst e; cases hg; exact ⟨ent11, fun call hcall hD args A r A' h σ w argsc hr hl => mem_ok count tabsT_flat all11 h hr hl⟩
    rw [if_neg e] at hg
    by_cases e : f = 26
    · rw [if_pos e] at hg; subst e; cases hg; exact ⟨ent26, fun call hcall hD args A r A' h σ w argsc hr hl => mem_ok count tabsT5_flat all26 h hr hl⟩
    rw [if_neg e] at hg
    by_cases e : f = 81
    · rw [if_pos e] at hg; subst e; cases hg; exact ⟨ent81, fun call hcall hD args A r A' h σ w argsc hr hl => mem_ok count tabsT_flat all81 h hr hl⟩
    rw [if_neg e] at hg
    by_cases e : f = 8
    · rw [if_pos e] at hg; subst e; cases hg; exact ⟨ent8, fun call hcall hD args A r A' h σ w argsc hr hl => modQ_ok hG h hr hl⟩
    rw [if_neg e] at hg
    by_cases e : f = 23
    · rw [if_pos e] at hg; subst e; cases hg; exact ⟨ent23, fun call hcall hD args A r A' h σ w argsc hr hl => nameA_ok (fun σ A w hr s hs => name_walk hr s hs) hG h hr hl⟩
    rw [if_neg e] at hg
    by_cases e : f = 6
    · rw [if_pos e] at hg; subst e; cases hg; exact ⟨ent6, fun call hcall hD args A r A' h σ w argsc hr hl => nameA_ok (fun σ A w hr s hs => (ref_name s w hs).mono fun e w' he => ⟨he.1, by rw [he.2]; exact Go.RowKit.Below.refl _ _⟩) hG h hr hl⟩
    rw [if_neg e] at hg
    cases hg
  · rw [comp_eq] at h; exact absurd h comp_no_nat
noncomputable def nats (f : FuncId) : Option KNat :=
  bif Nat.beq f 135 then some (plainK repeatA) else bif Nat.beq f 172 then some (plainK (copyCheckA 278)) else bif Nat.beq f 142 then some (plainK (stringA 5)) else bif Nat.beq f 179 then some (onceK 207 178 209 208) else bif Nat.beq f 7 then some (plainK (memA tabsT1_5_7 told7)) else bif Nat.beq f 11 then some (plainK (memA tabsT told11)) else bif Nat.beq f 26 then some (plainK (memA tabsT5 told26)) else bif Nat.beq f 81 then some (plainK (memA tabsT told81)) else bif Nat.beq f 8 then some (plainK modQ) else bif Nat.beq f 23 then some (plainK (nameA false)) else bif Nat.beq f 6 then some (plainK (nameA false)) else none
theorem nat135 : code 135 = some (.nat (repeatA)) := rfl
theorem nat172 : code 172 = some (.nat (copyCheckA 278)) := rfl
theorem nat142 : code 142 = some (.nat (stringA 5)) := rfl
theorem nat179 : code 179 = some (.nat (onceA 207 178 209 208)) := rfl
theorem nat7 : code 7 = some (.nat (memA tabsT1_5_7 told7)) := rfl
theorem nat11 : code 11 = some (.nat (memA tabsT told11)) := rfl
theorem nat26 : code 26 = some (.nat (memA tabsT5 told26)) := rfl
theorem nat81 : code 81 = some (.nat (memA tabsT told81)) := rfl
theorem nat8 : code 8 = some (.nat (modQ)) := rfl
theorem nat23 : code 23 = some (.nat (nameA false)) := rfl
theorem nat6 : code 6 = some (.nat (nameA false)) := rfl
theorem code_mono : NatMono code := fun f g h c c' hc args A r hr => by
  unfold code at h
  split at h
  · rename_i g2 hg
    cases h
    unfold natOf at hg
    by_cases e : f = 135
    · rw [if_pos e] at hg; cases hg; rw [repeatA_any c' c]; exact hr
    rw [if_neg e] at hg
    by_cases e : f = 172
    · rw [if_pos e] at hg; cases hg; rw [copyCheckA_any 278 c' c]; exact hr
    rw [if_neg e] at hg
    by_cases e : f = 142
    · rw [if_pos e] at hg; cases hg; rw [stringA_any 5 c' c]; exact hr
    rw [if_neg e] at hg
    by_cases e : f = 179
    · rw [if_pos e] at hg; cases hg; exact onceA_mono hc hr
    rw [if_neg e] at hg
    by_cases e : f = 7
    · rw [if_pos e] at hg; cases hg; rw [memA_any tabsT1_5_7 told7 c' c]; exact hr
    rw [if_neg e] at hg
    by_cases e : f = 11
    · rw [if_pos e] at hg; cases hg; rw [memA_any tabsT told11 c' c]; exact hr
    rw [if_neg e] at hg
    by_cases e : f = 26
    · rw [if_pos e] at hg; cases hg; rw [memA_any tabsT5 told26 c' c]; exact hr
    rw [if_neg e] at hg
    by_cases e : f = 81
    · rw [if_pos e] at hg; cases hg; rw [memA_any tabsT told81 c' c]; exact hr
    rw [if_neg e] at hg
    by_cases e : f = 8
    · rw [if_pos e] at hg; cases hg; rw [modQ_any c' c]; exact hr
    rw [if_neg e] at hg
    by_cases e : f = 23
    · rw [if_pos e] at hg; cases hg; rw [nameA_any false c' c]; exact hr
    rw [if_neg e] at hg
    by_cases e : f = 6
    · rw [if_pos e] at hg; cases hg; rw [nameA_any false c' c]; exact hr
    rw [if_neg e] at hg
    cases hg
  · rw [comp_eq] at h; exact absurd h comp_no_nat
theorem nats_ok : NatsOk code nats := fun f gk h => by
  unfold nats at h
  cases hb : Nat.beq f 135 with
  | true =>
    have e := Nat.eq_of_beq_eq_true hb; subst e
    rw [hb] at h; cases h
    exact ⟨_, nat135, fun c hc args A k hk => plainK_ok repeatA_any hk⟩
  | false =>
  rw [hb] at h; simp only [cond_false] at h
  cases hb : Nat.beq f 172 with
  | true =>
    have e := Nat.eq_of_beq_eq_true hb; subst e
    rw [hb] at h; cases h
    exact ⟨_, nat172, fun c hc args A k hk => plainK_ok (copyCheckA_any 278) hk⟩
  | false =>
  rw [hb] at h; simp only [cond_false] at h
  cases hb : Nat.beq f 142 with
  | true =>
    have e := Nat.eq_of_beq_eq_true hb; subst e
    rw [hb] at h; cases h
    exact ⟨_, nat142, fun c hc args A k hk => plainK_ok (stringA_any 5) hk⟩
  | false =>
  rw [hb] at h; simp only [cond_false] at h
  cases hb : Nat.beq f 179 with
  | true =>
    have e := Nat.eq_of_beq_eq_true hb; subst e
    rw [hb] at h; cases h
    exact ⟨_, nat179, fun c hc args A k hk => onceK_ok code_mono hc hk⟩
  | false =>
  rw [hb] at h; simp only [cond_false] at h
  cases hb : Nat.beq f 7 with
  | true =>
    have e := Nat.eq_of_beq_eq_true hb; subst e
    rw [hb] at h; cases h
    exact ⟨_, nat7, fun c hc args A k hk => plainK_ok (memA_any tabsT1_5_7 told7) hk⟩
  | false =>
  rw [hb] at h; simp only [cond_false] at h
  cases hb : Nat.beq f 11 with
  | true =>
    have e := Nat.eq_of_beq_eq_true hb; subst e
    rw [hb] at h; cases h
    exact ⟨_, nat11, fun c hc args A k hk => plainK_ok (memA_any tabsT told11) hk⟩
  | false =>
  rw [hb] at h; simp only [cond_false] at h
  cases hb : Nat.beq f 26 with
  | true =>
    have e := Nat.eq_of_beq_eq_true hb; subst e
    rw [hb] at h; cases h
    exact ⟨_, nat26, fun c hc args A k hk => plainK_ok (memA_any tabsT5 told26) hk⟩
  | false =>
  rw [hb] at h; simp only [cond_false] at h
  cases hb : Nat.beq f 81 with
  | true =>
    have e := Nat.eq_of_beq_eq_true hb; subst e
    rw [hb] at h; cases h
    exact ⟨_, nat81, fun c hc args A k hk => plainK_ok (memA_any tabsT told81) hk⟩
  | false =>
  rw [hb] at h; simp only [cond_false] at h
  cases hb : Nat.beq f 8 with
  | true =>
    have e := Nat.eq_of_beq_eq_true hb; subst e
    rw [hb] at h; cases h
    exact ⟨_, nat8, fun c hc args A k hk => plainK_ok modQ_any hk⟩
  | false =>
  rw [hb] at h; simp only [cond_false] at h
  cases hb : Nat.beq f 23 with
  | true =>
    have e := Nat.eq_of_beq_eq_true hb; subst e
    rw [hb] at h; cases h
    exact ⟨_, nat23, fun c hc args A k hk => plainK_ok (nameA_any false) hk⟩
  | false =>
  rw [hb] at h; simp only [cond_false] at h
  cases hb : Nat.beq f 6 with
  | true =>
    have e := Nat.eq_of_beq_eq_true hb; subst e
    rw [hb] at h; cases h
    exact ⟨_, nat6, fun c hc args A k hk => plainK_ok (nameA_any false) hk⟩
  | false =>
  rw [hb] at h; simp only [cond_false] at h
  cases h
theorem quick {n : Nat} {f : FuncId} {args : List Value} {A : H} {k : Value → H → Bool} (h : kF code nats n f args A k = true) : ∃ m v A', evalF code m f args A = some (v, A') ∧ k v A' = true := kF_ok code_mono nats_ok n f args A k h
end
end Go.Proofs.YtcghikpogkigcaaGreatDoor.F
