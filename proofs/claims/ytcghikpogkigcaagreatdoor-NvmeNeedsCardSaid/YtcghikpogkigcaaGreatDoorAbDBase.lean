/- The seat's program as the interpreter sees it: its tables, the functions whose answers are told, and what its soundness asks of it. -/
import Derived.Test.YtcghikpogkigcaaGreatDoorRows
import Derived.Test.YtcghikpogkigcaaGreatDoorAbTab
import Derived.Test.YtcghikpogkigcaaGreatDoorAbNat
import Derived.Test.YtcghikpogkigcaaGreatDoorAbK
import Derived.Test.YtcghikpogkigcaaGreatDoorAbMem
import Derived.KernelRfl
import Derived.Test.YtcghikpogkigcaaGreatDoorAbDLay
import Derived.Test.YtcghikpogkigcaaGreatDoorAbDOnce
set_option linter.all false
set_option linter.unusedSectionVars false
set_option linter.unusedVariables false
set_option linter.unusedSimpArgs false
namespace Go.Proofs.YtcghikpogkigcaaGreatDoor
open Go Go.Ab Go.Proofs
set_option maxRecDepth 1000000
theorem mixed : Tryz.prog.follows .mixedOrders = true := by kernel_rfl
theorem ext : Ext Tryz.prog := ext_of (by kernel_rfl)

noncomputable def tyT : Tr TypeInfo := mkT 3000 Tryz.prog.types.toList
noncomputable def fnT : Tr Func := mkT 3000 Tryz.prog.funcs.toList
theorem tyT_eq : treeI Tryz.prog tyT = Tryz.prog.info? := treeI_eq (n := 3000) (by kernel_rfl) rfl
theorem fnT_eq : treeF Tryz.prog fnT = fun f => Tryz.prog.funcs[f]? := treeF_eq (n := 3000) (by kernel_rfl) rfl
noncomputable def comp (f : FuncId) : Option XFun := compFR Tryz.prog (treeI Tryz.prog tyT) (treeF Tryz.prog fnT) f
theorem comp_eq (f : FuncId) : comp f = compF Tryz.prog f := congrFun (compFR_eq tyT_eq fnT_eq) f
theorem ent_of {f : FuncId} {fn : Func} (h : Tryz.prog.funcs[f]? = some fn) (hb : fn.body.isSome = true) (hn : (fn.name == "runtime.NumGoroutine") = false) : Ab.Enters Tryz.prog f := ⟨fn, h, hb, by simpa using hn⟩
section
variable [Kn]
noncomputable def natOf (f : FuncId) : Option (Caller → List Value → H → Option (Value × H)) :=
  if f = 135 then some (repeatA) else if f = 172 then some (copyCheckA 278) else if f = 142 then some (stringA 5) else if f = 179 then some (onceA 207 178 209 208) else none
noncomputable def code (f : FuncId) : Option XFun := match natOf f with
  | some g => some (.nat g)
  | none => comp f
theorem code_body : CodeOf Tryz.prog code := fun f x h hn => by
  unfold code at h
  split at h
  · cases h; exact absurd rfl (hn _)
  · rw [← comp_eq]; exact h
theorem body209 : code 209 = some (.body (bodyOf (code 209))) := by kernel_rfl
theorem body208 : code 208 = some (.body (bodyOf (code 208))) := by kernel_rfl
theorem ent135 : Ab.Enters Tryz.prog 135 := ent_of Tryz.func135 (by kernel_rfl) (by kernel_rfl)
theorem ent172 : Ab.Enters Tryz.prog 172 := ent_of Tryz.func172 (by kernel_rfl) (by kernel_rfl)
theorem ent142 : Ab.Enters Tryz.prog 142 := ent_of Tryz.func142 (by kernel_rfl) (by kernel_rfl)
theorem ent179 : Ab.Enters Tryz.prog 179 := ent_of Tryz.func179 (by kernel_rfl) (by kernel_rfl)
theorem code_nat [Unk] [KnOk] : NatOk Tryz.prog code := fun f g h => by
  unfold code at h
  split at h
  · rename_i g2 hg
    cases h
    unfold natOf at hg
    by_cases e : f = 135
    · rw [if_pos e] at hg; subst e; cases hg; exact ⟨ent135, fun call hcall hD args A r A' h σ w argsc hr hl => repeat_ok (ρ := Tryz.lays105_ren) Tryz.lays105 Tryz.Builder_Extra_105 h hr hl⟩
    rw [if_neg e] at hg
    by_cases e : f = 172
    · rw [if_pos e] at hg; subst e; cases hg; exact ⟨ent172, fun call hcall hD args A r A' h σ w argsc hr hl => copyCheck_ok (ρ := Tryz.lays105_ren) { Tryz.lays105 with } Tryz.Builder_Extra_105.toX72 h hr hl⟩
    rw [if_neg e] at hg
    by_cases e : f = 142
    · rw [if_pos e] at hg; subst e; cases hg; exact ⟨ent142, fun call hcall hD args A r A' h σ w argsc hr hl => string_ok (ρ := Tryz.lays105_ren) { Tryz.lays105 with } Tryz.Builder_Extra_105 h hr hl⟩
    rw [if_neg e] at hg
    by_cases e : f = 179
    · rw [if_pos e] at hg; subst e; cases hg; exact ⟨ent179, fun call hcall hD args A r A' h σ w argsc hr hl => once_ok hcall (hD 209 (bodyOf (code 209)) body209) (hD 208 (bodyOf (code 208)) body208) h hr hl⟩
    rw [if_neg e] at hg
    cases hg
  · rw [comp_eq] at h; exact absurd h comp_no_nat
noncomputable def nats (f : FuncId) : Option KNat :=
  bif Nat.beq f 135 then some (plainK repeatA) else bif Nat.beq f 172 then some (plainK (copyCheckA 278)) else bif Nat.beq f 142 then some (plainK (stringA 5)) else bif Nat.beq f 179 then some (onceK 207 178 209 208) else none
theorem nat135 : code 135 = some (.nat (repeatA)) := rfl
theorem nat172 : code 172 = some (.nat (copyCheckA 278)) := rfl
theorem nat142 : code 142 = some (.nat (stringA 5)) := rfl
theorem nat179 : code 179 = some (.nat (onceA 207 178 209 208)) := rfl
theorem code_mono : NatMono code := fun f g h c c' hc args A r hr => by
  unfold code at h
  split at h
  · rename_i g2 hg
    cases h
    unfold natOf at hg
    by_cases e : f = 135
    · rw [if_pos e] at hg; cases hg; rw [repeatA_any c' c]; exact hr
    rw [if_neg e] at hg
    by_cases e : f = 172
    · rw [if_pos e] at hg; cases hg; rw [copyCheckA_any 278 c' c]; exact hr
    rw [if_neg e] at hg
    by_cases e : f = 142
    · rw [if_pos e] at hg; cases hg; rw [stringA_any 5 c' c]; exact hr
    rw [if_neg e] at hg
    by_cases e : f = 179
    · rw [if_pos e] at hg; cases hg; exact onceA_mono hc hr
    rw [if_neg e] at hg
    cases hg
  · rw [comp_eq] at h; exact absurd h comp_no_nat
theorem nats_ok : NatsOk code nats := fun f gk h => by
  unfold nats at h
  cases hb : Nat.beq f 135 with
  | true =>
    have e := Nat.eq_of_beq_eq_true hb; subst e
    rw [hb] at h; cases h
    exact ⟨_, nat135, fun c hc args A k hk => plainK_ok repeatA_any hk⟩
  | false =>
  rw [hb] at h; simp only [cond_false] at h
  cases hb : Nat.beq f 172 with
  | true =>
    have e := Nat.eq_of_beq_eq_true hb; subst e
    rw [hb] at h; cases h
    exact ⟨_, nat172, fun c hc args A k hk => plainK_ok (copyCheckA_any 278) hk⟩
  | false =>
  rw [hb] at h; simp only [cond_false] at h
  cases hb : Nat.beq f 142 with
  | true =>
    have e := Nat.eq_of_beq_eq_true hb; subst e
    rw [hb] at h; cases h
    exact ⟨_, nat142, fun c hc args A k hk => plainK_ok (stringA_any 5) hk⟩
  | false =>
  rw [hb] at h; simp only [cond_false] at h
  cases hb : Nat.beq f 179 with
  | true =>
    have e := Nat.eq_of_beq_eq_true hb; subst e
    rw [hb] at h; cases h
    exact ⟨_, nat179, fun c hc args A k hk => onceK_ok code_mono hc hk⟩
  | false =>
  rw [hb] at h; simp only [cond_false] at h
  cases h
theorem quick {n : Nat} {f : FuncId} {args : List Value} {A : H} {k : Value → H → Bool} (h : kF code nats n f args A k = true) : ∃ m v A', evalF code m f args A = some (v, A') ∧ k v A' = true := kF_ok code_mono nats_ok n f args A k h
end

noncomputable def tab0 : List Value := (tabV (HH := Unit) Rows.laid_headgate_nvme_whys).getD []
noncomputable def tab1 : List Value := (tabV (HH := Unit) Rows.laid_headgate_nvme_rows).getD []
noncomputable def tab2 : List Value := (tabV (HH := Unit) Rows.laid_headgate_nresv_actions).getD []
noncomputable def tab3 : List Value := (tabV (HH := Unit) Rows.laid_headgate_nresv_aptpls).getD []
noncomputable def tab4 : List Value := (tabV (HH := Unit) Rows.laid_headgate_sqe_endsOf).getD []
noncomputable def tab5 : List Value := (tabV (HH := Unit) Rows.laid_headgate_sqe_fieldsOf).getD []
noncomputable def tab6 : List Value := (tabV (HH := Unit) Rows.laid_headgate_access_lets).getD []
noncomputable def tab7 : List Value := (tabV (HH := Unit) Rows.laid_headgate_crc_steps).getD []
noncomputable def tabs : OTabs := [some (194, tab0), some (250, tab1), some (255, tab2), some (257, tab3), some (292, tab4), some (293, tab5), some (298, tab6), some (346, tab7), none]
theorem count : Tryz.prog.globals.size = 9 := by kernel_rfl
theorem g0 : Tryz.prog.globalNamed "headgate/nvme.whys" = some 0 := by kernel_rfl
theorem ty0 : (Tryz.prog.globals[0]?).map (·.type) = some 194 := by kernel_rfl
theorem ok0 : okTab Tryz.prog 194 = true := by kernel_rfl
theorem v0 : tabV (HH := Unit) Rows.laid_headgate_nvme_whys = some tab0 := by kernel_rfl
theorem i0 : ((Tryz.prog.info? 194).map (·.size)).isSome = true := by kernel_rfl
theorem fl0 : tab0.all flat1 = true := by kernel_rfl
theorem g1 : Tryz.prog.globalNamed "headgate/nvme.rows" = some 1 := by kernel_rfl
theorem ty1 : (Tryz.prog.globals[1]?).map (·.type) = some 250 := by kernel_rfl
theorem ok1 : okTab Tryz.prog 250 = true := by kernel_rfl
theorem v1 : tabV (HH := Unit) Rows.laid_headgate_nvme_rows = some tab1 := by kernel_rfl
theorem i1 : ((Tryz.prog.info? 250).map (·.size)).isSome = true := by kernel_rfl
theorem fl1 : tab1.all flat1 = true := by kernel_rfl
theorem g2 : Tryz.prog.globalNamed "headgate/nresv.actions" = some 2 := by kernel_rfl
theorem ty2 : (Tryz.prog.globals[2]?).map (·.type) = some 255 := by kernel_rfl
theorem ok2 : okTab Tryz.prog 255 = true := by kernel_rfl
theorem v2 : tabV (HH := Unit) Rows.laid_headgate_nresv_actions = some tab2 := by kernel_rfl
theorem i2 : ((Tryz.prog.info? 255).map (·.size)).isSome = true := by kernel_rfl
theorem fl2 : tab2.all flat1 = true := by kernel_rfl
theorem g3 : Tryz.prog.globalNamed "headgate/nresv.aptpls" = some 3 := by kernel_rfl
theorem ty3 : (Tryz.prog.globals[3]?).map (·.type) = some 257 := by kernel_rfl
theorem ok3 : okTab Tryz.prog 257 = true := by kernel_rfl
theorem v3 : tabV (HH := Unit) Rows.laid_headgate_nresv_aptpls = some tab3 := by kernel_rfl
theorem i3 : ((Tryz.prog.info? 257).map (·.size)).isSome = true := by kernel_rfl
theorem fl3 : tab3.all flat1 = true := by kernel_rfl
theorem g4 : Tryz.prog.globalNamed "headgate/sqe.endsOf" = some 4 := by kernel_rfl
theorem ty4 : (Tryz.prog.globals[4]?).map (·.type) = some 292 := by kernel_rfl
theorem ok4 : okTab Tryz.prog 292 = true := by kernel_rfl
theorem v4 : tabV (HH := Unit) Rows.laid_headgate_sqe_endsOf = some tab4 := by kernel_rfl
theorem i4 : ((Tryz.prog.info? 292).map (·.size)).isSome = true := by kernel_rfl
theorem fl4 : tab4.all flat1 = true := by kernel_rfl
theorem g5 : Tryz.prog.globalNamed "headgate/sqe.fieldsOf" = some 5 := by kernel_rfl
theorem ty5 : (Tryz.prog.globals[5]?).map (·.type) = some 293 := by kernel_rfl
theorem ok5 : okTab Tryz.prog 293 = true := by kernel_rfl
theorem v5 : tabV (HH := Unit) Rows.laid_headgate_sqe_fieldsOf = some tab5 := by kernel_rfl
theorem i5 : ((Tryz.prog.info? 293).map (·.size)).isSome = true := by kernel_rfl
theorem fl5 : tab5.all flat1 = true := by kernel_rfl
theorem g6 : Tryz.prog.globalNamed "headgate/access.lets" = some 6 := by kernel_rfl
theorem ty6 : (Tryz.prog.globals[6]?).map (·.type) = some 298 := by kernel_rfl
theorem ok6 : okTab Tryz.prog 298 = true := by kernel_rfl
theorem v6 : tabV (HH := Unit) Rows.laid_headgate_access_lets = some tab6 := by kernel_rfl
theorem i6 : ((Tryz.prog.info? 298).map (·.size)).isSome = true := by kernel_rfl
theorem fl6 : tab6.all flat1 = true := by kernel_rfl
theorem g7 : Tryz.prog.globalNamed "headgate/crc.steps" = some 7 := by kernel_rfl
theorem ty7 : (Tryz.prog.globals[7]?).map (·.type) = some 346 := by kernel_rfl
theorem ok7 : okTab Tryz.prog 346 = true := by kernel_rfl
theorem v7 : tabV (HH := Unit) Rows.laid_headgate_crc_steps = some tab7 := by kernel_rfl
theorem i7 : ((Tryz.prog.info? 346).map (·.size)).isSome = true := by kernel_rfl
theorem fl7 : tab7.all flat1 = true := by kernel_rfl
/-- What the row lists. -/
def laidAll : List (String × DataW Unit) := [("headgate/access.lets", Rows.laid_headgate_access_lets), ("headgate/crc.steps", Rows.laid_headgate_crc_steps), ("headgate/nresv.actions", Rows.laid_headgate_nresv_actions), ("headgate/nresv.aptpls", Rows.laid_headgate_nresv_aptpls), ("headgate/sqe.fieldsOf", Rows.laid_headgate_sqe_fieldsOf), ("headgate/sqe.endsOf", Rows.laid_headgate_sqe_endsOf), ("headgate/nvme.rows", Rows.laid_headgate_nvme_rows), ("headgate/nvme.whys", Rows.laid_headgate_nvme_whys)]
theorem size_of {W : World} (h : W.ShapedOpen Tryz.prog) {g : Nat} (hg : g < Tryz.prog.globals.size) (h0 : (((begin Tryz.prog (fun _ _ => 0) default).world.heap[g]?).bind Obj.row?).isSome = true) : g < W.heap.size := by
  obtain ⟨⟨z, t⟩, hz⟩ := Option.isSome_iff_exists.1 h0
  obtain ⟨cs, hc, _⟩ := h.1 g z t hg hz
  exact (Array.getElem?_eq_some_iff.1 hc).1
theorem row8 : (((begin Tryz.prog (fun _ _ => 0) default).world.heap[8]?).bind Obj.row?).isSome = true := by kernel_rfl
theorem tabs_flat (i : Nat) (t : TypeId) (c : List Value) (hi : tabs[i]? = some (some (t, c))) : ∀ v ∈ c, flat1 v = true := by
  match i, hi with
  | 0, hi => cases hi; exact List.all_eq_true.1 fl0
  | 1, hi => cases hi; exact List.all_eq_true.1 fl1
  | 2, hi => cases hi; exact List.all_eq_true.1 fl2
  | 3, hi => cases hi; exact List.all_eq_true.1 fl3
  | 4, hi => cases hi; exact List.all_eq_true.1 fl4
  | 5, hi => cases hi; exact List.all_eq_true.1 fl5
  | 6, hi => cases hi; exact List.all_eq_true.1 fl6
  | 7, hi => cases hi; exact List.all_eq_true.1 fl7
  | 8, hi => simp [tabs] at hi
  | n + 9, hi => simp [tabs] at hi
theorem rel [Unk] [Kn] [KnOk] {W : World} (h : laidMet Tryz.prog laidAll W) (hs : W.ShapedOpen Tryz.prog) : Rel Tryz.prog (otabS Tryz.prog tabs) (otabH tabs) W := by
  refine otab_rel (by rw [count]; rfl) (fun i t c hi => ?_) (fun i t c hi => ?_) h (fun g hg => ?_)
  · match i, hi with
    | 0, hi => cases hi; exact ⟨_, _, .tail _ (.tail _ (.tail _ (.tail _ (.tail _ (.tail _ (.tail _ (.head _))))))), g0, ty0, ok0, v0, i0⟩
    | 1, hi => cases hi; exact ⟨_, _, .tail _ (.tail _ (.tail _ (.tail _ (.tail _ (.tail _ (.head _)))))), g1, ty1, ok1, v1, i1⟩
    | 2, hi => cases hi; exact ⟨_, _, .tail _ (.tail _ (.head _)), g2, ty2, ok2, v2, i2⟩
    | 3, hi => cases hi; exact ⟨_, _, .tail _ (.tail _ (.tail _ (.head _))), g3, ty3, ok3, v3, i3⟩
    | 4, hi => cases hi; exact ⟨_, _, .tail _ (.tail _ (.tail _ (.tail _ (.tail _ (.head _))))), g4, ty4, ok4, v4, i4⟩
    | 5, hi => cases hi; exact ⟨_, _, .tail _ (.tail _ (.tail _ (.tail _ (.head _)))), g5, ty5, ok5, v5, i5⟩
    | 6, hi => cases hi; exact ⟨_, _, .head _, g6, ty6, ok6, v6, i6⟩
    | 7, hi => cases hi; exact ⟨_, _, .tail _ (.head _), g7, ty7, ok7, v7, i7⟩
    | 8, hi => simp [tabs] at hi
    | n + 9, hi => simp [tabs] at hi
  · exact tabs_flat i t c hi
  · match g, hg with
    | 0, hg => simp [tabs] at hg
    | 1, hg => simp [tabs] at hg
    | 2, hg => simp [tabs] at hg
    | 3, hg => simp [tabs] at hg
    | 4, hg => simp [tabs] at hg
    | 5, hg => simp [tabs] at hg
    | 6, hg => simp [tabs] at hg
    | 7, hg => simp [tabs] at hg
    | 8, _ => exact size_of hs (by rw [count]; decide) row8
    | n + 9, hg => simp [tabs] at hg
end Go.Proofs.YtcghikpogkigcaaGreatDoor
