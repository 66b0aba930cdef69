/- The seat's program as the interpreter sees it: its tables, the functions whose answers are told, and what its soundness asks of it. -/
import Derived.Test.YthlpiipobcomfaaGreatDoorRows
import Derived.Test.YthlpiipobcomfaaGreatDoorAcTab
import Derived.Test.YthlpiipobcomfaaGreatDoorAcNat
import Derived.Test.YthlpiipobcomfaaGreatDoorAcK
import Derived.Test.YthlpiipobcomfaaGreatDoorAcMem
import Derived.KernelRfl
set_option linter.all false
set_option linter.unusedSectionVars false
set_option linter.unusedVariables false
set_option linter.unusedSimpArgs false
namespace Go.Proofs.YthlpiipobcomfaaGreatDoor
open Go Go.Ab Go.Proofs
set_option maxRecDepth 1000000
theorem mixed : Tryz.prog.follows .mixedOrders = true := by kernel_rfl
theorem ext : Ext Tryz.prog := ext_of (by kernel_rfl)

noncomputable def tyT : Tr TypeInfo := mkT 3000 Tryz.prog.types.toList
noncomputable def fnT : Tr Func := mkT 3000 Tryz.prog.funcs.toList
theorem tyT_eq : treeI Tryz.prog tyT = Tryz.prog.info? := treeI_eq (n := 3000) (by kernel_rfl) rfl
theorem fnT_eq : treeF Tryz.prog fnT = fun f => Tryz.prog.funcs[f]? := treeF_eq (n := 3000) (by kernel_rfl) rfl
noncomputable def comp (f : FuncId) : Option XFun := compFR Tryz.prog (treeI Tryz.prog tyT) (treeF Tryz.prog fnT) f
theorem comp_eq (f : FuncId) : comp f = compF Tryz.prog f := congrFun (compFR_eq tyT_eq fnT_eq) f
theorem ent_of {f : FuncId} {fn : Func} (h : Tryz.prog.funcs[f]? = some fn) (hb : fn.body.isSome = true) (hn : (fn.name == "runtime.NumGoroutine") = false) : Ab.Enters Tryz.prog f := ⟨fn, h, hb, by simpa using hn⟩
section
variable [Kn]
noncomputable def natOf (f : FuncId) : Option (Caller → List Value → H → Option (Value × H)) :=
  none
noncomputable def code (f : FuncId) : Option XFun := match natOf f with
  | some g => some (.nat g)
  | none => comp f
theorem code_body : CodeOf Tryz.prog code := fun f x h hn => by
  unfold code at h
  split at h
  · cases h; exact absurd rfl (hn _)
  · rw [← comp_eq]; exact h
theorem code_nat [Unk] [KnOk] : NatOk Tryz.prog code := fun f g h => by
  unfold code at h
  split at h
  · rename_i g2 hg
    cases h
    unfold natOf at hg
    cases hg
  · rw [comp_eq] at h; exact absurd h comp_no_nat
noncomputable def nats (f : FuncId) : Option KNat :=
  none
theorem code_mono : NatMono code := fun f g h c c' hc args A r hr => by
  unfold code at h
  split at h
  · rename_i g2 hg
    cases h
    unfold natOf at hg
    cases hg
  · rw [comp_eq] at h; exact absurd h comp_no_nat
theorem nats_ok : NatsOk code nats := fun f gk h => by
  unfold nats at h
  cases h
theorem quick {n : Nat} {f : FuncId} {args : List Value} {A : H} {k : Value → H → Bool} (h : kF code nats n f args A k = true) : ∃ m v A', evalF code m f args A = some (v, A') ∧ k v A' = true := kF_ok code_mono nats_ok n f args A k h
end

noncomputable def tab0 : List Value := (tabV (HH := Unit) Rows.laid_headgate_tpdu_forms).getD []
noncomputable def tab1 : List Value := (tabV (HH := Unit) Rows.laid_headgate_sqe_endsOf).getD []
noncomputable def tab2 : List Value := (tabV (HH := Unit) Rows.laid_headgate_sqe_fieldsOf).getD []
noncomputable def tab3 : List Value := (tabV (HH := Unit) Rows.laid_headgate_crc_steps).getD []
noncomputable def tabs : OTabs := [some (142, tab0), some (182, tab1), some (183, tab2), some (189, tab3)]
theorem count : Tryz.prog.globals.size = 4 := by kernel_rfl
theorem g0 : Tryz.prog.globalNamed "headgate/tpdu.forms" = some 0 := by kernel_rfl
theorem ty0 : (Tryz.prog.globals[0]?).map (·.type) = some 142 := by kernel_rfl
theorem ok0 : okTab Tryz.prog 142 = true := by kernel_rfl
theorem v0 : tabV (HH := Unit) Rows.laid_headgate_tpdu_forms = some tab0 := by kernel_rfl
theorem i0 : ((Tryz.prog.info? 142).map (·.size)).isSome = true := by kernel_rfl
theorem fl0 : tab0.all flat1 = true := by kernel_rfl
theorem g1 : Tryz.prog.globalNamed "headgate/sqe.endsOf" = some 1 := by kernel_rfl
theorem ty1 : (Tryz.prog.globals[1]?).map (·.type) = some 182 := by kernel_rfl
theorem ok1 : okTab Tryz.prog 182 = true := by kernel_rfl
theorem v1 : tabV (HH := Unit) Rows.laid_headgate_sqe_endsOf = some tab1 := by kernel_rfl
theorem i1 : ((Tryz.prog.info? 182).map (·.size)).isSome = true := by kernel_rfl
theorem fl1 : tab1.all flat1 = true := by kernel_rfl
theorem g2 : Tryz.prog.globalNamed "headgate/sqe.fieldsOf" = some 2 := by kernel_rfl
theorem ty2 : (Tryz.prog.globals[2]?).map (·.type) = some 183 := by kernel_rfl
theorem ok2 : okTab Tryz.prog 183 = true := by kernel_rfl
theorem v2 : tabV (HH := Unit) Rows.laid_headgate_sqe_fieldsOf = some tab2 := by kernel_rfl
theorem i2 : ((Tryz.prog.info? 183).map (·.size)).isSome = true := by kernel_rfl
theorem fl2 : tab2.all flat1 = true := by kernel_rfl
theorem g3 : Tryz.prog.globalNamed "headgate/crc.steps" = some 3 := by kernel_rfl
theorem ty3 : (Tryz.prog.globals[3]?).map (·.type) = some 189 := by kernel_rfl
theorem ok3 : okTab Tryz.prog 189 = true := by kernel_rfl
theorem v3 : tabV (HH := Unit) Rows.laid_headgate_crc_steps = some tab3 := by kernel_rfl
theorem i3 : ((Tryz.prog.info? 189).map (·.size)).isSome = true := by kernel_rfl
theorem fl3 : tab3.all flat1 = true := by kernel_rfl
/-- What the row lists. -/
def laidAll : List (String × DataW Unit) := [("headgate/crc.steps", Rows.laid_headgate_crc_steps), ("headgate/sqe.fieldsOf", Rows.laid_headgate_sqe_fieldsOf), ("headgate/sqe.endsOf", Rows.laid_headgate_sqe_endsOf), ("headgate/tpdu.forms", Rows.laid_headgate_tpdu_forms)]
theorem size_of {W : World} (h : W.ShapedOpen Tryz.prog) {g : Nat} (hg : g < Tryz.prog.globals.size) (h0 : (((begin Tryz.prog (fun _ _ => 0) default).world.heap[g]?).bind Obj.row?).isSome = true) : g < W.heap.size := by
  obtain ⟨⟨z, t⟩, hz⟩ := Option.isSome_iff_exists.1 h0
  obtain ⟨cs, hc, _⟩ := h.1 g z t hg hz
  exact (Array.getElem?_eq_some_iff.1 hc).1
theorem tabs_flat (i : Nat) (t : TypeId) (c : List Value) (hi : tabs[i]? = some (some (t, c))) : ∀ v ∈ c, flat1 v = true := by
  match i, hi with
  | 0, hi => cases hi; exact List.all_eq_true.1 fl0
  | 1, hi => cases hi; exact List.all_eq_true.1 fl1
  | 2, hi => cases hi; exact List.all_eq_true.1 fl2
  | 3, hi => cases hi; exact List.all_eq_true.1 fl3
  | n + 4, hi => simp [tabs] at hi
theorem rel [Unk] [Kn] [KnOk] {W : World} (h : laidMet Tryz.prog laidAll W) (hs : W.ShapedOpen Tryz.prog) : Rel Tryz.prog (otabS Tryz.prog tabs) (otabH tabs) W := by
  refine otab_rel (by rw [count]; rfl) (fun i t c hi => ?_) (fun i t c hi => ?_) h (fun g hg => ?_)
  · match i, hi with
    | 0, hi => cases hi; exact ⟨_, _, .tail _ (.tail _ (.tail _ (.head _))), g0, ty0, ok0, v0, i0⟩
    | 1, hi => cases hi; exact ⟨_, _, .tail _ (.tail _ (.head _)), g1, ty1, ok1, v1, i1⟩
    | 2, hi => cases hi; exact ⟨_, _, .tail _ (.head _), g2, ty2, ok2, v2, i2⟩
    | 3, hi => cases hi; exact ⟨_, _, .head _, g3, ty3, ok3, v3, i3⟩
    | n + 4, hi => simp [tabs] at hi
  · exact tabs_flat i t c hi
  · match g, hg with
    | 0, hg => simp [tabs] at hg
    | 1, hg => simp [tabs] at hg
    | 2, hg => simp [tabs] at hg
    | 3, hg => simp [tabs] at hg
    | n + 4, hg => simp [tabs] at hg
end Go.Proofs.YthlpiipobcomfaaGreatDoor
