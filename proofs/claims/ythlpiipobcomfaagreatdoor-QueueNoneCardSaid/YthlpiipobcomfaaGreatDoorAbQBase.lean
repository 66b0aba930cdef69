/- The seat's program as the interpreter sees it: its tables, and what its soundness asks of it. -/
import Derived.Test.YthlpiipobcomfaaGreatDoorRows
import Derived.Test.YthlpiipobcomfaaGreatDoorAbTab
import Derived.KernelRfl
namespace Go.Proofs.YthlpiipobcomfaaGreatDoor
open Go Go.Ab Go.Proofs
set_option maxRecDepth 1000000

noncomputable def code : FuncId → Option XFun := fun f => compF Tryz.prog f
theorem code_body : ∀ f x, code f = some (.body x) → compF Tryz.prog f = some (.body x) := fun _ _ h => h
theorem comp_nat {P : Program} {f : FuncId} {g : List Value → Option Value} : compF P f ≠ some (.nat g) := by
  intro h
  simp only [compF, Option.bind_eq_some_iff] at h
  obtain ⟨fn, _, h⟩ := h
  cases hb : (fn.name == "runtime.NumGoroutine") with
  | true => rw [hb] at h; cases h
  | false =>
    rw [hb] at h
    simp only [cond_false, Option.bind_eq_some_iff, Option.map_eq_some_iff] at h
    obtain ⟨_, _, _, _, h⟩ := h
    cases h
theorem code_nat : NatOk Tryz.prog code := fun _ _ h => absurd h comp_nat
theorem mixed : Tryz.prog.follows .mixedOrders = true := by kernel_rfl

def chkAdd (fn : Func) : Bool := !(fn.name == "sync/atomic.AddInt64") || fn.origin == ""
theorem add_all : Tryz.prog.funcs.all chkAdd = true := by kernel_rfl
theorem next_add : (Extern.allNextRows.lookup "sync/atomic.AddInt64").isNone = true := by kernel_rfl
theorem next_empty : (Extern.allNextRows.lookup "").isNone = true := by kernel_rfl
theorem ext : Ext Tryz.prog := ⟨fun f fn hf hn _ => by
  have h := Array.all_eq_true_iff_forall_mem.1 add_all fn (Array.mem_of_getElem? hf)
  have ho : fn.origin = "" := by
    unfold chkAdd at h
    rw [hn] at h
    simpa using h
  refine ⟨?_, ?_⟩
  · unfold Extern.findNext
    rw [hn, ho]
    simp only [Option.isNone_iff_eq_none.1 next_add, Option.isNone_iff_eq_none.1 next_empty]
    rfl
  · unfold Extern.find
    rw [hn]
    kernel_rfl⟩

noncomputable def tab0 : List Value := (tabV (HH := Unit) Rows.laid_headgate_tpdu_forms).getD []
noncomputable def tab1 : List Value := (tabV (HH := Unit) Rows.laid_headgate_sqe_endsOf).getD []
noncomputable def tab2 : List Value := (tabV (HH := Unit) Rows.laid_headgate_sqe_fieldsOf).getD []
noncomputable def tab3 : List Value := (tabV (HH := Unit) Rows.laid_headgate_crc_steps).getD []
noncomputable def tabs : List (TypeId × List Value) := [(142, tab0), (182, tab1), (183, tab2), (189, tab3)]
theorem four : Tryz.prog.globals.size = 4 := by kernel_rfl
theorem g0 : Tryz.prog.globalNamed "headgate/tpdu.forms" = some 0 := by kernel_rfl
theorem g1 : Tryz.prog.globalNamed "headgate/sqe.endsOf" = some 1 := by kernel_rfl
theorem g2 : Tryz.prog.globalNamed "headgate/sqe.fieldsOf" = some 2 := by kernel_rfl
theorem g3 : Tryz.prog.globalNamed "headgate/crc.steps" = some 3 := by kernel_rfl
theorem ty0 : (Tryz.prog.globals[0]?).map (·.type) = some 142 := by kernel_rfl
theorem ty1 : (Tryz.prog.globals[1]?).map (·.type) = some 182 := by kernel_rfl
theorem ty2 : (Tryz.prog.globals[2]?).map (·.type) = some 183 := by kernel_rfl
theorem ty3 : (Tryz.prog.globals[3]?).map (·.type) = some 189 := by kernel_rfl
theorem ok0 : okTab Tryz.prog 142 = true := by kernel_rfl
theorem ok1 : okTab Tryz.prog 182 = true := by kernel_rfl
theorem ok2 : okTab Tryz.prog 183 = true := by kernel_rfl
theorem ok3 : okTab Tryz.prog 189 = true := by kernel_rfl
theorem v0 : tabV (HH := Unit) Rows.laid_headgate_tpdu_forms = some tab0 := by kernel_rfl
theorem v1 : tabV (HH := Unit) Rows.laid_headgate_sqe_endsOf = some tab1 := by kernel_rfl
theorem v2 : tabV (HH := Unit) Rows.laid_headgate_sqe_fieldsOf = some tab2 := by kernel_rfl
theorem v3 : tabV (HH := Unit) Rows.laid_headgate_crc_steps = some tab3 := by kernel_rfl
theorem i0 : ((Tryz.prog.info? 142).map (·.size)).isSome = true := by kernel_rfl
theorem i1 : ((Tryz.prog.info? 182).map (·.size)).isSome = true := by kernel_rfl
theorem i2 : ((Tryz.prog.info? 183).map (·.size)).isSome = true := by kernel_rfl
theorem i3 : ((Tryz.prog.info? 189).map (·.size)).isSome = true := by kernel_rfl
theorem flat0 : tab0.all flat1 = true := by kernel_rfl
theorem flat1' : tab1.all flat1 = true := by kernel_rfl
theorem flat2 : tab2.all flat1 = true := by kernel_rfl
theorem flat3 : tab3.all flat1 = true := by kernel_rfl

/-- What every row of the seat lists. -/
def laidAll : List (String × DataW Unit) := [("headgate/crc.steps", Rows.laid_headgate_crc_steps), ("headgate/sqe.fieldsOf", Rows.laid_headgate_sqe_fieldsOf), ("headgate/sqe.endsOf", Rows.laid_headgate_sqe_endsOf), ("headgate/tpdu.forms", Rows.laid_headgate_tpdu_forms)]

theorem rel {W : World} (h : laidMet Tryz.prog laidAll W) : Rel Tryz.prog (tabS Tryz.prog tabs) (tabH tabs) W := by
  refine tab_rel (by rw [four]; rfl) (fun i t c hi => ?_) (fun i t c hi => ?_) h
  · match i, hi with
    | 0, hi => cases hi; exact ⟨_, _, .tail _ (.tail _ (.tail _ (.head _))), g0, ty0, ok0, v0, i0⟩
    | 1, hi => cases hi; exact ⟨_, _, .tail _ (.tail _ (.head _)), g1, ty1, ok1, v1, i1⟩
    | 2, hi => cases hi; exact ⟨_, _, .tail _ (.head _), g2, ty2, ok2, v2, i2⟩
    | 3, hi => cases hi; exact ⟨_, _, .head _, g3, ty3, ok3, v3, i3⟩
    | n + 4, hi => simp [tabs] at hi
  · match i, hi with
    | 0, hi => cases hi; exact List.all_eq_true.1 flat0
    | 1, hi => cases hi; exact List.all_eq_true.1 flat1'
    | 2, hi => cases hi; exact List.all_eq_true.1 flat2
    | 3, hi => cases hi; exact List.all_eq_true.1 flat3
    | n + 4, hi => simp [tabs] at hi
end Go.Proofs.YthlpiipobcomfaaGreatDoor
