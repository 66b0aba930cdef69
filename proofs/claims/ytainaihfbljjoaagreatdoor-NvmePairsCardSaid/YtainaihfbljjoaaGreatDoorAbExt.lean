/- Of the atomics and race marks without a body: what the model does at each, by name; asked of no program but that it names them plainly. -/
import Derived.Test.YtainaihfbljjoaaGreatDoorAbFun
import Derived.KernelRfl
set_option linter.all false
set_option linter.unusedSectionVars false
set_option linter.unusedVariables false
set_option linter.unusedSimpArgs false
namespace Go.Ab
open Go
set_option maxRecDepth 1000000

theorem next_empty : (Extern.allNextRows.lookup "").isNone = true := by kernel_rfl
theorem next_none {fn : Func} (h : (Extern.allNextRows.lookup fn.name).isNone = true) (ho : fn.origin = "") : Extern.findNext fn = none := by
  unfold Extern.findNext
  rw [ho]
  simp only [Option.isNone_iff_eq_none.1 h, Option.isNone_iff_eq_none.1 next_empty]
  rfl
structure OneExt (n : String) (kd : XExt) : Prop where
  num : (n == "runtime.NumGoroutine") = false
  next : (Extern.allNextRows.lookup n).isNone = true
  fn : ∀ fn : Func, fn.name = n → ExtFn kd fn
theorem add64 : OneExt "sync/atomic.AddInt64" (.add .i64) := ⟨by kernel_rfl, by kernel_rfl, fun fn hn => by show Extern.find fn = _; unfold Extern.find; rw [hn]; kernel_rfl⟩
theorem add32 : OneExt "sync/atomic.AddInt32" (.add .i32) := ⟨by kernel_rfl, by kernel_rfl, fun fn hn => by show Extern.find fn = _; unfold Extern.find; rw [hn]; kernel_rfl⟩
theorem load64 : OneExt "sync/atomic.LoadInt64" (.load .i64) := ⟨by kernel_rfl, by kernel_rfl, fun fn hn => by show Extern.find fn = _; unfold Extern.find; rw [hn]; kernel_rfl⟩
theorem loadu32 : OneExt "sync/atomic.LoadUint32" (.load .u32) := ⟨by kernel_rfl, by kernel_rfl, fun fn hn => by show Extern.find fn = _; unfold Extern.find; rw [hn]; kernel_rfl⟩
theorem load32 : OneExt "sync/atomic.LoadInt32" (.load .i32) := ⟨by kernel_rfl, by kernel_rfl, fun fn hn => by show Extern.find fn = _; unfold Extern.find; rw [hn]; kernel_rfl⟩
theorem store64 : OneExt "sync/atomic.StoreInt64" .store := ⟨by kernel_rfl, by kernel_rfl, fun fn hn => by show Extern.find fn = _; unfold Extern.find; rw [hn]; kernel_rfl⟩
theorem storeu32 : OneExt "sync/atomic.StoreUint32" .store := ⟨by kernel_rfl, by kernel_rfl, fun fn hn => by show Extern.find fn = _; unfold Extern.find; rw [hn]; kernel_rfl⟩
theorem store32 : OneExt "sync/atomic.StoreInt32" .store := ⟨by kernel_rfl, by kernel_rfl, fun fn hn => by show Extern.find fn = _; unfold Extern.find; rw [hn]; kernel_rfl⟩
theorem cas32 : OneExt "sync/atomic.CompareAndSwapInt32" (.cas .i32) := ⟨by kernel_rfl, by kernel_rfl, fun fn hn => by show Extern.find fn = _; unfold Extern.find; rw [hn]; kernel_rfl⟩
theorem casu32 : OneExt "sync/atomic.CompareAndSwapUint32" (.cas .u32) := ⟨by kernel_rfl, by kernel_rfl, fun fn hn => by show Extern.find fn = _; unfold Extern.find; rw [hn]; kernel_rfl⟩
theorem disable : OneExt "internal/race.Disable" .mark0 := ⟨by kernel_rfl, by kernel_rfl, fun fn hn => ⟨.disable, by unfold Extern.find; rw [hn]; kernel_rfl⟩⟩
theorem enable : OneExt "internal/race.Enable" .mark0 := ⟨by kernel_rfl, by kernel_rfl, fun fn hn => ⟨.enable, by unfold Extern.find; rw [hn]; kernel_rfl⟩⟩
theorem acquire : OneExt "internal/race.Acquire" .mark1 := ⟨by kernel_rfl, by kernel_rfl, fun fn hn => ⟨.acquire, by unfold Extern.find; rw [hn]; kernel_rfl⟩⟩
theorem release : OneExt "internal/race.Release" .mark1 := ⟨by kernel_rfl, by kernel_rfl, fun fn hn => ⟨.release, by unfold Extern.find; rw [hn]; kernel_rfl⟩⟩
theorem releaseMerge : OneExt "internal/race.ReleaseMerge" .mark1 := ⟨by kernel_rfl, by kernel_rfl, fun fn hn => ⟨.releaseMerge, by unfold Extern.find; rw [hn]; kernel_rfl⟩⟩

theorem one_ext {n : String} {kd : XExt} (h : extKind n = some kd) : OneExt n kd := by
  unfold extKind at h
  split at h
  · rename_i e; cases h; subst e; exact add64
  split at h
  · rename_i e; cases h; subst e; exact add32
  split at h
  · rename_i e; cases h; subst e; exact load64
  split at h
  · rename_i e; cases h; subst e; exact loadu32
  split at h
  · rename_i e; cases h; subst e; exact load32
  split at h
  · rename_i e; cases h; rcases e with e | e | e  <;> subst e <;> first | exact store64 | exact storeu32 | exact store32
  split at h
  · rename_i e; cases h; subst e; exact cas32
  split at h
  · rename_i e; cases h; subst e; exact casu32
  split at h
  · rename_i e; cases h; rcases e with e | e <;> subst e <;> first | exact disable | exact enable
  split at h
  · rename_i e; cases h; rcases e with e | e | e <;> subst e <;> first | exact acquire | exact release | exact releaseMerge
  · cases h
def chkExt (fn : Func) : Bool := fn.body.isSome || (extKind fn.name).isNone || fn.origin == ""
theorem ext_of {P : Program} (h : P.funcs.all chkExt = true) : Ext P := ⟨fun f fn kd hf hb hk => by
  have hc := Array.all_eq_true_iff_forall_mem.1 h fn (Array.mem_of_getElem? hf)
  have ho : fn.origin = "" := by
    unfold chkExt at hc
    rw [hb, hk] at hc
    simpa using hc
  have hx := one_ext hk
  exact ⟨hx.num, next_none hx.next ho, hx.fn fn rfl⟩⟩
end Go.Ab
