/- 'QueueNone': the run joined to the row, and the row's card. -/
import Derived.Test.YthlpiipobcomfaaGreatDoorCards
import Derived.Test.YthlpiipobcomfaaGreatDoorTie
import Derived.WalkKit
import Derived.ProofKit
import Derived.OpenShut
import Derived.Deep.DeepHandedRow
import Derived.Test.YthlpiipobcomfaaGreatDoorAbQNoneW
namespace Go.Proofs.YthlpiipobcomfaaGreatDoor.QNone
open Go Go.Ab Go.Proofs Go.ChangeShapes Go.WideShapes Go.ChangeAt Go.RowKit Go.ChangeMaps
set_option maxRecDepth 1000000

theorem says_ret {rs : List (Nat × Option (Nat × Bool))} {r : Option (XExit × Tm × H)} (h : retTrue rs r = true) : saysTrue (finish rs r) = true := by
  obtain ⟨t, A, rfl⟩ := retTrue_some h
  simp only [retTrue] at h
  simp only [finish]
  split at h
  · simp only [saysTrue]
    rename_i vs hvs
    cases hv : resultV vs <;> rw [hv] at h <;> first | exact h | cases h
  · cases h

theorem run_chain {call : Caller} {n : Nat} {r0 r1 r2 rT rest : XCode} {t0 t1 t2 t3 : Tm} {A : H} {rs : List (Nat × Option (Nat × Bool))} {b : Bool} (e1 : evalC call (n + 4) r0 t0 A = some (.normal, t1, A)) (e2 : evalC call (n + 3) r1 t1 A = some (.normal, t2, A)) (e3 : evalC call (n + 1) r2 t2 A = some (.normal, t3, A))
    (ec : val t3 (.tmp 8) = .bool b) (hs : evalC call n .skip t3 A = some (.normal, t3, A)) (runT : retTrue rs (evalC call n rT t3 A) = true) (runF : retTrue rs (evalC call (n + 2) rest t3 A) = true) :
    saysTrue (finish rs (evalC call (n + 5) (.seq r0 (.seq r1 (.seq (.seq r2 (.cond (.tmp 8) rT .skip)) rest))) t0 A)) = true := by
  rw [seq_on e1, seq_on e2]
  cases b with
  | true =>
    obtain ⟨t, A', hr⟩ := retTrue_some runT
    have hc : evalC call (n + 2) (.seq r2 (.cond (.tmp 8) rT .skip)) t2 A = some (.ret, t, A') := by rw [seq_on e3, cond_on ec]; exact hr
    rw [seq_ret hc, ← hr]
    exact says_ret runT
  | false =>
    have hc : evalC call (n + 2) (.seq r2 (.cond (.tmp 8) rT .skip)) t2 A = some (.normal, t3, A) := by rw [seq_on e3, cond_on ec]; exact hs
    rw [seq_on hc]
    exact says_ret runF

theorem small : Nat.ble 2 f9.ntmps = true := by kernel_rfl
/-- ████ THE LAW's RUN ████ -/
theorem run (s : ByteArray) (id : Int) : saysTrue (evalF code 3001 9 [.string s, .int .i64 id] (tabH tabs)) = true := by
  have h := evalF_body (n := 3000) (args := [.string s, .int .i64 id]) (A := tabH tabs) code9 small
  rw [body9] at h
  rw [h]
  exact run_chain (call := call) (n := 2995) (e1 s id) (e2 s id) (e3 s id) (ec s id) (skipped s id) (runT s id) (runF s id)

theorem no_handles {P : Program} {laid : List (String × DataW Unit)} {w : World} (h : (laid.filter fun x => x.2.handleName?.isSome).isEmpty = true) (hl : laidMetH P laid w) : laidMet P laid w := by
  unfold laidMetH at hl
  rw [List.isEmpty_iff] at h
  rw [h] at hl
  exact hl
theorem handles : (laidAll.filter fun x => x.2.handleName?.isSome).isEmpty = true := by kernel_rfl
theorem laid_eq : Rows.queueNoneRow.laid = laidAll := by kernel_rfl
theorem tables {W : World} (h : laidMetH Tryz.prog Rows.queueNoneRow.laid W) : laidMet Tryz.prog laidAll W := no_handles handles (Eq.mp (congrArg (fun l => laidMetH Tryz.prog l W) laid_eq) h)

theorem own : ownKnob Tryz.prog.godebug = none := by kernel_rfl

/-- What the run gives, for every argument and every world that holds the tables. -/
theorem contract (HH : Type) (enc : TypeId × Value → HH) (W : World) (base : Nat) (args : Array Value) (ds gs : List (DataW HH)) (before : List MemPlace)
    (hval : ∀ (j : Nat) t v, Tryz.f9.params[j]? = some t → args[j]? = some v → Value.okWide Tryz.prog W .any base t v)
    (hW : DataW.Whole enc Tryz.prog Tryz.f9.params.toList Rows.queueNoneSpec.vars false W args.toList ds gs before) (hL : laidMetH Tryz.prog Rows.queueNoneRow.laid W) :
    Calls Tryz.prog 9 args W fun e W' => ∃ v, e = .returned v ∧ Rows.queueNoneSpec.post enc Tryz.prog Tryz.f9 false true false false W args v W' := by
  have hW' := hW
  obtain ⟨p, q, hA0, hV, rfl, hfz, hnd⟩ := hW
  have hA : DataW.TrodAll enc Tryz.prog W 0 (fun _ => true) true Tryz.f9.params.toList args.toList ds p := hA0
  rw [Tryz.params9] at hA hval
  obtain ⟨v0, vs0, d0, ds0, p0, q0, hargs, rfl, rfl, h0, r0⟩ := trodAll_cons hA
  obtain ⟨v1, vs1, d1, ds1, p1, q1, rfl, rfl, rfl, h1, r1⟩ := trodAll_cons r0
  obtain ⟨rfl, rfl, rfl⟩ := trodAll_nil r1
  obtain rfl : args = #[v0, v1] := by cases args; simp_all
  obtain ⟨rfl, rfl⟩ := trodVars_none hV
  obtain ⟨s, rfl, rfl, rfl, hs⟩ := open_string Tryz.underlying9 (hval 0 9 v0 (by simp) (by simp)) h0
  obtain ⟨id, rfl, rfl, rfl, hid⟩ := open_int Tryz.underlying3 (hval 1 3 v1 (by simp) (by simp)) h1
  clear hA0
  simp only [List.append_nil] at hW'
  have hl := tables hL
  refine (calls_true mixed ext code_body code_nat (run s id) (rel hl) (argsc := [.string s, .int .i64 id]) (.cons (.string s) (.cons (.int .i64 id) .nil))).mono fun e W' ⟨he, hb⟩ => ?_
  subst he
  exact ⟨_, rfl, post_of_below (pa := []) (pv := []) hW' (fun _ _ _ => trodAll_cons_mk (shut_bool Tryz.underlying4 _) trodAll_mk0) (fun _ _ => trodAll_cons_mk (shut_string Tryz.underlying9 hs) (trodAll_cons_mk (shut_int Tryz.underlying3 hid) trodAll_mk0)) (fun _ _ => rfl) rfl
    hb (ok_one (by kernel_rfl) rfl (okWide_bool_mk Tryz.underlying4 _))⟩

noncomputable def lay (c : List Value) (i : Nat) (h : Array Obj) : Array Obj := h.modify i fun
  | .cells _ t frozen => .cells c.toArray t frozen
  | o => o
/-- A world for the witness: the settled one, the tables holding what their initialisers lay. -/
noncomputable def laidWorld (os : Os) : World :=
  { World.holding Tryz.prog os ⟨#[], #[], []⟩ with heap := (lay tab3 3 (lay tab2 2 (lay tab1 1 (lay tab0 0 (World.holding Tryz.prog os ⟨#[], #[], []⟩).heap)))) }
theorem laid_met (os : Os) : laidMet Tryz.prog Rows.queueNoneRow.laid ((laidWorld os).forCall (fun _ _ => 0) ⟨#[], #[.string ByteArray.empty, .int .i64 0], []⟩).memory :=
  laidMet_of_run' 8 (by kernel_rfl) (by kernel_rfl)
theorem reads (os : Os) {HH : Type} (enc : TypeId × Value → HH) : ∃ places, DataW.whole enc Tryz.prog ((laidWorld os).forCall (fun _ _ => 0) ⟨#[], #[.string ByteArray.empty, .int .i64 0], []⟩).memory Tryz.f9.params.toList Rows.queueNoneSpec.vars false #[Value.string ByteArray.empty, .int .i64 0].toList 8 = some ([.lit (.string []), .lit (.int .i64 0)], [], places) :=
  ⟨[], by kernel_rfl⟩

theorem lifted (os : Os) (started : os.Started) (HH : Type) (enc : TypeId × Value → HH) (F : Stop.Interp) :
    ReturnsInHanded {} Tryz.checked os 9 .any ((OpenSpec.ofChange Rows.queueNoneSpec).preRow enc Tryz.prog Tryz.f9 Rows.queueNoneRow.domain false Rows.queueNoneRow.laid) (((OpenSpec.ofChange Rows.queueNoneSpec).at F).post enc Tryz.prog Tryz.f9 false true false false) := by
  obtain ⟨places, hx⟩ := reads os enc
  refine returnsInHanded_of_row (C := Tryz.checked) (s := OpenSpec.ofChange Rows.queueNoneSpec) own started (by kernel_rfl) Tryz.func9
    (witness_row_at (enc := enc) (C := Tryz.checked) false (laidWorld os) #[.string ByteArray.empty, .int .i64 0] rfl (by kernel_rfl) (by kernel_rfl) (by kernel_rfl)
      (OpenSpec.preRow_of_cond 8 hx (by kernel_rfl) (fun k hk => by cases hk) (by kernel_rfl) (laid_met os))) ?_
  intro W base args ds gs before hval hW _ _ _ hL _ _
  exact contract HH enc W base args ds gs before hval hW hL

theorem said : Rows.QueueNoneSaid :=
  OpenClaim.holds_of_cond 9 Tryz.f9 rfl rfl rfl rfl rfl rfl rfl ⟨rfl, rfl, rfl, rfl, rfl⟩ rfl rfl rfl rfl rfl (by kernel_rfl) Tryz.func9 (by kernel_rfl)
    (of_decide_eq_true (by kernel_rfl)) (by unfold Func.isWrapper; first | (rw [if_pos (by decide +kernel)]; kernel_rfl) | (rw [if_neg (by decide +kernel)]; exact ⟨rfl, rfl⟩))
    (fun os started HH enc _ F => by rw [OpenClaim.pre_eq_preRow]; exact lifted os started HH enc F)

theorem plain (f : FuncId) (fn : Func) (hf : Tryz.pinned.checked.prog.funcNamed "headgate/headgatelaw30.QueueNone" = some f) (hfn : Tryz.pinned.checked.prog.funcs[f]? = some fn) :
    false = Tryz.pinned.checked.prog.looks [] ∧ ∀ (j : Nat) t, fn.params[j]? = some t → Tryz.pinned.checked.prog.wantsStandIn t = false := by
  obtain rfl : f = 9 := Option.some.inj ((show Tryz.prog.funcNamed "headgate/headgatelaw30.QueueNone" = some 9 by kernel_rfl).symm.trans hf) |>.symm
  obtain rfl : fn = Tryz.f9 := (Option.some.inj (Tryz.func9.symm.trans hfn)).symm
  refine ⟨by kernel_rfl, fun j t ht => ?_⟩
  rw [Tryz.params9] at ht
  have ht' := Array.mem_of_getElem? ht
  simp at ht'
  rcases ht' with rfl | rfl
  · exact (show Tryz.prog.wantsStandIn 9 = false by kernel_rfl)
  · exact (show Tryz.prog.wantsStandIn 3 = false by kernel_rfl)

/-- ████ THE CARD ████ -/
theorem card : Rows.QueueNoneCardSaid :=
  Claim7.holds_tied_plain_at .later [] _ _ _ _ said (fun _ h => by cases h) (by kernel_rfl) (fun _ h => by cases h) queueNone_row_tie rfl ⟨rfl, rfl⟩ (by kernel_rfl) rfl plain (by kernel_rfl)
end Go.Proofs.YthlpiipobcomfaaGreatDoor.QNone
