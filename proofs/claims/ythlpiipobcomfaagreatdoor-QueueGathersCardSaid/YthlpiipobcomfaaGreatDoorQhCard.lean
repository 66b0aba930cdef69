/- 'QueueGathers': the law's run, joined to the row, and the row's card. -/
import Derived.Test.YthlpiipobcomfaaGreatDoorCards
import Derived.Test.YthlpiipobcomfaaGreatDoorTie
import Derived.WalkKit
import Derived.ProofKit
import Derived.OpenShut
import Derived.WideKeyArgs
import Derived.ChangeSame
import Derived.ChangeArms
import Derived.Deep.DeepHandedRow
import Derived.ClosedOfChecked
import Derived.Test.YthlpiipobcomfaaGreatDoorAcLaid
import Derived.Test.YthlpiipobcomfaaGreatDoorQhArg
set_option linter.all false
set_option linter.unusedSectionVars false
set_option linter.unusedVariables false
set_option linter.unusedSimpArgs false
namespace Go.Proofs.YthlpiipobcomfaaGreatDoor.QueueGathers
open Go Go.Ab Go.Proofs Go.ChangeShapes Go.WideShapes Go.ChangeAt Go.RowKit Go.ChangeMaps
set_option maxRecDepth 1000000

theorem no_handles {P : Program} {laid : List (String × DataW Unit)} {w : World} (h : (laid.filter fun x => x.2.handleName?.isSome).isEmpty = true) (hl : laidMetH P laid w) : laidMet P laid w := by
  unfold laidMetH at hl
  rw [List.isEmpty_iff] at h
  rw [h] at hl
  exact hl
theorem handles : (laidAll.filter fun x => x.2.handleName?.isSome).isEmpty = true := by kernel_rfl
theorem laid_eq : Rows.queueGathersRow.laid = laidAll := by kernel_rfl
theorem tables {W : World} (h : laidMetH Tryz.prog Rows.queueGathersRow.laid W) : laidMet Tryz.prog laidAll W := no_handles handles (Eq.mp (congrArg (fun l => laidMetH Tryz.prog l W) laid_eq) h)
theorem own : ownKnob Tryz.prog.godebug = none := by kernel_rfl
theorem spec : Go.ClosedOfChecked.AllSpec Tryz.prog := Go.ClosedOfChecked.allSpec_of Tryz.checked.wellFormed (show Tryz.prog.types = Tryz.checked.src.types by kernel_rfl)
theorem laidOut : laidOutB Tryz.prog = true := Go.ClosedOfChecked.laidOutB_of spec (by kernel_rfl)
theorem mapped : mapsRowed Tryz.prog = true := Go.ClosedOfChecked.mapsRowed_of spec
theorem stays {H : Type} {enc : TypeId × Value → H} {t : TypeId} (hr : Tryz.prog.readableRec t = true) (hrow : t < Tryz.prog.types.size) {W W' : World} {sp' : Nat → Bool} {v : Value} {d : DataW H} {ps : List MemPlace}
    (h : DataW.Trod enc Tryz.prog W 0 (fun _ => true) true t v d ps) (hb : Below W.heap.size W W') (hlt : ∀ p ∈ ps, p.block < W.heap.size) (hs : ∀ p ∈ ps, sp' p.block = true) : DataW.Trod enc Tryz.prog W' 0 sp' true t v d ps :=
  WideElems.Trod_stays laidOut hr hrow h (fun p hp => hb.same (hlt p hp)) hs

/-- For every argument and every world that holds the tables. -/
theorem contract (HH : Type) (enc : TypeId × Value → HH) (W : World) (base : Nat) (args : Array Value) (ds gs : List (DataW HH)) (before : List MemPlace)
    (hval : ∀ (j : Nat) t v, Tryz.f3.params[j]? = some t → args[j]? = some v → Value.okWide Tryz.prog W .any base t v)
    (hW : DataW.Whole enc Tryz.prog Tryz.f3.params.toList Rows.queueGathersSpec.vars false W args.toList ds gs before) (hL : laidMetH Tryz.prog Rows.queueGathersRow.laid W) (hS : W.ShapedOpen Tryz.prog) :
    Calls Tryz.prog 3 args W fun e W' => ∃ v, e = .returned v ∧ Rows.queueGathersSpec.post enc Tryz.prog Tryz.f3 false true false false W args v W' := by
  have hW' := hW
  obtain ⟨p, q, hA0, hV, rfl, hfz, hnd⟩ := hW
  have hA : DataW.TrodAll enc Tryz.prog W 0 (fun _ => true) true Tryz.f3.params.toList args.toList ds p := hA0
  rw [Tryz.params3] at hA hval
  obtain ⟨v0, vs0, d0, ds0, p0, q0, hargs, rfl, rfl, h0, r0⟩ := trodAll_cons hA
  obtain ⟨v1, vs1, d1, ds1, p1, q1, rfl, rfl, rfl, h1, r1⟩ := trodAll_cons r0
  obtain ⟨v2, vs2, d2, ds2, p2, q2, rfl, rfl, rfl, h2, r2⟩ := trodAll_cons r1
  obtain ⟨rfl, rfl, rfl⟩ := trodAll_nil r2
  obtain rfl : args = #[v0, v1, v2] := by cases args; simp_all
  obtain ⟨rfl, rfl⟩ := trodVars_none hV
  have k0 := hval 0 3 v0 (by simp) (by simp)
  have k1 := hval 1 5 v1 (by simp) (by simp)
  have k2 := hval 2 22 v2 (by simp) (by simp)
  clear hA0
  simp only [List.append_nil] at hW'
  have hR : Laid W := fun I K hk => ⟨_, @rel I K hk W (tables hL) hS⟩
  obtain ⟨bl, rfl⟩ := okWide_int Tryz.underlying3 k0
  obtain ⟨fl, rfl, hfl⟩ : ∃ fl : Nat, v1 = .int .u8 fl ∧ fl < 256 := by
    obtain ⟨fuel, h1⟩ := h1
    obtain ⟨m, rfl⟩ := okWide_int Tryz.underlying5 k1
    obtain ⟨n, q0, _, w0⟩ := DataW.trod_int Tryz.underlying5 h1
    have q1 : m = n := by simpa [Value.cells] using q0
    subst q1
    simp only [Lit.wf, Bool.and_eq_true, decide_eq_true_eq] at w0
    have e1 : IntKind.u8.min = 0 := rfl
    have e2 : IntKind.u8.max = 255 := rfl
    rw [e1, e2] at w0
    exact ⟨m.toNat, by rw [Int.toNat_of_nonneg w0.1], by omega⟩
  have hI := open_ints k2 h2
  have hl := gathers_law hR bl fl hfl _ hI
  letI : Unk := Ab.unkOf (fun j => UInt8.ofNat j) (by decide) (fun _ => .nilFunc) (fun _ => rfl) (fun _ _ h => by cases h) (fun _ => false) (fun _ => ByteArray.empty) (fun _ => by decide)
  letI : Kn := Ab.knNone
  haveI : KnOk := Ab.knNone_ok
  refine (hl).mono fun e W' ⟨he, hb⟩ => ?_
  subst he
  exact ⟨_, rfl, post_of_below (pv := []) hW' (fun _ _ _ => trodAll_cons_mk (shut_bool Tryz.underlying4 _) trodAll_mk0) (fun sp hsp => (trodAll_cons_mk (stays (by kernel_rfl) (of_decide_eq_true (by kernel_rfl)) h0 hb (fun x hx => hW'.lt x (by simp [hx])) (fun x hx => hsp x (by simp [hx]))) (trodAll_cons_mk (stays (by kernel_rfl) (of_decide_eq_true (by kernel_rfl)) h1 hb (fun x hx => hW'.lt x (by simp [hx])) (fun x hx => hsp x (by simp [hx]))) (trodAll_cons_mk (stays (by kernel_rfl) (of_decide_eq_true (by kernel_rfl)) h2 hb (fun x hx => hW'.lt x (by simp [hx])) (fun x hx => hsp x (by simp [hx]))) trodAll_mk0)))) (fun _ _ => rfl) (by simp)
    hb (ok_one (by kernel_rfl) rfl (okWide_bool_mk Tryz.underlying4 _))⟩

noncomputable def lay (c : List Value) (i : Nat) (h : Array Obj) : Array Obj := h.modify i fun
  | .cells _ t frozen => .cells c.toArray t frozen
  | o => o
/-- A world for the witness: the settled one, the tables holding what their initialisers lay. -/
noncomputable def laidWorld (os : Os) : World :=
  { World.holding Tryz.prog os ⟨#[], #[], []⟩ with heap := (lay tab3 3 (lay tab2 2 (lay tab1 1 (lay tab0 0 (World.holding Tryz.prog os ⟨#[], #[], []⟩).heap)))) }
theorem lw3 (os : Os) : Ab.LaidOne Tryz.prog ((laidWorld os).forCall (fun _ _ => 0) ⟨#[], #[.int .i64 0, .int .u8 0, .slice none 0 0], []⟩).memory "headgate/crc.steps" Rows.laid_headgate_crc_steps 3 tab3 := ⟨g3, by kernel_rfl, by kernel_rfl, ⟨189, by kernel_rfl⟩, by kernel_rfl⟩
theorem lw2 (os : Os) : Ab.LaidOne Tryz.prog ((laidWorld os).forCall (fun _ _ => 0) ⟨#[], #[.int .i64 0, .int .u8 0, .slice none 0 0], []⟩).memory "headgate/sqe.fieldsOf" Rows.laid_headgate_sqe_fieldsOf 2 tab2 := ⟨g2, by kernel_rfl, by kernel_rfl, ⟨183, by kernel_rfl⟩, by kernel_rfl⟩
theorem lw1 (os : Os) : Ab.LaidOne Tryz.prog ((laidWorld os).forCall (fun _ _ => 0) ⟨#[], #[.int .i64 0, .int .u8 0, .slice none 0 0], []⟩).memory "headgate/sqe.endsOf" Rows.laid_headgate_sqe_endsOf 1 tab1 := ⟨g1, by kernel_rfl, by kernel_rfl, ⟨182, by kernel_rfl⟩, by kernel_rfl⟩
theorem lw0 (os : Os) : Ab.LaidOne Tryz.prog ((laidWorld os).forCall (fun _ _ => 0) ⟨#[], #[.int .i64 0, .int .u8 0, .slice none 0 0], []⟩).memory "headgate/tpdu.forms" Rows.laid_headgate_tpdu_forms 0 tab0 := ⟨g0, by kernel_rfl, by kernel_rfl, ⟨142, by kernel_rfl⟩, by kernel_rfl⟩
theorem laid_met (os : Os) : laidMet Tryz.prog Rows.queueGathersRow.laid ((laidWorld os).forCall (fun _ _ => 0) ⟨#[], #[.int .i64 0, .int .u8 0, .slice none 0 0], []⟩).memory :=
  Eq.mpr (congrArg (fun l => laidMet Tryz.prog l ((laidWorld os).forCall (fun _ _ => 0) ⟨#[], #[.int .i64 0, .int .u8 0, .slice none 0 0], []⟩).memory) laid_eq)
    (Ab.laidMet_of_all (gs := [3, 2, 1, 0]) ⟨_, _, _, rfl, lw3 os, ⟨_, _, _, rfl, lw2 os, ⟨_, _, _, rfl, lw1 os, ⟨_, _, _, rfl, lw0 os, rfl⟩⟩⟩⟩ (by decide))
theorem reads (os : Os) {HH : Type} (enc : TypeId × Value → HH) : ∃ places, DataW.whole enc Tryz.prog ((laidWorld os).forCall (fun _ _ => 0) ⟨#[], #[.int .i64 0, .int .u8 0, .slice none 0 0], []⟩).memory Tryz.f3.params.toList Rows.queueGathersSpec.vars false (#[.int .i64 0, .int .u8 0, .slice none 0 0] : Array Value).toList 8 = some ([.lit (.int .i64 0), .lit (.int .u8 0), .nil], [], places) :=
  ⟨[], by kernel_rfl⟩

theorem lifted (os : Os) (started : os.Started) (HH : Type) (enc : TypeId × Value → HH) (F : Stop.Interp) :
    ReturnsInHanded {} Tryz.checked os 3 .any ((OpenSpec.ofChange Rows.queueGathersSpec).preRow enc Tryz.prog Tryz.f3 Rows.queueGathersRow.domain false Rows.queueGathersRow.laid) (((OpenSpec.ofChange Rows.queueGathersSpec).at F).post enc Tryz.prog Tryz.f3 false true false false) := by
  obtain ⟨places, hx⟩ := reads os enc
  refine returnsInHanded_of_row (C := Tryz.checked) (s := OpenSpec.ofChange Rows.queueGathersSpec) own started (by kernel_rfl) Tryz.func3
    (witness_row_at (enc := enc) (C := Tryz.checked) false (laidWorld os) #[.int .i64 0, .int .u8 0, .slice none 0 0] rfl (by kernel_rfl) (by kernel_rfl) (by kernel_rfl)
      (OpenSpec.preRow_of_cond 8 hx (by kernel_rfl) (fun k hk => by cases hk) (by kernel_rfl) (laid_met os))) ?_
  intro W base args ds gs before hval hW _ _ _ hL hS _
  exact contract HH enc W base args ds gs before hval hW hL hS

theorem and2 {a b : Bool} (h : a = true) (k : b = true) : (a && b) = true := by rw [h, k]; rfl
abbrev S : OpenSpec := OpenSpec.ofChange Rows.queueGathersSpec
theorem j1 : (Rows.queueGathersRow.wf (OpenSpec.ofChange S.bare)) = true := by kernel_rfl
theorem j4 : (Tryz.f3.params.all (Tryz.prog.readableRec ·)) = true := by kernel_rfl
theorem j5 : (namedTie Tryz.prog Rows.queueGathersRow.named S.bare.vars) = true := by kernel_rfl
theorem j6 : (Rows.queueGathersRow.stops == []) = true := by kernel_rfl
theorem j7 : (Tryz.prog.stops == []) = true := by kernel_rfl
theorem j8 : (Rows.queueGathersRow.knobs == []) = true := by kernel_rfl
theorem j9 : (Tryz.prog.stopKnobs == []) = true := by kernel_rfl
theorem j10 : (Rows.queueGathersRow.inPlace == Tryz.prog.inPlace 3) = true := by kernel_rfl
theorem j11 : (Rows.queueGathersRow.unfollowed == Tryz.prog.unfollowed 3) = true := by kernel_rfl
theorem j12 : (Rows.queueGathersRow.recurses == Tryz.prog.recurses 3) = true := by kernel_rfl
theorem j13 : (Rows.queueGathersRow.named == Tryz.prog.varsNamed 3) = true := by kernel_rfl
theorem j14 : (Rows.queueGathersRow.maps == (Tryz.f3.params.toList ++ S.bare.plain.varTypes Tryz.prog).any (Tryz.prog.mapsRec ·)) = true := by kernel_rfl
theorem j15 : (Rows.queueGathersRow.ifaces == (Tryz.f3.params.toList ++ S.bare.plain.varTypes Tryz.prog).any (Tryz.prog.ifacesRec ·)) = true := by kernel_rfl
theorem j16 : (Rows.queueGathersRow.mapsOut == Tryz.prog.mapsAmong Tryz.f3.resultTypes.toList) = true := by kernel_rfl
theorem j17 : (Rows.queueGathersRow.loops == (Tryz.f3.params.toList ++ S.bare.plain.varTypes Tryz.prog).any (Tryz.prog.loopsFrom ·)) = true := by kernel_rfl
theorem j18 : (Rows.queueGathersRow.wideKeys == (Tryz.f3.params.toList ++ S.bare.plain.varTypes Tryz.prog ++ Tryz.f3.resultTypes.toList).any (Tryz.prog.wideKeysFrom ·)) = true := by kernel_rfl
theorem j19 : (S.bare.vars.all (Tryz.prog.varReadable ·)) = true := by kernel_rfl
theorem j20 : (Tryz.f3.resultTypes.all (fun t => Tryz.prog.readableRec t && decide (t < Tryz.prog.types.size))) = true := by kernel_rfl
theorem j21 : (Rows.queueGathersRow.ifacesOut == Tryz.f3.resultTypes.toList.any (Tryz.prog.ifacesRec ·)) = true := by kernel_rfl
theorem j22 : (Rows.queueGathersRow.loopsOut == Tryz.f3.resultTypes.toList.any (Tryz.prog.loopsFrom ·)) = true := by kernel_rfl
theorem j23 : (Rows.queueGathersRow.plainKeys == Tryz.prog.plainKeys) = true := by kernel_rfl
theorem j24 : (Rows.queueGathersRow.shortTexts.isNone) = true := by kernel_rfl
theorem j25 : (Tryz.prog.stopsHeard) = true := by kernel_rfl
theorem j26 : (Tryz.prog.mayEnter) = true := by kernel_rfl
theorem j27 : (Rows.queueGathersRow.lifted == Tryz.prog.liftsFinal) = true := by kernel_rfl
theorem j28 : (Tryz.prog.make == some Rows.queueGathersRow.make) = true := by kernel_rfl
theorem j29 : (Rows.queueGathersRow.kinds == (if Rows.queueGathersRow.domain.isEmpty then [] else Tryz.f3.params.toList.map fun t => match Tryz.prog.underlying t with | some (.int k) => some k | _ => none)) = true := by kernel_rfl
theorem j30 : (Rows.queueGathersRow.pinned == Rows.queueGathersRow.pinnedBy) = true := by kernel_rfl
theorem j31 : (Rows.queueGathersRow.veiled == (Tryz.f3.params.toList ++ S.bare.plain.varTypes Tryz.prog ++ Tryz.f3.resultTypes.toList).any (Tryz.prog.veiledRec ·)) = true := by kernel_rfl
theorem j32 : (Rows.queueGathersRow.veiledFits Tryz.prog Tryz.f3.params.toList (Tryz.f3.params.toList ++ S.bare.plain.varTypes Tryz.prog ++ Tryz.f3.resultTypes.toList)) = true := by kernel_rfl
theorem joined : joinedFacts Tryz.prog 3 Tryz.f3 S.bare Rows.queueGathersRow = true := and2 (and2 (and2 (and2 (and2 (and2 (and2 (and2 (and2 (and2 (and2 (and2 (and2 (and2 (and2 (and2 (and2 (and2 (and2 (and2 (and2 (and2 (and2 (and2 (and2 (and2 (and2 (and2 (and2 (and2 (and2 (j1) laidOut) mapped) j4) j5) j6) j7) j8) j9) j10) j11) j12) j13) j14) j15) j16) j17) j18) j19) j20) j21) j22) j23) j24) j25) j26) j27) j28) j29) j30) j31) j32
theorem said : Rows.QueueGathersSaid :=
  OpenClaim.holds_of_cond 3 Tryz.f3 rfl rfl rfl rfl rfl rfl rfl ⟨rfl, rfl, rfl, rfl, rfl⟩ rfl rfl rfl rfl rfl (by kernel_rfl) Tryz.func3 joined
    (of_decide_eq_true (by kernel_rfl)) (by unfold Func.isWrapper; first | (rw [if_pos (by decide +kernel)]; kernel_rfl) | (rw [if_neg (by decide +kernel)]; exact ⟨rfl, rfl⟩))
    (fun os started HH enc _ F => by rw [OpenClaim.pre_eq_preRow]; exact lifted os started HH enc F)

theorem plain (f : FuncId) (fn : Func) (hf : Tryz.pinned.checked.prog.funcNamed "headgate/headgatelaw30.QueueGathers" = some f) (hfn : Tryz.pinned.checked.prog.funcs[f]? = some fn) :
    false = Tryz.pinned.checked.prog.looks [] ∧ ∀ (j : Nat) t, fn.params[j]? = some t → Tryz.pinned.checked.prog.wantsStandIn t = false := by
  obtain rfl : f = 3 := Option.some.inj ((show Tryz.prog.funcNamed "headgate/headgatelaw30.QueueGathers" = some 3 by kernel_rfl).symm.trans hf) |>.symm
  obtain rfl : fn = Tryz.f3 := (Option.some.inj (Tryz.func3.symm.trans hfn)).symm
  refine ⟨by kernel_rfl, fun j t ht => ?_⟩
  rw [Tryz.params3] at ht
  have ht' := Array.mem_of_getElem? ht
  simp at ht'
  rcases ht' with rfl | rfl | rfl
  · exact (show Tryz.prog.wantsStandIn 3 = false by kernel_rfl)
  · exact (show Tryz.prog.wantsStandIn 5 = false by kernel_rfl)
  · exact (show Tryz.prog.wantsStandIn 22 = false by kernel_rfl)

/-- ████ THE CARD ████ -/
theorem card : Rows.QueueGathersCardSaid :=
  Claim7.holds_tied_plain_at .later [] _ _ _ _ said (fun _ h => by cases h) (by kernel_rfl) (fun _ h => by cases h) queueGathers_row_tie rfl ⟨rfl, rfl⟩ (by kernel_rfl) rfl plain (by kernel_rfl)
end Go.Proofs.YthlpiipobcomfaaGreatDoor.QueueGathers
