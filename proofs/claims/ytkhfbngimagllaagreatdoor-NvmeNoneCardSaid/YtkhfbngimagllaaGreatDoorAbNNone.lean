/- 'NvmeNone': without an executor nothing is done: the law's walk, joined to the row, and the row's card. -/
import Derived.Test.YtkhfbngimagllaaGreatDoorCards
import Derived.Test.YtkhfbngimagllaaGreatDoorTie
import Derived.WalkKit
import Derived.ProofKit
import Derived.OpenShut
import Derived.Deep.DeepHandedRow
import Derived.Test.YtkhfbngimagllaaGreatDoorAbNWakes
import Derived.Test.YtkhfbngimagllaaGreatDoorAbNArg
import Derived.Test.YtkhfbngimagllaaGreatDoorAbNFair
namespace Go.Proofs.YtkhfbngimagllaaGreatDoor
open Go Go.Ab Go.Proofs Go.ChangeShapes Go.WideShapes Go.ChangeAt Go.RowKit Go.ChangeMaps
set_option maxRecDepth 1000000

abbrev Holds (W : World) : Prop := Rel Tryz.prog (otabS Tryz.prog tabs) (otabH tabs) W

def refusal : Value := .agg #[.int .i64 2, .int .i64 0, .int .i64 0, .int .i64 0, .int .i64 (-1), .string ⟨#[]⟩]
def isRefusal : Option (Value × H) → Bool
  | some (.agg ⟨[.int .i64 a, .int .i64 b, .int .i64 c, .int .i64 d, .int .i64 e, .string s]⟩, _) => a == 2 && b == 0 && c == 0 && d == 0 && e == -1 && (bytesOf s).isEmpty
  | _ => false
theorem isRefusal_some {r : Option (Value × H)} (h : isRefusal r = true) : ∃ A, r = some (refusal, A) := by
  unfold isRefusal at h
  split at h
  · rename_i a b c d e s A
    simp only [Bool.and_eq_true, beq_iff_eq, List.isEmpty_iff] at h
    obtain ⟨⟨⟨⟨⟨rfl, rfl⟩, rfl⟩, rfl⟩, rfl⟩, hs⟩ := h
    have : s = ⟨#[]⟩ := by
      obtain ⟨⟨l⟩⟩ := s
      simp only [bytesOf] at hs
      subst hs
      rfl
    subst this
    exact ⟨A, rfl⟩
  · cases h
theorem do_run (t h b d : ByteArray) (a : Bool) : isRefusal (evalF code 3000 6 [.pointer none, .string t, .string h, .bool a, .string b, .string d] (otabH tabs)) = true := by kernel_rfl
theorem do_none {W : World} (hR : Holds W) (t h b d : ByteArray) (a : Bool) : Calls Tryz.prog 6 #[.pointer none, .string t, .string h, .bool a, .string b, .string d] W fun e w' => e = .returned (.agg #[.int .i64 2, .int .i64 0, .int .i64 0, .int .i64 0, .int .i64 (-1), .string ⟨#[]⟩]) ∧ Below W.heap.size W w' := by
  obtain ⟨A, hA⟩ := isRefusal_some (do_run t h b d a)
  refine ((evalF_ok mixed ext code_body code_nat 3000).calls _ _ _ _ _ hA _ W [.pointer none, .string t, .string h, .bool a, .string b, .string d] hR (.cons .ptrNil (.cons (.string t) (.cons (.string h) (.cons (.bool a) (.cons (.string b) (.cons (.string d) .nil))))))).mono fun e w' hh => ?_
  obtain ⟨rc, σ', rfl, h2, _, h4⟩ := hh
  refine ⟨?_, h4.os, h4.tape, h4.output, h4.size, fun k hk => h4.frame k hk fun ho => ?_⟩
  · unfold refusal at h2
    cases h2 with
    | agg xs ys h1 h2 =>
      obtain ⟨l⟩ := ys
      simp only [List.size_toArray, List.length_cons, List.length_nil] at h1
      match l, h1 with
      | [x0, x1, x2, x3, x4, x5], _ =>
        have e0 := h2 0 _ x0 rfl rfl
        have e1 := h2 1 _ x1 rfl rfl
        have e2 := h2 2 _ x2 rfl rfl
        have e3 := h2 3 _ x3 rfl rfl
        have e4 := h2 4 _ x4 rfl rfl
        have e5 := h2 5 _ x5 rfl rfl
        cases e0; cases e1; cases e2; cases e3; cases e4; cases e5
        rfl
  · obtain ⟨id, p, o, _, _, hg, hown⟩ := ho
    rw [otabH_ro _ hg] at hown
    cases hown

set_option maxHeartbeats 4000000 in
theorem law {W : World} (hR : Holds W) (s b x : ByteArray) (a : Bool) : Calls Tryz.prog 3 #[.agg #[.string s, .bool a, .string b, .string x]] W fun e w' => e = .returned (.bool true) ∧ Below W.heap.size W w' := by
  have keep : ∀ {w : World}, Below W.heap.size W w → Holds w := fun h => (hR.below h).1
  go_enter Tryz.func3, Tryz.ntmps3
  have al : ∀ {w : World} (o : Obj), Below W.heap.size W w → Below W.heap.size W (w.alloc o) := fun o h => h.alloc h.size o
  have on : ∀ {w w' : World}, Below W.heap.size W w → Below w.heap.size w w' → Below W.heap.size W w' := fun h k => ⟨k.os.trans h.os, k.tape.trans h.tape, k.output.trans h.output, Nat.le_trans h.size k.size, fun b hb => (k.block b (Nat.lt_of_lt_of_le hb h.size)).trans (h.block b hb)⟩
  have b0 := Below.refl W.heap.size W
  go_wp2_with (first
    | (go_at_call 4; refine (fair_walk2 _ _ _ _ _).mono ?_; rintro e w' ⟨rfl, rfl⟩)
    | (go_at_call 5; refine (wakes (keep (by repeat (first | exact b0 | exact b1 | apply al)))).mono ?_; rintro e w2 ⟨rfl, b2⟩)
    | (go_at_call 6; refine (do_none (keep (by repeat (first | exact b0 | apply al))) _ _ _ _ _).mono ?_; rintro e w1 ⟨rfl, b1⟩; replace b1 := on (al _ (al _ b0)) b1))
  all_goals (go_ret; exact ⟨rfl, on (by repeat (first | exact b0 | exact b1 | apply al)) b2⟩)

theorem no_handles {P : Program} {laid : List (String × DataW Unit)} {w : World} (h : (laid.filter fun x => x.2.handleName?.isSome).isEmpty = true) (hl : laidMetH P laid w) : laidMet P laid w := by
  unfold laidMetH at hl
  rw [List.isEmpty_iff] at h
  rw [h] at hl
  exact hl
theorem handles : (laidAll.filter fun x => x.2.handleName?.isSome).isEmpty = true := by kernel_rfl
theorem laid_eq : Rows.nvmeNoneRow.laid = laidAll := by kernel_rfl
theorem tables {W : World} (h : laidMetH Tryz.prog Rows.nvmeNoneRow.laid W) : laidMet Tryz.prog laidAll W := no_handles handles (Eq.mp (congrArg (fun l => laidMetH Tryz.prog l W) laid_eq) h)
theorem own : ownKnob Tryz.prog.godebug = none := by kernel_rfl

/-- For every argument and every world that holds the tables. -/
theorem contract (HH : Type) (enc : TypeId × Value → HH) (W : World) (base : Nat) (args : Array Value) (ds gs : List (DataW HH)) (before : List MemPlace)
    (hval : ∀ (j : Nat) t v, Tryz.f3.params[j]? = some t → args[j]? = some v → Value.okWide Tryz.prog W .any base t v)
    (hW : DataW.Whole enc Tryz.prog Tryz.f3.params.toList Rows.nvmeNoneSpec.vars false W args.toList ds gs before) (hL : laidMetH Tryz.prog Rows.nvmeNoneRow.laid W) (hS : W.ShapedOpen Tryz.prog) :
    Calls Tryz.prog 3 args W fun e W' => ∃ v, e = .returned v ∧ Rows.nvmeNoneSpec.post enc Tryz.prog Tryz.f3 false true false false W args v W' := by
  have hW' := hW
  obtain ⟨p, q, hA0, hV, rfl, hfz, hnd⟩ := hW
  have hA : DataW.TrodAll enc Tryz.prog W 0 (fun _ => true) true Tryz.f3.params.toList args.toList ds p := hA0
  rw [Tryz.params3] at hA hval
  obtain ⟨v0, vs0, d0, ds0, p0, q0, hargs, rfl, rfl, h0, r0⟩ := trodAll_cons hA
  obtain ⟨rfl, rfl, rfl⟩ := trodAll_nil r0
  obtain rfl : args = #[v0] := by cases args; simp_all
  obtain ⟨rfl, rfl⟩ := trodVars_none hV
  obtain ⟨s, a, b, x, rfl, rfl, shut⟩ := open_ask (hval 0 23 v0 (by simp) (by simp)) h0
  clear hA0
  simp only [List.append_nil] at hW'
  have hR : Holds W := rel (tables hL) hS
  refine (law hR s b x a).mono fun e W' ⟨he, hb⟩ => ?_
  subst he
  exact ⟨_, rfl, post_of_below (pa := []) (pv := []) hW' (fun _ _ _ => trodAll_cons_mk (shut_bool Tryz.underlying4 _) trodAll_mk0) (fun _ _ => trodAll_cons_mk (shut _ _ _ _) trodAll_mk0) (fun _ _ => rfl) rfl
    hb (ok_one (by kernel_rfl) rfl (okWide_bool_mk Tryz.underlying4 _))⟩

noncomputable def lay (c : List Value) (i : Nat) (h : Array Obj) : Array Obj := h.modify i fun
  | .cells _ t frozen => .cells c.toArray t frozen
  | o => o
/-- A world for the witness: the settled one, the tables holding what their initialisers lay. -/
noncomputable def laidWorld (os : Os) : World :=
  { World.holding Tryz.prog os ⟨#[], #[], []⟩ with heap := lay tab7 7 (lay tab6 6 (lay tab5 5 (lay tab4 4 (lay tab3 3 (lay tab2 2 (lay tab1 1 (lay tab0 0 (World.holding Tryz.prog os ⟨#[], #[], []⟩).heap))))))) }
def ask0 : Value := .agg #[.string ByteArray.empty, .bool false, .string ByteArray.empty, .string ByteArray.empty]
theorem laid_met (os : Os) : laidMet Tryz.prog Rows.nvmeNoneRow.laid ((laidWorld os).forCall (fun _ _ => 0) ⟨#[], #[ask0], []⟩).memory :=
  laidMet_of_run' 8 (by kernel_rfl) (by kernel_rfl)
theorem reads (os : Os) {HH : Type} (enc : TypeId × Value → HH) : ∃ places, DataW.whole enc Tryz.prog ((laidWorld os).forCall (fun _ _ => 0) ⟨#[], #[ask0], []⟩).memory Tryz.f3.params.toList Rows.nvmeNoneSpec.vars false #[ask0].toList 8 = some ([.agg [.lit (.string []), .lit (.bool false), .lit (.string []), .lit (.string [])]], [], places) :=
  ⟨[], by kernel_rfl⟩

theorem lifted (os : Os) (started : os.Started) (HH : Type) (enc : TypeId × Value → HH) (F : Stop.Interp) :
    ReturnsInHanded {} Tryz.checked os 3 .any ((OpenSpec.ofChange Rows.nvmeNoneSpec).preRow enc Tryz.prog Tryz.f3 Rows.nvmeNoneRow.domain false Rows.nvmeNoneRow.laid) (((OpenSpec.ofChange Rows.nvmeNoneSpec).at F).post enc Tryz.prog Tryz.f3 false true false false) := by
  obtain ⟨places, hx⟩ := reads os enc
  refine returnsInHanded_of_row (C := Tryz.checked) (s := OpenSpec.ofChange Rows.nvmeNoneSpec) own started (by kernel_rfl) Tryz.func3
    (witness_row_at (enc := enc) (C := Tryz.checked) false (laidWorld os) #[ask0] rfl (by kernel_rfl) (by kernel_rfl) (by kernel_rfl)
      (OpenSpec.preRow_of_cond 8 hx (by kernel_rfl) (fun k hk => by cases hk) (by kernel_rfl) (laid_met os))) ?_
  intro W base args ds gs before hval hW _ _ _ hL hS _
  exact contract HH enc W base args ds gs before hval hW hL hS

theorem said : Rows.NvmeNoneSaid :=
  OpenClaim.holds_of_cond 3 Tryz.f3 rfl rfl rfl rfl rfl rfl rfl ⟨rfl, rfl, rfl, rfl, rfl⟩ rfl rfl rfl rfl rfl (by kernel_rfl) Tryz.func3 (by kernel_rfl)
    (of_decide_eq_true (by kernel_rfl)) (by unfold Func.isWrapper; first | (rw [if_pos (by decide +kernel)]; kernel_rfl) | (rw [if_neg (by decide +kernel)]; exact ⟨rfl, rfl⟩))
    (fun os started HH enc _ F => by rw [OpenClaim.pre_eq_preRow]; exact lifted os started HH enc F)

theorem plain (f : FuncId) (fn : Func) (hf : Tryz.pinned.checked.prog.funcNamed "headgate/headgatelaw28.NvmeNone" = some f) (hfn : Tryz.pinned.checked.prog.funcs[f]? = some fn) :
    false = Tryz.pinned.checked.prog.looks [] ∧ ∀ (j : Nat) t, fn.params[j]? = some t → Tryz.pinned.checked.prog.wantsStandIn t = false := by
  obtain rfl : f = 3 := Option.some.inj ((show Tryz.prog.funcNamed "headgate/headgatelaw28.NvmeNone" = some 3 by kernel_rfl).symm.trans hf) |>.symm
  obtain rfl : fn = Tryz.f3 := (Option.some.inj (Tryz.func3.symm.trans hfn)).symm
  refine ⟨by kernel_rfl, fun j t ht => ?_⟩
  rw [Tryz.params3] at ht
  have ht' := Array.mem_of_getElem? ht
  simp at ht'
  rcases ht' with rfl
  exact (show Tryz.prog.wantsStandIn 23 = false by kernel_rfl)

/-- ████ THE CARD ████ -/
theorem card : Rows.NvmeNoneCardSaid :=
  Claim7.holds_tied_plain_at .later [] _ _ _ _ said (fun _ h => by cases h) (by kernel_rfl) (fun _ h => by cases h) nvmeNone_row_tie rfl ⟨rfl, rfl⟩ (by kernel_rfl) rfl plain (by kernel_rfl)
end Go.Proofs.YtkhfbngimagllaaGreatDoor
