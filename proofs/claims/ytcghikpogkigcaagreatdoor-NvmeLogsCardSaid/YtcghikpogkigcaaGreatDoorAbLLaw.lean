/- NvmeLogs, whatever the list and the host: the runs put together. -/
/- NvmeLogs: the list of pairs and the host, opened; the world where they stand. -/
/- NvmeLogs, whatever the list and the host. -/
import Derived.Test.YtcghikpogkigcaaGreatDoorAbLTAll
import Derived.Test.YtcghikpogkigcaaGreatDoorAbLR
import Derived.Test.YtcghikpogkigcaaGreatDoorAbDBase
import Derived.ProofKit
import Derived.OpenShut
import Derived.ChangeSame
import Derived.ChangeArms
import Derived.KernelRfl
set_option linter.all false
set_option linter.unusedSectionVars false
set_option linter.unusedVariables false
set_option linter.unusedSimpArgs false
namespace Go.Proofs.YtcghikpogkigcaaGreatDoor.L
open Go Go.Ab Go.Proofs Go.RowKit
set_option maxRecDepth 1000000
/-! ### The code -/
noncomputable def cb : Code := (Tryz.f3.body).getD .skip
theorem cb_eq : Tryz.f3.body = some cb := by kernel_rfl
theorem comp3 : comp 3 = some (.body (bodyOf (comp 3))) := by kernel_rfl
theorem nt3 : Tryz.f3.ntmps = 145 := by kernel_rfl
theorem res3 : compRes Tryz.prog 145 Tryz.f3.results.toList = some [(4, none)] := by kernel_rfl
theorem xb_eq : compC Tryz.prog 145 cb = xb := by
  letI : Unk := unkOf (fun j => UInt8.ofNat j) (by decide) (fun _ => .nilFunc) (fun _ => rfl) (fun _ _ h => by cases h) (fun _ => false) (fun _ => ByteArray.empty) (fun _ => by decide)
  letI : Kn := knNone
  haveI : KnOk := knNone_ok
  have h := comp3
  rw [comp_eq 3] at h
  obtain ⟨fn, c, rs, h1, h2, h3, h4, h5⟩ := comp_enters h
  have e1 : Tryz.f3 = fn := Option.some.inj (Tryz.func3.symm.trans h1)
  subst e1
  have e2 : cb = c := Option.some.inj (cb_eq.symm.trans h2)
  subst e2
  rw [nt3] at h5
  rcases h5 with h5 | ⟨y, o, l, z, _, h5⟩
  · have h6 : bodyOf (compF Tryz.prog 3) = { ntmps := 145, body := compC Tryz.prog 145 cb, results := rs, late := compLate Tryz.prog 145 cb } := by
      have := congrArg (fun x => match x with
        | XFun.body b => b
        | _ => bodyOf none) h5
      exact this
    unfold xb
    rw [comp_eq 3, h6]
  · cases h5
theorem cb_parts : cb = .seq (pathC wA cb) (.seq (pathC wB cb) (.seq (pathC wC cb) (.seq (pathC wD cb) (.seq (.seq (pathC wE cb) (.block 0 (.loop (pathC wL cb)))) (.seq (pathC wX cb) (.seq (.seq (pathC wM cb) (.block 2 (.loop (pathC wQ cb)))) (pathC wR cb))))))) := by kernel_rfl
theorem cA : compC Tryz.prog 145 (pathC wA cb) = pathX wA xb := (path_eq wA cb (by kernel_rfl)).trans (by rw [xb_eq])
theorem cB : compC Tryz.prog 145 (pathC wB cb) = pathX wB xb := (path_eq wB cb (by kernel_rfl)).trans (by rw [xb_eq])
theorem cC : compC Tryz.prog 145 (pathC wC cb) = pathX wC xb := (path_eq wC cb (by kernel_rfl)).trans (by rw [xb_eq])
theorem cD : compC Tryz.prog 145 (pathC wD cb) = pathX wD xb := (path_eq wD cb (by kernel_rfl)).trans (by rw [xb_eq])
theorem cE : compC Tryz.prog 145 (pathC wE cb) = pathX wE xb := (path_eq wE cb (by kernel_rfl)).trans (by rw [xb_eq])
theorem cL : compC Tryz.prog 145 (pathC wL cb) = pathX wL xb := (path_eq wL cb (by kernel_rfl)).trans (by rw [xb_eq])
theorem cX : compC Tryz.prog 145 (pathC wX cb) = pathX wX xb := (path_eq wX cb (by kernel_rfl)).trans (by rw [xb_eq])
theorem cM : compC Tryz.prog 145 (pathC wM cb) = pathX wM xb := (path_eq wM cb (by kernel_rfl)).trans (by rw [xb_eq])
theorem cQ : compC Tryz.prog 145 (pathC wQ cb) = pathX wQ xb := (path_eq wQ cb (by kernel_rfl)).trans (by rw [xb_eq])
theorem dA : noDst 0 (pathX wA xb) = true := by kernel_rfl
theorem dB : noDst 0 (pathX wB xb) = true := by kernel_rfl
theorem dC : noDst 0 (pathX wC xb) = true := by kernel_rfl
theorem dD : noDst 0 (pathX wD xb) = true := by kernel_rfl
theorem dE : noDst 0 (pathX wE xb) = true := by kernel_rfl
theorem dL : noDst 0 (pathX wL xb) = true := by kernel_rfl
theorem size3 : (Tryz.prog.info? 3).map (·.size) = some 1 := by kernel_rfl
theorem glob10 : Tryz.prog.globals.size ≤ 10 := by rw [count]; decide
/-! ### What is told, and by whom -/
theorem den_get {bit : Nat → Bool} : ∀ (l : List Nat) (j c : Nat), l[j]? = some c → bitV bit c = true → 2 ^ j ≤ denL bit l
  | [], j, c, h, _ => by simp at h
  | x :: l, 0, c, h, hb => by
    simp only [List.getElem?_cons_zero, Option.some.injEq] at h
    subst h
    show 1 ≤ (bitV bit x).toNat + 2 * denL bit l
    rw [hb]
    simp
  | x :: l, j + 1, c, h, hb => by
    have := den_get l j c (by simpa using h) hb
    show 2 ^ (j + 1) ≤ (bitV bit x).toNat + 2 * denL bit l
    rw [Nat.pow_succ]
    omega
theorem lenK_ok {I : Unk} (hg : GoodL true I) (D : PairL) (b : Bool) (h : lenK D = some b) : b = true ↔ HoldsD I.bit D := by
  obtain ⟨s, h1, h2, h3⟩ := hg.host
  obtain ⟨s', h4, h5⟩ := I.text 7000 rfl
  rw [h1] at h4
  cases h4
  have h64 : s.size ≤ 64 := by
    unfold nameB at h2
    simp only [Bool.and_eq_true, decide_eq_true_eq] at h2
    exact h2.1.1.2
  have hz : ∀ c, 40009 ≤ c → c < 40065 → bitV I.bit c = false := by
    intro c c1 c2
    have hget : (lenBits 7000).getD (c - 40002) 0 = c := by
      rw [lenBits_get 7000 (c - 40002) (by omega)]
      omega
    have ht : (denL I.bit (lenBits 7000)).testBit (c - 40002) = bitV I.bit c := by rw [test_den, hget]
    rw [← ht, ← h5]
    have h7 : 2 ^ 7 ≤ 2 ^ (c - 40002) := Nat.pow_le_pow_right (by decide) (by omega)
    exact Nat.testBit_lt_two_pow (by omega)
  unfold lenK at h
  cases ha : D.any (fun p => Nat.beq p.2 1 && Nat.ble 40009 p.1 && Nat.blt p.1 40065) with
  | true =>
    rw [ha, cond_true] at h
    cases h
    rw [List.any_eq_true] at ha
    obtain ⟨p, hp, ha⟩ := ha
    simp only [Bool.and_eq_true] at ha
    constructor
    · intro e; cases e
    · intro hh
      have := hh p hp
      have e1 := beq_t ha.1.1
      rw [e1, bitV1, hz p.1 (Nat.le_of_ble_eq_true ha.1.2) (blt_t ha.2)] at this
      cases this
  | false =>
    rw [ha, cond_false] at h
    cases hl : D.all (fun p => Nat.beq p.2 0 && Nat.ble 40009 p.1 && Nat.blt p.1 40065) with
    | false => rw [hl] at h; cases h
    | true =>
      rw [hl, cond_true] at h
      cases h
      refine ⟨fun _ p hp => ?_, fun _ => rfl⟩
      rw [List.all_eq_true] at hl
      have ha := hl p hp
      simp only [Bool.and_eq_true] at ha
      have e1 := beq_t ha.1.1
      rw [e1, bitV0, hz p.1 (Nat.le_of_ble_eq_true ha.1.2) (blt_t ha.2)]
/-- An engine: code, natives, who is asked. -/
structure Eng (code : Kn → FuncId → Option XFun) (nats : Kn → FuncId → Option KNat) (kn : KnF) (good : Unk → Prop) : Prop where
  body : ∀ K : Kn, CodeOf Tryz.prog (code K)
  nat : ∀ (K : Kn) (I : Unk), good I → ∀ [@KnOk K I], @NatOk I Tryz.prog (code K)
  mono : ∀ K : Kn, @NatMono (code K)
  ok : ∀ K : Kn, @NatsOk K (code K) (nats K)
  kn : ∀ (I : Unk) pos neg, good I → PosOk I.bit pos → NegOk I.bit neg → @KnOk (kn pos neg) I
theorem engB (good : Unk → Prop) : Eng (fun _ => _root_.Go.Proofs.YtcghikpogkigcaaGreatDoor.code) (fun _ => _root_.Go.Proofs.YtcghikpogkigcaaGreatDoor.nats) (knP fun _ => none) good :=
  ⟨fun _ => _root_.Go.Proofs.YtcghikpogkigcaaGreatDoor.code_body, fun K I _ k => @_root_.Go.Proofs.YtcghikpogkigcaaGreatDoor.code_nat K I k, fun _ => _root_.Go.Proofs.YtcghikpogkigcaaGreatDoor.code_mono, fun K => @_root_.Go.Proofs.YtcghikpogkigcaaGreatDoor.nats_ok K, fun I pos neg _ hp hn => @knP_ok I _ pos neg (fun D b h => by cases h) hp hn⟩
theorem engL : Eng (fun K => @code K) (fun K => @nats K) (knP lenK) (GoodL true) :=
  ⟨fun K => @code_body K, fun K I hg k => @code_nat K I k hg, fun K => @code_mono K, fun K => @nats_ok K, fun I pos neg hg hp hn => @knP_ok I _ pos neg (lenK_ok hg) hp hn⟩
theorem engF : Eng (fun K => @F.code K) (fun K => @F.nats K) (knP fun _ => none) (GoodL false) :=
  ⟨fun K => @F.code_body K, fun K I hg k => @F.code_nat K I k hg, fun K => @F.code_mono K, fun K => @F.nats_ok K, fun I pos neg hg hp hn => @knP_ok I _ pos neg (fun D b h => by cases h) hp hn⟩
/-! ### What a run ends in -/
def RetOk (t : Tm) (A : H) : Prop := ∃ vs, resultsA A t [(4, none)] = some vs ∧ resultV vs = .bool true
theorem ret_ok {T : TK} {t : Tm} {A : H} (hT : TR T t) (h : retT T A = true) : RetOk t A := by
  unfold retT at h
  rw [← hT 4] at h
  cases hv : val t (.tmp 4) with
  | bool b =>
    rw [hv] at h
    simp only at h
    subst h
    exact ⟨[.bool true], by simp [resultsA, hv], rfl⟩
  | _ => rw [hv] at h; cases h
def Fin : Go.Ab.Ends := fun xe _ t A => (xe = .normal ∨ xe = .ret) ∧ RetOk t A
/-- The value in the slot that stays. -/
structure HoleV (V : Value) : Prop where
  fix : ∀ tr : Tr Nat, subV tr V = V
  no : V ≠ .tuple #[]
  img : ∀ (l : FL) (room : Nat → Nat) (N m : Nat), imgV (mapF 10 l) room N m V V = true
theorem hole_nil : HoleV (.slice none 0 0) := ⟨fun _ => rfl, (by intro h; cases h), fun _ _ _ _ => rfl⟩
theorem hole_slice (L C : Nat) : HoleV (.slice (some ⟨9, 0, none⟩) L C) := by
  refine ⟨fun _ => rfl, (by intro h; cases h), fun l room N m => ?_⟩
  show (imgA (mapF 10 l) ⟨9, 0, none⟩ ⟨9, 0, none⟩ && Nat.beq L L && (Nat.beq C C || _)) = true
  have e1 : imgA (mapF 10 l) ⟨9, 0, none⟩ ⟨9, 0, none⟩ = true := rfl
  rw [e1, show Nat.beq L L = true from Nat.beq_refl L, show Nat.beq C C = true from Nat.beq_refl C]
  rfl
theorem h0_eq {i : Nat} (h : h0 i = true) : i = 0 := beq_t h
section
variable {W0 : World} {code' : Kn → FuncId → Option XFun} {nats' : Kn → FuncId → Option KNat} {kn : KnF} {good : Unk → Prop} {V : Value}
abbrev FP (ho : Nat → Bool) (V : Value) (sts : Nat → LS) (good : Unk → Prop) (js : Nat → Bool) : Cond := FitsPre 3 ho (fun _ => V) 10 145 64 sts good js
/-- A run from a state whose first slot stays as it is. -/
theorem seg0 (E : Eng code' nats' kn good) (hV : HoleV V) {xc : XCode} {cc : Code} (hc : compC Tryz.prog 145 cc = xc) (hd : noDst 0 xc = true) {hoE : Nat → Bool} (hE : ∀ i, hoE i = true → h0 i = true) {sts stsE : Nat → LS} {id : Nat} {T : LT} {S : LS} {jn je : Nat → Bool} {post : Go.Ab.Ends}
    (hrun : runLT kn code' nats' 3 h0 hoE 10 145 64 sts stsE id retT xc 5000 T S [] [] = true) (h1 : ∀ j, j ∈ T.spots false → jn j = true) (h2 : ∀ j, j ∈ T.spots true → je j = true)
    (hr : ∀ I t A, RetOk t A → post .ret I t A) (hn : ∀ I t A, FP h0 V sts good jn I t A → post .normal I t A) (he : ∀ I t A, FP hoE V stsE good je I t A → post (.exit id) I t A) :
    Tri Tryz.prog W0 145 cc (AtS h0 (fun _ => V) good S [] []) post :=
  runLT_ok (hv := fun _ => V) mixed ext E.body E.nat E.mono E.ok E.kn (fun _ _ => hV.fix) (fun _ _ => hV.no) (fun i hi => by rw [h0_eq hi]; exact hd) (fun _ h => h) hE hc (fun I T t A _ hT h => hr I t A (ret_ok hT h)) hn he T S [] [] h1 h2 hrun
/-- A run from a state. -/
theorem segN (E : Eng code' nats' kn good) {xc : XCode} {cc : Code} (hc : compC Tryz.prog 145 cc = xc) {sts stsE : Nat → LS} {id : Nat} {T : LT} {S : LS} {jn je : Nat → Bool} {post : Go.Ab.Ends}
    (hrun : runLT kn code' nats' 3 hN hN 10 145 64 sts stsE id retT xc 5000 T S [] [] = true) (h1 : ∀ j, j ∈ T.spots false → jn j = true) (h2 : ∀ j, j ∈ T.spots true → je j = true)
    (hr : ∀ I t A, RetOk t A → post .ret I t A) (hn : ∀ I t A, FP hN V sts good jn I t A → post .normal I t A) (he : ∀ I t A, FP hN V stsE good je I t A → post (.exit id) I t A) :
    Tri Tryz.prog W0 145 cc (AtS hN (fun _ => V) good S [] []) post :=
  runLT_ok (hv := fun _ => V) mixed ext E.body E.nat E.mono E.ok E.kn (fun _ h => by cases h) (fun _ h => by cases h) (fun _ h => by cases h) (fun _ h => h) (fun _ h => h) hc (fun I T t A _ hT h => hr I t A (ret_ok hT h)) hn he T S [] [] h1 h2 hrun
theorem fits0 (hgood : ∀ (I : Unk) N m (hm : m ≤ 40000), m ≤ 64 → good I → good (@thUnk I N m hm)) (hV : HoleV V) {ts : Nat → List Value} {hs : Nat → List (Nat × AObj)} {nx : Nat → Nat} {js : Nat → Bool} {cc : Code} {post : Go.Ab.Ends}
    (h : ∀ j, js j = true → Tri Tryz.prog W0 145 cc (AtS h0 (fun _ => V) good ⟨V :: ts j, hs j, nx j⟩ [] []) post) : Tri Tryz.prog W0 145 cc (FP h0 V (fun j => ⟨V :: ts j, hs j, nx j⟩) good js) post :=
  tri_fits glob10 size3 hgood (fun j _ i hi => by rw [h0_eq hi]; rfl) (fun i hi => by rw [h0_eq hi]; decide) (fun i hi l room N m => hV.img l room N m) h
theorem fitsN (hgood : ∀ (I : Unk) N m (hm : m ≤ 40000), m ≤ 64 → good I → good (@thUnk I N m hm)) {sts : Nat → LS} {js : Nat → Bool} {cc : Code} {post : Go.Ab.Ends}
    (h : ∀ j, js j = true → Tri Tryz.prog W0 145 cc (AtS hN (fun _ => V) good (sts j) [] []) post) : Tri Tryz.prog W0 145 cc (FP hN V sts good js) post :=
  tri_fits glob10 size3 hgood (fun j _ i hi => by cases hi) (fun i hi => by cases hi) (fun i hi => by cases hi) h
end
theorem de_ne {i : Nat} (h : de i = true) : i < 145 ∧ i ≠ 4 ∧ h0 i = false ∧ i ∈ dl := by
  unfold de at h
  rw [List.any_eq_true] at h
  obtain ⟨x, hx, he⟩ := h
  have e := beq_t he
  subst e
  have hx' := hx
  simp only [dl, List.mem_cons, List.mem_nil_iff, or_false] at hx
  rcases hx with rfl | rfl | rfl | rfl | rfl <;> exact ⟨by decide, by decide, rfl, hx'⟩
theorem ret_okD {T : TK} {t u : Tm} {A : H} (hT : TR T t) (ho : Off de t u) (h : retT T A = true) : RetOk u A := by
  obtain ⟨vs, h1, h2⟩ := ret_ok hT h
  refine ⟨vs, ?_, h2⟩
  rw [← h1]
  simp only [resultsA]
  rw [ho 4 (by decide)]
section
variable {W0 : World} {code' : Kn → FuncId → Option XFun} {nats' : Kn → FuncId → Option KNat} {kn : KnF} {good : Unk → Prop}
abbrev FD (sts : Nat → LS) (good : Unk → Prop) (js : Nat → Bool) : Cond := FitD 3 de 10 145 64 sts good js
/-- A run from a state with dead slots. -/
theorem segD (E : Eng code' nats' kn good) {xc : XCode} {cc : Code} (hc : compC Tryz.prog 145 cc = xc) (ho : offC de xc = true) {sts stsE : Nat → LS} {id : Nat} {T : LT} {S : LS} {jn je : Nat → Bool} {post : Go.Ab.Ends}
    (hrun : runLT kn code' nats' 3 hN hN 10 145 64 sts stsE id retT xc 5000 T S [] [] = true) (h1 : ∀ j, j ∈ T.spots false → jn j = true) (h2 : ∀ j, j ∈ T.spots true → je j = true)
    (hr : ∀ I t A, RetOk t A → post .ret I t A) (hn : ∀ I t A, FD sts good jn I t A → post .normal I t A) (he : ∀ I t A, FD stsE good je I t A → post (.exit id) I t A) :
    Tri Tryz.prog W0 145 cc (AtD de 145 good S [] []) post :=
  runLT_okD mixed ext E.body E.nat E.mono E.ok (fun _ h => by cases h) (fun _ h => by cases h) E.kn ho (fun i hi => (de_ne hi).1) hc (fun I T t u A _ hT hoff h => hr I u A (ret_okD hT hoff h)) hn he T S [] [] h1 h2 hrun
theorem fitsD (hgood : ∀ (I : Unk) N m (hm : m ≤ 40000), m ≤ 64 → good I → good (@thUnk I N m hm)) {sts : Nat → LS} {js : Nat → Bool} {cc : Code} {post : Go.Ab.Ends}
    (h : ∀ j, js j = true → Tri Tryz.prog W0 145 cc (AtD de 145 good (sts j) [] []) post) : Tri Tryz.prog W0 145 cc (FD sts good js) post :=
  tri_fitsD glob10 size3 hgood h
end
theorem oX : offC de (pathX wX xb) = true := by kernel_rfl
theorem oM : offC de (pathX wM xb) = true := by kernel_rfl
theorem oQ : offC de (pathX wQ xb) = true := by kernel_rfl
theorem clean_of {v : Value} (h : cleanB v = true) : ∃ y, v = cleanV y := by
  cases v with
  | bool b => exact ⟨.bool b, rfl⟩
  | tuple c =>
    have h : c.toList = [] := by simpa [cleanB] using h
    exact ⟨.tuple c, by show Value.tuple c = .tuple #[]; congr 1; exact Array.ext' h⟩
  | float k n =>
    refine ⟨.nilFunc, ?_⟩
    unfold cleanB at h
    split at h
    · rename_i hh; cases hh
    · rename_i hh; cases hh
    · rename_i hh; rw [hh]; rfl
    · cases h
  | _ => cases h
theorem clean_X : ∀ j, Nat.blt j 225 = true → ∀ i, de i = true → ∃ y, (stX j).ts[i]? = some (cleanV y) := by
  intro j hj i hi
  have h := range_all clX_all j (Nat.zero_le _) (blt_t hj)
  unfold clX at h
  rw [List.all_eq_true] at h
  have h := h i (de_ne hi).2.2.2
  split at h
  · rename_i v hv
    obtain ⟨y, rfl⟩ := clean_of h
    exact ⟨y, hv⟩
  · cases h
theorem goodTh (b : Bool) : ∀ (I : Unk) N m (hm : m ≤ 40000), m ≤ 64 → GoodL b I → GoodL b (@thUnk I N m hm) := fun I N m hm h64 hg => good_th h64 hg
theorem all_mem {p : Nat → Bool} {l : List Nat} (h : l.all p = true) : ∀ j, j ∈ l → p j = true := fun j hj => List.all_eq_true.1 h j hj
theorem nil_mem {p : Nat → Bool} {l : List Nat} (h : l.isEmpty = true) : ∀ j, j ∈ l → p j = true := fun j hj => by
  rw [List.isEmpty_iff] at h
  subst h
  cases hj
/-- What was run of a list's first slot and entries. -/
structure Fam (V : Value) (K : List Value) (n : Nat) : Prop where
  hole : HoleV V
  le : n ≤ 8
  e0 : runE0 V K = true
  a : runA V K = true
  b : runB2 V K = true
  c : runC V K = true
  cf : runCF V K = true
  d : runD V K = true
  e : runE V K = true
  t : ∀ i, i < n → ∀ j, inL i j = true → runT V K j = true
  x : ∀ j, inL n j = true → runX V K j = true ∨ (runXD V K j = true ∧ spXD j = true)
theorem inL_le {i j : Nat} (h : inL i j = true) : loL i ≤ j ∧ j < loL (i + 1) := by
  unfold inL at h
  rw [Bool.and_eq_true] at h
  exact ⟨Nat.le_of_ble_eq_true h.1, blt_t h.2⟩
theorem inQ_le {i j : Nat} (h : inQ i j = true) : loQ i ≤ j ∧ j < loQ (i + 1) := by
  unfold inQ at h
  rw [Bool.and_eq_true] at h
  exact ⟨Nat.le_of_ble_eq_true h.1, blt_t h.2⟩
theorem loL_mono : ∀ i, i < 9 → ∀ n, n < 10 → i < n → loL (i + 1) ≤ loL n := by decide
theorem loL_last : ∀ n, n < 9 → loL (n + 1) ≤ 395 := by decide
theorem loQ_last : ∀ n, n < 9 → loQ (n + 1) ≤ 1057 := by decide
theorem spots_T : ∀ i, i < 8 → ∀ j, inL i j = true → spT i j = true := by
  intro i hi j hj
  obtain ⟨h1, h2⟩ := inL_le hj
  match i, hi with
  | 0, _ => exact range_all pT_0 j h1 h2
  | 1, _ => exact range_all pT_1 j h1 h2
  | 2, _ => exact range_all pT_2 j h1 h2
  | 3, _ => exact range_all pT_3 j h1 h2
  | 4, _ => exact range_all pT_4 j h1 h2
  | 5, _ => exact range_all pT_5 j h1 h2
  | 6, _ => exact range_all pT_6 j h1 h2
  | 7, _ => exact range_all pT_7 j h1 h2
theorem spots_Q : ∀ i, i < 9 → ∀ j, inQ i j = true → spQ i j = true := by
  intro i hi j hj
  obtain ⟨h1, h2⟩ := inQ_le hj
  match i, hi with
  | 0, _ => exact range_all pQ_0 j h1 h2
  | 1, _ => exact range_all pQ_1 j h1 h2
  | 2, _ => exact range_all pQ_2 j h1 h2
  | 3, _ => exact range_all pQ_3 j h1 h2
  | 4, _ => exact range_all pQ_4 j h1 h2
  | 5, _ => exact range_all pQ_5 j h1 h2
  | 6, _ => exact range_all pQ_6 j h1 h2
  | 7, _ => exact range_all pQ_7 j h1 h2
  | 8, _ => exact range_all pQ_8 j h1 h2
theorem s0 {T : LT} (h : sp0 T = true) : (∀ j, j ∈ T.spots false → (fun j => Nat.beq j 0) j = true) ∧ ∀ j, j ∈ T.spots true → (fun _ => false) j = true := by
  unfold sp0 at h
  rw [Bool.and_eq_true] at h
  exact ⟨all_mem h.1, nil_mem h.2⟩
theorem sA : sp0 tA = true := by kernel_rfl
theorem sB : sp0 tB2 = true := by kernel_rfl
theorem sC : sp0 tC = true := by kernel_rfl
theorem sD : sp0 tD = true := by kernel_rfl
theorem sE : sp0 tE = true := by kernel_rfl
theorem sCF : (tCF.spots false).isEmpty = true ∧ (tCF.spots true).isEmpty = true := ⟨by kernel_rfl, by kernel_rfl⟩
abbrev j0 : Nat → Bool := fun j => Nat.beq j 0
section
variable {W0 : World} {V : Value} {K : List Value} {n : Nat} (h : Fam V K n)
include h
/-- What returns only. -/
def RetOnly : Go.Ab.Ends := fun xe _ t A => xe = .ret ∧ RetOk t A
omit h in
theorem false_tri {c : Code} {post : Go.Ab.Ends} : Tri Tryz.prog W0 145 c (fun _ _ _ => False) post := fun _ _ _ _ _ _ hp => hp.elim
theorem last : Tri Tryz.prog W0 145 (.seq (.seq (pathC wM cb) (.block 2 (.loop (pathC wQ cb)))) (pathC wR cb)) (FD stM (GoodL true) (Nat.blt · 225)) RetOnly := by
  refine Tri.seq (mid := fun _ _ _ => False) ?_ false_tri
  refine Tri.seq (mid := FD stQ (GoodL true) (inQ 0)) ?_ ?_
  · refine fitsD (goodTh true) fun j hj => ?_
    have hs := rM j (Nat.zero_le _) (blt_t hj)
    have hp := pM j (Nat.zero_le _) (blt_t hj)
    unfold spM at hp
    rw [Bool.and_eq_true] at hp
    exact segD engL cM oM hs (all_mem hp.1) (nil_mem (p := fun _ => false) hp.2) (fun I t A hr => ⟨rfl, hr⟩) (fun I t A hf => hf) (fun I t A hf => by obtain ⟨_, _, _, _, _, hj, _⟩ := hf; cases hj)
  · refine Tri.block ?_
    refine (Tri.loop (inv := fun k => FD stQ (GoodL true) (fun j => Nat.ble k 8 && inQ (8 - k) j)) fun k => ?_).mono (fun I t A hf => ⟨8, by
      have e : (fun j => Nat.ble 8 8 && inQ (8 - 8) j) = inQ 0 := by
        funext j
        rw [show Nat.ble 8 8 = true from rfl, Bool.true_and]
      show FD stQ (GoodL true) (fun j => Nat.ble 8 8 && inQ (8 - 8) j) I t A
      rw [e]
      exact hf⟩) (fun _ _ _ _ h => h)
    refine fitsD (goodTh true) fun j hj => ?_
    rw [Bool.and_eq_true] at hj
    have hk : k ≤ 8 := Nat.le_of_ble_eq_true hj.1
    have hq := inQ_le hj.2
    have hl := loQ_last (8 - k) (by omega)
    have hs := rQ j (Nat.zero_le _) (by omega)
    have hp := spots_Q (8 - k) (by omega) j hj.2
    unfold spQ at hp
    rw [Bool.and_eq_true] at hp
    refine segD engL cQ oQ hs (jn := inQ (8 - k + 1)) (all_mem hp.1) (nil_mem (p := fun _ => false) hp.2) (fun I t A hr => ⟨rfl, hr⟩) (fun I t A hf => ?_) (fun I t A hf => by obtain ⟨_, _, _, _, _, hj, _⟩ := hf; cases hj)
    show ∃ j, j < k ∧ _
    cases k with
    | zero =>
      obtain ⟨_, _, _, _, s, hj', _⟩ := hf
      have := inQ_le hj'
      have e1 : loQ (8 - 0 + 1) = 1057 := by decide
      have e2 : loQ (8 - 0 + 1 + 1) = 1057 := by decide
      omega
    | succ k =>
      refine ⟨k, by omega, ?_⟩
      have e : (fun j => Nat.ble k 8 && inQ (8 - k) j) = inQ (8 - (k + 1) + 1) := by
        funext j
        rw [show Nat.ble k 8 = true from Nat.ble_eq_true_of_le (by omega), Bool.true_and, show 8 - (k + 1) + 1 = 8 - k by omega]
      rw [e]
      exact hf
theorem tail : Tri Tryz.prog W0 145 (.seq (pathC wX cb) (.seq (.seq (pathC wM cb) (.block 2 (.loop (pathC wQ cb)))) (pathC wR cb))) (FD stX (GoodL true) (Nat.blt · 225)) RetOnly := by
  refine Tri.seq (mid := FD stM (GoodL true) (Nat.blt · 225)) ?_ (last h)
  refine fitsD (goodTh true) fun j hj => ?_
  have hs := rX j (Nat.zero_le _) (blt_t hj)
  have hp := pXX j (Nat.zero_le _) (blt_t hj)
  unfold spXX at hp
  rw [Bool.and_eq_true] at hp
  exact segD engL cX oX hs (all_mem hp.1) (nil_mem (p := fun _ => false) hp.2) (fun I t A hr => ⟨rfl, hr⟩) (fun I t A hf => hf) (fun I t A hf => by obtain ⟨_, _, _, _, _, hj, _⟩ := hf; cases hj)
theorem rounds : Tri Tryz.prog W0 145 (.block 0 (.loop (pathC wL cb))) (FP h0 V (stL V K) (GoodL true) j0) (fun xe I t A => match xe with
    | .normal => FD stX (GoodL true) (Nat.blt · 225) I t A
    | xe => RetOnly xe I t A) := by
  refine Tri.block ?_
  refine (Tri.loop (inv := fun k => FP h0 V (stL V K) (GoodL true) (fun j => Nat.ble k n && inL (n - k) j)) fun k => ?_).mono (fun I t A hf => ⟨n, ?_⟩) (fun _ _ _ _ h => h)
  · refine fits0 (ts := tsL) (hs := fun j => (9, .cells true 33 K) :: appH (hsL j) tbs) (nx := fun j => lenH 10 (hsL j)) (goodTh true) h.hole fun j hj => ?_
    rw [Bool.and_eq_true] at hj
    have hk : k ≤ n := Nat.le_of_ble_eq_true hj.1
    have hle := h.le
    have hq := inL_le hj.2
    have hl := loL_last (n - k) (by omega)
    cases k with
    | zero =>
      rcases h.x j (by simpa using hj.2) with hs | ⟨hs, hsp⟩
      · have hp := pX j (Nat.zero_le _) (by omega)
        unfold spX at hp
        rw [Bool.and_eq_true] at hp
        exact seg0 engL h.hole cL dL (hoE := hN) (fun _ h => by cases h) hs (nil_mem (p := fun _ => false) hp.2) (je := (Nat.blt · 225)) (all_mem hp.1) (fun I t A hr => ⟨rfl, hr⟩) (fun I t A hf => by obtain ⟨_, _, _, _, hj, _⟩ := hf; cases hj) (fun I t A hf => fitD_of (fun _ h => by cases h) (fun _ _ => rfl) clean_X hf)
      · refine Tri.quickK mixed ext engL.body engL.nat engL.mono engL.ok fun I t A hpre => ?_
        obtain ⟨hg, hp, hneg', hhole, ht, hA⟩ := hpre
        subst ht
        subst hA
        unfold runXD at hs
        obtain ⟨T, hT, hk⟩ := @argsK_spec knNone _ _ _ _ TR.none _ hs
        rw [cL]
        refine ⟨hg, knP lenK [] [], engL.kn I [] [] hg hp hneg', T, 5000, _, _, _, hT, hk, fun xe T' t' A' hT' ha hkeep => ?_⟩
        cases xe with
        | normal => cases ha
        | ret => exact ⟨rfl, ret_ok hT' ha⟩
        | exit i =>
          change (bif Nat.beq i 0 then spotD 3 dl de 10 145 64 stX (extOf (xL j)) else fun _ _ => false) T' A' = true at ha
          cases hb : Nat.beq i 0 with
          | true =>
            rw [hb] at ha
            have e := beq_t hb
            subst e
            show FD stX (GoodL true) (fun x => x.blt 225) I t' A'
            refine spotD_fit (fun i hi => (de_ne hi).2.2.2) hg hT' (fun q hq => ?_) ha
            unfold spXD at hsp
            cases hx : extOf (xL j) with
            | none => rw [hx] at hq; simp at hq
            | some s =>
              rw [hx] at hq hsp
              have e : q = s.j := by simpa using hq
              rw [e]
              exact hsp
          | false => rw [hb] at ha; cases ha
    | succ k =>
      have hs := h.t (n - (k + 1)) (by omega) j hj.2
      have hp := spots_T (n - (k + 1)) (by omega) j hj.2
      unfold spT at hp
      rw [Bool.and_eq_true] at hp
      refine seg0 engL h.hole cL dL (hoE := hN) (fun _ h => by cases h) hs (jn := inL (n - (k + 1) + 1)) (all_mem hp.1) (nil_mem (p := (Nat.blt · 225)) hp.2) (fun I t A hr => ⟨rfl, hr⟩) (fun I t A hf => ?_) (fun I t A hf => fitD_of (fun _ h => by cases h) (fun _ _ => rfl) clean_X hf)
      refine ⟨k, by omega, ?_⟩
      have e : (fun j => Nat.ble k n && inL (n - k) j) = inL (n - (k + 1) + 1) := by
        funext j
        rw [show Nat.ble k n = true from Nat.ble_eq_true_of_le (by omega), Bool.true_and, show n - (k + 1) + 1 = n - k by omega]
      rw [e]
      exact hf
  · have e : (fun j => Nat.ble n n && inL (n - n) j) = inL 0 := by
      funext j
      rw [show Nat.ble n n = true from Nat.ble_eq_true_of_le (Nat.le_refl _), Bool.true_and, Nat.sub_self]
    have e2 : inL 0 = j0 := by
      funext j
      show (Nat.ble 0 j && Nat.blt j 1) = Nat.beq j 0
      rw [Bool.eq_iff_iff, Bool.and_eq_true, Nat.ble_eq]
      constructor
      · rintro ⟨_, hb⟩
        have := blt_t hb
        rw [show j = 0 by omega]
        rfl
      · intro hb
        have := beq_t hb
        subst this
        exact ⟨Nat.le_refl _, rfl⟩
    show FP h0 V (stL V K) (GoodL true) (fun j => Nat.ble n n && inL (n - n) j) I t A
    rw [e, e2]
    exact hf
omit h in
theorem at0 {good : Unk → Prop} {hv : Nat → Value} {S : Nat → LS} {cc : Code} {post : Go.Ab.Ends} (h1 : Tri Tryz.prog W0 145 cc (AtS h0 hv good (S 0) [] []) post) : ∀ j, j0 j = true → Tri Tryz.prog W0 145 cc (AtS h0 hv good (S j) [] []) post := by
  intro j hj
  have := beq_t hj
  subst this
  exact h1
/-- The first steps: nothing hangs on the host. -/
theorem first {good : Unk → Prop} (hgood : ∀ (I : Unk) N m (hm : m ≤ 40000), m ≤ 64 → good I → good (@thUnk I N m hm)) {rest : Code} {post : Go.Ab.Ends} (hr : Tri Tryz.prog W0 145 rest (FP h0 V (stC V K) good j0) post) (hp : ∀ I t A, RetOk t A → post .ret I t A) :
    Tri Tryz.prog W0 145 (.seq (pathC wA cb) (.seq (pathC wB cb) rest)) (FP h0 V (stA V K) good j0) post := by
  refine Tri.seq (mid := FP h0 V (stB V K) good j0) ?_ (Tri.seq (mid := FP h0 V (stC V K) good j0) ?_ hr)
  · refine fits0 (ts := tsA) (hs := fun j => (9, .cells true 33 K) :: appH (hsA j) tbA) (nx := fun j => lenH 10 (hsA j)) hgood h.hole (at0 (S := stA V K) ?_)
    exact seg0 (engB good) h.hole cA dA (fun _ h => h) h.a (s0 sA).1 (s0 sA).2 hp (fun I t A hf => hf) (fun I t A hf => by obtain ⟨_, _, _, _, hj, _⟩ := hf; cases hj)
  · refine fits0 (ts := tsB) (hs := fun j => (9, .cells true 33 K) :: appH (hsB j) tbA) (nx := fun j => lenH 10 (hsB j)) hgood h.hole (at0 (S := stB V K) ?_)
    exact seg0 (engB good) h.hole cB dB (fun _ h => h) h.b (s0 sB).1 (s0 sB).2 hp (fun I t A hf => hf) (fun I t A hf => by obtain ⟨_, _, _, _, hj, _⟩ := hf; cases hj)
/-- Whoever is a name. -/
theorem named : Tri Tryz.prog W0 145 cb (FP h0 V (stA V K) (GoodL true) j0) Fin := by
  rw [cb_parts]
  have hfin : ∀ I t A, RetOk t A → Fin .ret I t A := fun I t A hr => ⟨.inr rfl, hr⟩
  have hmono : ∀ xe I t A, RetOnly xe I t A → Fin xe I t A := fun xe I t A ⟨h1, h2⟩ => ⟨.inr h1, h2⟩
  refine first h (goodTh true) ?_ hfin
  refine Tri.seq (mid := FP h0 V (stD V K) (GoodL true) j0) ?_ (Tri.seq (mid := FP h0 V (stE V K) (GoodL true) j0) ?_ ?_)
  · refine fits0 (ts := tsC) (hs := fun j => (9, .cells true 33 K) :: appH (hsC j) tbs) (nx := fun j => lenH 10 (hsC j)) (goodTh true) h.hole (at0 (S := stC V K) ?_)
    exact seg0 engL h.hole cC dC (fun _ h => h) h.c (s0 sC).1 (s0 sC).2 hfin (fun I t A hf => hf) (fun I t A hf => by obtain ⟨_, _, _, _, hj, _⟩ := hf; cases hj)
  · refine fits0 (ts := tsD) (hs := fun j => (9, .cells true 33 K) :: appH (hsD j) tbs) (nx := fun j => lenH 10 (hsD j)) (goodTh true) h.hole (at0 (S := stD V K) ?_)
    exact seg0 engL h.hole cD dD (fun _ h => h) h.d (s0 sD).1 (s0 sD).2 hfin (fun I t A hf => hf) (fun I t A hf => by obtain ⟨_, _, _, _, hj, _⟩ := hf; cases hj)
  · refine Tri.seq (mid := FD stX (GoodL true) (Nat.blt · 225)) ?_ ((tail h).mono (fun _ _ _ h => h) hmono)
    refine Tri.seq (mid := FP h0 V (stL V K) (GoodL true) j0) ?_ ((rounds h).mono (fun _ _ _ h => h) fun xe I t A hq => ?_)
    · refine fits0 (ts := tsE) (hs := fun j => (9, .cells true 33 K) :: appH (hsE j) tbs) (nx := fun j => lenH 10 (hsE j)) (goodTh true) h.hole (at0 (S := stE V K) ?_)
      exact seg0 engL h.hole cE dE (fun _ h => h) h.e (s0 sE).1 (s0 sE).2 hfin (fun I t A hf => hf) (fun I t A hf => by obtain ⟨_, _, _, _, hj, _⟩ := hf; cases hj)
    · cases xe with
      | normal => exact hq
      | exit i => exact hmono _ _ _ _ hq
      | ret => exact hmono _ _ _ _ hq
/-- Whoever is none. -/
theorem nameless : Tri Tryz.prog W0 145 cb (FP h0 V (stA V K) (GoodL false) j0) Fin := by
  rw [cb_parts]
  have hfin : ∀ I t A, RetOk t A → Fin .ret I t A := fun I t A hr => ⟨.inr rfl, hr⟩
  refine first h (goodTh false) ?_ hfin
  refine Tri.seq (mid := fun _ _ _ => False) ?_ false_tri
  refine fits0 (ts := tsC) (hs := fun j => (9, .cells true 33 K) :: appH (hsC j) tbs) (nx := fun j => lenH 10 (hsC j)) (goodTh false) h.hole (at0 (S := stC V K) ?_)
  exact seg0 engF h.hole cC dC (fun _ h => h) (jn := fun _ => false) (je := fun _ => false) h.cf (nil_mem sCF.1) (nil_mem sCF.2) hfin (fun I t A hf => by obtain ⟨_, _, _, _, hj, _⟩ := hf; cases hj) (fun I t A hf => by obtain ⟨_, _, _, _, hj, _⟩ := hf; cases hj)
/-- The law, from where its arguments stand. -/
theorem law_fam {b : Bool} {I : Unk} (hg : GoodL b I) {W : World} {σ : Sg} (hr : Rel Tryz.prog σ ((otabH tabs).push (.cells true 33 K)) W) {argsc : List Value} (hl : LRel σ [V, .chan (some 7000)] argsc) :
    Calls Tryz.prog 3 argsc.toArray W fun e w' => e = .returned (.bool true) ∧ Below W.heap.size W w' := by
  letI := I
  letI : Kn := knNone
  haveI : KnOk := knNone_ok
  have hown : ∀ x, ¬ Owned σ ((otabH tabs).push (.cells true 33 K)) x := by
    rintro x ⟨id, p, o, h1, h2, h3, h4⟩
    rw [H.get_push] at h3
    split at h3
    · cases h3; cases h4
    · rw [otabH_ro _ h3] at h4; cases h4
  have hpre : ∀ {good : Unk → Prop} (J : Unk) (t : Tm) (B : H), good I → J = I ∧ t = argsT [V, .chan (some 7000)] 0 .nil ∧ B = (otabH tabs).push (.cells true 33 K) → FP h0 V (stA V K) good j0 J t B := by
    rintro good J t B hgood ⟨rfl, rfl, rfl⟩
    obtain ⟨T, hT, hk⟩ := @argsK_spec knNone _ _ _ _ TR.none _ h.e0
    refine ⟨hgood, fun i hi => ?_, T, ⟨0, [], 0, 0⟩, rfl, hT, Nat.zero_le _, hk⟩
    rw [h0_eq hi]
    rfl
  cases b with
  | true => exact calls_of_tri mixed ext engL.body engL.nat Tryz.func3 cb_eq (by rw [nt3]; exact res3) hr hl (by rw [nt3]; show 2 ≤ 145; decide) hown (Flat.bool _) (by rw [nt3]; exact (named h).mono (fun J t B hp => hpre J t B hg hp) (fun _ _ _ _ hq => hq))
  | false => exact calls_of_tri mixed ext engF.body engF.nat Tryz.func3 cb_eq (by rw [nt3]; exact res3) hr hl (by rw [nt3]; show 2 ≤ 145; decide) hown (Flat.bool _) (by rw [nt3]; exact (nameless h).mono (fun J t B hp => hpre J t B hg hp) (fun _ _ _ _ hq => hq))
end
end Go.Proofs.YtcghikpogkigcaaGreatDoor.L
namespace Go.Proofs.YtcghikpogkigcaaGreatDoor
open Go Go.Ab Go.Proofs Go.ChangeShapes Go.WideShapes Go.RowKit
set_option maxRecDepth 1000000
theorem trod_two {HH : Type} {enc : TypeId × Value → HH} {P : Program} {w : World} {base : Nat} {spare : Nat → Bool} {held : Bool} {t e : TypeId} {fuel : Nat} {c0 c1 : Value} {x : DataW HH × List MemPlace} (ht : P.underlying t = some (.array 2 e)) (hce : P.cellsOf e = 1)
    (h : DataW.trod enc P w base spare held fuel t [c0, c1] = some x) :
    ∃ y0 y1 n, DataW.trod enc P w base spare held n e [c0] = some y0 ∧ DataW.trod enc P w base spare held n e [c1] = some y1 := by
  cases fuel with
  | zero => simp [DataW.trod] at h
  | succ n =>
    unfold DataW.trod at h
    rw [ht] at h
    have r2 : List.range 2 = [0, 1] := rfl
    simp [r2, hce] at h
    obtain ⟨_, h⟩ := h
    cases h0 : DataW.trod enc P w base spare held n e [c0] with
    | none => simp [h0] at h
    | some y0 =>
      cases h1 : DataW.trod enc P w base spare held n e [c1] with
      | none => simp [h0, h1] at h
      | some y1 => exact ⟨y0, y1, n, h0, h1⟩
theorem cellsOf33 : Tryz.prog.cellsOf 33 = 2 := by kernel_rfl
theorem cellsOf3 : Tryz.prog.cellsOf 3 = 1 := by kernel_rfl
/-- A list of pairs of numbers, as it stands in memory. -/
inductive PairsAt (W : World) : Value → Nat → (Nat → Int) → Prop
  | none : PairsAt W (.slice none 0 0) 0 (fun _ => 0)
  | empty (b o : Nat) : PairsAt W (.slice (some ⟨b, o, Option.none⟩) 0 0) 0 (fun _ => 0)
  | some (b o len cap : Nat) (cur : Array Value) (t : TypeId) (fz) (x : Nat → Int) (hlen : len ≤ cap) (hh : W.heap[b]? = some (.cells cur t fz)) (ho : o + 2 * len ≤ cur.size) (hx : ∀ k, k < 2 * len → cur[o + k]? = Option.some (.int .i64 (x k))) (hm : cap ≤ maxLen) :
      PairsAt W (.slice (some ⟨b, o, Option.none⟩) len cap) len x
theorem open_list {HH : Type} {enc : TypeId × Value → HH} {W : World} {r : Reach} {base : Nat} {v : Value} {d : DataW HH} {p : List MemPlace} (hval : Value.okWide Tryz.prog W r base 22 v) (h : DataW.Trod enc Tryz.prog W 0 (fun _ => true) true 22 v d p) : ∃ n x, PairsAt W v n x := by
  obtain ⟨a0, len0, cap0, rfl⟩ := okWide_slice Tryz.underlying22 hval
  obtain ⟨fuel, hf⟩ := h
  rcases DataW.trod_slice Tryz.underlying22 hf with ⟨hcs, _⟩ | ⟨a, len, cap, elems, rest, n, rfl, hcs, hx, _, hl, hm, hlen, hel, hrest, _⟩
  · have e : Value.slice a0 len0 cap0 = .slice none 0 0 := by simpa [Value.cells] using hcs
    rw [e]
    exact ⟨_, _, .none⟩
  · have e : Value.slice a0 len0 cap0 = .slice (some a) len cap := by simpa [Value.cells] using hcs
    rw [e] at hval ⊢
    have hsp : a.spot = none := by
      simp only [Value.okWide, Tryz.underlying22, Cell.okWide, Cell.ok] at hval
      exact hval.2.2.2.1
    obtain ⟨b, o, s⟩ := a
    simp only at hsp
    subst hsp
    obtain ⟨hr1, hr2⟩ := hrest rfl
    by_cases hc : cap = 0
    · have hl0 : len = 0 := by omega
      subst hc
      subst hl0
      exact ⟨_, _, .empty b o⟩
    · -- each cell
      have cell : ∀ i, i < cap → ∃ c0 c1, W.cell? ⟨b, o + 2 * i, none⟩ = some c0 ∧ W.cell? ⟨b, o + 2 * i + 1, none⟩ = some c1 ∧ ∃ (n0 n1 : Int), c0 = .int .i64 n0 ∧ c1 = .int .i64 n1 := by
        intro i hi
        have key : ∃ y, (W.cells? 0 ((⟨b, o, none⟩ : Addr).add (i * Tryz.prog.cellsOf 33)) (Tryz.prog.cellsOf 33)).bind (DataW.trod enc Tryz.prog W 0 (fun _ => true) true n 33) = some y := by
          by_cases h1 : i < len
          · have := hel i h1
            rw [this]
            exact ⟨_, List.getElem?_eq_getElem (by omega)⟩
          · have := hr2 (i - len) (by omega)
            rw [show len + (i - len) = i by omega] at this
            rw [this]
            exact ⟨_, List.getElem?_eq_getElem (by omega)⟩
        obtain ⟨y, hy⟩ := key
        rw [cellsOf33, Option.bind_eq_some_iff] at hy
        obtain ⟨cs, hcs, hy⟩ := hy
        have hadd : ∀ m : Nat, (⟨b, o, none⟩ : Addr).add m = ⟨b, o + m, none⟩ := by
          intro m
          unfold Addr.add
          split
          · rename_i h; rw [h]; rfl
          · rfl
        have hadd2 : ∀ q m : Nat, (⟨b, q, none⟩ : Addr).add m = ⟨b, q + m, none⟩ := by
          intro q m
          unfold Addr.add
          split
          · rename_i h; rw [h]; rfl
          · rfl
        unfold World.cells? at hcs
        rw [if_pos (Nat.zero_le _)] at hcs
        simp only [List.range_succ, List.range_zero, List.nil_append, List.cons_append, List.mapM_cons, List.mapM_nil, hadd2, hadd] at hcs
        cases h0 : W.cell? ⟨b, o + i * 2, none⟩ with
        | none => simp [h0] at hcs
        | some c0 =>
          cases h1 : W.cell? ⟨b, o + i * 2 + 1, none⟩ with
          | none => simp [h0, h1] at hcs
          | some c1 =>
            simp [h0, h1] at hcs
            subst hcs
            obtain ⟨y0, y1, n', e0, e1⟩ := trod_two Tryz.underlying33 cellsOf3 hy
            obtain ⟨n0, q0, _, _⟩ := DataW.trod_int Tryz.underlying3 e0
            obtain ⟨n1, q1, _, _⟩ := DataW.trod_int Tryz.underlying3 e1
            cases q0; cases q1
            rw [Nat.mul_comm] at h0 h1
            exact ⟨_, _, h0, h1, n0, n1, rfl, rfl⟩
      obtain ⟨c0, _, hc0, _⟩ := cell 0 (by omega)
      have hb : ∃ cur t fz, W.heap[b]? = some (.cells cur t fz) := by
        unfold World.cell? at hc0
        split at hc0
        · rename_i c t f hh; exact ⟨c, t, f, hh⟩
        · cases hc0
      obtain ⟨cur, t, fz, hh⟩ := hb
      have hcell : ∀ q : Nat, W.cell? ⟨b, q, none⟩ = cur[q]? := by
        intro q
        unfold World.cell?
        simp only [hh]
        rfl
      have all : ∀ k, k < 2 * len → ∃ x : Int, cur[o + k]? = some (.int .i64 x) := by
        intro k hk
        obtain ⟨c0, c1, h0, h1, n0, n1, rfl, rfl⟩ := cell (k / 2) (by omega)
        rw [hcell] at h0 h1
        rcases Nat.mod_two_eq_zero_or_one k with hm2 | hm2
        · exact ⟨n0, by rw [show o + k = o + 2 * (k / 2) by omega]; exact h0⟩
        · exact ⟨n1, by rw [show o + k = o + 2 * (k / 2) + 1 by omega]; exact h1⟩
      refine ⟨len, fun k => if hk : k < 2 * len then Classical.choose (all k hk) else 0, .some b o len cap cur t fz _ hl hh ?_ (fun k hk => ?_) hm⟩
      · by_cases h0 : len = 0
        · rw [hcell] at hc0
          have := (Array.getElem?_eq_some_iff.1 hc0).1
          omega
        · obtain ⟨x, hx⟩ := all (2 * len - 1) (by omega)
          have := (Array.getElem?_eq_some_iff.1 hx).1
          omega
      · simp only [dif_pos hk]
        exact Classical.choose_spec (all k hk)
/-! ### What is unknown -/
theorem modV_range {k m : Int} (h : 0 < m) : 0 ≤ modV k m ∧ modV k m < m := by
  unfold modV
  have h1 := Int.lt_tmod_of_pos k h
  exact ⟨Int.tmod_nonneg _ (by omega), Int.tmod_lt_of_pos _ h⟩
/-- The bits of the entries' remainders. -/
def bitsX (x : Nat → Int) (n : Nat) : Bool :=
  let i := (n - 64) / 3
  if (n - 64) % 3 = 0 then decide (modV (x (2 * i)) 2 = 1) else if (n - 64) % 3 = 1 then (modV (x (2 * i + 1)) 4).toNat.testBit 0 else (modV (x (2 * i + 1)) 4).toNat.testBit 1
@[reducible] def unkL (x : Nat → Int) (s : ByteArray) (hs : s.size < 9223372036854775808) : Unk := unkOf (fun i => UInt8.ofNat i) (by decide) (fun i => .int .i64 (x (i - 6100))) (fun _ => rfl) (fun _ _ h => by cases h) (bitsX x) (fun _ => s) (fun _ => hs)
theorem unkL_val {x : Nat → Int} {s : ByteArray} {hs : s.size < 9223372036854775808} {k : Nat} (h1 : 6100 ≤ k) (h2 : k < 6116) : (unkL x s hs).val k = .int .i64 (x (k - 6100)) := by
  show unkVal2 _ _ _ k = _
  unfold unkVal2
  rw [if_neg (by unfold isText; intro e; have := beq_t e; have e2 : Nat.div k 100 = k / 100 := rfl; omega)]
  unfold unkVal
  rw [if_neg (by omega), if_neg (by unfold isKey; rw [Bool.or_eq_true]; rintro (e | e) <;> (have := beq_t e; omega))]
theorem unkL_good (x : Nat → Int) (s : ByteArray) (hs : s.size < 9223372036854775808) (hm : s.size ≤ maxLen) : GoodL (nameB s) (unkL x s hs) := by
  refine ⟨⟨s, ?_, rfl, hm⟩, fun k m l h => ?_⟩
  · show unkVal2 _ _ _ 7000 = _
    unfold unkVal2
    rw [if_pos (show isText 7000 = true from rfl)]
  · unfold bitsFor at h
    cases h0 : (Nat.ble 6100 k && Nat.blt k 6116) with
    | false => rw [h0] at h; cases h
    | true =>
      rw [h0, cond_true] at h
      rw [Bool.and_eq_true] at h0
      have hk1 := Nat.le_of_ble_eq_true h0.1
      have hk2 := blt_t h0.2
      have hbit : ∀ c : Nat, 66 ≤ c → c < 90 → bitV (unkL x s hs).bit c = bitsX x (c - 2) := by
        intro c c1 c2
        unfold bitV
        rw [if_neg (by omega), if_neg (by omega)]
        show unkBit _ _ (c - 2) = _
        unfold unkBit
        rw [if_neg (by omega)]
      refine ⟨x (k - 6100), unkL_val hk1 hk2, ?_⟩
      cases h1 : (decide (m = 2) && Nat.beq (Nat.mod k 2) 0) with
      | true =>
        rw [h1, cond_true] at h
        rw [Bool.and_eq_true] at h1
        have hm2 := of_decide_eq_true h1.1
        have hk3 : k % 2 = 0 := beq_t h1.2
        subst hm2
        cases h
        show modV (x (k - 6100)) 2 = (((bitV (unkL x s hs).bit (66 + 3 * ((k - 6100) / 2))).toNat + 2 * 0 : Nat) : Int)
        rw [hbit _ (by omega) (by omega)]
        unfold bitsX
        simp only
        rw [show 66 + 3 * ((k - 6100) / 2) - 2 - 64 = 3 * ((k - 6100) / 2) by omega, if_pos (by omega), show 2 * (3 * ((k - 6100) / 2) / 3) = k - 6100 by omega]
        obtain ⟨r1, r2⟩ := modV_range (k := x (k - 6100)) (m := 2) (by decide)
        by_cases hq : modV (x (k - 6100)) 2 = 1
        · rw [hq]; rfl
        · have : modV (x (k - 6100)) 2 = 0 := by omega
          rw [this]; rfl
      | false =>
        rw [h1, cond_false] at h
        cases h2 : (decide (m = 4) && Nat.beq (Nat.mod k 2) 1) with
        | false => rw [h2] at h; cases h
        | true =>
          rw [h2, cond_true] at h
          rw [Bool.and_eq_true] at h2
          have hm2 := of_decide_eq_true h2.1
          have hk3 : k % 2 = 1 := beq_t h2.2
          subst hm2
          cases h
          show modV (x (k - 6100)) 4 = (((bitV (unkL x s hs).bit (67 + 3 * ((k - 6100) / 2))).toNat + 2 * ((bitV (unkL x s hs).bit (68 + 3 * ((k - 6100) / 2))).toNat + 2 * 0) : Nat) : Int)
          rw [hbit _ (by omega) (by omega), hbit _ (by omega) (by omega)]
          unfold bitsX
          simp only
          rw [show 67 + 3 * ((k - 6100) / 2) - 2 - 64 = 3 * ((k - 6100) / 2) + 1 by omega, show 68 + 3 * ((k - 6100) / 2) - 2 - 64 = 3 * ((k - 6100) / 2) + 2 by omega]
          rw [if_neg (by omega), if_pos (by omega), if_neg (by omega), if_neg (by omega), show 2 * ((3 * ((k - 6100) / 2) + 1) / 3) + 1 = k - 6100 by omega, show 2 * ((3 * ((k - 6100) / 2) + 2) / 3) + 1 = k - 6100 by omega]
          obtain ⟨r1, r2⟩ := modV_range (k := x (k - 6100)) (m := 4) (by decide)
          have : modV (x (k - 6100)) 4 = 0 ∨ modV (x (k - 6100)) 4 = 1 ∨ modV (x (k - 6100)) 4 = 2 ∨ modV (x (k - 6100)) 4 = 3 := by omega
          rcases this with e | e | e | e <;> rw [e] <;> rfl
/-! ### The world where the list stands -/
theorem size33 : (Tryz.prog.info? 33).map (·.size) = some 2 := by kernel_rfl
section
variable [I : Unk] [Kn] [KnOk]
theorem rel_push {W : World} {σ : Sg} {A : H} (hr : Rel Tryz.prog σ A W) (hro : ∀ i o, A.get i = some o → o.own = false) {K : List Value} {p : Pl} (hp : p.b < W.heap.size) (ho : ORel Tryz.prog (fun i => if i = A.next then some p else σ i) W p (.cells true 33 K)) :
    Rel Tryz.prog (fun i => if i = A.next then some p else σ i) (A.push (.cells true 33 K)) W := by
  have hn := hr.dom A.next (Nat.le_refl _)
  have hle : σ.le (fun i => if i = A.next then some p else σ i) := by
    intro i q hq
    by_cases e : i = A.next
    · subst e; rw [hn.2] at hq; cases hq
    · simp only [if_neg e]; exact hq
  refine ⟨fun g hg => ?_, fun id o q h1 h2 => ?_, fun i j p' q o o' hij h1 h2 h3 h4 hown => ?_, fun id q h => ?_, fun id hid => ?_⟩
  · obtain ⟨q, h1, h2, h3⟩ := hr.glob g hg
    exact ⟨q, hle _ _ h1, h2, h3⟩
  · rw [H.get_push] at h1
    by_cases e : id = A.next
    · rw [if_pos e] at h1
      simp only [if_pos e] at h2
      cases h1; cases h2
      exact ho
    · rw [if_neg e] at h1
      simp only [if_neg e] at h2
      exact (hr.obj id o q h1 h2).keep hle rfl
  · rw [H.get_push] at h1 h2
    by_cases e : i = A.next
    · rw [if_pos e] at h1
      cases h1; cases hown
    · rw [if_neg e] at h1
      simp only [if_neg e] at h3
      rw [hro i o h1] at hown
      cases hown
  · by_cases e : id = A.next
    · simp only [if_pos e] at h; cases h; exact hp
    · simp only [if_neg e] at h; exact hr.lt id q h
  · have hid : A.next + 1 ≤ id := hid
    have e : id ≠ A.next := by omega
    obtain ⟨h1, h2⟩ := hr.dom id (by omega)
    refine ⟨by rw [H.get_push, if_neg e]; exact h1, ?_⟩
    simp only [if_neg e]; exact h2
end
end Go.Proofs.YtcghikpogkigcaaGreatDoor
namespace Go.Proofs.YtcghikpogkigcaaGreatDoor.L
open Go Go.Ab Go.Proofs Go.RowKit
set_option maxRecDepth 1000000
theorem famN : Fam (.slice none 0 0) [] 0 := ⟨hole_nil, by decide, rE0_N 0, rA_N 0, rB_N 0, rC_N 0, rCF_N 0, rD_N 0, rE_N 0, fun i hi => absurd hi (Nat.not_lt_zero _), fun j hj => .inl (rXN 0 j (Nat.zero_le _) (by have := (inL_le hj).2; have e : loL (0 + 1) = 1 := rfl; omega))⟩
theorem fam0 (C : Nat) : Fam (.slice (some ⟨9, 0, none⟩) 0 C) (lc 0) 0 := ⟨hole_slice _ C, by decide, rE0_0 C, rA_0 C, rB_0 C, rC_0 C, rCF_0 C, rD_0 C, rE_0 C, fun i hi => absurd hi (Nat.not_lt_zero _), fun j hj => .inl (rX0 C j (by have := (inL_le hj).1; have e : loL 0 = 0 := rfl; omega) (by have := (inL_le hj).2; have e : loL (0 + 1) = 1 := rfl; omega))⟩
theorem fam1 (C : Nat) : Fam (.slice (some ⟨9, 0, none⟩) 1 C) (lc 1) 1 := ⟨hole_slice _ C, by decide, rE0_1 C, rA_1 C, rB_1 C, rC_1 C, rCF_1 C, rD_1 C, rE_1 C, fun i hi j hj => rT1 C j (Nat.zero_le _) (by have := (inL_le hj).2; have h2 := loL_mono i (by omega) 1 (by decide) hi; have e : loL 1 = 1 := rfl; omega), fun j hj => .inl (rX1 C j (by have := (inL_le hj).1; have e : loL 1 = 1 := rfl; omega) (by have := (inL_le hj).2; have e : loL (1 + 1) = 3 := rfl; omega))⟩
theorem fam2 (C : Nat) : Fam (.slice (some ⟨9, 0, none⟩) 2 C) (lc 2) 2 := ⟨hole_slice _ C, by decide, rE0_2 C, rA_2 C, rB_2 C, rC_2 C, rCF_2 C, rD_2 C, rE_2 C, fun i hi j hj => rT2 C j (Nat.zero_le _) (by have := (inL_le hj).2; have h2 := loL_mono i (by omega) 2 (by decide) hi; have e : loL 2 = 3 := rfl; omega), fun j hj => .inl (rX2 C j (by have := (inL_le hj).1; have e : loL 2 = 3 := rfl; omega) (by have := (inL_le hj).2; have e : loL (2 + 1) = 9 := rfl; omega))⟩
theorem fam3 (C : Nat) : Fam (.slice (some ⟨9, 0, none⟩) 3 C) (lc 3) 3 := ⟨hole_slice _ C, by decide, rE0_3 C, rA_3 C, rB_3 C, rC_3 C, rCF_3 C, rD_3 C, rE_3 C, fun i hi j hj => rT3 C j (Nat.zero_le _) (by have := (inL_le hj).2; have h2 := loL_mono i (by omega) 3 (by decide) hi; have e : loL 3 = 9 := rfl; omega), fun j hj => .inl (rX3 C j (by have := (inL_le hj).1; have e : loL 3 = 9 := rfl; omega) (by have := (inL_le hj).2; have e : loL (3 + 1) = 25 := rfl; omega))⟩
theorem fam4 (C : Nat) : Fam (.slice (some ⟨9, 0, none⟩) 4 C) (lc 4) 4 := ⟨hole_slice _ C, by decide, rE0_4 C, rA_4 C, rB_4 C, rC_4 C, rCF_4 C, rD_4 C, rE_4 C, fun i hi j hj => rT4 C j (Nat.zero_le _) (by have := (inL_le hj).2; have h2 := loL_mono i (by omega) 4 (by decide) hi; have e : loL 4 = 25 := rfl; omega), fun j hj => .inl (rX4 C j (by have := (inL_le hj).1; have e : loL 4 = 25 := rfl; omega) (by have := (inL_le hj).2; have e : loL (4 + 1) = 55 := rfl; omega))⟩
theorem fam5 (C : Nat) : Fam (.slice (some ⟨9, 0, none⟩) 5 C) (lc 5) 5 := ⟨hole_slice _ C, by decide, rE0_5 C, rA_5 C, rB_5 C, rC_5 C, rCF_5 C, rD_5 C, rE_5 C, fun i hi j hj => rT5 C j (Nat.zero_le _) (by have := (inL_le hj).2; have h2 := loL_mono i (by omega) 5 (by decide) hi; have e : loL 5 = 55 := rfl; omega), fun j hj => .inl (rX5 C j (by have := (inL_le hj).1; have e : loL 5 = 55 := rfl; omega) (by have := (inL_le hj).2; have e : loL (5 + 1) = 103 := rfl; omega))⟩
theorem fam6 (C : Nat) : Fam (.slice (some ⟨9, 0, none⟩) 6 C) (lc 6) 6 := ⟨hole_slice _ C, by decide, rE0_6 C, rA_6 C, rB_6 C, rC_6 C, rCF_6 C, rD_6 C, rE_6 C, fun i hi j hj => rT6 C j (Nat.zero_le _) (by have := (inL_le hj).2; have h2 := loL_mono i (by omega) 6 (by decide) hi; have e : loL 6 = 103 := rfl; omega), fun j hj => .inl (rX6 C j (by have := (inL_le hj).1; have e : loL 6 = 103 := rfl; omega) (by have := (inL_le hj).2; have e : loL (6 + 1) = 173 := rfl; omega))⟩
theorem fam7 (C : Nat) : Fam (.slice (some ⟨9, 0, none⟩) 7 C) (lc 7) 7 := ⟨hole_slice _ C, by decide, rE0_7 C, rA_7 C, rB_7 C, rC_7 C, rCF_7 C, rD_7 C, rE_7 C, fun i hi j hj => rT7 C j (Nat.zero_le _) (by have := (inL_le hj).2; have h2 := loL_mono i (by omega) 7 (by decide) hi; have e : loL 7 = 173 := rfl; omega), fun j hj => .inl (rX7 C j (by have := (inL_le hj).1; have e : loL 7 = 173 := rfl; omega) (by have := (inL_le hj).2; have e : loL (7 + 1) = 269 := rfl; omega))⟩
theorem fam8 (C : Nat) : Fam (.slice (some ⟨9, 0, none⟩) 8 C) (lc 8) 8 := ⟨hole_slice _ C, by decide, rE0_8c C, rA_8c C, rB2_8c C, rC_8c C, rCF_8c C, rD_8c C, rE_8c C, fun i hi j hj => rT8c C j (Nat.zero_le _) (by have := (inL_le hj).2; have h2 := loL_mono i (by omega) 8 (by decide) hi; have e : loL 8 = 269 := rfl; omega), fun j hj => .inr ⟨rXD C j (by have := (inL_le hj).1; have e : loL 8 = 269 := rfl; omega) (by have := (inL_le hj).2; have e : loL (8 + 1) = 395 := rfl; omega), range_all spXD_all j (by have := (inL_le hj).1; have e : loL 8 = 269 := rfl; omega) (by have := (inL_le hj).2; have e : loL (8 + 1) = 395 := rfl; omega)⟩⟩
theorem fam9 (m C : Nat) : Fam (.slice (some ⟨9, 0, none⟩) (m + 1 + 8) C) (lc 8) 8 := ⟨hole_slice _ C, by decide, rE0_8 (m + 1) C, rA_8 (m + 1) C, rB_8 (m + 1) C, rC_8 (m + 1) C, rCF_8 (m + 1) C, rD_8 (m + 1) C, rE_8 (m + 1) C, fun i hi j hj => rT8 (m + 1) C j (Nat.zero_le _) (by have := (inL_le hj).2; have h2 := loL_mono i (by omega) 8 (by decide) hi; have e : loL 8 = 269 := rfl; omega), fun j hj => .inl (rX9 m C j (by have := (inL_le hj).1; have e : loL 8 = 269 := rfl; omega) (by have := (inL_le hj).2; have e : loL (8 + 1) = 395 := rfl; omega))⟩
theorem lc_len : ∀ n, (lc n).length = 2 * n
  | 0 => rfl
  | n + 1 => by rw [lc, List.length_append, lc_len n]; rfl
theorem lc_get : ∀ n k, k < 2 * n → (lc n)[k]? = some (.chan (some (6100 + k)))
  | 0, k, h => by omega
  | n + 1, k, h => by
    rw [lc]
    by_cases h1 : k < 2 * n
    · rw [List.getElem?_append_left (by rw [lc_len]; exact h1)]
      exact lc_get n k h1
    · rw [List.getElem?_append_right (by rw [lc_len]; omega), lc_len]
      have h2 : k = 2 * n ∨ k = 2 * n + 1 := by omega
      rcases h2 with rfl | rfl
      · rw [Nat.sub_self]; rfl
      · rw [show 2 * n + 1 - 2 * n = 1 by omega]
        show some (Value.chan (some (6101 + 2 * n))) = _
        rw [show 6101 + 2 * n = 6100 + (2 * n + 1) by omega]
theorem next9 : (otabH tabs).next = 9 := by kernel_rfl
theorem law {W : World} (hR : ∀ [Unk], Rel Tryz.prog (otabS Tryz.prog tabs) (otabH tabs) W) {v : Value} {n : Nat} {x : Nat → Int} (hv : PairsAt W v n x) (s : ByteArray) (hs : s.size ≤ maxLen) :
    Calls Tryz.prog 3 #[v, .string s] W fun e w' => e = .returned (.bool true) ∧ Below W.heap.size W w' := by
  have hs2 : s.size < 9223372036854775808 := by unfold maxLen at hs; omega
  letI I : Unk := unkL x s hs2
  have hg := unkL_good x s hs2 hs
  letI : Kn := knNone
  haveI : KnOk := knNone_ok
  have hh : ∀ σ : Sg, VRel σ (.chan (some 7000)) (.string s) := fun σ => by
    obtain ⟨s', h1, _⟩ := hg.host
    have e : I.val 7000 = .string s := by
      show unkVal2 _ _ _ 7000 = _
      unfold unkVal2
      rw [if_pos (show isText 7000 = true from rfl)]
    have := VRel.unk (σ := σ) 7000
    rwa [e] at this
  have hr := @hR I
  have hro : ∀ i o, (otabH tabs).get i = some o → o.own = false := fun i o h => otabH_ro _ h
  have hargs : ∀ {σ : Sg} {V v' : Value}, VRel σ V v' → LRel σ [V, .chan (some 7000)] [v', .string s] := fun h => .cons h (.cons (hh _) .nil)
  -- a place for an empty list
  have h0 : ∃ cur t fz, W.heap[0]? = some (.cells cur t fz) := by
    obtain ⟨q, h1, h2, h3⟩ := hr.glob 0 (by rw [count]; decide)
    have hget : (otabH tabs).get 0 = some (.cells true 194 tab0) := by kernel_rfl
    obtain ⟨cur, e', fz, k1, _⟩ := hr.obj 0 _ q hget h1
    rw [h2] at k1
    exact ⟨cur, e', fz, k1⟩
  obtain ⟨cur0, t0, fz0, h0⟩ := h0
  have h0lt : 0 < W.heap.size := (Array.getElem?_eq_some_iff.1 h0).1
  have hempty := rel_push hr hro (K := []) (p := ⟨0, 0, 2, cur0.size⟩) h0lt ⟨cur0, t0, fz0, h0, Nat.zero_le _, fun i v v' h => by simp at h, size33, rfl, fun h => by cases h⟩
  rw [next9] at hempty
  cases hv with
  | none => exact law_fam famN hg hempty (hargs (.sliceNil 0 0))
  | empty b o => exact law_fam (fam0 0) hg hempty (hargs (.sliceEnd (id := 9) (p := ⟨0, 0, 2, cur0.size⟩) 0 b o (by show (if (9 : Nat) = 9 then _ else _) = _; rw [if_pos rfl])))
  | some b o _ cap cur t fz _ hlen hh2 ho hx hm =>
    have hblt : b < W.heap.size := (Array.getElem?_eq_some_iff.1 hh2).1
    have key : ∀ k, k ≤ n → k ≤ 8 → Rel Tryz.prog (fun i => if i = 9 then some ⟨b, o, 2, cur.size⟩ else otabS Tryz.prog tabs i) ((otabH tabs).push (.cells true 33 (lc k))) W := by
      intro k hk hk8
      have := rel_push hr hro (K := lc k) (p := ⟨b, o, 2, cur.size⟩) hblt ⟨cur, t, fz, hh2, by rw [lc_len]; show o + 2 * k ≤ cur.size; omega, fun i v v' h1 h2 => ?_, size33, rfl, fun h => by cases h⟩
      · rw [next9] at this
        exact this
      · have hi : i < 2 * k := by have := (List.getElem?_eq_some_iff.1 h1).1; rw [lc_len] at this; exact this
        rw [lc_get k i hi] at h1
        cases h1
        have h2' : cur[o + i]? = some v' := h2
        rw [hx i (by omega)] at h2'
        cases h2'
        have := VRel.unk (σ := fun j => if j = (otabH tabs).next then some ⟨b, o, 2, cur.size⟩ else otabS Tryz.prog tabs j) (6100 + i)
        rw [show I.val (6100 + i) = .int .i64 (x i) from by rw [unkL_val (by omega) (by omega), Nat.add_sub_cancel_left]] at this
        exact this
    have hsl : ∀ L : Nat, VRel (fun i => if i = 9 then some ⟨b, o, 2, cur.size⟩ else otabS Tryz.prog tabs i) (.slice (some ⟨9, 0, Option.none⟩) L cap) (.slice (some ⟨b, o, Option.none⟩) L cap) := by
      intro L
      exact VRel.slice (id := 9) (p := ⟨b, o, 2, cur.size⟩) 0 L cap cap (by show (if (9 : Nat) = 9 then _ else _) = _; rw [if_pos rfl]) (.inl rfl)
    by_cases h8 : 9 ≤ n
    · obtain ⟨m, rfl⟩ : ∃ m, n = m + 1 + 8 := ⟨n - 9, by omega⟩
      exact law_fam (fam9 m cap) hg (key 8 (by omega) (by omega)) (hargs (hsl (m + 1 + 8)))
    · have hk := key n (Nat.le_refl _) (by omega)
      have hsll := hargs (hsl n)
      have h7 : n < 9 := by omega
      clear hlen ho hx h8 key
      match n, h7, hk, hsll with
      | 0, _, hk, hsll => exact law_fam (fam0 cap) hg hk hsll
      | 1, _, hk, hsll => exact law_fam (fam1 cap) hg hk hsll
      | 2, _, hk, hsll => exact law_fam (fam2 cap) hg hk hsll
      | 3, _, hk, hsll => exact law_fam (fam3 cap) hg hk hsll
      | 4, _, hk, hsll => exact law_fam (fam4 cap) hg hk hsll
      | 5, _, hk, hsll => exact law_fam (fam5 cap) hg hk hsll
      | 6, _, hk, hsll => exact law_fam (fam6 cap) hg hk hsll
      | 7, _, hk, hsll => exact law_fam (fam7 cap) hg hk hsll
      | 8, _, hk, hsll => exact law_fam (fam8 cap) hg hk hsll
end Go.Proofs.YtcghikpogkigcaaGreatDoor.L
