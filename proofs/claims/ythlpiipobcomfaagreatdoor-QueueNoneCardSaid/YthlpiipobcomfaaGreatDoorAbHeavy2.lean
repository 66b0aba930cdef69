/- The operations that write, all of them. -/
import Derived.Test.YthlpiipobcomfaaGreatDoorAbHeavy
namespace Go.Ab
open Go Go.RowKit
set_option linter.unusedSimpArgs false

/-- What the soundness asks of the functions without a body. -/
structure Ext (P : Program) : Prop where
  add : ∀ (f : FuncId) (fn : Func), P.funcs[f]? = some fn → fn.name = "sync/atomic.AddInt64" → fn.body = none → Extern.findNext fn = none ∧ Extern.find fn = some (Extern.Atomic.update (Op.intArith .add) .i64 true)

section
variable {P : Program} {σ : Sg} {A : H} {w : World}

def heavy : XOp → Bool
  | .store .. | .append .. | .copy .. | .clear .. | .mapPut .. | .addInt .. | .nextStr _ => true
  | _ => false

theorem set_obj {id : Nat} {o o' : AObj} {p : Pl} {ob : Obj} (hr : Rel P σ A w) (ha : A.get id = some o) (hs : σ id = some p) (hown : o.own = true) (hown' : o'.own = true)
    (hob : ORel P σ { w with heap := w.heap.setIfInBounds p.b ob } p o') : Rel P σ (A.set id o') { w with heap := w.heap.setIfInBounds p.b ob } ∧ Fr σ A w σ (A.set id o') { w with heap := w.heap.setIfInBounds p.b ob } :=
  ⟨Rel.change hr ha hs hown hown' (by simp) (fun k hk => by simp [Array.getElem?_setIfInBounds]; intro h; exact absurd h.symm hk) hob,
   Fr.change hr ha hs hown (by simp) (fun k hk => by simp [Array.getElem?_setIfInBounds]; intro h; exact absurd h.symm hk) rfl rfl rfl⟩

theorem mapPut_sound {o : Oper} {t : TypeId} {m k y : Operand} {x : XOp} (hc : (match P.underlying t with | some (.map kt _) => (P.underlying kt).bind fun d => bif scalarKey d then some (.mapPut d m k y) else none | _ => none) = some x) {ρA ρC : Operand → Value}
    (hρ : ∀ z ∈ (#[m, k, y] : Array Operand), VRel σ (ρA z) (ρC z)) (hr : Rel P σ A w) {v : Value} {A' : H} (h : evalOp x ρA A = some (v, A'))
    (ho : execOp ρC o = (do Instr.mapUpdate t (ρC m) (ρC k) (ρC y); pure .skip)) : Does P σ A w (execOp ρC o) v A' := by
  split at hc
  case h_2 => cases hc
  rename_i kt e hu
  rw [Option.bind_eq_some_iff] at hc
  obtain ⟨d, hd, hc⟩ := hc
  cases hb : scalarKey d with
  | false => rw [hb] at hc; cases hc
  | true =>
    rw [hb] at hc
    cases hc
    have hm := hρ m (by simp)
    have hk := hρ k (by simp)
    have hy := hρ y (by simp)
    simp only [evalOp] at h
    rw [ho]
    revert h
    revert hm
    generalize ρA m = m1; generalize hcm : ρC m = m2
    intro hm h
    cases hm with
    | @map id p hs =>
      simp only at h
      cases hg : A.get id with
      | none => simp [hg] at h
      | some ob =>
        cases ob with
        | map es c =>
          simp only [hg] at h
          split at h
          · rename_i hf
            simp only [Option.some.injEq, Prod.mk.injEq] at h
            obtain ⟨rfl, rfl⟩ := h
            obtain ⟨es', h1, her⟩ := hr.obj id _ p hg hs
            have hgo : (getObj p.b).run P w = .ok (.map es' c) w := by simp [getObj, Sem.run, h1]
            have hck := checkKey_scalar (P := P) hd hb false 9999 (ρC k) w
            obtain ⟨f', hfr, hfv⟩ := find_rel hk hf her 0
            have hf0 : f' = none := by
              rcases hfv with ⟨_, h2⟩ | ⟨v, i, v', h2, _⟩
              · exact h2
              · cases h2
            subst hf0
            have hfk : (Instr.findKey kt (ρC k) es'.toList).run P w = .ok none w := by simp [Instr.findKey, run_underlying hd, hfr]
            let ob' : Obj := .map (es'.push { key := ρC k, val := ρC y, born := c }) (c + 1)
            have hset : (setObj p.b ob').run P w = .ok () { w with heap := w.heap.setIfInBounds p.b ob' } := by simp [setObj, Sem.run, h1]
            have hlt' := hr.lt id p hs
            obtain ⟨k1, k2⟩ := set_obj (ob := ob') (o' := .map (es ++ [{ key := ρA k, val := ρA y, born := c }]) (c + 1)) hr hg hs rfl rfl
              ⟨es'.push { key := ρC k, val := ρC y, born := c }, by simp [Array.getElem?_setIfInBounds, hlt', ob'], by simp [her.len], fun i a b ha hb' => by
                rw [Array.toList_push] at hb'
                by_cases hi : i < es.length
                · rw [List.getElem?_append_left hi] at ha
                  rw [List.getElem?_append_left (by rw [← her.len]; exact hi)] at hb'
                  exact her.get i a b ha hb'
                · rw [List.getElem?_append_right (by omega)] at ha
                  rw [List.getElem?_append_right (by rw [← her.len]; omega), ← her.len] at hb'
                  cases hj : i - es.length with
                  | zero => rw [hj] at ha hb'; simp at ha hb'; subst ha; subst hb'; exact ⟨rfl, hk, hy⟩
                  | succ n => rw [hj] at ha; simp at ha⟩
            refine ⟨.skip, undef, _, σ, ?_, .inr ⟨rfl, rfl⟩, .tuple #[] #[] rfl (fun i v v' h => by simp at h), k1, k2⟩
            simp only [Instr.mapUpdate, Sem.run_bind, run_underlying hu, Result.andThen_ok, hgo, hck, hfk, Sem.run_pure]
            simp only [ob'] at hset
            simp [hset, ob']
          · cases h
        | _ => simp [hg] at h
    | _ => simp at h

theorem run_addInt (hx : Ext P) {f : FuncId} {fn : Func} (hf : P.funcs[f]? = some fn) (hn : fn.name = "sync/atomic.AddInt64") (hb : fn.body = none) {a : Addr} {k : IntKind} {n y : Int} (hc : w.cell? a = some (.int .i64 n)) (hz : w.frozen? a = false) :
    (callFunc f #[.pointer (some a), .int k y]).run P w = .ok (.value (.int .i64 (IntKind.i64.wrap (n + y)))) (w.setCell a (.int .i64 (IntKind.i64.wrap (n + y)))) := by
  obtain ⟨h1, h2⟩ := hx.add f fn hf hn hb
  have hne : ¬ fn.name = "runtime.NumGoroutine" := by rw [hn]; decide
  have hst : (store a (.int .i64 (IntKind.i64.wrap (n + y))) .atomic).run P w = .ok () (w.setCell a (.int .i64 (IntKind.i64.wrap (n + y)))) := by
    rw [run_store P w a _ _ rfl]; simp [hc, hz]
  have hup : Extern.Atomic.update (Op.intArith .add) .i64 true #[.pointer (some a), .int k y] = (do
    let a ← asAddr (.pointer (some a))
    let old ← Extern.Atomic.read (.int .i64) a
    let new ← Op.intArith .add .i64 (← asInt old) (← asInt (.int k y))
    store a new .atomic
    pure new) := rfl
  have hu2 : (Extern.Atomic.update (Op.intArith .add) .i64 true #[.pointer (some a), .int k y]).run P w = .ok (.int .i64 (IntKind.i64.wrap (n + y))) (w.setCell a (.int .i64 (IntKind.i64.wrap (n + y)))) := by
    rw [hup]
    simp [Extern.Atomic.read, asAddr, hc, asInt, asIntOf, Op.intArith, hst]
  simp [callFunc, hf, hne, hb, h1, h2, hu2]

theorem heavy_call (hx : Ext P) {c : Call} {dst : Option Tmp} {type : TypeId} {pos : String} {after : Array Edge} {guard : Option (Nat × Bool)} {x : XOp} (hc : compOp P ⟨dst, .call c, type, pos, after, guard⟩ = some x) (hh : heavy x = true) {ρA ρC : Operand → Value}
    (hρ : ∀ y ∈ (Op.call c).operands, VRel σ (ρA y) (ρC y)) (hfun : ∀ f, ρC (.func f) = .func (.func f) #[] #[]) (hr : Rel P σ A w) {v : Value} {A' : H} (h : evalOp x ρA A = some (v, A')) : Does P σ A w (execOp ρC ⟨dst, .call c, type, pos, after, guard⟩) v A' := by
  obtain ⟨callee, args, argTypes⟩ := c
  simp only [compOp, compCall] at hc
  have hargs : ∀ y ∈ args.toList, VRel σ (ρA y) (ρC y) := fun y hy => hρ y (by simp only [Op.operands, Call.operands]; exact Array.mem_append.2 (.inr (Array.mem_toList_iff.1 hy)))
  cases callee with
  | invoke r m => cases hc
  | value f =>
    cases f with
    | func f =>
      simp only at hc
      split at hc
      · rename_i fn hfn
        split at hc
        · cases hc; cases hh
        · split at hc
          · rename_i hcond
            split at hc
            · rename_i a y hay
              cases hc
              have hav : args = #[a, y] := by apply Array.ext'; simpa using hay
              subst hav
              rw [Bool.and_eq_true] at hcond
              have hname : fn.name = "sync/atomic.AddInt64" := by simpa using hcond.1
              have hbody : fn.body = none := by simpa using hcond.2
              have ha := hargs a (by simp)
              have hy := hargs y (by simp)
              simp only [evalOp] at h
              revert h
              revert hy
              revert ha
              generalize ρA a = a1; generalize hca : ρC a = a2; generalize ρA y = y1; generalize hcy : ρC y = y2
              intro ha hy h
              cases ha with
              | @ptr id p off hs =>
                cases hy with
                | int k yv =>
                  simp only at h
                  split at h
                  · rename_i k' n hl
                    split at h
                    case isFalse => cases h
                    rename_i hk
                    subst hk
                    rw [Option.map_eq_some_iff] at h
                    obtain ⟨A1, hA1, he⟩ := h
                    cases he
                    obtain ⟨l', h1, h2, h3⟩ := load_rel hr hs hl
                    obtain ⟨u', r', rfl, hu, _⟩ := h1.cons_inv
                    have := hu.int_inv
                    subst this
                    have hcell := h3 0 _ rfl
                    rw [Addr.add_none, Nat.add_zero] at hcell
                    obtain ⟨w', s1, s2, s3⟩ := store_rel (P := P) hr hs hA1 (LRel.cons (.int .i64 (IntKind.i64.wrap (n + yv))) .nil)
                    have hfz : w.frozen? ⟨p.b, p.sh + off, none⟩ = false := by
                      unfold storeA at hA1
                      simp only at hA1
                      cases hg : A.get id with
                      | none => simp [hg] at hA1
                      | some ob =>
                        cases ob with
                        | cells ro e c0 =>
                          cases ro with
                          | true => simp [hg] at hA1
                          | false =>
                            obtain ⟨cur, e', fz, q1, q2, q3, q4, q5, q6⟩ := hr.obj id _ p hg hs
                            have hun := q6 rfl
                            have hlt : p.sh + off < cur.size := by
                              simp [World.cell?, q1] at hcell
                              exact (Array.getElem?_eq_some_iff.1 hcell).1
                            have := hun _ hlt
                            simp only [World.frozen?, q1]
                            simpa using this
                        | _ => simp [hg] at hA1
                    have hrun := run_addInt hx hfn hname hbody (k := k) (y := yv) hcell hfz
                    have hw : w' = w.setCell ⟨p.b, p.sh + off, none⟩ (.int .i64 (IntKind.i64.wrap (n + yv))) := by
                      have hst : (store ⟨p.b, p.sh + off, none⟩ (.int .i64 (IntKind.i64.wrap (n + yv)))).run P w = .ok () (w.setCell ⟨p.b, p.sh + off, none⟩ (.int .i64 (IntKind.i64.wrap (n + yv)))) := by
                        rw [run_store P w _ _ _ rfl]; simp [hcell, hfz]
                      simp only [storeCells, Sem.run_bind, Addr.add_none, Nat.add_zero, hst, Result.andThen_ok, Sem.run_pure] at s1
                      exact (Result.ok.inj s1).2.symm
                    subst hw
                    refine ⟨.value (.int .i64 (IntKind.i64.wrap (n + yv))), _, _, σ, ?_, .inl rfl, .int _ _, s2, s3⟩
                    simp [execOp, resolve, hfun, Deferred.ofValue, hca, hcy, invoke, hrun]
                  · cases h
                | _ => simp at h
              | _ => simp at h
            · cases hc
          · cases hc
      · cases hc
    | tmp t => simp only [Option.some.injEq] at hc; subst hc; cases hh
    | _ => cases hc
  | builtin b =>
    have hexec : ∀ s : Sem Value, (∀ cs, builtin b argTypes type cs (args.map ρC) = (do pure (.value (← s)) : Sem Next)) → ∀ v' w', s.run P w = .ok v' w' → (execOp ρC ⟨dst, .call ⟨.builtin b, args, argTypes⟩, type, pos, after, guard⟩).run P w = .ok (.value v') w' := by
      intro s hs v' w' hr
      simp only [execOp, resolve, Sem.run_bind, Sem.run_pure, Result.andThen_ok, invoke, hs, hr]
    simp only [compBuiltin] at hc
    cases b with
    | len =>
      simp only at hc
      split at hc
      · split at hc <;> first | (cases hc; cases hh; done) | skip
        · split at hc <;> cases hc; cases hh
        · cases hc
      · cases hc
    | append =>
      simp only at hc
      split at hc
      case h_2 => cases hc
      rename_i t u s0 x0 h0 h1 hx0
      have hav : args = #[s0, x0] := by apply Array.ext'; simpa using hx0
      subst hav
      have hat : ∀ y, (Builtin.append_ argTypes type y) = Builtin.append_ #[t, u] type y := fun y => by simp [Builtin.append_, h0, h1]
      have main : ∀ {e : TypeId}, P.underlying t = some (.slice e) → ((∃ e', P.underlying u = some (.slice e')) ∨ P.underlying u = some .string) → ((P.info? e).bind fun i => (zeroA P e).map fun _ => XOp.append e i.size i.bytes s0 x0) = some x → Does P σ A w (execOp ρC ⟨dst, .call ⟨.builtin .append, #[s0, x0], argTypes⟩, type, pos, after, guard⟩) v A' := by
        intro e ht hu hc
        simp only [Option.bind_eq_some_iff, Option.map_eq_some_iff] at hc
        obtain ⟨i, hi, z, hz, rfl⟩ := hc
        simp only [evalOp] at h
        obtain ⟨v', w', σ', k1, k2, k3, k4⟩ := append_rel (P := P) (ty := type) hr ht hu hi hz (hargs s0 (by simp)) (hargs x0 (by simp)) h
        exact ⟨.value v', v', w', σ', hexec (Builtin.append_ #[t, u] type #[ρC s0, ρC x0]) (fun cs => by simp [builtin, hat]) _ _ k1, .inl rfl, k2, k3, k4⟩
      split at hc
      · rename_i ht hu; exact main ht (.inl ⟨_, hu⟩) hc
      · rename_i ht hu; exact main ht (.inr hu) hc
      · cases hc
    | copy =>
      simp only at hc
      split at hc
      case h_2 => cases hc
      rename_i t s0 x0 h0 hx0
      have hav : args = #[s0, x0] := by apply Array.ext'; simpa using hx0
      subst hav
      split at hc
      case h_2 => cases hc
      rename_i e ht
      rw [Option.map_eq_some_iff] at hc
      obtain ⟨n, hn, rfl⟩ := hc
      simp only [evalOp] at h
      have hs := hargs s0 (by simp)
      have hx := hargs x0 (by simp)
      have hex := hexec (Builtin.copy_ argTypes type #[ρC s0, ρC x0]) (fun cs => by simp [builtin])
      revert h
      revert hs
      generalize ρA s0 = s1; generalize hcs : ρC s0 = s2
      rw [hcs] at hex
      intro hs h
      have common : ∀ {base base' : Option Addr} {dLen c c' : Nat} {k : Nat} {new : List Value}, s2 = .slice base' dLen c' → lenV (ρA x0) = some k → sourceA A n (Nat.min k dLen) (ρA x0) = some new → ∃ new' : List Value, LRel σ new new' ∧ new.length = Nat.min k dLen * n ∧
          ∀ w', ((∀ a, base' = some a → (storeCells a new').run P w = .ok () w') ∧ (base' = none → w' = w)) → (Builtin.copy_ argTypes type #[s2, ρC x0]).run P w = .ok (.int .i64 (Nat.min k dLen : Nat)) w' := by
        intro base base' dLen c c' k new hs2 hk hnew
        obtain ⟨k1, k2, new', k3, k4⟩ := source_rel (P := P) hr hx hk (Nat.min_le_left k dLen) hnew
        refine ⟨new', k3, k2, fun w' hw => ?_⟩
        have k5 := k4 w fun _ => rfl
        subst hs2
        cases base' with
        | none => have := hw.2 rfl; subst this; simp [Builtin.copy_, h0, run_underlying ht, k1, run_size hn, k5, goInt]
        | some a => have := hw.1 a rfl; simp [Builtin.copy_, h0, run_underlying ht, k1, run_size hn, k5, this, goInt]
      cases hs with
      | sliceNil l c =>
        simp only [Option.bind_eq_some_iff] at h
        obtain ⟨k, hk, new, hnew, h⟩ := h
        simp only [Option.some.injEq, Prod.mk.injEq] at h
        obtain ⟨rfl, rfl⟩ := h
        obtain ⟨new', c1, c2, c3⟩ := common (base := none) (c := c) rfl hk hnew
        exact ⟨.value _, _, w, σ, hex _ _ (c3 w ⟨(fun a ha => by cases ha), fun _ => rfl⟩), .inl rfl, .int _ _, hr, Fr.refl _ _ _⟩
      | @slice id p off l c c' hs' hcc =>
        simp only [Option.bind_eq_some_iff, Option.map_eq_some_iff] at h
        obtain ⟨k, hk, new, hnew, A1, hA1, he⟩ := h
        cases he
        obtain ⟨new', c1, c2, c3⟩ := common (base := none) (c := c) rfl hk hnew
        obtain ⟨w', t1, t2, t3⟩ := store_rel (P := P) hr hs' hA1 c1
        exact ⟨.value _, _, w', σ, hex _ _ (c3 w' ⟨(fun a ha => by cases ha; exact t1), (fun ha => by cases ha)⟩), .inl rfl, .int _ _, t2, t3⟩
      | @sliceEnd id p off b o hs' =>
        simp only [Option.bind_eq_some_iff, Option.map_eq_some_iff] at h
        obtain ⟨k, hk, new, hnew, A1, hA1, he⟩ := h
        cases he
        obtain ⟨new', c1, c2, c3⟩ := common (base := none) (c := 0) rfl hk hnew
        obtain ⟨w', t1, t2, t3⟩ := store_rel (P := P) hr hs' hA1 c1
        have hnl : new' = [] := List.eq_nil_of_length_eq_zero (by rw [← c1.len, c2]; simp)
        subst hnl
        have hw : w' = w := by simp [storeCells] at t1; exact t1.symm
        subst hw
        exact ⟨.value _, _, w', σ, hex _ _ (c3 w' ⟨(fun a ha => by cases ha; rfl), (fun ha => by cases ha)⟩), .inl rfl, .int _ _, t2, t3⟩
      | _ => simp at h
    | clear =>
      simp only at hc
      split at hc
      case h_2 => cases hc
      rename_i t x0 h0 hx0
      have hav : args = #[x0] := by apply Array.ext'; simpa using hx0
      subst hav
      split at hc
      case h_2 => cases hc
      rename_i e ht
      rw [Option.map_eq_some_iff] at hc
      obtain ⟨z, hz, rfl⟩ := hc
      simp only [evalOp] at h
      have hs := hargs x0 (by simp)
      have hex := hexec (Builtin.clear_ argTypes type #[ρC x0]) (fun cs => by simp [builtin])
      obtain ⟨zv, zi, hi', hz', hzr, hzc, _, hzz, hzsz⟩ := run_zero (P := P) (σ := σ) hz w
      revert h
      revert hs
      generalize ρA x0 = s1; generalize hcs : ρC x0 = s2
      rw [hcs] at hex
      intro hs h
      have hu : VRel σ (.tuple #[]) (.tuple #[]) := .tuple #[] #[] rfl (fun i v v' h => by simp at h)
      cases hs with
      | sliceNil l c =>
        simp only [Option.some.injEq, Prod.mk.injEq] at h
        obtain ⟨rfl, rfl⟩ := h
        exact ⟨.value (.tuple #[]), _, w, σ, hex _ _ (by simp [Builtin.clear_, h0, run_underlying ht]), .inl rfl, hu, hr, Fr.refl _ _ _⟩
      | @slice id p off l c c' hs' hcc =>
        simp only at h
        cases hl0 : Nat.beq l 0 with
        | true =>
          rw [hl0] at h
          simp only [cond_true, Option.some.injEq, Prod.mk.injEq] at h
          obtain ⟨rfl, rfl⟩ := h
          have := Nat.eq_of_beq_eq_true hl0
          subst this
          exact ⟨.value (.tuple #[]), _, w, σ, hex _ _ (by simp [Builtin.clear_, h0, run_underlying ht]), .inl rfl, hu, hr, Fr.refl _ _ _⟩
        | false =>
          rw [hl0] at h
          simp only [cond_false, Option.map_eq_some_iff] at h
          obtain ⟨A1, hA1, he⟩ := h
          cases he
          obtain ⟨w', t1, t2, t3⟩ := store_rel (P := P) hr hs' hA1 (zeros_rel hzz l)
          have hl1 := Nat.ne_of_beq_eq_false hl0
          obtain ⟨m, rfl⟩ : ∃ m, l = m + 1 := ⟨l - 1, by omega⟩
          have hzl : (Builtin.zeroCells zv.cells (m + 1)).toList = zeros z (m + 1) := by rw [← hzc]; exact range_zeros zv (m + 1) _ rfl
          refine ⟨.value (.tuple #[]), _, w', σ, hex _ _ ?_, .inl rfl, hu, t2, t3⟩
          simp [Builtin.clear_, h0, run_underlying ht, hzr, hzl, t1]
      | @sliceEnd id p off b o hs' =>
        simp only at h
        have : (Nat.beq 0 0) = true := rfl
        rw [this] at h
        simp only [cond_true, Option.some.injEq, Prod.mk.injEq] at h
        obtain ⟨rfl, rfl⟩ := h
        exact ⟨.value (.tuple #[]), _, w, σ, hex _ _ (by simp [Builtin.clear_, h0, run_underlying ht]), .inl rfl, hu, hr, Fr.refl _ _ _⟩
      | _ => simp at h
    | min => cases hc; cases hh
    | max => cases hc; cases hh
    | _ => cases hc

theorem heavy_sound (hx : Ext P) {o : Oper} {x : XOp} (hc : compOp P o = some x) (hh : heavy x = true) {ρA ρC : Operand → Value} (hρ : ∀ y ∈ o.op.operands, VRel σ (ρA y) (ρC y)) (hfun : ∀ f, ρC (.func f) = .func (.func f) #[] #[]) (hr : Rel P σ A w) {v : Value} {A' : H}
    (h : evalOp x ρA A = some (v, A')) : Does P σ A w (execOp ρC o) v A' := by
  obtain ⟨dst, op, type, pos, after, guard⟩ := o
  cases op with
  | store t a y =>
    simp only [compOp, Option.map_eq_some_iff] at hc
    obtain ⟨n, hn, rfl⟩ := hc
    have ha := hρ a (by simp [Op.operands])
    have hy := hρ y (by simp [Op.operands])
    simp only [evalOp] at h
    revert h
    revert ha
    generalize ρA a = a1; generalize hca : ρC a = a2
    intro ha h
    cases ha with
    | @ptr id p off hs =>
      simp only at h
      have hcl := cells_rel hy
      cases hb : Nat.beq (cellsL (ρA y)).length n with
      | false => rw [hb] at h; cases h
      | true =>
        rw [hb] at h
        simp only [cond_true, Option.map_eq_some_iff] at h
        obtain ⟨A1, hA1, he⟩ := h
        cases he
        have hn' := Nat.eq_of_beq_eq_true hb
        obtain ⟨w', h1, h2, h3⟩ := store_rel (P := P) hr hs hA1 hcl
        have hsz : (ρC y).cells.size = n := by rw [← Array.length_toList, ← hcl.len, hn']
        refine ⟨.skip, undef, w', σ, ?_, .inr ⟨rfl, rfl⟩, .tuple #[] #[] rfl (fun i v v' h => by simp at h), h2, h3⟩
        simp [execOp, hca, Instr.storeAt, Instr.sureAddr, storeVar, run_size hn, hsz, h1]
    | _ => simp at h
  | mapUpdate t m k y => exact mapPut_sound hc (fun y hy => hρ y hy) hr h rfl
  | insert t m k y => exact mapPut_sound hc (fun y hy => hρ y hy) hr h rfl
  | next y b =>
    simp only [compOp] at hc
    cases b with
    | false => cases hc
    | true =>
      cases hc
      have hy := hρ y (by simp [Op.operands])
      simp only [evalOp] at h
      revert hy h
      generalize ρA y = a1; generalize hca : ρC y = a2
      intro hy h
      cases hy with
      | @ptr id p off hs =>
        cases off with
        | succ n => simp at h
        | zero =>
        simp only at h
        cases hg : A.get id with
        | none => simp [hg] at h
        | some ob =>
          cases ob with
          | iter s q =>
            simp only [hg] at h
            obtain ⟨h0, h1⟩ := hr.obj id _ p hg hs
            have hgo : (getObj p.b).run P w = .ok (.stringIter s q) w := by simp [getObj, Sem.run, h1]
            split at h
            · rename_i hlt
              simp only [Option.some.injEq, Prod.mk.injEq] at h
              obtain ⟨rfl, rfl⟩ := h
              have hset : (setObj p.b (.stringIter s (q + (Utf8.decode s q).2))).run P w = .ok () { w with heap := w.heap.setIfInBounds p.b (.stringIter s (q + (Utf8.decode s q).2)) } := by simp [setObj, Sem.run, h1]
              have hlt' := hr.lt id p hs
              obtain ⟨k1, k2⟩ := set_obj (ob := .stringIter s (q + (Utf8.decode s q).2)) (o' := .iter s (q + (Utf8.decode s q).2)) hr hg hs rfl rfl ⟨h0, by simp [Array.getElem?_setIfInBounds, hlt']⟩
              refine ⟨.value (.tuple #[.bool true, .int .i64 q, .int .i32 (Utf8.decode s q).1]), _, _, σ, ?_, .inl rfl, .tuple _ _ rfl (LRel.cons (.bool _) (LRel.cons (.int _ _) (LRel.cons (.int _ _) .nil))).get, k1, k2⟩
              simp [execOp, hca, Instr.next, h0, hgo, hlt, hset, goInt]
            · rename_i hlt
              simp only [Option.some.injEq, Prod.mk.injEq] at h
              obtain ⟨rfl, rfl⟩ := h
              refine ⟨.value (.tuple #[.bool false]), _, w, σ, ?_, .inl rfl, .tuple _ _ rfl (LRel.cons (.bool _) .nil).get, hr, Fr.refl _ _ _⟩
              simp [execOp, hca, Instr.next, h0, hgo, hlt]
          | _ => simp [hg] at h
      | _ => simp at h
  | call c => exact heavy_call hx hc hh (fun y hy => hρ y hy) hfun hr h
  | move y => simp only [compOp, Option.some.injEq] at hc; subst hc; cases hh
  | assign y => simp only [compOp, Option.some.injEq] at hc; subst hc; cases hh
  | pick c a b => simp only [compOp, Option.some.injEq] at hc; subst hc; cases hh
  | build t ps =>
    simp only [compOp, Option.bind_eq_some_iff] at hc
    obtain ⟨_, _, hc⟩ := hc
    split at hc <;> first | (cases hc; done) | (rw [Option.map_eq_some_iff] at hc; obtain ⟨_, _, rfl⟩ := hc; cases hh)
  | load t a => simp only [compOp, Option.bind_eq_some_iff, Option.map_eq_some_iff] at hc; obtain ⟨_, _, _, _, rfl⟩ := hc; cases hh
  | nilCheck y => simp only [compOp, Option.some.injEq] at hc; subst hc; cases hh
  | binOp op xt x y yt => simp only [compOp, Option.map_eq_some_iff] at hc; obtain ⟨_, _, rfl⟩ := hc; cases hh
  | unOp op xt x => simp only [compOp, Option.some.injEq] at hc; subst hc; cases hh
  | convert s d x =>
    simp only [compOp] at hc
    split at hc
    · cases hc; cases hh
    · cases hc; cases hh
    · rename_i e _ _
      split at hc
      · cases hb : (sizeA P e == some 1) <;> rw [hb] at hc <;> cases hc; cases hh
      · cases hc
    · split at hc <;> cases hc; cases hh
    · cases hc
  | makeInterface t x => simp only [compOp] at hc; split at hc <;> cases hc; cases hh
  | makeFunc fn first cap => simp only [compOp] at hc; split at hc <;> cases hc; cases hh
  | slice t x lo hi mx =>
    simp only [compOp] at hc
    split at hc
    · split at hc <;> cases hc; cases hh
    · cases hb : (mx.isSome && hi.isNone) <;> rw [hb] at hc
      · simp only [cond_false, Option.map_eq_some_iff] at hc; obtain ⟨_, _, rfl⟩ := hc; cases hh
      · cases hc
    · cases hb : (mx.isSome && hi.isNone) <;> rw [hb] at hc
      · simp only [cond_false, Option.map_eq_some_iff] at hc; obtain ⟨_, _, rfl⟩ := hc; cases hh
      · cases hc
    · cases hc
  | fieldAddr s x f =>
    simp only [compOp] at hc
    split at hc
    · simp only [Option.bind_eq_some_iff] at hc
      obtain ⟨_, _, _, _, hc⟩ := hc
      split at hc <;> cases hc; cases hh
    · cases hc
  | field t x f =>
    simp only [compOp] at hc
    split at hc
    · simp only [Option.bind_eq_some_iff, Option.map_eq_some_iff] at hc
      obtain ⟨_, _, _, _, _, _, rfl⟩ := hc; cases hh
    · cases hc
  | indexAddr t x i =>
    simp only [compOp] at hc
    split at hc <;> first | (cases hc; done) | (rw [Option.map_eq_some_iff] at hc; obtain ⟨_, _, rfl⟩ := hc; cases hh)
  | index t x i =>
    simp only [compOp] at hc
    split at hc
    · simp only [Option.bind_eq_some_iff, Option.map_eq_some_iff] at hc
      obtain ⟨_, _, _, _, rfl⟩ := hc; cases hh
    · cases hc; cases hh
    · cases hc
  | lookup t m k ok =>
    simp only [compOp] at hc
    split at hc
    · simp only [Option.bind_eq_some_iff] at hc
      obtain ⟨d, _, z, _, hc⟩ := hc
      cases hb : ((cellsL z).all flat1 && scalarKey d) <;> rw [hb] at hc <;> cases hc; cases hh
    · cases hc
  | extract x i => simp only [compOp, Option.some.injEq] at hc; subst hc; cases hh
  | makeMap t r => simp only [compOp] at hc; split at hc <;> cases hc; cases hh
  | alloc e => simp only [compOp, Option.map_eq_some_iff] at hc; obtain ⟨z, _, rfl⟩ := hc; cases hh
  | box e y => simp only [compOp, Option.map_eq_some_iff] at hc; obtain ⟨_, _, rfl⟩ := hc; cases hh
  | buildSlice t n ps =>
    simp only [compOp] at hc
    split at hc
    · simp only [Option.bind_eq_some_iff, Option.map_eq_some_iff] at hc; obtain ⟨_, _, _, _, _, _, rfl⟩ := hc; cases hh
    · cases hc
  | makeSlice t l c =>
    simp only [compOp] at hc
    split at hc
    · simp only [Option.bind_eq_some_iff, Option.map_eq_some_iff] at hc; obtain ⟨_, _, _, _, rfl⟩ := hc; cases hh
    · cases hc
  | range t x => simp only [compOp] at hc; split at hc <;> cases hc; cases hh
  | _ => simp [compOp] at hc
end
end Go.Ab
