/- The operations that write, all of them. -/
import Derived.Test.YtainaihfbljjoaaGreatDoorAbHeavy
import Derived.Laws.LoneSync
set_option linter.all false
set_option linter.unusedSectionVars false
set_option linter.unusedVariables false
set_option linter.unusedSimpArgs false
namespace Go.Ab
open Go Go.RowKit
variable [Unk]

def ExtFn : XExt → Func → Prop
  | .add k, fn => Extern.find fn = some (Extern.Atomic.update (Op.intArith .add) k true)
  | .load k, fn => Extern.find fn = some (Extern.Atomic.loadT (.int k))
  | .store, fn => Extern.find fn = some Extern.Atomic.storeT
  | .cas k, fn => Extern.find fn = some (Extern.Atomic.casT (.int k))
  | .mark0, fn => ∃ m : Mark, Extern.find fn = some (fun _ => do mark m; pure Extern.Race.none_)
  | .mark1, fn => ∃ m : Addr → Mark, Extern.find fn = some (Extern.Race.marked m)
/-- What the soundness asks of the functions without a body. -/
structure Ext (P : Program) : Prop where
  ext : ∀ (f : FuncId) (fn : Func) (kd : XExt), P.funcs[f]? = some fn → fn.body = none → extKind fn.name = some kd → (fn.name == "runtime.NumGoroutine") = false ∧ Extern.findNext fn = none ∧ ExtFn kd fn

section
variable {P : Program} {σ : Sg} {A : H} {w : World}

def heavy : XOp → Bool
  | .store .. | .append .. | .copy .. | .clear .. | .mapPut .. | .mapDel .. | .ext .. | .nextStr _ => true
  | _ => false

theorem set_obj {id : Nat} {o o' : AObj} {p : Pl} {ob : Obj} (hr : Rel P σ A w) (ha : A.get id = some o) (hs : σ id = some p) (hown : o.own = true) (hown' : o'.own = true)
    (hob : ORel P σ { w with heap := w.heap.setIfInBounds p.b ob } p o') : Rel P σ (A.set id o') { w with heap := w.heap.setIfInBounds p.b ob } ∧ Fr σ A w σ (A.set id o') { w with heap := w.heap.setIfInBounds p.b ob } :=
  ⟨Rel.change hr ha hs hown hown' (by simp) (fun k hk => by simp [Array.getElem?_setIfInBounds]; intro h; exact absurd h.symm hk) hob,
   Fr.change hr ha hs hown (by simp) (fun k hk => by simp [Array.getElem?_setIfInBounds]; intro h; exact absurd h.symm hk) rfl rfl rfl⟩

theorem setE_get : ∀ (es : List MapEntry) (i : Nat) (v : Value) (j : Nat), (setE es i v)[j]? = (es[j]?).map fun e => if j = i then { e with val := v } else e := by
  intro es
  induction es with
  | nil => intro i v j; simp [setE]
  | cons e es ih =>
    intro i v j
    cases i with
    | zero => cases j <;> simp [setE]
    | succ i => cases j <;> simp [setE, ih]
theorem setE_length : ∀ (es : List MapEntry) (i : Nat) (v : Value), (setE es i v).length = es.length := by
  intro es
  induction es with
  | nil => intro i v; rfl
  | cons e es ih => intro i v; cases i <;> simp [setE, ih]

/-- A map's block written anew. -/
theorem map_set {id : Nat} {p : Pl} {es : List MapEntry} {c : Nat} {es' : Array MapEntry} (hr : Rel P σ A w) (hg : A.get id = some (.map es c)) (hs : σ id = some p) (hh : w.heap[p.b]? = some (.map es' c)) {esN : List MapEntry} {cN : Nat} {esN' : Array MapEntry} (her : ERel σ esN esN'.toList) :
    ∃ w', (setObj p.b (.map esN' cN)).run P w = .ok () w' ∧ Rel P σ (A.set id (.map esN cN)) w' ∧ Fr σ A w σ (A.set id (.map esN cN)) w' := by
  have hlt' := hr.lt id p hs
  obtain ⟨k1, k2⟩ := set_obj (ob := .map esN' cN) (o' := .map esN cN) hr hg hs rfl rfl ⟨esN', by simp [Array.getElem?_setIfInBounds, hlt'], her⟩
  exact ⟨_, by simp [setObj, Sem.run, hh], k1, k2⟩

theorem ERel.push {es : List MapEntry} {es' : Array MapEntry} (h : ERel σ es es'.toList) {k v k' v' : Value} (hk : VRel σ k k') (hv : VRel σ v v') (c : Nat) : ERel σ (es ++ [{ key := k, val := v, born := c }]) (es'.push { key := k', val := v', born := c }).toList := by
  refine ⟨by simp [h.len], fun i a b ha hb' => ?_⟩
  rw [Array.toList_push] at hb'
  by_cases hi : i < es.length
  · rw [List.getElem?_append_left hi] at ha
    rw [List.getElem?_append_left (by rw [← h.len]; exact hi)] at hb'
    exact h.get i a b ha hb'
  · rw [List.getElem?_append_right (by omega)] at ha
    rw [List.getElem?_append_right (by rw [← h.len]; omega), ← h.len] at hb'
    cases hj : i - es.length with
    | zero => rw [hj] at ha hb'; simp at ha hb'; subst ha; subst hb'; exact ⟨rfl, hk, hv⟩
    | succ n => rw [hj] at ha; simp at ha
theorem ERel.modify {es : List MapEntry} {es' : Array MapEntry} (h : ERel σ es es'.toList) {i : Nat} {v k' v' : Value} (hk : VRel σ (keyAt es i) k') (hv : VRel σ v v') : ERel σ (setE es i v) (es'.modify i fun e => { e with key := k', val := v' }).toList := by
  have hl := h.len
  simp only [Array.length_toList] at hl
  refine ⟨by simp [setE_length, hl], fun j a b ha hb => ?_⟩
  rw [setE_get, Option.map_eq_some_iff] at ha
  obtain ⟨e, he, rfl⟩ := ha
  simp only [Array.getElem?_toList, Array.getElem?_modify] at hb
  by_cases hj : j = i
  · subst hj
    rw [if_pos rfl] at hb
    rw [if_pos rfl]
    rw [Option.map_eq_some_iff] at hb
    obtain ⟨e', he', rfl⟩ := hb
    obtain ⟨h1, h2, h3⟩ := h.get j e e' he (by simpa using he')
    simp only [keyAt, he] at hk
    exact ⟨h1, hk, hv⟩
  · rw [if_neg (fun e => hj e.symm)] at hb
    rw [if_neg hj]
    exact h.get j e b he (by simpa using hb)
theorem ERel.erase {es : List MapEntry} {es' : Array MapEntry} (h : ERel σ es es'.toList) (i : Nat) : ERel σ (es.eraseIdx i) (es'.eraseIdxIfInBounds i).toList := by
  have ht : (es'.eraseIdxIfInBounds i).toList = es'.toList.eraseIdx i := by
    unfold Array.eraseIdxIfInBounds
    split
    · simp
    · rename_i hn
      rw [List.eraseIdx_of_length_le (by simpa using hn)]
  rw [ht]
  refine ⟨by simp [List.length_eraseIdx, h.len], fun j a b ha hb => ?_⟩
  rw [List.getElem?_eraseIdx] at ha hb
  split at ha
  · rename_i hji
    rw [if_pos hji] at hb
    exact h.get j a b ha hb
  · rename_i hji
    rw [if_neg hji] at hb
    exact h.get (j + 1) a b ha hb

theorem stays_run {k old new : Value} (ho : VRel σ k old) (hn : VRel σ k new) (w : World) : ∃ r w', (Instr.keyThatStays old new).run P w = .ok r w' ∧ VRel σ k r ∧ (w' = w ∨ w' = w.drew) := by
  unfold Instr.keyThatStays
  cases hb : Instr.sameBits 10000 old new with
  | true => exact ⟨new, w, by simp, hn, .inl rfl⟩
  | false =>
    refine ⟨if (Question.extern "map.whichKeyStays" 2).cut (w.tape w.drawn (.extern "map.whichKeyStays" 2)) = 0 then new else old, w.drew, ?_, ?_, .inr rfl⟩
    · simp [run_choose, Question.forced]
    · split
      · exact hn
      · exact ho

theorem mapPut_sound {o : Oper} {t : TypeId} {m k y : Operand} {x : XOp} (hc : (match P.underlying t with | some (.map kt _) => (keyKind P kt).map fun d => XOp.mapPut d m k y | _ => none) = some x) {ρA ρC : Operand → Value}
    (hρ : ∀ z ∈ (#[m, k, y] : Array Operand), VRel σ (ρA z) (ρC z)) (hr : Rel P σ A w) {v : Value} {A' : H} (h : evalOp x ρA A = some (v, A'))
    (ho : execOp ρC o = (do Instr.mapUpdate t (ρC m) (ρC k) (ρC y); pure .skip)) : Does P σ A w (execOp ρC o) v A' := by
  split at hc
  case h_2 => cases hc
  rename_i kt e hu
  rw [Option.map_eq_some_iff] at hc
  obtain ⟨d, hd, rfl⟩ := hc
  have hm := hρ m (by simp)
  have hk := hρ k (by simp)
  have hy := hρ y (by simp)
  simp only [evalOp] at h
  rw [ho]
  revert h
  revert hm
  generalize ρA m = m1; generalize hcm : ρC m = m2
  intro hm h
  cases hm with
  | @map id p hs =>
    simp only at h
    cases hg : A.get id with
    | none => simp [hg] at h
    | some ob =>
      cases ob with
      | map es c =>
        simp only [hg] at h
        obtain ⟨es', h1, her⟩ := hr.obj id _ p hg hs
        have hgo : (getObj p.b).run P w = .ok (.map es' c) w := by simp [getObj, Sem.run, h1]
        split at h
        · rename_i hf
          simp only [Option.some.injEq, Prod.mk.injEq] at h
          obtain ⟨rfl, rfl⟩ := h
          obtain ⟨hko, f', hfk, hfv⟩ := findK_rel hd hk hf her w
          have hck := kind_check hd hk hko false w
          have hf0 : f' = none := by
            rcases hfv with ⟨_, h2⟩ | ⟨v, i, v', h2, _⟩
            · exact h2
            · cases h2
          subst hf0
          obtain ⟨w', t1, t2, t3⟩ := map_set (cN := c + 1) hr hg hs h1 (her.push hk hy c)
          refine ⟨.skip, undef, w', σ, ?_, .inr ⟨rfl, rfl⟩, .tuple #[] #[] rfl (fun i v v' h => by simp at h), t2, t3⟩
          simp only [Instr.mapUpdate, Sem.run_bind, run_underlying hu, Result.andThen_ok, hgo, hck, hfk, t1, Sem.run_pure]
        · rename_i i v0 hf
          cases hsv : sameV (keyAt es i) (ρA k) with
          | false => rw [hsv] at h; cases h
          | true =>
            rw [hsv] at h
            simp only [cond_true, Option.some.injEq, Prod.mk.injEq] at h
            obtain ⟨rfl, rfl⟩ := h
            obtain ⟨hko, f', hfk, hfv⟩ := findK_rel hd hk hf her w
            have hck := kind_check hd hk hko false w
            obtain ⟨v1, rfl⟩ : ∃ v1, f' = some (i, v1) := by
              rcases hfv with ⟨h2, _⟩ | ⟨v, i', v', h2, h3, _⟩
              · cases h2
              · cases h2; exact ⟨v', h3⟩
            have hke := sameV_eq hsv
            have hkn : VRel σ (keyAt es i) (ρC k) := by rw [hke]; exact hk
            have hko' : VRel σ (keyAt es i) (((es'[i]?).map (·.key)).getD (ρC k)) := by
              cases he : es'[i]? with
              | none => exact hkn
              | some e' =>
                have hl : i < es.length := by rw [her.len]; simpa using (Array.getElem?_eq_some_iff.1 he).1
                obtain ⟨_, h2, _⟩ := her.get i es[i] e' (List.getElem?_eq_getElem hl) (by simpa using he)
                simp only [keyAt, List.getElem?_eq_getElem hl, Option.map_some, Option.getD_some]
                exact h2
            obtain ⟨r, w1, s1, s2, s3⟩ := stays_run (P := P) hko' hkn w
            have key : ∃ w', (setObj p.b (.map (es'.modify i fun e => { e with key := r, val := ρC y }) c)).run P w1 = .ok () w' ∧ Rel P σ (A.set id (.map (setE es i (ρA y)) c)) w' ∧ Fr σ A w σ (A.set id (.map (setE es i (ρA y)) c)) w' := by
              rcases s3 with rfl | rfl
              · exact map_set hr hg hs h1 (her.modify s2 hy)
              · obtain ⟨w', t1, t2, t3⟩ := map_set (cN := c) hr.drew hg hs h1 (her.modify s2 hy)
                exact ⟨w', t1, t2, Fr.of_drew t3⟩
            obtain ⟨w', t1, t2, t3⟩ := key
            refine ⟨.skip, undef, w', σ, ?_, .inr ⟨rfl, rfl⟩, .tuple #[] #[] rfl (fun i v v' h => by simp at h), t2, t3⟩
            simp only [Instr.mapUpdate, Sem.run_bind, run_underlying hu, Result.andThen_ok, hgo, hck, hfk, s1, t1, Sem.run_pure]
        · cases h
      | _ => simp [hg] at h
  | _ => simp at h

theorem cell_int {id : Nat} {p : Pl} {off : Nat} {k : IntKind} {n : Int} (hr : Rel P σ A w) (hs : σ id = some p) (h : intAt A ⟨id, off, none⟩ = some (k, n)) : w.cell? ⟨p.b, p.sh + off, none⟩ = some (.int k n) := by
  unfold intAt at h
  split at h
  · rename_i k' n' hl
    cases h
    obtain ⟨l', h1, h2, h3⟩ := load_rel hr hs hl
    obtain ⟨u', r', rfl, hu, _⟩ := h1.cons_inv
    have := hu.int_inv
    subst this
    have hcell := h3 0 _ rfl
    rw [Addr.add_none, Nat.add_zero] at hcell
    exact hcell
  · cases h
theorem cell_put {id : Nat} {p : Pl} {off : Nat} {k : IntKind} {n : Int} {u : Value} {A1 : H} (hr : Rel P σ A w) (hs : σ id = some p) (hA1 : storeA A ⟨id, off, none⟩ [.int k n] = some A1) (hcell : w.cell? ⟨p.b, p.sh + off, none⟩ = some u) :
    w.frozen? ⟨p.b, p.sh + off, none⟩ = false ∧ Rel P σ A1 (w.setCell ⟨p.b, p.sh + off, none⟩ (.int k n)) ∧ Fr σ A w σ A1 (w.setCell ⟨p.b, p.sh + off, none⟩ (.int k n)) := by
  obtain ⟨w', s1, s2, s3⟩ := store_rel (P := P) hr hs hA1 (LRel.cons (.int k n) .nil)
  have hfz : w.frozen? ⟨p.b, p.sh + off, none⟩ = false := by
    unfold storeA at hA1
    simp only at hA1
    cases hg : A.get id with
    | none => simp [hg] at hA1
    | some ob =>
      cases ob with
      | cells ro e c0 =>
        cases ro with
        | true => simp [hg] at hA1
        | false =>
          obtain ⟨cur, e', fz, q1, q2, q3, q4, q5, q6⟩ := hr.obj id _ p hg hs
          have hun := (q6 rfl).1
          have hlt : p.sh + off < cur.size := by
            simp [World.cell?, q1] at hcell
            exact (Array.getElem?_eq_some_iff.1 hcell).1
          have := hun _ hlt
          simp only [World.frozen?, q1]
          simpa using this
      | _ => simp [hg] at hA1
  have hw : w' = w.setCell ⟨p.b, p.sh + off, none⟩ (.int k n) := by
    have hst : (store ⟨p.b, p.sh + off, none⟩ (.int k n)).run P w = .ok () (w.setCell ⟨p.b, p.sh + off, none⟩ (.int k n)) := by
      rw [run_store P w _ _ _ rfl]; simp [hcell, hfz]
    simp only [storeCells, Sem.run_bind, Addr.add_none, Nat.add_zero, hst, Result.andThen_ok, Sem.run_pure] at s1
    exact (Result.ok.inj s1).2.symm
  subst hw
  exact ⟨hfz, s2, s3⟩

theorem two_inv {l : List Value} {a b : Value} (h : LRel σ [a, b] l) : ∃ a' b', l = [a', b'] ∧ VRel σ a a' ∧ VRel σ b b' := by
  obtain ⟨a', r, rfl, ha, hr⟩ := h.cons_inv
  obtain ⟨b', r', rfl, hb, hr'⟩ := hr.cons_inv
  have : r' = [] := List.eq_nil_of_length_eq_zero (by have := hr'.len; simpa using this.symm)
  subst this
  exact ⟨a', b', rfl, ha, hb⟩
theorem one_inv {l : List Value} {a : Value} (h : LRel σ [a] l) : ∃ a', l = [a'] ∧ VRel σ a a' := by
  obtain ⟨a', r, rfl, ha, hr⟩ := h.cons_inv
  have : r = [] := List.eq_nil_of_length_eq_zero (by have := hr.len; simpa using this.symm)
  subst this
  exact ⟨a', rfl, ha⟩
theorem ptr_inv {a : Addr} {v : Value} (h : VRel σ (.pointer (some a)) v) : a.spot = none ∧ ∃ p, σ a.block = some p ∧ v = .pointer (some ⟨p.b, p.sh + a.off, none⟩) := by
  cases h with
  | @ptr id p off hs => exact ⟨rfl, p, hs, rfl⟩

/-- A function without a body: the interpreter's answer is the model's. -/
theorem ext_sound (hx : Ext P) {f : FuncId} {fn : Func} {kd : XExt} (hf : P.funcs[f]? = some fn) (hb : fn.body = none) (hk : extKind fn.name = some kd) {as : List Value} {asc : Array Value} (hl : LRel σ as asc.toList) (hr : Rel P σ A w) {v : Value} {A' : H} (h : extA kd as A = some (v, A')) :
    ∃ v' w', (callFunc f asc).run P w = .ok (.value v') w' ∧ VRel σ v v' ∧ Rel P σ A' w' ∧ Fr σ A w σ A' w' := by
  obtain ⟨hname, hn, he⟩ := hx.ext f fn kd hf hb hk
  have hb' : fn.body.isNone = true := by simp [hb]
  unfold extA at h
  split at h
  · rename_i k p j y
    obtain ⟨a', b', hl', ha, hy⟩ := two_inv hl
    obtain ⟨hsp, q, hs, rfl⟩ := ptr_inv ha
    have := hy.int_inv
    subst this
    obtain rfl : asc = #[.pointer (some ⟨q.b, q.sh + p.off, none⟩), .int j y] := by apply Array.ext'; simpa using hl'
    obtain ⟨blk, off, spot⟩ := p
    simp only at hsp
    subst hsp
    split at h
    · rename_i i n hi
      split at h
      · rename_i hc
        obtain ⟨rfl, rfl⟩ := hc
        rw [Option.map_eq_some_iff] at h
        obtain ⟨A1, hA1, he1⟩ := h
        cases he1
        have hcell := cell_int hr hs hi
        obtain ⟨hz, s2, s3⟩ := cell_put hr hs hA1 hcell
        exact ⟨_, _, run_call_add hf hname hb' hn _ he hcell hz (by simp [Op.intArith]), .int _ _, s2, s3⟩
      · cases h
    · cases h
  · rename_i k p
    obtain ⟨a', hl', ha⟩ := one_inv hl
    obtain ⟨hsp, q, hs, rfl⟩ := ptr_inv ha
    obtain rfl : asc = #[.pointer (some ⟨q.b, q.sh + p.off, none⟩)] := by apply Array.ext'; simpa using hl'
    obtain ⟨blk, off, spot⟩ := p
    simp only at hsp
    subst hsp
    split at h
    · rename_i i n hi
      split at h
      · rename_i hc
        subst hc
        cases h
        exact ⟨_, _, run_call_load hf hname hb' hn _ he (cell_int hr hs hi), .int _ _, hr, Fr.refl _ _ _⟩
      · cases h
    · cases h
  · rename_i p j y
    obtain ⟨a', b', hl', ha, hy⟩ := two_inv hl
    obtain ⟨hsp, q, hs, rfl⟩ := ptr_inv ha
    have := hy.int_inv
    subst this
    obtain rfl : asc = #[.pointer (some ⟨q.b, q.sh + p.off, none⟩), .int j y] := by apply Array.ext'; simpa using hl'
    obtain ⟨blk, off, spot⟩ := p
    simp only at hsp
    subst hsp
    split at h
    · rename_i i hi
      rw [Option.map_eq_some_iff] at h
      obtain ⟨A1, hA1, he1⟩ := h
      cases he1
      obtain ⟨i, n⟩ := i
      have hcell := cell_int hr hs hi
      obtain ⟨hz, s2, s3⟩ := cell_put hr hs hA1 hcell
      exact ⟨_, _, run_call_store hf hname hb' hn he hcell hz, .tuple #[] #[] rfl (fun i v v' h => by simp at h), s2, s3⟩
    · cases h
  · rename_i k p j o l y
    obtain ⟨a', r, hl', ha, hr2⟩ := hl.cons_inv
    obtain ⟨b', c', hl2, ho, hy⟩ := two_inv hr2
    subst hl2
    obtain ⟨hsp, q, hs, rfl⟩ := ptr_inv ha
    have := ho.int_inv
    subst this
    have := hy.int_inv
    subst this
    obtain rfl : asc = #[.pointer (some ⟨q.b, q.sh + p.off, none⟩), .int j o, .int l y] := by apply Array.ext'; simpa using hl'
    obtain ⟨blk, off, spot⟩ := p
    simp only at hsp
    subst hsp
    split at h
    · rename_i i n hi
      split at h
      · rename_i hc
        obtain ⟨rfl, rfl, rfl, rfl⟩ := hc
        rw [Option.map_eq_some_iff] at h
        obtain ⟨A1, hA1, he1⟩ := h
        cases he1
        have hcell := cell_int hr hs hi
        obtain ⟨hz, s2, s3⟩ := cell_put hr hs hA1 hcell
        exact ⟨_, _, run_call_cas_hit hf hname hb' hn _ he hcell hz, .bool _, s2, s3⟩
      · cases h
    · cases h
  · cases h
    have hl' : asc.toList = [] := List.eq_nil_of_length_eq_zero (by have := hl.len; simpa using this.symm)
    obtain rfl : asc = #[] := by apply Array.ext'; simpa using hl'
    obtain ⟨m, hm⟩ := he
    exact ⟨_, _, run_call_mark0 hf hname hb' hn m hm w, .tuple #[] #[] rfl (fun i v v' h => by simp at h), hr, Fr.refl _ _ _⟩
  · rename_i p
    cases h
    obtain ⟨a', hl', ha⟩ := one_inv hl
    obtain ⟨hsp, q, hs, rfl⟩ := ptr_inv ha
    obtain rfl : asc = #[.pointer (some ⟨q.b, q.sh + p.off, none⟩)] := by apply Array.ext'; simpa using hl'
    obtain ⟨m, hm⟩ := he
    exact ⟨_, _, run_call_marked hf hname hb' hn m hm _ w, .tuple #[] #[] rfl (fun i v v' h => by simp at h), hr, Fr.refl _ _ _⟩
  · cases h

theorem heavy_call (hx : Ext P) {c : Call} {dst : Option Tmp} {type : TypeId} {pos : String} {after : Array Edge} {guard : Option (Nat × Bool)} {x : XOp} (hc : compOp P ⟨dst, .call c, type, pos, after, guard⟩ = some x) (hh : heavy x = true) {ρA ρC : Operand → Value}
    (hρ : ∀ y ∈ (Op.call c).operands, VRel σ (ρA y) (ρC y)) (hfun : ∀ f, ρC (.func f) = .func (.func f) #[] #[]) (hr : Rel P σ A w) {v : Value} {A' : H} (h : evalOp x ρA A = some (v, A')) : Does P σ A w (execOp ρC ⟨dst, .call c, type, pos, after, guard⟩) v A' := by
  obtain ⟨callee, args, argTypes⟩ := c
  simp only [compOp, compCall] at hc
  have hargs : ∀ y ∈ args.toList, VRel σ (ρA y) (ρC y) := fun y hy => hρ y (by simp only [Op.operands, Call.operands]; exact Array.mem_append.2 (.inr (Array.mem_toList_iff.1 hy)))
  cases callee with
  | invoke r m => simp only [compCall, Option.some.injEq] at hc; subst hc; cases hh
  | value f =>
    cases f with
    | func f =>
      simp only at hc
      split at hc
      · rename_i fn hfn
        split at hc
        · cases hc; cases hh
        · split at hc
          · rename_i hbn
            split at hc
            · rename_i kd hkd
              cases hc
              simp only [evalOp] at h
              have hbody : fn.body = none := by simpa using hbn
              obtain ⟨v', w', hrun, hv, s2, s3⟩ := ext_sound (P := P) hx hfn hbody hkd (asc := args.map ρC) (by rw [Array.toList_map]; exact LRel.map _ _ _ hargs) hr h
              refine ⟨.value v', _, _, σ, ?_, .inl rfl, hv, s2, s3⟩
              simp [execOp, resolve, hfun, Deferred.ofValue, invoke, hrun]
            · cases hc
          · cases hc
      · cases hc
    | tmp t => simp only [Option.some.injEq] at hc; subst hc; cases hh
    | _ => cases hc
  | builtin b =>
    have hexec : ∀ s : Sem Value, (∀ cs, builtin b argTypes type cs (args.map ρC) = (do pure (.value (← s)) : Sem Next)) → ∀ v' w', s.run P w = .ok v' w' → (execOp ρC ⟨dst, .call ⟨.builtin b, args, argTypes⟩, type, pos, after, guard⟩).run P w = .ok (.value v') w' := by
      intro s hs v' w' hr
      simp only [execOp, resolve, Sem.run_bind, Sem.run_pure, Result.andThen_ok, invoke, hs, hr]
    simp only [compBuiltin] at hc
    cases b with
    | len =>
      simp only at hc
      split at hc
      · split at hc <;> first | (cases hc; cases hh; done) | skip
        · split at hc <;> cases hc; cases hh
        · cases hc
      · cases hc
    | append =>
      simp only at hc
      split at hc
      case h_2 => cases hc
      rename_i t u s0 x0 h0 h1 hx0
      have hav : args = #[s0, x0] := by apply Array.ext'; simpa using hx0
      subst hav
      have hat : ∀ y, (Builtin.append_ argTypes type y) = Builtin.append_ #[t, u] type y := fun y => by simp [Builtin.append_, h0, h1]
      have main : ∀ {e : TypeId}, P.underlying t = some (.slice e) → ((∃ e', P.underlying u = some (.slice e')) ∨ P.underlying u = some .string) → ((P.info? e).bind fun i => (zeroA P e).map fun _ => XOp.append e i.size i.bytes s0 x0) = some x → Does P σ A w (execOp ρC ⟨dst, .call ⟨.builtin .append, #[s0, x0], argTypes⟩, type, pos, after, guard⟩) v A' := by
        intro e ht hu hc
        simp only [Option.bind_eq_some_iff, Option.map_eq_some_iff] at hc
        obtain ⟨i, hi, z, hz, rfl⟩ := hc
        simp only [evalOp] at h
        obtain ⟨v', w', σ', k1, k2, k3, k4⟩ := append_rel (P := P) (ty := type) hr ht hu hi hz (hargs s0 (by simp)) (hargs x0 (by simp)) h
        exact ⟨.value v', v', w', σ', hexec (Builtin.append_ #[t, u] type #[ρC s0, ρC x0]) (fun cs => by simp [builtin, hat]) _ _ k1, .inl rfl, k2, k3, k4⟩
      split at hc
      · rename_i ht hu; exact main ht (.inl ⟨_, hu⟩) hc
      · rename_i ht hu; exact main ht (.inr hu) hc
      · cases hc
    | copy =>
      simp only at hc
      split at hc
      case h_2 => cases hc
      rename_i t s0 x0 h0 hx0
      have hav : args = #[s0, x0] := by apply Array.ext'; simpa using hx0
      subst hav
      split at hc
      case h_2 => cases hc
      rename_i e ht
      rw [Option.map_eq_some_iff] at hc
      obtain ⟨n, hn, rfl⟩ := hc
      simp only [evalOp] at h
      have hs := hargs s0 (by simp)
      have hx := hargs x0 (by simp)
      have hex := hexec (Builtin.copy_ argTypes type #[ρC s0, ρC x0]) (fun cs => by simp [builtin])
      revert h
      revert hs
      generalize ρA s0 = s1; generalize hcs : ρC s0 = s2
      rw [hcs] at hex
      intro hs h
      have common : ∀ {base base' : Option Addr} {dLen c c' : Nat} {k : Nat} {new : List Value}, s2 = .slice base' dLen c' → lenV (ρA x0) = some k → sourceA A n (Nat.min k dLen) (ρA x0) = some new → ∃ new' : List Value, LRel σ new new' ∧ new.length = Nat.min k dLen * n ∧
          ∀ w', ((∀ a, base' = some a → (storeCells a new').run P w = .ok () w') ∧ (base' = none → w' = w)) → (Builtin.copy_ argTypes type #[s2, ρC x0]).run P w = .ok (.int .i64 (Nat.min k dLen : Nat)) w' := by
        intro base base' dLen c c' k new hs2 hk hnew
        obtain ⟨k1, k2, new', k3, k4⟩ := source_rel (P := P) hr hx hk (Nat.min_le_left k dLen) hnew
        refine ⟨new', k3, k2, fun w' hw => ?_⟩
        have k5 := k4 w fun _ => rfl
        subst hs2
        cases base' with
        | none => have := hw.2 rfl; subst this; simp [Builtin.copy_, h0, run_underlying ht, k1, run_size hn, k5, goInt]
        | some a => have := hw.1 a rfl; simp [Builtin.copy_, h0, run_underlying ht, k1, run_size hn, k5, this, goInt]
      cases hs with
      | sliceNil l c =>
        simp only [Option.bind_eq_some_iff] at h
        obtain ⟨k, hk, new, hnew, h⟩ := h
        simp only [Option.some.injEq, Prod.mk.injEq] at h
        obtain ⟨rfl, rfl⟩ := h
        obtain ⟨new', c1, c2, c3⟩ := common (base := none) (c := c) rfl hk hnew
        exact ⟨.value _, _, w, σ, hex _ _ (c3 w ⟨(fun a ha => by cases ha), fun _ => rfl⟩), .inl rfl, .int _ _, hr, Fr.refl _ _ _⟩
      | @slice id p off l c c' hs' hcc =>
        simp only [Option.bind_eq_some_iff, Option.map_eq_some_iff] at h
        obtain ⟨k, hk, new, hnew, A1, hA1, he⟩ := h
        cases he
        obtain ⟨new', c1, c2, c3⟩ := common (base := none) (c := c) rfl hk hnew
        obtain ⟨w', t1, t2, t3⟩ := store_rel (P := P) hr hs' hA1 c1
        exact ⟨.value _, _, w', σ, hex _ _ (c3 w' ⟨(fun a ha => by cases ha; exact t1), (fun ha => by cases ha)⟩), .inl rfl, .int _ _, t2, t3⟩
      | @sliceEnd id p off b o hs' =>
        simp only [Option.bind_eq_some_iff, Option.map_eq_some_iff] at h
        obtain ⟨k, hk, new, hnew, A1, hA1, he⟩ := h
        cases he
        obtain ⟨new', c1, c2, c3⟩ := common (base := none) (c := 0) rfl hk hnew
        obtain ⟨w', t1, t2, t3⟩ := store_rel (P := P) hr hs' hA1 c1
        have hnl : new' = [] := List.eq_nil_of_length_eq_zero (by rw [← c1.len, c2]; simp)
        subst hnl
        have hw : w' = w := by simp [storeCells] at t1; exact t1.symm
        subst hw
        exact ⟨.value _, _, w', σ, hex _ _ (c3 w' ⟨(fun a ha => by cases ha; rfl), (fun ha => by cases ha)⟩), .inl rfl, .int _ _, t2, t3⟩
      | _ => simp at h
    | clear =>
      simp only at hc
      split at hc
      case h_2 => cases hc
      rename_i t x0 h0 hx0
      have hav : args = #[x0] := by apply Array.ext'; simpa using hx0
      subst hav
      split at hc
      case h_2 => cases hc
      rename_i e ht
      rw [Option.map_eq_some_iff] at hc
      obtain ⟨z, hz, rfl⟩ := hc
      simp only [evalOp] at h
      have hs := hargs x0 (by simp)
      have hex := hexec (Builtin.clear_ argTypes type #[ρC x0]) (fun cs => by simp [builtin])
      obtain ⟨zv, zi, hi', hz', hzr, hzc, _, hzz, hzsz⟩ := run_zero (P := P) (σ := σ) hz w
      revert h
      revert hs
      generalize ρA x0 = s1; generalize hcs : ρC x0 = s2
      rw [hcs] at hex
      intro hs h
      have hu : VRel σ (.tuple #[]) (.tuple #[]) := .tuple #[] #[] rfl (fun i v v' h => by simp at h)
      cases hs with
      | sliceNil l c =>
        simp only [Option.some.injEq, Prod.mk.injEq] at h
        obtain ⟨rfl, rfl⟩ := h
        exact ⟨.value (.tuple #[]), _, w, σ, hex _ _ (by simp [Builtin.clear_, h0, run_underlying ht]), .inl rfl, hu, hr, Fr.refl _ _ _⟩
      | @slice id p off l c c' hs' hcc =>
        simp only at h
        cases hl0 : Nat.beq l 0 with
        | true =>
          rw [hl0] at h
          simp only [cond_true, Option.some.injEq, Prod.mk.injEq] at h
          obtain ⟨rfl, rfl⟩ := h
          have := Nat.eq_of_beq_eq_true hl0
          subst this
          exact ⟨.value (.tuple #[]), _, w, σ, hex _ _ (by simp [Builtin.clear_, h0, run_underlying ht]), .inl rfl, hu, hr, Fr.refl _ _ _⟩
        | false =>
          rw [hl0] at h
          simp only [cond_false, Option.map_eq_some_iff] at h
          obtain ⟨A1, hA1, he⟩ := h
          cases he
          obtain ⟨w', t1, t2, t3⟩ := store_rel (P := P) hr hs' hA1 (zeros_rel hzz l)
          have hl1 := Nat.ne_of_beq_eq_false hl0
          obtain ⟨m, rfl⟩ : ∃ m, l = m + 1 := ⟨l - 1, by omega⟩
          have hzl : (Builtin.zeroCells zv.cells (m + 1)).toList = zeros z (m + 1) := by rw [← hzc]; exact range_zeros zv (m + 1) _ rfl
          refine ⟨.value (.tuple #[]), _, w', σ, hex _ _ ?_, .inl rfl, hu, t2, t3⟩
          simp [Builtin.clear_, h0, run_underlying ht, hzr, hzl, t1]
      | @sliceEnd id p off b o hs' =>
        simp only at h
        have : (Nat.beq 0 0) = true := rfl
        rw [this] at h
        simp only [cond_true, Option.some.injEq, Prod.mk.injEq] at h
        obtain ⟨rfl, rfl⟩ := h
        exact ⟨.value (.tuple #[]), _, w, σ, hex _ _ (by simp [Builtin.clear_, h0, run_underlying ht]), .inl rfl, hu, hr, Fr.refl _ _ _⟩
      | _ => simp at h
    | delete =>
      simp only at hc
      split at hc
      case h_2 => cases hc
      rename_i t m k h0 hx0
      have hav : args = #[m, k] := by apply Array.ext'; simpa using hx0
      subst hav
      split at hc
      case h_2 => cases hc
      rename_i kt e ht
      rw [Option.map_eq_some_iff] at hc
      obtain ⟨d, hd, rfl⟩ := hc
      simp only [evalOp] at h
      have hm := hargs m (by simp)
      have hk := hargs k (by simp)
      have hex := hexec (Builtin.delete_ argTypes type #[ρC m, ρC k]) (fun cs => by simp [builtin])
      have hu : VRel σ (.tuple #[]) (.tuple #[]) := .tuple #[] #[] rfl (fun i v v' h => by simp at h)
      revert h
      revert hm
      generalize ρA m = m1; generalize hcm : ρC m = m2
      rw [hcm] at hex
      intro hm h
      cases hm with
      | mapNil =>
        simp only at h
        cases hko : kindOk d (ρA k) with
        | false => rw [hko] at h; cases h
        | true =>
          rw [hko] at h
          simp only [cond_true, Option.some.injEq, Prod.mk.injEq] at h
          obtain ⟨rfl, rfl⟩ := h
          have hck := kind_check hd hk hko true w
          exact ⟨.value (.tuple #[]), _, w, σ, hex _ _ (by simp [Builtin.delete_, h0, run_underlying ht, hck]), .inl rfl, hu, hr, Fr.refl _ _ _⟩
      | @map id p hs =>
        simp only at h
        cases hg : A.get id with
        | none => simp [hg] at h
        | some ob =>
          cases ob with
          | map es c =>
            simp only [hg] at h
            obtain ⟨es', h1, her⟩ := hr.obj id _ p hg hs
            have hgo : (getObj p.b).run P w = .ok (.map es' c) w := by simp [getObj, Sem.run, h1]
            split at h
            · rename_i hf
              simp only [Option.some.injEq, Prod.mk.injEq] at h
              obtain ⟨rfl, rfl⟩ := h
              obtain ⟨hko, f', hfk, hfv⟩ := findK_rel hd hk hf her w
              have hck := kind_check hd hk hko es'.isEmpty w
              have hf0 : f' = none := by
                rcases hfv with ⟨_, h2⟩ | ⟨v, i, v', h2, _⟩
                · exact h2
                · cases h2
              subst hf0
              obtain ⟨w', t1, t2, t3⟩ := map_set (cN := c) hr hg hs h1 her
              exact ⟨.value (.tuple #[]), _, w', σ, hex _ _ (by simp only [Builtin.delete_, h0, List.getElem?_toArray, List.getElem?_cons_zero, List.getElem?_cons_succ, Sem.run_bind, run_underlying ht, Result.andThen_ok, hgo, hck, hfk, t1, Sem.run_pure]), .inl rfl, hu, t2, t3⟩
            · rename_i i v0 hf
              simp only [Option.some.injEq, Prod.mk.injEq] at h
              obtain ⟨rfl, rfl⟩ := h
              obtain ⟨hko, f', hfk, hfv⟩ := findK_rel hd hk hf her w
              have hck := kind_check hd hk hko es'.isEmpty w
              obtain ⟨v1, rfl⟩ : ∃ v1, f' = some (i, v1) := by
                rcases hfv with ⟨h2, _⟩ | ⟨v, i', v', h2, h3, _⟩
                · cases h2
                · cases h2; exact ⟨v', h3⟩
              obtain ⟨w', t1, t2, t3⟩ := map_set (cN := c) hr hg hs h1 (her.erase i)
              exact ⟨.value (.tuple #[]), _, w', σ, hex _ _ (by simp only [Builtin.delete_, h0, List.getElem?_toArray, List.getElem?_cons_zero, List.getElem?_cons_succ, Sem.run_bind, run_underlying ht, Result.andThen_ok, hgo, hck, hfk, t1, Sem.run_pure]), .inl rfl, hu, t2, t3⟩
            · cases h
          | _ => simp [hg] at h
      | _ => simp at h
    | min => cases hc; cases hh
    | max => cases hc; cases hh
    | _ => cases hc

theorem heavy_sound (hx : Ext P) {o : Oper} {x : XOp} (hc : compOp P o = some x) (hh : heavy x = true) {ρA ρC : Operand → Value} (hρ : ∀ y ∈ o.op.operands, VRel σ (ρA y) (ρC y)) (hfun : ∀ f, ρC (.func f) = .func (.func f) #[] #[]) (hr : Rel P σ A w) {v : Value} {A' : H}
    (h : evalOp x ρA A = some (v, A')) : Does P σ A w (execOp ρC o) v A' := by
  obtain ⟨dst, op, type, pos, after, guard⟩ := o
  cases op with
  | store t a y =>
    simp only [compOp, Option.map_eq_some_iff] at hc
    obtain ⟨n, hn, rfl⟩ := hc
    have ha := hρ a (by simp [Op.operands])
    have hy := hρ y (by simp [Op.operands])
    simp only [evalOp] at h
    revert h
    revert ha
    generalize ρA a = a1; generalize hca : ρC a = a2
    intro ha h
    cases ha with
    | @ptr id p off hs =>
      simp only at h
      have hcl := cells_rel hy
      cases hb : Nat.beq (cellsL (ρA y)).length n with
      | false => rw [hb] at h; cases h
      | true =>
        rw [hb] at h
        simp only [cond_true, Option.map_eq_some_iff] at h
        obtain ⟨A1, hA1, he⟩ := h
        cases he
        have hn' := Nat.eq_of_beq_eq_true hb
        obtain ⟨w', h1, h2, h3⟩ := store_rel (P := P) hr hs hA1 hcl
        have hsz : (ρC y).cells.size = n := by rw [← Array.length_toList, ← hcl.len, hn']
        refine ⟨.skip, undef, w', σ, ?_, .inr ⟨rfl, rfl⟩, .tuple #[] #[] rfl (fun i v v' h => by simp at h), h2, h3⟩
        simp [execOp, hca, Instr.storeAt, Instr.sureAddr, storeVar, run_size hn, hsz, h1]
    | _ => simp at h
  | mapUpdate t m k y => exact mapPut_sound hc (fun y hy => hρ y hy) hr h rfl
  | insert t m k y => exact mapPut_sound hc (fun y hy => hρ y hy) hr h rfl
  | next y b =>
    simp only [compOp] at hc
    cases b with
    | false => cases hc
    | true =>
      cases hc
      have hy := hρ y (by simp [Op.operands])
      simp only [evalOp] at h
      revert hy h
      generalize ρA y = a1; generalize hca : ρC y = a2
      intro hy h
      cases hy with
      | @ptr id p off hs =>
        cases off with
        | succ n => simp at h
        | zero =>
        simp only at h
        cases hg : A.get id with
        | none => simp [hg] at h
        | some ob =>
          cases ob with
          | iter s q =>
            simp only [hg] at h
            obtain ⟨h0, h1⟩ := hr.obj id _ p hg hs
            have hgo : (getObj p.b).run P w = .ok (.stringIter s q) w := by simp [getObj, Sem.run, h1]
            split at h
            · rename_i hlt
              simp only [Option.some.injEq, Prod.mk.injEq] at h
              obtain ⟨rfl, rfl⟩ := h
              have hset : (setObj p.b (.stringIter s (q + (Utf8.decode s q).2))).run P w = .ok () { w with heap := w.heap.setIfInBounds p.b (.stringIter s (q + (Utf8.decode s q).2)) } := by simp [setObj, Sem.run, h1]
              have hlt' := hr.lt id p hs
              obtain ⟨k1, k2⟩ := set_obj (ob := .stringIter s (q + (Utf8.decode s q).2)) (o' := .iter s (q + (Utf8.decode s q).2)) hr hg hs rfl rfl ⟨h0, by simp [Array.getElem?_setIfInBounds, hlt']⟩
              refine ⟨.value (.tuple #[.bool true, .int .i64 q, .int .i32 (Utf8.decode s q).1]), _, _, σ, ?_, .inl rfl, .tuple _ _ rfl (LRel.cons (.bool _) (LRel.cons (.int _ _) (LRel.cons (.int _ _) .nil))).get, k1, k2⟩
              simp [execOp, hca, Instr.next, h0, hgo, hlt, hset, goInt]
            · rename_i hlt
              simp only [Option.some.injEq, Prod.mk.injEq] at h
              obtain ⟨rfl, rfl⟩ := h
              refine ⟨.value (.tuple #[.bool false]), _, w, σ, ?_, .inl rfl, .tuple _ _ rfl (LRel.cons (.bool _) .nil).get, hr, Fr.refl _ _ _⟩
              simp [execOp, hca, Instr.next, h0, hgo, hlt]
          | _ => simp [hg] at h
      | _ => simp at h
  | call c => exact heavy_call hx hc hh (fun y hy => hρ y hy) hfun hr h
  | move y => simp only [compOp, Option.some.injEq] at hc; subst hc; cases hh
  | assign y => simp only [compOp, Option.some.injEq] at hc; subst hc; cases hh
  | pick c a b => simp only [compOp, Option.some.injEq] at hc; subst hc; cases hh
  | build t ps =>
    simp only [compOp, Option.bind_eq_some_iff] at hc
    obtain ⟨_, _, hc⟩ := hc
    split at hc <;> first | (cases hc; done) | (rw [Option.map_eq_some_iff] at hc; obtain ⟨_, _, rfl⟩ := hc; cases hh)
  | load t a => simp only [compOp, Option.bind_eq_some_iff, Option.map_eq_some_iff] at hc; obtain ⟨_, _, _, _, rfl⟩ := hc; cases hh
  | nilCheck y => simp only [compOp, Option.some.injEq] at hc; subst hc; cases hh
  | binOp op xt x y yt => simp only [compOp, Option.bind_eq_some_iff] at hc; obtain ⟨_, _, hc⟩ := hc; rcases compBin_kind hc with rfl | ⟨_, _, ⟨_, rfl⟩ | ⟨_, rfl⟩⟩ | ⟨_, _, _, ⟨_, rfl⟩ | ⟨_, rfl⟩⟩ <;> cases hh
  | typeAssert x xt t ok =>
    simp only [compOp] at hc
    cases ok with
    | false => cases hc
    | true =>
      simp only [cond_true, Option.bind_eq_some_iff] at hc
      obtain ⟨z, _, hc⟩ := hc
      cases hb : (cellsL z).all flat1 with
      | false => rw [hb] at hc; cases hc
      | true => rw [hb] at hc; simp only [cond_true, Option.map_eq_some_iff] at hc; obtain ⟨d, _, hc⟩ := hc; split at hc <;> (subst hc; cases hh)
  | unOp op xt x => simp only [compOp, Option.some.injEq] at hc; subst hc; cases hh
  | convert s d x =>
    simp only [compOp] at hc
    split at hc
    · cases hc; cases hh
    · cases hc; cases hh
    · rename_i e _ _
      split at hc
      · cases hb : (sizeA P e == some 1) <;> rw [hb] at hc <;> cases hc; cases hh
      · cases hc
    · split at hc <;> cases hc; cases hh
    · rw [Option.bind_eq_some_iff] at hc; obtain ⟨_, _, hc⟩ := hc; split at hc <;> cases hc; cases hh
    · cases hc
  | makeInterface t x => simp only [compOp] at hc; split at hc <;> cases hc; cases hh
  | makeFunc fn first cap => simp only [compOp] at hc; cases hc; cases hh
  | slice t x lo hi mx =>
    simp only [compOp] at hc
    split at hc
    · split at hc <;> cases hc; cases hh
    · cases hb : (mx.isSome && hi.isNone) <;> rw [hb] at hc
      · simp only [cond_false, Option.map_eq_some_iff] at hc; obtain ⟨_, _, rfl⟩ := hc; cases hh
      · cases hc
    · cases hb : (mx.isSome && hi.isNone) <;> rw [hb] at hc
      · simp only [cond_false, Option.map_eq_some_iff] at hc; obtain ⟨_, _, rfl⟩ := hc; cases hh
      · cases hc
    · cases hc
  | fieldAddr s x f =>
    simp only [compOp] at hc
    split at hc
    · simp only [Option.bind_eq_some_iff] at hc
      obtain ⟨_, _, _, _, hc⟩ := hc
      split at hc <;> cases hc; cases hh
    · cases hc
  | field t x f =>
    simp only [compOp] at hc
    split at hc
    · simp only [Option.bind_eq_some_iff, Option.map_eq_some_iff] at hc
      obtain ⟨_, _, _, _, _, _, rfl⟩ := hc; cases hh
    · cases hc
  | indexAddr t x i =>
    simp only [compOp] at hc
    split at hc <;> first | (cases hc; done) | (rw [Option.map_eq_some_iff] at hc; obtain ⟨_, _, rfl⟩ := hc; cases hh)
  | index t x i =>
    simp only [compOp] at hc
    split at hc
    · simp only [Option.bind_eq_some_iff, Option.map_eq_some_iff] at hc
      obtain ⟨_, _, _, _, rfl⟩ := hc; cases hh
    · cases hc; cases hh
    · cases hc
  | lookup t m k ok =>
    simp only [compOp] at hc
    split at hc
    · simp only [Option.bind_eq_some_iff] at hc
      obtain ⟨d, _, z, _, hc⟩ := hc
      cases hb : (cellsL z).all flat1 <;> rw [hb] at hc <;> cases hc; cases hh
    · cases hc
  | extract x i => simp only [compOp, Option.some.injEq] at hc; subst hc; cases hh
  | makeMap t r => simp only [compOp] at hc; split at hc <;> cases hc; cases hh
  | alloc e => simp only [compOp, Option.map_eq_some_iff] at hc; obtain ⟨z, _, rfl⟩ := hc; cases hh
  | box e y => simp only [compOp, Option.map_eq_some_iff] at hc; obtain ⟨_, _, rfl⟩ := hc; cases hh
  | buildSlice t n ps =>
    simp only [compOp] at hc
    split at hc
    · simp only [Option.bind_eq_some_iff, Option.map_eq_some_iff] at hc; obtain ⟨_, _, _, _, _, _, rfl⟩ := hc; cases hh
    · cases hc
  | makeSlice t l c =>
    simp only [compOp] at hc
    split at hc
    · simp only [Option.bind_eq_some_iff, Option.map_eq_some_iff] at hc; obtain ⟨_, _, _, _, rfl⟩ := hc; cases hh
    · cases hc
  | range t x => simp only [compOp] at hc; split at hc <;> cases hc; cases hh
  | _ => simp [compOp] at hc
end
end Go.Ab
