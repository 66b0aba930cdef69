/- Keys of maps: scalars, and structs of scalars. -/
import Derived.Test.YtainaihfbljjoaaGreatDoorAbFill
import Derived.Laws.StructEq
import Derived.ChangeKeysEq
set_option linter.all false
set_option linter.unusedSectionVars false
set_option linter.unusedVariables false
set_option linter.unusedSimpArgs false
namespace Go.Ab
open Go Go.RowKit
variable [Unk]
section
variable {P : Program} {σ : Sg} {A : H} {w : World}

theorem same1_eq {a b : Value} (h : same1 a b = true) : a = b := by
  unfold same1 at h
  split at h <;> first | (cases h; done) | rfl | skip
  · simp at h; rw [h]
  · simp at h; obtain ⟨rfl, rfl⟩ := h; rfl
  · simp [bytesOf] at h; congr; exact ByteArray.ext h
  · rename_i a b
    obtain ⟨ab, ao, as⟩ := a
    obtain ⟨bb, bo, bs⟩ := b
    simp at h
    obtain ⟨⟨⟨h1, h2⟩, h3⟩, h4⟩ := h
    subst h1; subst h2; subst h3; subst h4; rfl
  · simp at h; obtain ⟨rfl, rfl⟩ := h; rfl
  · rename_i a l c b l' c'
    obtain ⟨ab, ao, as⟩ := a
    obtain ⟨bb, bo, bs⟩ := b
    simp at h
    obtain ⟨⟨⟨⟨⟨h1, h2⟩, h3⟩, h4⟩, h5⟩, h6⟩ := h
    subst h1; subst h2; subst h3; subst h4; subst h5; subst h6; rfl
  · simp at h; rw [h]
  · rw [Nat.eq_of_beq_eq_true h]
  · rw [Bool.and_eq_true] at h; rw [Nat.eq_of_beq_eq_true h.1, Nat.eq_of_beq_eq_true h.2]
theorem sameL_eq : ∀ {l m : List Value}, sameL l m = true → l = m := by
  intro l
  induction l with
  | nil => intro m h; cases m <;> first | rfl | cases h
  | cons a l ih =>
    intro m h
    cases m with
    | nil => cases h
    | cons b m => simp only [sameL, Bool.and_eq_true] at h; rw [same1_eq h.1, ih h.2]
theorem sameV_eq {a b : Value} (h : sameV a b = true) : a = b := by
  unfold sameV at h
  split at h
  · rename_i x y
    have := sameL_eq h
    congr
    exact Array.ext' this
  · exact same1_eq h
theorem getN_eq : ∀ (l : List Value) (n : Nat), getN l n = l[n]? := by
  intro l
  induction l with
  | nil => intro n; rfl
  | cons x l ih =>
    intro n
    unfold getN
    cases h0 : Nat.beq n 0 with
    | true => have := Nat.eq_of_beq_eq_true h0; subst this; rfl
    | false =>
      have := Nat.ne_of_beq_eq_false h0
      obtain ⟨m, rfl⟩ : ∃ m, n = m + 1 := ⟨n - 1, by omega⟩
      simp only [cond_false, ih]
      rfl
theorem ba_beq (s t : ByteArray) : (s == t) = (s.data.toList == t.data.toList) := by
  show (s.data == t.data) = _
  rw [Bool.eq_iff_iff]; simp
theorem keyEq_rel {d : TypeDesc} {k k' x x' : Value} {b : Bool} (hk : VRel σ k k') (hx : VRel σ x x') (h : keyEq d k x = some b) : Instr.sameNow d k' x' = some b := by
  cases d <;> first | (simp only [keyEq] at h; cases h; done) | skip
  all_goals
    cases hk <;> first | (simp only [keyEq] at h; cases h; done) | skip
  all_goals
    cases hx <;> first | (simp only [keyEq] at h; cases h; done) | skip
  · exact h
  · exact h
  · rename_i s s'
    simp only [keyEq, Option.some.injEq] at h
    subst h
    simp only [Instr.sameNow, Option.some.injEq]
    exact ba_beq s s'
theorem scalar_equal {d : TypeDesc} {t : TypeId} (hd : P.underlying t = some d) (hs : scalarKey d = true) {k k' x x' : Value} {b : Bool} (hk : VRel σ k k') (hx : VRel σ x x') (h : keyEq d k x = some b) (n : Nat) (w : World) : (Op.equalIn (n + 1) t k' x').run P w = .ok b w := by
  cases d <;> first | (simp only [keyEq] at h; cases h; done) | skip
  all_goals
    cases hk <;> first | (simp only [keyEq] at h; cases h; done) | skip
  all_goals
    cases hx <;> first | (simp only [keyEq] at h; cases h; done) | skip
  · simp only [keyEq, Option.some.injEq] at h
    subst h
    simp [Op.equalIn, run_underlying hd]
  · simp only [keyEq] at h
    split at h
    · rename_i e
      subst e
      cases h
      simp [Op.equalIn, run_underlying hd]
    · cases h
  · rename_i s s'
    simp only [keyEq, Option.some.injEq] at h
    subst h
    simp only [Op.equalIn, Sem.run_bind, run_underlying hd, Result.andThen_ok, Sem.run_pure]
    rw [ba_beq]
    rfl
theorem checkKey_scalar {d : TypeDesc} {t : TypeId} (hd : P.underlying t = some d) (hs : scalarKey d = true) (b : Bool) (n : Nat) (v : Value) (w : World) : (Instr.checkKey b (n + 1) t v).run P w = .ok () w := by
  cases d <;> first | (simp [scalarKey] at hs; done) | (simp [Instr.checkKey, run_underlying hd])

theorem part_scalar {d : TypeDesc} {t : TypeId} (hd : P.underlying t = some d) (hs : scalarKey d = true) {cs : Array Value} {o : Nat} {v : Value} (h : cs[o]? = some v) (w : World) : (part t cs o).run P w = .ok v w := by
  have ha : (isAgg t).run P w = .ok false w := by
    cases d <;> first | (simp [scalarKey] at hs; done) | (simp [isAgg, run_underlying hd])
  simp [part, ha, h]

/-- The fields of a struct key. -/
theorem fields_at {fs : List Field} {l : List (Nat × TypeDesc)} (h : fieldKinds P fs = some l) : ∀ f ∈ fs, f.name ≠ "_" ∧ ∃ d, P.underlying f.type = some d ∧ scalarKey d = true ∧ (f.offset, d) ∈ l := by
  induction fs generalizing l with
  | nil => intro f hf; simp at hf
  | cons g fs ih =>
    simp only [fieldKinds] at h
    cases hn : (g.name == "_") with
    | true => rw [hn] at h; cases h
    | false =>
      rw [hn] at h
      simp only [cond_false, Option.bind_eq_some_iff] at h
      obtain ⟨d, hd, h⟩ := h
      cases hs : scalarKey d with
      | false => rw [hs] at h; cases h
      | true =>
        rw [hs] at h
        simp only [cond_true, Option.map_eq_some_iff] at h
        obtain ⟨r, hr, rfl⟩ := h
        intro f hf
        rcases List.mem_cons.1 hf with rfl | hf
        · exact ⟨by simpa using hn, d, hd, hs, List.mem_cons_self⟩
        · obtain ⟨h1, d', h2, h3, h4⟩ := ih hr f hf
          exact ⟨h1, d', h2, h3, List.mem_cons_of_mem _ h4⟩

theorem eqFields_rel {xs xs' ys ys' : Array Value} (hx : VRel σ (.agg xs) (.agg xs')) (hy : VRel σ (.agg ys) (.agg ys')) (n : Nat) (w : World) : ∀ {fs : List Field} {l : List (Nat × TypeDesc)} {b : Bool}, fieldKinds P fs = some l → keysEq l xs.toList ys.toList = some b → (Op.eqFields (n + 1) xs' ys' fs).run P w = .ok b w := by
  intro fs
  induction fs with
  | nil =>
    intro l b h hb
    simp only [fieldKinds, Option.some.injEq] at h
    subst h
    simp only [keysEq, Option.some.injEq] at hb
    subst hb
    simp [Op.eqFields]
  | cons g fs ih =>
    intro l b h hb
    simp only [fieldKinds] at h
    cases hn : (g.name == "_") with
    | true => rw [hn] at h; cases h
    | false =>
      rw [hn] at h
      simp only [cond_false, Option.bind_eq_some_iff] at h
      obtain ⟨d, hd, h⟩ := h
      cases hs : scalarKey d with
      | false => rw [hs] at h; cases h
      | true =>
        rw [hs] at h
        simp only [cond_true, Option.map_eq_some_iff] at h
        obtain ⟨r, hr, rfl⟩ := h
        simp only [keysEq] at hb
        have hne : g.name ≠ "_" := by simpa using hn
        split at hb
        · rename_i x y hx1 hy1
          rw [getN_eq] at hx1 hy1
          cases hx with
          | agg _ _ hxs hxg =>
            cases hy with
            | agg _ _ hys hyg =>
              have e1 : g.offset < xs'.size := by rw [← hxs]; simpa using (List.getElem?_eq_some_iff.1 hx1).1
              have e2 : g.offset < ys'.size := by rw [← hys]; simpa using (List.getElem?_eq_some_iff.1 hy1).1
              have p1 := part_scalar (P := P) hd hs (cs := xs') (o := g.offset) (v := xs'[g.offset]) (by simp [e1]) w
              have p2 := part_scalar (P := P) hd hs (cs := ys') (o := g.offset) (v := ys'[g.offset]) (by simp [e2]) w
              have v1 := hxg g.offset x xs'[g.offset] hx1 (by simp [e1])
              have v2 := hyg g.offset y ys'[g.offset] hy1 (by simp [e2])
              simp only [Op.eqFields, if_pos hne, Sem.run_bind, p1, p2, Result.andThen_ok]
              cases hq : keyEq d x y with
              | none => rw [hq] at hb; cases hb
              | some q =>
                rw [hq] at hb
                rw [scalar_equal hd hs v1 v2 hq n w]
                cases q with
                | true => simp only [Result.andThen_ok, Bool.not_true, Bool.false_eq_true, if_false]; exact ih hr hb
                | false =>
                  simp only [Option.some.injEq] at hb
                  subst hb
                  simp
        · cases hb

/-- Two keys: the interpreter's answer is the model's. -/
theorem kind_equal {t : TypeId} {d : KKind} (hd : keyKind P t = some d) {k k' x x' : Value} {b : Bool} (hk : VRel σ k k') (hx : VRel σ x x') (h : kindEq d k x = some b) (w : World) : (Op.equal t k' x').run P w = .ok b w := by
  unfold keyKind at hd
  unfold Op.equal
  split at hd
  · rename_i fs hu
    cases hp : P.stoodInHeld t with
    | true => rw [hp] at hd; cases hd
    | false =>
      rw [hp] at hd
      simp only [cond_false, Option.map_eq_some_iff] at hd
      obtain ⟨l, hl, rfl⟩ := hd
      cases hk <;> first | (simp only [kindEq] at h; cases h; done) | skip
      cases hx <;> first | (simp only [kindEq] at h; cases h; done) | skip
      rename_i xs xs' h1 h2 ys ys' h3 h4
      simp only [kindEq] at h
      have hf : P.fieldsOf t = fs := by simp [Program.fieldsOf, hu]
      rw [show Op.maxDepth = 9999 + 1 from rfl, run_equalIn_struct (P := P) w 9999 t xs' ys' (by rw [hf]; exact hu) hp, hf]
      exact eqFields_rel (.agg _ _ h1 h2) (.agg _ _ h3 h4) 9998 w hl h
  · rename_i dd _ hu
    cases hs : scalarKey dd with
    | false => rw [hs] at hd; cases hd
    | true =>
      rw [hs] at hd
      cases hd
      exact scalar_equal hu hs hk hx h 9999 w
  · cases hd

theorem kind_check_at (m q : Nat) (hq : q = m + 1) {t : TypeId} {d : KKind} (hd : keyKind P t = some d) {k k' : Value} (hk : VRel σ k k') (h : kindOk d k = true) (b : Bool) (w : World) : (Instr.checkKey b (q + 1) t k').run P w = .ok () w := by
  unfold keyKind at hd
  split at hd
  · rename_i fs hu
    cases hp : P.stoodInHeld t with
    | true => rw [hp] at hd; cases hd
    | false =>
      rw [hp] at hd
      simp only [cond_false, Option.map_eq_some_iff] at hd
      obtain ⟨l, hl, rfl⟩ := hd
      cases hk <;> first | (simp only [kindOk] at h; cases h; done) | skip
      rename_i xs xs' h1 h2
      simp only [kindOk, List.all_eq_true] at h
      have hat := fields_at hl
      simp only [Instr.checkKey, Sem.run_bind, run_underlying hu, Result.andThen_ok]
      rw [← Array.forIn_toList]
      generalize hfs : fs.toList = gs at hat
      clear hl hu hfs
      induction gs with
      | nil => simp
      | cons g gs ih =>
        obtain ⟨hne, d, hd, hs, hm⟩ := hat g List.mem_cons_self
        have e1 : g.offset < xs'.size := by rw [← h1]; exact Nat.le_of_ble_eq_true (h _ hm)
        have p1 := part_scalar (P := P) hd hs (cs := xs') (o := g.offset) (v := xs'[g.offset]) (by simp [e1]) w
        have p2 := checkKey_scalar (P := P) hd hs b m xs'[g.offset] w
        rw [← hq] at p2
        simp only [List.forIn_cons, Sem.run_bind, Sem.run_ite, if_pos hne, p1, p2, Result.andThen_ok, Sem.run_pure]
        exact ih fun f hf => hat f (List.mem_cons_of_mem _ hf)
  · rename_i dd _ hu
    cases hs : scalarKey dd with
    | false => rw [hs] at hd; cases hd
    | true => exact checkKey_scalar hu hs b q k' w
  · cases hd
theorem kind_check {t : TypeId} {d : KKind} (hd : keyKind P t = some d) {k k' : Value} (hk : VRel σ k k') (h : kindOk d k = true) (b : Bool) (w : World) : (Instr.checkKey b 10000 t k').run P w = .ok () w := kind_check_at 9998 9999 rfl hd hk h b w
theorem ERel.cons_inv {e : MapEntry} {es es' : List MapEntry} (h : ERel σ (e :: es) es') : ∃ e' r, es' = e' :: r ∧ (e.born = e'.born ∧ VRel σ e.key e'.key ∧ VRel σ e.val e'.val) ∧ ERel σ es r := by
  cases es' with
  | nil => have := h.len; simp at this
  | cons e' r => exact ⟨e', r, rfl, h.get 0 e e' rfl rfl, ⟨by have := h.len; simpa using this, fun i a b ha hb => h.get (i + 1) a b (by simpa using ha) (by simpa using hb)⟩⟩

/-- What is found: the same place, alike values. -/
def Found (σ : Sg) (f f' : Option (Nat × Value)) : Prop := f = none ∧ f' = none ∨ ∃ v i v', f = some (i, v) ∧ f' = some (i, v') ∧ VRel σ v v'
theorem findNow_rel {d : TypeDesc} {k k' : Value} (hk : VRel σ k k') : ∀ {es es' : List MapEntry} {f : Option (Nat × Value)} {n : Nat}, findA (.one d) k es n = some f → ERel σ es es' → ∃ f', Instr.findNow d k' es' n = some f' ∧ Found σ f f' := by
  intro es
  induction es with
  | nil =>
    intro es' f n h he
    simp only [findA, Option.some.injEq] at h
    subst h
    have : es' = [] := List.eq_nil_of_length_eq_zero (by have := he.len; simpa using this.symm)
    subst this
    exact ⟨none, rfl, .inl ⟨rfl, rfl⟩⟩
  | cons e es ih =>
    intro es' f n h he
    obtain ⟨e', r, rfl, ⟨_, h2, h3⟩, hr⟩ := he.cons_inv
    simp only [findA, kindEq] at h
    cases hq : keyEq d k e.key with
    | none => rw [hq] at h; cases h
    | some b =>
      rw [hq] at h
      have hs := keyEq_rel hk h2 hq
      cases b with
      | true =>
        simp only [Option.some.injEq] at h
        subst h
        exact ⟨some (n, e'.val), by simp [Instr.findNow, hs], .inr ⟨_, _, _, rfl, rfl, h3⟩⟩
      | false =>
        obtain ⟨f', h4, h5⟩ := ih h hr
        exact ⟨f', by simp only [Instr.findNow, hs]; exact h4, h5⟩
theorem findAsk_rel {t : TypeId} {d : KKind} (hd : keyKind P t = some d) {k k' : Value} (hk : VRel σ k k') (w : World) : ∀ {es es' : List MapEntry} {f : Option (Nat × Value)} {n : Nat}, findA d k es n = some f → ERel σ es es' → ∃ f', (Instr.findAsking t k' es' n).run P w = .ok f' w ∧ Found σ f f' := by
  intro es
  induction es with
  | nil =>
    intro es' f n h he
    simp only [findA, Option.some.injEq] at h
    subst h
    have : es' = [] := List.eq_nil_of_length_eq_zero (by have := he.len; simpa using this.symm)
    subst this
    exact ⟨none, by simp [Instr.findAsking], .inl ⟨rfl, rfl⟩⟩
  | cons e es ih =>
    intro es' f n h he
    obtain ⟨e', r, rfl, ⟨_, h2, h3⟩, hr⟩ := he.cons_inv
    simp only [findA] at h
    cases hq : kindEq d k e.key with
    | none => rw [hq] at h; cases h
    | some b =>
      rw [hq] at h
      have hs := kind_equal hd hk h2 hq w
      cases b with
      | true =>
        simp only [Option.some.injEq] at h
        subst h
        exact ⟨some (n, e'.val), by simp [Instr.findAsking, hs], .inr ⟨_, _, _, rfl, rfl, h3⟩⟩
      | false =>
        obtain ⟨f', h4, h5⟩ := ih h hr
        exact ⟨f', by simp only [Instr.findAsking, Sem.run_bind, hs, Result.andThen_ok, Bool.false_eq_true, if_false]; exact h4, h5⟩
theorem findK_rel {t : TypeId} {d : KKind} (hd : keyKind P t = some d) {k k' : Value} (hk : VRel σ k k') {es es' : List MapEntry} {f : Option (Nat × Value)} (h : findK d k es = some f) (he : ERel σ es es') (w : World) :
    kindOk d k = true ∧ ∃ f', (Instr.findKey t k' es').run P w = .ok f' w ∧ Found σ f f' := by
  unfold findK at h
  cases hb : kindOk d k with
  | false => rw [hb] at h; cases h
  | true =>
    rw [hb] at h
    simp only [cond_true] at h
    refine ⟨rfl, ?_⟩
    have hd' := hd
    unfold keyKind at hd
    split at hd
    · rename_i fs hu
      obtain ⟨f', h1, h2⟩ := findAsk_rel hd' hk w h he
      refine ⟨f', ?_, h2⟩
      cases es' with
      | nil =>
        have : f' = none := by simpa [Instr.findAsking] using h1.symm
        subst this
        simp [Instr.findKey, run_underlying hu, Instr.findNow]
      | cons e es' => simp [Instr.findKey, run_underlying hu, Instr.findNow, Instr.sameNow, h1]
    · rename_i dd _ hu
      cases hs : scalarKey dd with
      | false => rw [hs] at hd; cases hd
      | true =>
        rw [hs] at hd
        cases hd
        obtain ⟨f', h1, h2⟩ := findNow_rel hk h he
        exact ⟨f', by simp [Instr.findKey, run_underlying hu, h1], h2⟩
    · cases hd
end
end Go.Ab
