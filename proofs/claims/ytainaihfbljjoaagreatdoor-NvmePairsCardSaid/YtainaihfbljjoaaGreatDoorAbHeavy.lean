/- The operations that write. -/
import Derived.Test.YtainaihfbljjoaaGreatDoorAbMake
set_option linter.all false
set_option linter.unusedSectionVars false
set_option linter.unusedVariables false
set_option linter.unusedSimpArgs false
namespace Go.Ab
open Go Go.RowKit
variable [Unk]
section
variable {P : Program} {σ : Sg} {A : H} {w : World}

theorem oneCell_rel {v v' : Value} (h : VRel σ v v') (h1 : oneCell v = true) : v'.oneCell' = true := by
  cases h <;> first | rfl | (simp [oneCell] at h1; done) | (rename_i i; have := Unk.one i; cases hv : Unk.val i <;> first | rfl | (rw [hv] at this; cases this))
theorem setCells_heap (b : Nat) (e : TypeId) (fz : Nat × Nat) : ∀ (vs : List Value) (o : Nat) (cur : Array Value) (w : World), w.heap[b]? = some (.cells cur e fz) → o + vs.length ≤ cur.size →
    (∃ cur' : Array Value, (w.setCells b o vs).heap[b]? = some (.cells cur' e fz) ∧ cur'.toList = cur.toList.take o ++ vs ++ cur.toList.drop (o + vs.length)) ∧ (∀ k, k ≠ b → (w.setCells b o vs).heap[k]? = w.heap[k]?) ∧
    (w.setCells b o vs).heap.size = w.heap.size ∧ (w.setCells b o vs).os = w.os ∧ (w.setCells b o vs).tape = w.tape ∧ (w.setCells b o vs).output = w.output := by
  intro vs
  induction vs with
  | nil => intro o cur w h _; exact ⟨⟨cur, h, by simp⟩, fun k _ => rfl, rfl, rfl, rfl, rfl⟩
  | cons v vs ih =>
    intro o cur w h hl
    simp only [List.length_cons] at hl
    have hb : (w.setCell ⟨b, o, none⟩ v).heap[b]? = some (.cells (cur.setIfInBounds o v) e fz) := by
      simp [World.setCell, Array.getElem?_modify, h]
    obtain ⟨⟨cur', h1, h2⟩, h3, h4, h5, h6, h7⟩ := ih (o + 1) (cur.setIfInBounds o v) (w.setCell ⟨b, o, none⟩ v) hb (by simp; omega)
    refine ⟨⟨cur', h1, ?_⟩, fun k hk => (h3 k hk).trans ?_, h4.trans (by simp [World.setCell]), h5, h6, h7⟩
    · rw [h2]
      simp only [Array.toList_setIfInBounds]
      have e1 : (cur.toList.set o v).take (o + 1) = cur.toList.take o ++ [v] := by
        rw [List.take_add_one, List.take_set_of_le (Nat.le_refl _), List.getElem?_set_self (by simp; omega)]
        rfl
      have e2 : (cur.toList.set o v).drop (o + 1 + vs.length) = cur.toList.drop (o + (vs.length + 1)) := by
        rw [List.drop_set_of_lt (by omega)]; congr 1; omega
      rw [e1, e2]
      simp
    · simp [World.setCell, Array.getElem?_modify]
      intro e; exact absurd e.symm hk

/-- Cells are written into a block of one's own. -/
theorem store_rel (hr : Rel P σ A w) {id off : Nat} {p : Pl} {vs vs' : List Value} {A' : H} (hs : σ id = some p) (h : storeA A ⟨id, off, none⟩ vs = some A') (hv : LRel σ vs vs') :
    ∃ w', (storeCells ⟨p.b, p.sh + off, none⟩ vs').run P w = .ok () w' ∧ Rel P σ A' w' ∧ Fr σ A w σ A' w' := by
  unfold storeA at h
  simp only at h
  cases hg : A.get id with
  | none => simp [hg] at h
  | some o =>
    cases o with
    | cells ro e c =>
      cases ro with
      | true => simp [hg] at h
      | false =>
        simp only [hg] at h
        cases hone : vs.all oneCell with
        | false => rw [hone] at h; cases h
        | true =>
          rw [hone] at h
          simp only [cond_true, Option.map_eq_some_iff] at h
          obtain ⟨c', hc', rfl⟩ := h
          obtain ⟨cur, e', fz, h1, h2, h3, h4, h5, h6⟩ := hr.obj id _ p hg hs
          have hun := (h6 rfl).1
          have hee := (h6 rfl).2
          unfold over at hc'
          cases hb : Nat.ble (off + vs.length) c.length with
          | false => rw [hb] at hc'; cases hc'
          | true =>
            rw [hb] at hc'
            cases hc'
            have hle := Nat.le_of_ble_eq_true hb
            have hlen := hv.len
            have hrun := run_storeCells_cells (P := P) p.b (p.sh + off) vs' 0 w
              (fun j hj => by
                have : p.sh + off + j < cur.size := by omega
                simp [World.cell?, h1, this])
              (fun j hj => by
                have : p.sh + off + j < cur.size := by omega
                have := hun _ this
                simp only [World.frozen?, h1, Nat.add_zero]
                simpa using this)
              (fun v hv' => by
                obtain ⟨i, hi, rfl⟩ := List.mem_iff_getElem.1 hv'
                have hi' : i < vs.length := by omega
                exact oneCell_rel (hv.get i _ _ (List.getElem?_eq_getElem hi') (List.getElem?_eq_getElem hi)) (by rw [List.all_eq_true] at hone; exact hone _ (List.getElem_mem hi')))
            obtain ⟨⟨cur', k1, k2⟩, k3, k4, k5, k6, k7⟩ := setCells_heap p.b e' fz vs' (p.sh + off) cur w h1 (by omega)
            have hsz : cur'.size = cur.size := by
              have := congrArg List.length k2
              simp at this
              omega
            refine ⟨w.setCells p.b (p.sh + off) vs', by simpa using hrun, Rel.change hr hg hs rfl rfl k4 k3 ?_, Fr.change hr hg hs rfl k4 k3 k5 k6 k7⟩
            refine ⟨cur', e', fz, k1, by simp [hsz]; omega, fun i v v' ha hb' => ?_, h4, by rw [hsz]; exact h5, fun _ => ⟨by rw [hsz]; exact hun, hee.1, hee.2⟩⟩
            rw [← Array.getElem?_toList, k2] at hb'
            by_cases c1 : i < off
            · rw [List.append_assoc, List.getElem?_append_left (by simp; omega), List.getElem?_take, if_pos c1] at ha
              rw [List.append_assoc, List.getElem?_append_left (by simp; omega), List.getElem?_take, if_pos (by omega), Array.getElem?_toList] at hb'
              exact h3 i v v' ha hb'
            · by_cases c2 : i < off + vs.length
              · rw [List.append_assoc, List.getElem?_append_right (by simp; omega), List.getElem?_append_left (by simp; omega)] at ha
                rw [List.append_assoc, List.getElem?_append_right (by simp; omega), List.getElem?_append_left (by simp; omega)] at hb'
                refine hv.get _ v v' ha ?_
                rw [← hb']
                congr 1
                simp
                omega
              · rw [List.getElem?_append_right (by simp; omega), List.getElem?_drop] at ha
                rw [List.getElem?_append_right (by simp; omega), List.getElem?_drop, Array.getElem?_toList] at hb'
                have q1 : off + vs.length + (i - (c.take off ++ vs).length) = i := by simp; omega
                have q2 : p.sh + off + vs'.length + (p.sh + i - (cur.toList.take (p.sh + off) ++ vs').length) = p.sh + i := by simp; omega
                rw [q1] at ha
                rw [q2] at hb'
                exact h3 i v v' ha hb'
    | map es c => simp [hg] at h
    | iter s q => simp [hg] at h

/-- What is appended or copied. -/
theorem source_rel (hr : Rel P σ A w) {size n k : Nat} {x x' : Value} {new : List Value} (hx : VRel σ x x') (hn : lenV x = some n) (hk : k ≤ n) (h : sourceA A size k x = some new) :
    (Builtin.lenOf x').run P w = .ok n w ∧ new.length = k * size ∧ ∃ new', LRel σ new new' ∧ ∀ w1 : World, (∀ a, w1.cell? a = w.cell? a) → (Builtin.firstCells size k x').run P w1 = .ok new'.toArray w1 := by
  cases hx with
  | string s =>
    simp only [lenV, Option.some.injEq] at hn
    simp only [sourceA] at h
    subst hn
    cases hb : (Nat.beq size 1 && Nat.ble k (bytesOf s).length) with
    | false => rw [hb] at h; cases h
    | true =>
    rw [hb] at h
    cases h
    rw [Bool.and_eq_true] at hb
    have h1 := Nat.eq_of_beq_eq_true hb.1
    refine ⟨by simp [Builtin.lenOf, size_eq], by rw [h1]; simp; omega, ((bytesOf s).take k).map byteV, LRel.map _ _ _ fun x _ => .int _ _, fun w1 _ => ?_⟩
    simp only [Builtin.firstCells, Sem.run_pure]
    congr 1
    apply Array.ext'
    simp [bytesOf, byteV, ByteArray.data_extract, List.extract_eq_take_drop]
    rfl
  | rope k0 l m s hs =>
    simp only [lenV, Option.some.injEq] at hn
    simp only [sourceA] at h
    subst hn
    cases hb : (Nat.beq size 1 && Nat.ble k l) with
    | false => rw [hb] at h; cases h
    | true =>
    rw [hb] at h
    cases h
    rw [Bool.and_eq_true] at hb
    have h1 := Nat.eq_of_beq_eq_true hb.1
    have hl := hs.len
    rw [decR_len] at hl
    refine ⟨by simp [Builtin.lenOf, size_eq, hl], by rw [h1]; simp [decR_len]; omega, ((bytesOf s).take k).map byteV, (hs.take k).lrel, fun w1 _ => ?_⟩
    simp only [Builtin.firstCells, Sem.run_pure]
    congr 1
    apply Array.ext'
    simp [bytesOf, byteV, ByteArray.data_extract, List.extract_eq_take_drop]
    rfl
  | sliceNil l c =>
    simp only [lenV, Option.some.injEq] at hn
    simp only [sourceA] at h
    subst hn
    cases hb : Nat.beq k 0 with
    | false => rw [hb] at h; cases h
    | true =>
    rw [hb] at h
    cases h
    have := Nat.eq_of_beq_eq_true hb
    exact ⟨by simp [Builtin.lenOf], by simp [this], [], .nil, fun w1 _ => by simp [Builtin.firstCells]⟩
  | @slice id p off l c c' hs hcc =>
    simp only [lenV, Option.some.injEq] at hn
    simp only [sourceA] at h
    subst hn
    obtain ⟨l', h1, h2, h3⟩ := load_rel hr hs h
    refine ⟨by simp [Builtin.lenOf], by rw [h1.len, h2], l', h1, fun w1 hw1 => ?_⟩
    simp only [Builtin.firstCells]
    exact run_loadCells_of h2 fun j v' hj => by rw [hw1]; exact h3 j v' hj
  | sliceEnd off b o hs =>
    simp only [lenV, Option.some.injEq] at hn
    subst hn
    have : k = 0 := by omega
    subst this
    simp only [sourceA, Nat.zero_mul] at h
    obtain ⟨l', h1, h2, h3⟩ := load_rel hr hs h
    have : l' = [] := List.eq_nil_of_length_eq_zero h2
    subst this
    exact ⟨by simp [Builtin.lenOf], by rw [h1.len]; simp, [], h1, fun w1 _ => by simp [Builtin.firstCells, loadCells, loadCellsFrom]⟩
  | _ => simp [lenV] at hn

/-- A block's cells, and others behind them, stand somewhere: the old block is given up. -/
theorem Rel.move {w' : World} {id : Nat} {o : AObj} {p : Pl} {e : TypeId} {c : List Value} (h : Rel P σ A w) (ha : A.get id = some o) (hs : σ id = some p) (hown : o.own = true) {q : Pl} (hq : q.b = p.b)
    (hw : w'.heap.size = w.heap.size) (hold : ∀ k, k ≠ p.b → w'.heap[k]? = w.heap[k]?) (ho : ORel P (σ.add A.next q) w' q (.cells false e c)) : Rel P (σ.add A.next q) ((A.drop id).push (.cells false e c)) w' := by
  have hn := (h.dom A.next (Nat.le_refl _)).2
  have hl := Sg.le_add q hn
  refine ⟨fun g hg => ?_, fun i x r hx hr => ?_, fun i j r s x y hij hx hy hr hs' hox => ?_, fun i r hr => ?_, fun i hi => ?_⟩
  · obtain ⟨r, h1, h2⟩ := h.glob g hg
    exact ⟨r, hl _ _ h1, h2⟩
  · rw [H.get_push, H.next_drop] at hx
    by_cases e1 : i = A.next
    · subst e1
      rw [if_pos rfl] at hx
      rw [Sg.add_same] at hr
      cases hx; cases hr
      exact ho
    · rw [if_neg e1, H.get_drop] at hx
      rw [Sg.add_other q e1] at hr
      by_cases e2 : i = id
      · rw [if_pos e2] at hx; cases hx
      · rw [if_neg e2] at hx
        exact (h.obj i x r hx hr).keep hl (hold _ fun e3 => h.inj id i p r o x (fun e4 => e2 e4.symm) ha hx hs hr hown e3.symm)
  · rw [H.get_push, H.next_drop] at hx hy
    by_cases e1 : i = A.next
    · subst e1
      have e2 : j ≠ A.next := fun e2 => hij e2.symm
      rw [if_neg e2, H.get_drop] at hy
      rw [Sg.add_same] at hr
      rw [Sg.add_other q e2] at hs'
      cases hr
      by_cases e3 : j = id
      · rw [if_pos e3] at hy; cases hy
      · rw [if_neg e3] at hy
        rw [hq]
        exact h.inj id j p s o y (fun e4 => e3 e4.symm) ha hy hs hs' hown
    · rw [if_neg e1, H.get_drop] at hx
      rw [Sg.add_other q e1] at hr
      by_cases e2 : i = id
      · rw [if_pos e2] at hx; cases hx
      · rw [if_neg e2] at hx
        by_cases e3 : j = A.next
        · subst e3
          rw [Sg.add_same] at hs'
          cases hs'
          rw [hq]
          exact h.inj i id r p x o e2 hx ha hr hs hox
        · rw [if_neg e3, H.get_drop] at hy
          rw [Sg.add_other q e3] at hs'
          by_cases e4 : j = id
          · rw [if_pos e4] at hy; cases hy
          · rw [if_neg e4] at hy
            exact h.inj i j r s x y hij hx hy hr hs' hox
  · rw [hw]
    by_cases e1 : i = A.next
    · subst e1; rw [Sg.add_same] at hr; cases hr; rw [hq]; exact h.lt id p hs
    · rw [Sg.add_other q e1] at hr; exact h.lt i r hr
  · rw [H.next_push, H.next_drop] at hi
    have := h.dom i (by omega)
    rw [H.get_push, H.next_drop, if_neg (by omega), H.get_drop, Sg.add_other q (by omega)]
    by_cases e2 : i = id
    · rw [if_pos e2]; exact ⟨rfl, this.2⟩
    · rw [if_neg e2]; exact this
theorem Fr.move {w' : World} {id : Nat} {o : AObj} {p : Pl} {e : TypeId} {c : List Value} (h : Rel P σ A w) (ha : A.get id = some o) (hs : σ id = some p) (hown : o.own = true) {q : Pl} (hq : q.b = p.b)
    (hw : w'.heap.size = w.heap.size) (hold : ∀ k, k ≠ p.b → w'.heap[k]? = w.heap[k]?) (h1 : w'.os = w.os) (h2 : w'.tape = w.tape) (h3 : w'.output = w.output) : Fr σ A w (σ.add A.next q) ((A.drop id).push (.cells false e c)) w' := by
  have hn := (h.dom A.next (Nat.le_refl _)).2
  refine ⟨Sg.le_add q hn, h1, h2, h3, by omega, fun b _ hb => hold b (fun e1 => hb ⟨id, p, o, hs, e1.symm, ha, hown⟩), fun b hb => ?_, by rw [H.next_push, H.next_drop]; omega, fun i hi hs' => ?_⟩
  · obtain ⟨i, r, x, hr, hrb, hg, hx⟩ := hb
    rw [H.get_push, H.next_drop] at hg
    by_cases e1 : i = A.next
    · subst e1
      rw [Sg.add_same] at hr
      cases hr
      exact .inl ⟨id, p, o, hs, by rw [← hrb, hq], ha, hown⟩
    · rw [if_neg e1, H.get_drop] at hg
      rw [Sg.add_other q e1] at hr
      by_cases e2 : i = id
      · rw [if_pos e2] at hg; cases hg
      · rw [if_neg e2] at hg; exact .inl ⟨i, r, x, hr, hrb, hg, hx⟩
  · rw [Sg.add_other q (by omega), H.get_push, H.next_drop, if_neg (by omega), H.get_drop, if_neg (by intro e2; subst e2; rw [hs] at hs'; cases hs')]
    exact ⟨hs', rfl⟩
theorem Fr.push_drop {σ' : Sg} {A' : H} {w' : World} {id : Nat} {p : Pl} (hs : σ id = some p) (h : Fr σ (A.drop id) w σ' A' w') : Fr σ A w σ' A' w' := by
  refine ⟨h.ext, h.os, h.tape, h.output, h.size, fun b hb hn => h.frame b hb (fun ⟨i, r, x, hr, hrb, hg, hx⟩ => hn ?_), fun b hb => ?_, h.next, fun i hi hs' => ?_⟩
  · rw [H.get_drop] at hg
    split at hg
    · cases hg
    · exact ⟨i, r, x, hr, hrb, hg, hx⟩
  · rcases h.owned b hb with ⟨i, r, x, hr, hrb, hg, hx⟩ | h1
    · rw [H.get_drop] at hg
      split at hg
      · cases hg
      · exact .inl ⟨i, r, x, hr, hrb, hg, hx⟩
    · exact .inr h1
  · obtain ⟨h1, h2⟩ := h.unm i hi hs'
    refine ⟨h1, ?_⟩
    rw [h2, H.get_drop, if_neg (by intro e; subst e; rw [hs] at hs'; cases hs')]

/-- What a heavy operation comes to. -/
structure Does (P : Program) (σ : Sg) (A : H) (w : World) (s : Sem Next) (v : Value) (A' : H) : Prop where
  out : ∃ n v' w' σ', s.run P w = .ok n w' ∧ (n = .value v' ∨ (n = .skip ∧ v' = undef)) ∧ VRel σ' v v' ∧ Rel P σ' A' w' ∧ Fr σ A w σ' A' w'

/-- A slice grows into new memory. -/
theorem grown_rel (hr : Rel P σ A w) {e : TypeId} {i : TypeInfo} {z : Value} (hi : P.info? e = some i) (hz : i.zero = some z) {old new old' new' : List Value} (ho : LRel σ old old') (hn : LRel σ new new') (need cap : Nat) (hcap : need ≤ cap)
    (hl : (old ++ new).length = need * i.size) (hzs : z.cells.size = i.size) : ∃ q : Pl, q.b = w.heap.size ∧
    Rel P (σ.add A.next q) (A.push (.cells false e (old ++ new))) (w.drew.alloc (.cells (old'.toArray ++ new'.toArray ++ Builtin.zeroCells z.cells (cap - need)) e)) ∧
    Fr σ A w (σ.add A.next q) (A.push (.cells false e (old ++ new))) (w.drew.alloc (.cells (old'.toArray ++ new'.toArray ++ Builtin.zeroCells z.cells (cap - need)) e)) ∧
    VRel (σ.add A.next q) (.slice (some ⟨A.next, 0, none⟩) need need) (.slice (some ⟨w.heap.size, 0, none⟩) need cap) := by
  have hlen := (ho.append hn).len
  have hcs : (old'.toArray ++ new'.toArray ++ Builtin.zeroCells z.cells (cap - need)).size = cap * i.size := by
    simp only [List.length_append] at hl hlen
    simp only [Array.size_append, List.size_toArray, size_zeroCells, hzs]
    have : cap * i.size = need * i.size + (cap - need) * i.size := by rw [← Nat.add_mul]; congr 1; omega
    omega
  refine ⟨⟨w.heap.size, 0, i.size, cap * i.size⟩, rfl, Rel.place hr.drew (by simp) (fun k hk => Below.heap_alloc w.drew _ k hk) rfl ?_ rfl, Fr.of_drew (Fr.place hr.drew (by simp) (fun k hk => Below.heap_alloc w.drew _ k hk) rfl rfl rfl rfl), ?_⟩
  · refine ⟨_, e, (0, 0), heap_alloc_new w.drew _, ?_, fun j v v' ha hb => ?_, by simp [hi], hcs.symm, fun _ => ⟨fun o _ h => by simp at h, rfl, Nat.zero_mod _⟩⟩
    · rw [hcs, hl]; simp; exact Nat.mul_le_mul_right _ hcap
    · have hj : j < (old ++ new).length := (List.getElem?_eq_some_iff.1 ha).1
      refine ((ho.append hn).get j v v' ha ?_).mono (Sg.le_add _ ((hr.dom _ (Nat.le_refl _)).2))
      rw [← hb]
      simp only [Nat.zero_add]
      have ht : (old'.toArray ++ new'.toArray ++ Builtin.zeroCells z.cells (cap - need)).toList = (old' ++ new') ++ (Builtin.zeroCells z.cells (cap - need)).toList := by simp
      rw [← Array.getElem?_toList, ht]
      exact (List.getElem?_append_left (by omega)).symm
  · have := @VRel.slice _ (σ.add A.next ⟨w.heap.size, 0, i.size, cap * i.size⟩) A.next ⟨w.heap.size, 0, i.size, cap * i.size⟩ 0 need need cap (Sg.add_same _ _ _) (by
      by_cases hc : need = cap
      · exact .inl hc
      · exact .inr ⟨by omega, by simp⟩)
    simpa using this

theorem elem_info {e : TypeId} {n : Nat} (h : (P.info? e).map (·.size) = some n) : ∃ i, P.info? e = some i ∧ i.size = n := by
  cases hi : P.info? e with
  | none => simp [hi] at h
  | some i => simp [hi] at h; exact ⟨i, rfl, h⟩

theorem run_grows {t u ty e : TypeId} {i : TypeInfo} {z : Value} (ht : P.underlying t = some (.slice e)) (hu : (∃ e', P.underlying u = some (.slice e')) ∨ P.underlying u = some .string) (hi : P.info? e = some i) (hz : i.zero = some z)
    {base : Option Addr} {sLen c n : Nat} {x : Value} {old new : List Value} (hlen : ∀ w : World, (Builtin.lenOf x).run P w = .ok n w) (ho : (Builtin.firstCells i.size sLen (.slice base sLen c)).run P w.drew = .ok old.toArray w.drew)
    (hn : (Builtin.firstCells i.size n x).run P w.drew = .ok new.toArray w.drew) (hg : c < sLen + n) (h63 : sLen + n ≤ 9223372036854775807) (hb : (sLen + n) * i.bytes ≤ 140737488355328) :
    (Builtin.append_ #[t, u] ty #[.slice base sLen c, x]).run P w = .ok (.slice (some ⟨w.heap.size, 0, none⟩) (sLen + n) (grownCap w (sLen + n) c e))
      (w.drew.alloc (.cells (old.toArray ++ new.toArray ++ Builtin.zeroCells z.cells (grownCap w (sLen + n) c e - (sLen + n))) e)) := by
  have h1 : ¬ (sLen + n ≤ c) := by omega
  have h2 : ¬ (9223372036854775807 < ((sLen : Int) + (n : Int))) := by omega
  have h3 : ¬ (281474976710656 < Builtin.nextslicecap (sLen + n) c * i.bytes) := by have := growslice_fits (old := c) hg hb; omega
  rcases hu with ⟨e', hu⟩ | hu
  all_goals
    simp [Builtin.append_, run_underlying ht, run_underlying hu, sizeOf, typeInfo, zeroValue, hi, hz, hlen, h1, h2, h3, Question.forced, ho, hn, newRow, grownCap]
    congr 2
    apply Array.ext'
    simp [List.append_assoc]
theorem run_inplace {t u ty e : TypeId} {i : TypeInfo} (ht : P.underlying t = some (.slice e)) (hu : (∃ e', P.underlying u = some (.slice e')) ∨ P.underlying u = some .string) (hi : P.info? e = some i)
    {base : Option Addr} {sLen c n : Nat} {x : Value} {new : List Value} {w' : World} (hlen : (Builtin.lenOf x).run P w = .ok n w) (hn : (Builtin.firstCells i.size n x).run P w = .ok new.toArray w) (hg : sLen + n ≤ c)
    (hst : (∀ a, base = some a → (storeCells (a.add (sLen * i.size)) new).run P w = .ok () w') ∧ (base = none → w' = w)) :
    (Builtin.append_ #[t, u] ty #[.slice base sLen c, x]).run P w = .ok (.slice base (sLen + n) c) w' := by
  rcases hu with ⟨e', hu⟩ | hu
  all_goals
    cases base with
    | none =>
      have := hst.2 rfl
      subst this
      simp [Builtin.append_, run_underlying ht, run_underlying hu, sizeOf, typeInfo, hi, hlen, hg, hn]
    | some a =>
      have := hst.1 a rfl
      simp [Builtin.append_, run_underlying ht, run_underlying hu, sizeOf, typeInfo, hi, hlen, hg, hn, this]

theorem append_rel (hr : Rel P σ A w) {t u ty e : TypeId} {i : TypeInfo} {z : List Value} (ht : P.underlying t = some (.slice e)) (hu : (∃ e', P.underlying u = some (.slice e')) ∨ P.underlying u = some .string) (hi : P.info? e = some i)
    (hz : zeroA P e = some z) {s s' x x' v : Value} {A' : H} (hs : VRel σ s s') (hx : VRel σ x x') (h : appendA A e i.size i.bytes s x = some (v, A')) :
    ∃ v' w' σ', (Builtin.append_ #[t, u] ty #[s', x']).run P w = .ok v' w' ∧ VRel σ' v v' ∧ Rel P σ' A' w' ∧ Fr σ A w σ' A' w' := by
  obtain ⟨zv, zi, hi', hz', hzr, hzc, _, hzz, hzsz⟩ := run_zero (P := P) (σ := σ) hz w
  rw [hi] at hi'
  cases hi'
  have hsz : sizeA P e = some i.size := by simp [sizeA, hi]
  have hzeros : ∀ w1 : World, ((do pure ((← underlying u) matches .int _) : Sem Bool)).run P w1 = .ok false w1 := by
    intro w1
    rcases hu with ⟨e', hu⟩ | hu <;> simp [run_underlying hu]
  unfold appendA at h
  split at h
  case h_2 => cases h
  rename_i base sLen sCap
  simp only [Option.bind_eq_some_iff] at h
  obtain ⟨n, hn, new, hnew, h⟩ := h
  obtain ⟨hlen, hnewl, new', hnr, hfirst⟩ := source_rel (P := P) hr hx hn (Nat.le_refl n) hnew
  have hlenw : ∀ w1 : World, (Builtin.lenOf x').run P w1 = .ok n w1 := by
    intro w1
    cases hx <;> simp only [lenV, Option.some.injEq] at hn <;> (try (cases hn; done)) <;> subst hn <;> first | (simp [Builtin.lenOf, size_eq]; done) | (rename_i hs; have hl := hs.len; rw [decR_len] at hl; simp [Builtin.lenOf, size_eq, hl])
  cases hle : Nat.ble (sLen + n) sCap with
  | true =>
    have hle' := Nat.le_of_ble_eq_true hle
    rw [hle] at h
    simp only [cond_true] at h
    cases hs with
    | sliceNil =>
      simp only [Option.some.injEq, Prod.mk.injEq] at h
      obtain ⟨rfl, rfl⟩ := h
      exact ⟨_, w, σ, run_inplace ht hu hi hlen (hfirst w fun _ => rfl) hle' ⟨(fun a ha => by cases ha), fun _ => rfl⟩, .sliceNil _ _, hr, Fr.refl _ _ _⟩
    | @slice id p off _ _ c' hs' hcc =>
      simp only [Option.map_eq_some_iff] at h
      obtain ⟨A1, hA1, he⟩ := h
      cases he
      rw [Addr.add_none] at hA1
      obtain ⟨w', h1, h2, h3⟩ := store_rel (P := P) hr hs' hA1 hnr
      have hcc' : sCap ≤ c' := by rcases hcc with h | ⟨h, _⟩ <;> omega
      refine ⟨_, w', σ, run_inplace ht hu hi hlen (hfirst w fun _ => rfl) (by omega) ⟨fun a ha => ?_, fun ha => by cases ha⟩, .slice off _ _ _ hs' hcc, h2, h3⟩
      cases ha
      rw [Addr.add_none, Nat.add_assoc]
      exact h1
    | @sliceEnd id p off b o hs' =>
      simp only [Option.map_eq_some_iff] at h
      obtain ⟨A1, hA1, he⟩ := h
      cases he
      have hn0 : n = 0 := by omega
      subst hn0
      rw [Addr.add_none] at hA1
      obtain ⟨w', h1, h2, h3⟩ := store_rel (P := P) hr hs' hA1 hnr
      have hnl : new.length = 0 := by rw [hnewl]; simp
      have hw : w' = w := by
        have : new' = [] := List.eq_nil_of_length_eq_zero (by rw [← hnr.len]; exact hnl)
        subst this
        simp [storeCells] at h1
        exact h1.symm
      subst hw
      refine ⟨_, w', σ, run_inplace (w' := w') ht hu hi hlen (hfirst w' fun _ => rfl) (by omega) ⟨fun a ha => ?_, fun ha => by cases ha⟩, .sliceEnd off b o hs', h2, h3⟩
      have : new' = [] := List.eq_nil_of_length_eq_zero (by rw [← hnr.len]; exact hnl)
      subst this
      rfl
  | false =>
    have hgt : sCap < sLen + n := by
      rcases Nat.lt_or_ge sCap (sLen + n) with h1 | h1
      · exact h1
      · rw [Nat.ble_eq_true_of_le h1] at hle; cases hle
    rw [hle] at h
    simp only [cond_false] at h
    cases hb : (Nat.ble ((sLen + n) * i.bytes) 140737488355328 && Nat.ble (sLen + n) 9223372036854775807 && new.all oneCell) with
    | false => rw [hb] at h; cases h
    | true =>
      rw [hb] at h
      simp only [cond_true] at h
      rw [Bool.and_eq_true, Bool.and_eq_true] at hb
      obtain ⟨⟨hb1, hb2⟩, hone⟩ := hb
      have hb1 := Nat.le_of_ble_eq_true hb1
      have hb2 := Nat.le_of_ble_eq_true hb2
      cases hs with
      | sliceNil =>
        simp only at h
        cases hb3 : (Nat.beq sLen 0 && Nat.beq sCap 0) with
        | false => rw [hb3] at h; cases h
        | true =>
          rw [hb3] at h
          simp only [cond_true, Option.some.injEq, Prod.mk.injEq] at h
          obtain ⟨rfl, rfl⟩ := h
          rw [Bool.and_eq_true] at hb3
          have e1 := Nat.eq_of_beq_eq_true hb3.1
          have e2 := Nat.eq_of_beq_eq_true hb3.2
          subst e1; subst e2
          obtain ⟨q, _, k1, k2, k3⟩ := grown_rel hr hi hz' (LRel.nil) hnr (0 + n) (grownCap w (0 + n) 0 e) (grownCap_ge _ _ _ _) (by simp [hnewl]) hzsz
          have hrun := run_grows (P := P) (w := w) (ty := ty) (base := none) (old := []) ht hu hi hz' hlenw (by simp [Builtin.firstCells]) (hfirst w.drew fun _ => rfl) hgt (by omega) hb1
          simp only [Nat.zero_add, List.nil_append] at k1 k2 k3 hrun
          exact ⟨_, _, _, hrun, k3, k1, k2⟩
      | @slice id p off _ _ c' hs' hcc =>
        simp only at h
        cases hg : A.get id with
        | none => simp [hg] at h
        | some o =>
          cases o with
          | cells ro e0 c0 =>
            cases ro with
            | true => simp [hg] at h
            | false =>
              simp only [hg] at h
              cases hbe : (Nat.beq e0 e && Nat.beq (off % i.size) 0) with
              | false => rw [hbe] at h; cases h
              | true =>
                have hbe2 := hbe
                rw [Bool.and_eq_true] at hbe2
                have hee := Nat.eq_of_beq_eq_true hbe2.1
                have hof := Nat.eq_of_beq_eq_true hbe2.2
                subst hee
                rw [hbe] at h
                simp only [cond_true, Option.map_eq_some_iff] at h
                obtain ⟨old, hold, he⟩ := h
                cases he
                obtain ⟨old', k1, k2, k3⟩ := load_rel hr hs' hold
                have hol : old.length = sLen * i.size := by rw [k1.len, k2]
                obtain ⟨cur, e', fz, q1, q2, q3, q4, q5, q6⟩ := hr.obj id _ p hg hs'
                have hesz : p.esz = i.size := by rw [hi] at q4; simpa using q4.symm
                by_cases hroom : sLen + n ≤ c'
                · -- there is room that the interpreter does not know of
                  have hh : p.sh + off + c' * p.esz ≤ p.tot := by rcases hcc with h1 | ⟨_, h1⟩ <;> omega
                  have hun := (q6 rfl).1
                  have hee := (q6 rfl).2
                  have hnl : new'.length = n * i.size := by rw [← hnr.len, hnewl]
                  have hbnd : p.sh + off + sLen * i.size + new'.length ≤ cur.size := by
                    rw [hnl, ← q5]
                    have : sLen * i.size + n * i.size = (sLen + n) * i.size := by rw [Nat.add_mul]
                    have h2 : (sLen + n) * i.size ≤ c' * i.size := Nat.mul_le_mul_right _ hroom
                    rw [hesz] at hh
                    omega
                  have hrun := run_storeCells_cells (P := P) p.b (p.sh + off + sLen * i.size) new' 0 w
                    (fun j hj => by
                      have : p.sh + off + sLen * i.size + j < cur.size := by omega
                      simp [World.cell?, q1, this])
                    (fun j hj => by
                      have h1 : p.sh + off + sLen * i.size + j < cur.size := by omega
                      have := hun _ h1
                      simp only [World.frozen?, q1, Nat.add_zero]
                      simpa using this)
                    (fun v hv' => by
                      obtain ⟨j, hj, rfl⟩ := List.mem_iff_getElem.1 hv'
                      have hj' : j < new.length := by rw [hnr.len]; exact hj
                      exact oneCell_rel (hnr.get j _ _ (List.getElem?_eq_getElem hj') (List.getElem?_eq_getElem hj)) (by rw [List.all_eq_true] at hone; exact hone _ (List.getElem_mem hj')))
                  obtain ⟨⟨cur', m1, m2⟩, m3, m4, m5, m6, m7⟩ := setCells_heap p.b e' fz new' (p.sh + off + sLen * i.size) cur w q1 hbnd
                  have hcs : cur'.size = cur.size := by
                    have := congrArg List.length m2
                    simp at this
                    omega
                  let q : Pl := ⟨p.b, p.sh + off, p.esz, p.tot⟩
                  refine ⟨.slice (some ⟨p.b, p.sh + off, none⟩) (sLen + n) c', w.setCells p.b (p.sh + off + sLen * i.size) new', σ.add A.next q, run_inplace ht hu hi hlen (hfirst w fun _ => rfl) hroom ⟨fun a ha => ?_, fun ha => by cases ha⟩, ?_, Rel.move hr hg hs' rfl rfl m4 m3 ?_, Fr.move hr hg hs' rfl rfl m4 m3 m5 m6 m7⟩
                  · cases ha
                    rw [Addr.add_none]
                    simpa using hrun
                  · have := @VRel.slice _ (σ.add A.next q) A.next q 0 (sLen + n) (sLen + n) c' (Sg.add_same _ _ _) (by
                      by_cases hq : sLen + n = c'
                      · exact .inl hq
                      · exact .inr ⟨by omega, by simpa [q] using hh⟩)
                    simpa [q] using this
                  · refine ⟨cur', e', fz, m1, ?_, fun j v v' ha hb' => ?_, by simpa [q] using q4, by rw [hcs]; exact q5, fun _ => ⟨by rw [hcs]; exact hun, hee.1, by have h0 := hee.2; simp only [q]; rw [hesz] at h0 ⊢; rw [Nat.add_mod, h0, hof]; simp⟩⟩
                    · rw [List.length_append, hol, hnewl, hcs]
                      simp only [q]
                      omega
                    · simp only [q] at hb'
                      rw [← Array.getElem?_toList, m2] at hb'
                      have hl := Sg.le_add (σ := σ) q ((hr.dom _ (Nat.le_refl _)).2)
                      refine VRel.mono hl ?_
                      by_cases c1 : j < old.length
                      · rw [List.getElem?_append_left c1] at ha
                        rw [List.append_assoc, List.getElem?_append_left (by simp; omega), List.getElem?_take, if_pos (by omega), Array.getElem?_toList] at hb'
                        have hj' : j < old'.length := by rw [← k1.len]; exact c1
                        have := k3 j _ (List.getElem?_eq_getElem hj')
                        rw [Addr.add_none] at this
                        simp only [World.cell?, q1, Option.isSome_none, Bool.false_eq_true, if_false] at this
                        rw [this] at hb'
                        cases hb'
                        exact k1.get j _ _ ha (List.getElem?_eq_getElem hj')
                      · rw [List.getElem?_append_right (by omega)] at ha
                        have hjn : j - old.length < new.length := (List.getElem?_eq_some_iff.1 ha).1
                        rw [List.append_assoc, List.getElem?_append_right (by simp; omega), List.getElem?_append_left (by simp; rw [← hnr.len]; omega)] at hb'
                        refine hnr.get _ _ _ ha ?_
                        rw [← hb']
                        congr 1
                        simp
                        omega
                · -- it grows
                  obtain ⟨q, _, g1, g2, g3⟩ := grown_rel (A := A.drop id) (hr.drop id) hi hz' k1 hnr (sLen + n) (grownCap w (sLen + n) c' e0) (grownCap_ge _ _ _ _) (by rw [List.length_append, hol, hnewl, Nat.add_mul]) hzsz
                  have hrun := run_grows (P := P) (w := w) (ty := ty) (base := some ⟨p.b, p.sh + off, none⟩) (c := c') ht hu hi hz' hlenw (by
                    simp only [Builtin.firstCells]
                    exact run_loadCells_of (w := w.drew) k2 fun j v' hj => k3 j v' hj) (hfirst w.drew fun _ => rfl) (by omega) (by omega) hb1
                  exact ⟨_, _, _, hrun, g3, g1, Fr.push_drop hs' g2⟩
          | _ => simp [hg] at h
      | @sliceEnd id p off b o hs' =>
        simp only at h
        cases hg : A.get id with
        | none => simp [hg] at h
        | some ob =>
          cases ob with
          | cells ro e0 c0 =>
            cases ro with
            | true => simp [hg] at h
            | false =>
              simp only [hg] at h
              cases hbe : (Nat.beq e0 e && Nat.beq (off % i.size) 0) with
              | false => rw [hbe] at h; cases h
              | true =>
                rw [hbe] at h
                simp only [cond_true, Option.map_eq_some_iff] at h
                obtain ⟨old, hold, he⟩ := h
                cases he
                obtain ⟨old', k1, k2, k3⟩ := load_rel hr hs' hold
                have : old' = [] := List.eq_nil_of_length_eq_zero (by rw [k2]; exact Nat.zero_mul _)
                subst this
                obtain ⟨q, _, g1, g2, g3⟩ := grown_rel (A := A.drop id) (hr.drop id) hi hz' k1 hnr (0 + n) (grownCap w (0 + n) 0 e) (grownCap_ge _ _ _ _) (by have := k1.len; rw [List.length_append, hnewl, this]; simp) hzsz
                have hrun := run_grows (P := P) (w := w) (ty := ty) (base := some ⟨b, o, none⟩) (c := 0) (old := []) ht hu hi hz' hlenw (by simp [Builtin.firstCells, loadCells, loadCellsFrom]) (hfirst w.drew fun _ => rfl) (by omega) (by omega) hb1
                exact ⟨_, _, _, hrun, g3, g1, Fr.push_drop hs' g2⟩
          | _ => simp [hg] at h
end
end Go.Ab
