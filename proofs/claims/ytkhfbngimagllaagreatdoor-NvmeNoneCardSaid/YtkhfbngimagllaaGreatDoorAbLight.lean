/- The interpreter's light operations say what the model's do. -/
import Derived.Test.YtkhfbngimagllaaGreatDoorAbRel
namespace Go.Ab
open Go
set_option linter.unusedSimpArgs false

section
variable {P : Program} {σ : Sg} {A : H} {w : World}

theorem run_size {t : TypeId} {n : Nat} (h : sizeA P t = some n) (w : World) : (sizeOf t).run P w = .ok n w := by
  unfold sizeA at h
  cases hi : P.info? t with
  | none => simp [hi] at h
  | some i => simp [hi] at h; simp [sizeOf, typeInfo, hi, h]
theorem run_agg {t : TypeId} {b : Bool} (h : aggA P t = some b) (w : World) : (isAgg t).run P w = .ok b w := by
  unfold aggA at h
  cases hu : P.underlying t with
  | none => simp [hu] at h
  | some d =>
    simp only [hu, Option.map_some, Option.some.injEq] at h
    subst h
    simp only [isAgg, Sem.run_bind, run_underlying hu, Result.andThen_ok]
    cases d <;> rfl
theorem flat1_flat {v : Value} (h : flat1 v = true) : Flat v := by
  unfold flat1 at h
  split at h <;> first | constructor | cases h
theorem flat_cells {v : Value} (h : (cellsL v).all flat1 = true) : Flat v := by
  cases v with
  | agg cs => exact .agg cs fun x hx => flat1_flat (by rw [List.all_eq_true] at h; exact h x hx)
  | _ => simp [cellsL] at h; exact flat1_flat h
theorem run_zero {t : TypeId} {z : List Value} (h : zeroA P t = some z) (w : World) : ∃ v i, P.info? t = some i ∧ i.zero = some v ∧ (zeroValue t).run P w = .ok v w ∧ v.cells.toList = z ∧ Flat v ∧ LRel σ z z ∧ v.cells.size = i.size := by
  unfold zeroA at h
  cases hi : P.info? t with
  | none => simp [hi] at h
  | some i =>
    cases hz : i.zero with
    | none => simp [hi, hz] at h
    | some v =>
      simp only [hi, hz, Option.bind_some] at h
      cases hb : ((cellsL v).all flat1 && Nat.beq (cellsL v).length i.size) with
      | false => rw [hb] at h; cases h
      | true =>
        rw [hb] at h
        simp only [cond_true, Option.some.injEq] at h
        subst h
        rw [Bool.and_eq_true] at hb
        obtain ⟨hb, hb2⟩ := hb
        have hsz := Nat.eq_of_beq_eq_true hb2
        refine ⟨v, i, rfl, hz, by simp [zeroValue, typeInfo, hi, hz], by cases v <;> rfl, flat_cells hb, (LRel.flat fun x hx => (flat1_flat (by rw [List.all_eq_true] at hb; exact hb x hx)).vrel), ?_⟩
        rw [← hsz]; cases v <;> rfl
theorem cells_toList (v : Value) : v.cells.toList = cellsL v := by cases v <;> rfl

/-! ### Inversions -/
theorem VRel.bool_inv {b : Bool} {v' : Value} (h : VRel σ (.bool b) v') : v' = .bool b := by cases h; rfl
theorem VRel.int_inv {k : IntKind} {n : Int} {v' : Value} (h : VRel σ (.int k n) v') : v' = .int k n := by cases h; rfl
theorem VRel.string_inv {s : ByteArray} {v' : Value} (h : VRel σ (.string s) v') : v' = .string s := by cases h; rfl
theorem boolV_rel {v v' : Value} {b : Bool} (h : VRel σ v v') (hb : boolV v = some b) : v = .bool b ∧ v' = .bool b := by
  cases h <;> simp [boolV] at hb <;> subst hb <;> exact ⟨rfl, rfl⟩
theorem intV_rel {v v' : Value} {n : Int} (h : VRel σ v v') (hb : intV v = some n) : ∃ k, v = .int k n ∧ v' = .int k n := by
  cases h <;> simp [intV] at hb <;> subst hb <;> exact ⟨_, rfl, rfl⟩
theorem strV_rel {v v' : Value} {s : ByteArray} (h : VRel σ v v') (hb : strV v = some s) : v = .string s ∧ v' = .string s := by
  cases h <;> simp [strV] at hb <;> subst hb <;> exact ⟨rfl, rfl⟩
theorem cellsL_rel {v v' : Value} (h : VRel σ v v') : LRel σ (cellsL v) (cellsL v') := by
  cases h with
  | agg as as' h1 h => exact ⟨by simpa [cellsL] using h1, h⟩
  | bool b => exact .cons (.bool b) .nil
  | int k n => exact .cons (.int k n) .nil
  | string s => exact .cons (.string s) .nil
  | ptrNil => exact .cons .ptrNil .nil
  | ptr off h => exact .cons (.ptr off h) .nil
  | sliceNil l c => exact .cons (.sliceNil l c) .nil
  | slice off l c c' h hc => exact .cons (.slice off l c c' h hc) .nil
  | sliceEnd off b o h => exact .cons (.sliceEnd off b o h) .nil
  | mapNil => exact .cons .mapNil .nil
  | map h => exact .cons (.map h) .nil
  | func fn as as' bs bs' h1 h2 h k => exact .cons (.func fn as as' bs bs' h1 h2 h k) .nil
  | nilFunc => exact .cons .nilFunc .nil
  | iface t h => exact .cons (.iface t h) .nil
  | nilIface => exact .cons .nilIface .nil
  | tuple as as' h1 h => exact .cons (.tuple as as' h1 h) .nil
theorem aggL_rel {l l' : List Value} (h : LRel σ l l') : VRel σ (aggL l) (aggL l') := .agg _ _ (by simpa using h.len) h.get
theorem aggL_toArray (l : List Value) : aggL l = .agg l.toArray := rfl

/-! ### Cells -/
theorem cut_some {l r : List Value} {off n : Nat} (h : cut l off n = some r) : r.length = n ∧ r = (l.drop off).take n ∧ (0 < n → off + n ≤ l.length) := by
  unfold cut at h
  simp only at h
  cases hb : Nat.beq ((l.drop off).take n).length n with
  | false => rw [hb] at h; cases h
  | true =>
    have := Nat.eq_of_beq_eq_true hb
    rw [hb] at h
    cases h
    refine ⟨this, rfl, fun h0 => ?_⟩
    simp at this
    omega
theorem cut_get {l r : List Value} {off n : Nat} (h : cut l off n = some r) {i : Nat} {v : Value} (hi : r[i]? = some v) : l[off + i]? = some v := by
  obtain ⟨h1, h2, _⟩ := cut_some h
  have hlt : i < n := by
    have := List.getElem?_eq_some_iff.1 hi
    obtain ⟨hl, _⟩ := this
    omega
  rw [h2, List.getElem?_take, if_pos hlt, List.getElem?_drop] at hi
  exact hi
theorem Addr.add_none (b o n : Nat) : (⟨b, o, none⟩ : Addr).add n = ⟨b, o + n, none⟩ := by
  unfold Addr.add
  split
  · subst_vars; rfl
  · rfl
/-- What is read of the abstract heap stands in the world. -/
theorem load_rel (hr : Rel P σ A w) {id off n : Nat} {p : Pl} {l : List Value} (hs : σ id = some p) (h : loadA A ⟨id, off, none⟩ n = some l) :
    ∃ l', LRel σ l l' ∧ l'.length = n ∧ ∀ (j : Nat) v', l'[j]? = some v' → w.cell? ((⟨p.b, p.sh + off, none⟩ : Addr).add j) = some v' := by
  unfold loadA at h
  simp only at h
  cases hg : A.get id with
  | none => simp [hg] at h
  | some o =>
    cases o with
    | cells ro e c =>
      simp only [hg] at h
      obtain ⟨cur, e', fz, h1, h2, h3, _⟩ := hr.obj id _ p hg hs
      obtain ⟨k1, k2, k3⟩ := cut_some h
      refine ⟨((cur.toList.drop (p.sh + off)).take n), ⟨?_, fun i v v' hv hv' => ?_⟩, ?_, fun j v' hv' => ?_⟩
      · have hc : cur.toList.length = cur.size := by simp
        rw [k1]
        by_cases h0 : n = 0
        · subst h0; simp
        · have := k3 (by omega); simp; omega
      · have ha := cut_get h hv
        rw [List.getElem?_take] at hv'
        split at hv'
        · rw [List.getElem?_drop] at hv'
          exact h3 (off + i) v v' ha (by rw [← Array.getElem?_toList, ← Nat.add_assoc]; exact hv')
        · cases hv'
      · by_cases h0 : n = 0
        · subst h0; simp
        · have := k3 (by omega); simp; omega
      · rw [List.getElem?_take] at hv'
        split at hv'
        · rw [List.getElem?_drop, Array.getElem?_toList] at hv'
          rw [Addr.add_none]
          simp [World.cell?, h1, hv']
        · cases hv'
    | map es c => simp [hg] at h
    | iter s q => simp [hg] at h
theorem run_loadCells_of {l' : List Value} {a : Addr} {n : Nat} (hn : l'.length = n) (h : ∀ (j : Nat) v', l'[j]? = some v' → w.cell? (a.add j) = some v') : (loadCells a n).run P w = .ok l'.toArray w := by
  subst hn
  exact run_loadCells_list w a l' h

/-! ### Operators -/
theorem eqGuard_pure {op : BinOp} {t : TypeId} {x y : Operand} {a b : Value} (h : (∀ as, a ≠ .agg as) ∧ a ≠ .nilIface) (w : World) : (eqGuard op t x y a b).run P w = .ok () w := by
  obtain ⟨h1, h2⟩ := h
  unfold eqGuard
  cases op <;> simp
  all_goals (cases a <;> simp_all)
theorem bytesOf_eq (s : ByteArray) : s.toList = bytesOf s := by simp [bytesOf, ByteArray.toList_eq]
theorem size_eq (s : ByteArray) : s.size = (bytesOf s).length := by simp [bytesOf]
theorem run_bits {op : BinOp} {k : IntKind} {x y : Int} {v : Value} (h : bitsA op k x y = some v) (w : World) : (Op.intBits op k x y).run P w = .ok v w := by
  cases op <;> simp only [bitsA] at h <;> cases h <;> rfl
theorem run_cmp {op : BinOp} {x y : Int} {v : Value} (h : cmpA op x y = some v) (w : World) : (Op.intCmp op x y).run P w = .ok v w := by
  cases op <;> simp only [cmpA] at h <;> cases h <;> rfl
theorem run_intA {op : BinOp} {k : IntKind} {x y : Int} {v : Value} {t : TypeId} (hs : op ≠ .shl) (hs' : op ≠ .shr) (h : intA op k x y = some v) (w : World) : (binOp op t (.int k x) (.int k y)).run P w = .ok v w := by
  cases op
  case shl => exact absurd rfl hs
  case shr => exact absurd rfl hs'
  case quo =>
    simp only [intA] at h
    split at h
    · cases h
    · rename_i h0; cases h; simp [binOp, Op.intDiv, h0]
  case rem =>
    simp only [intA] at h
    split at h
    · cases h
    · rename_i h0; cases h; simp [binOp, Op.intDiv, h0]
  case add => simp only [intA, Option.some.injEq] at h; subst h; simp [binOp, Op.intArith]
  case sub => simp only [intA, Option.some.injEq] at h; subst h; simp [binOp, Op.intArith]
  case mul => simp only [intA, Option.some.injEq] at h; subst h; simp [binOp, Op.intArith]
  case and => have h' : bitsA .and k x y = some v := h; simpa [binOp] using run_bits (P := P) h' w
  case or => have h' : bitsA .or k x y = some v := h; simpa [binOp] using run_bits (P := P) h' w
  case xor => have h' : bitsA .xor k x y = some v := h; simpa [binOp] using run_bits (P := P) h' w
  case andNot => have h' : bitsA .andNot k x y = some v := h; simpa [binOp] using run_bits (P := P) h' w
  case eql => have h' : cmpA .eql x y = some v := h; simpa [binOp] using run_cmp (P := P) h' w
  case neq => have h' : cmpA .neq x y = some v := h; simpa [binOp] using run_cmp (P := P) h' w
  case lss => have h' : cmpA .lss x y = some v := h; simpa [binOp] using run_cmp (P := P) h' w
  case leq => have h' : cmpA .leq x y = some v := h; simpa [binOp] using run_cmp (P := P) h' w
  case gtr => have h' : cmpA .gtr x y = some v := h; simpa [binOp] using run_cmp (P := P) h' w
  case geq => have h' : cmpA .geq x y = some v := h; simpa [binOp] using run_cmp (P := P) h' w
theorem run_shift {left : Bool} {op : BinOp} {k yk : IntKind} {x y : Int} {v : Value} (ho : op = if left then .shl else .shr) (h : shiftA left k x y = some v) (w : World) : (Op.shift op k x yk y).run P w = .ok v w := by
  unfold shiftA at h
  unfold Op.shift
  split at h
  · cases h
  · rename_i h0
    rw [if_neg h0]
    cases left <;> simp at ho h <;> subst ho <;> subst h <;> rfl
theorem run_str {op : BinOp} {x y : ByteArray} {v : Value} {t : TypeId} (h : strA op x y = some v) (w : World) : (binOp op t (.string x) (.string y)).run P w = .ok v w := by
  have hx := bytesOf_eq x
  have hy := bytesOf_eq y
  cases op <;> simp only [strA] at h
  case add =>
    cases hb : Nat.ble ((bytesOf x).length + (bytesOf y).length) 9223372036854775807 with
    | false => rw [hb] at h; cases h
    | true =>
      rw [hb] at h
      have hle := Nat.le_of_ble_eq_true hb
      cases h
      rw [← size_eq, ← size_eq] at hle
      have hm : ¬ (((x.size + y.size : Nat) : Int) > IntKind.i64.max) := by
        have : IntKind.i64.max = 9223372036854775807 := by decide
        rw [this]; omega
      simp only [binOp, Op.stringOp, if_neg hm, Sem.run_pure]
      congr 2
  all_goals (first | (cases h; done) | (cases h; simp [binOp, Op.stringOp, hx, hy]))

/-! ### The operations that only read -/
def light : XOp → Bool
  | .move _ | .pick .. | .build .. | .load .. | .nilCheck _ | .bin .. | .un .. | .toInt .. | .toUnsafe _ | .same _ | .ofBytes _ | .fieldAddr .. | .indexAddr .. | .field .. | .index .. | .sliceStr .. | .slice ..
  | .extract .. | .makeIface .. | .makeFunc .. | .lookup .. | .len .. | .lenStr _ | .minmax .. => true
  | _ => false

/-- The model's operation yields a value that stands for v, and leaves the world alone. -/
def YieldsTo (P : Program) (σ : Sg) (w : World) (s : Sem Next) (v : Value) : Prop := ∃ v', s.run P w = .ok (.value v') w ∧ VRel σ v v'

theorem eqIn_rel (n : Nat) {d : TypeDesc} {t : TypeId} {x y x' y' : Value} {b : Bool} (hd : P.underlying t = some d) (h : eqA d x y = some b) (hx : VRel σ x x') (hy : VRel σ y y') : (Op.equalIn (n + 1) t x' y').run P w = .ok b w := by
  have hd' : (underlying t).run P w = .ok d w := run_underlying hd w
  cases d <;> first | (simp only [eqA] at h; cases h; done) | skip
  all_goals
    cases hx <;> first | (simp only [eqA] at h; cases h; done) | skip
  all_goals
    cases hy <;> first | (simp only [eqA] at h; cases h; done) | skip
  all_goals (simp only [eqA, Option.some.injEq] at h; subst h; simp [Op.equalIn, hd'])
theorem eqA_rel {d : TypeDesc} {t : TypeId} {x y x' y' : Value} {b : Bool} (hd : P.underlying t = some d) (h : eqA d x y = some b) (hx : VRel σ x x') (hy : VRel σ y y') : (Op.equal t x' y').run P w = .ok b w ∧ ((∀ as, x' ≠ .agg as) ∧ x' ≠ .nilIface) ∧
    (∀ k n, x' ≠ .int k n) ∧ (∀ s, x' ≠ .string s) ∧ (∀ k n, x' ≠ .float k n) ∧ (∀ k n m, x' ≠ .complex k n m) := by
  refine ⟨eqIn_rel 9999 hd h hx hy, ?_⟩
  cases d <;> first | (simp only [eqA] at h; cases h; done) | skip
  all_goals
    cases hx <;> first | (simp only [eqA] at h; cases h; done) | exact ⟨by simp, by simp, by simp, by simp, by simp⟩

theorem binA_rel {op : BinOp} {d : TypeDesc} {t : TypeId} {xo yo : Operand} {x y x' y' v : Value} (hd : P.underlying t = some d) (h : binA op d x y = some v) (hx : VRel σ x x') (hy : VRel σ y y') :
    (eqGuard op t xo yo x' y').run P w = .ok () w ∧ (binOp op t x' y').run P w = .ok v w ∧ Flat v := by
  have flatI : ∀ {op k a b v}, intA op k a b = some v → Flat v := by
    intro op k a b v h
    cases op <;> simp only [intA, bitsA, cmpA] at h <;> (try split at h) <;> cases h <;> constructor
  have flatS : ∀ {op a b v}, strA op a b = some v → Flat v := by
    intro op a b v h
    cases op <;> simp only [strA] at h <;> (try (cases hb : Nat.ble ((bytesOf a).length + (bytesOf b).length) 9223372036854775807 <;> rw [hb] at h)) <;> cases h <;> constructor
  have flatH : ∀ {l k a b v}, shiftA l k a b = some v → Flat v := by
    intro l k a b v h
    unfold shiftA at h
    split at h
    · cases h
    · cases l <;> cases h <;> constructor
  have generic : ∀ {b : Bool}, (op = .eql ∨ op = .neq) → eqA d x y = some b → v = .bool (if op = .eql then b else !b) → (eqGuard op t xo yo x' y').run P w = .ok () w ∧ (binOp op t x' y').run P w = .ok v w ∧ Flat v := by
    intro b ho he hv
    obtain ⟨h1, h2, h3, h4, h5, h6⟩ := eqA_rel (w := w) hd he hx hy
    refine ⟨eqGuard_pure h2 w, ?_, by subst hv; constructor⟩
    subst hv
    rcases ho with rfl | rfl
    · unfold binOp
      cases x' <;> simp_all
    · unfold binOp
      cases x' <;> simp_all
  cases hx with
  | int k n =>
    cases hy with
    | int k' m =>
      refine ⟨eqGuard_pure (by simp) w, ?_⟩
      by_cases hl : op = .shl
      · subst hl; simp only [binA] at h; exact ⟨by simpa [binOp] using run_shift (P := P) (left := true) (op := .shl) rfl h w, flatH h⟩
      · by_cases hr : op = .shr
        · subst hr; simp only [binA] at h; exact ⟨by simpa [binOp] using run_shift (P := P) (left := false) (op := .shr) rfl h w, flatH h⟩
        · have h' : (if k = k' then intA op k n m else none) = some v := by cases op <;> first | exact absurd rfl hl | exact absurd rfl hr | exact h
          split at h'
          · rename_i e; subst e; exact ⟨run_intA hl hr h' w, flatI h'⟩
          · cases h'
    | _ => cases op <;> simp [binA, eqA] at h <;> (cases d <;> simp [eqA] at h)
  | string s =>
    cases hy with
    | string s' =>
      have h' : strA op s s' = some v := by cases op <;> first | exact h | (simp [binA] at h; done)
      exact ⟨eqGuard_pure (by simp) w, run_str h' w, flatS h'⟩
    | _ => cases op <;> simp [binA, eqA] at h <;> (cases d <;> simp [eqA] at h)
  | _ =>
    cases op <;> simp only [binA] at h <;> (try (cases h; done)) <;> (try (cases hy <;> simp at h; done))
    all_goals
      rw [Option.map_eq_some_iff] at h
      obtain ⟨b, hb, hv⟩ := h
      exact generic (by simp) hb (by simp [← hv])
end
end Go.Ab
