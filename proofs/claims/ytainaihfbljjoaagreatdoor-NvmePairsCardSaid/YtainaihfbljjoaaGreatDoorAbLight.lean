/- The interpreter's light operations say what the model's do. -/
import Derived.Test.YtainaihfbljjoaaGreatDoorAbRel
set_option linter.all false
set_option linter.unusedSectionVars false
set_option linter.unusedVariables false
set_option linter.unusedSimpArgs false
namespace Go.Ab
open Go
variable [Unk]

section
variable {P : Program} {σ : Sg} {A : H} {w : World}

theorem run_size {t : TypeId} {n : Nat} (h : sizeA P t = some n) (w : World) : (sizeOf t).run P w = .ok n w := by
  unfold sizeA at h
  cases hi : P.info? t with
  | none => simp [hi] at h
  | some i => simp [hi] at h; simp [sizeOf, typeInfo, hi, h]
theorem run_agg {t : TypeId} {b : Bool} (h : aggA P t = some b) (w : World) : (isAgg t).run P w = .ok b w := by
  unfold aggA at h
  cases hu : P.underlying t with
  | none => simp [hu] at h
  | some d =>
    simp only [hu, Option.map_some, Option.some.injEq] at h
    subst h
    simp only [isAgg, Sem.run_bind, run_underlying hu, Result.andThen_ok]
    cases d <;> rfl
theorem flat1_flat {v : Value} (h : flat1 v = true) : Flat v := by
  unfold flat1 at h
  split at h <;> first | constructor | cases h
theorem flat_cells {v : Value} (h : (cellsL v).all flat1 = true) : Flat v := by
  cases v with
  | agg cs => exact .agg cs fun x hx => flat1_flat (by rw [List.all_eq_true] at h; exact h x hx)
  | _ => simp [cellsL] at h; exact flat1_flat h
theorem run_zero {t : TypeId} {z : List Value} (h : zeroA P t = some z) (w : World) : ∃ v i, P.info? t = some i ∧ i.zero = some v ∧ (zeroValue t).run P w = .ok v w ∧ v.cells.toList = z ∧ Flat v ∧ LRel σ z z ∧ v.cells.size = i.size := by
  unfold zeroA at h
  cases hi : P.info? t with
  | none => simp [hi] at h
  | some i =>
    cases hz : i.zero with
    | none => simp [hi, hz] at h
    | some v =>
      simp only [hi, hz, Option.bind_some] at h
      cases hb : ((cellsL v).all flat1 && Nat.beq (cellsL v).length i.size) with
      | false => rw [hb] at h; cases h
      | true =>
        rw [hb] at h
        simp only [cond_true, Option.some.injEq] at h
        subst h
        rw [Bool.and_eq_true] at hb
        obtain ⟨hb, hb2⟩ := hb
        have hsz := Nat.eq_of_beq_eq_true hb2
        refine ⟨v, i, rfl, hz, by simp [zeroValue, typeInfo, hi, hz], by cases v <;> rfl, flat_cells hb, (LRel.flat fun x hx => (flat1_flat (by rw [List.all_eq_true] at hb; exact hb x hx)).vrel), ?_⟩
        rw [← hsz]; cases v <;> rfl
theorem cells_toList (v : Value) : v.cells.toList = cellsL v := by cases v <;> rfl

/-! ### Inversions -/
theorem VRel.bool_inv {b : Bool} {v' : Value} (h : VRel σ (.bool b) v') : v' = .bool b := by cases h; rfl
theorem VRel.int_inv {k : IntKind} {n : Int} {v' : Value} (h : VRel σ (.int k n) v') : v' = .int k n := by cases h; rfl
theorem VRel.string_inv {s : ByteArray} {v' : Value} (h : VRel σ (.string s) v') : v' = .string s := by cases h; rfl
theorem boolV_rel {v v' : Value} {b : Bool} (h : VRel σ v v') (hb : boolV v = some b) : v = .bool b ∧ v' = .bool b := by
  cases h <;> simp [boolV] at hb <;> subst hb <;> exact ⟨rfl, rfl⟩
theorem intV_rel {v v' : Value} {n : Int} (h : VRel σ v v') (hb : intV v = some n) : ∃ k, v = .int k n ∧ v' = .int k n := by
  cases h <;> simp [intV] at hb <;> subst hb <;> exact ⟨_, rfl, rfl⟩
theorem strV_rel {v v' : Value} {s : ByteArray} (h : VRel σ v v') (hb : strV v = some s) : v = .string s ∧ v' = .string s := by
  cases h <;> simp [strV] at hb <;> subst hb <;> exact ⟨rfl, rfl⟩
theorem cellsL_one {v : Value} (h : oneCell v = true) : cellsL v = [v] := by cases v <;> first | rfl | cases h
theorem cellsL_rel {v v' : Value} (h : VRel σ v v') : LRel σ (cellsL v) (cellsL v') := by
  cases h with
  | agg as as' h1 h => exact ⟨by simpa [cellsL] using h1, h⟩
  | bool b => exact .cons (.bool b) .nil
  | int k n => exact .cons (.int k n) .nil
  | string s => exact .cons (.string s) .nil
  | ptrNil => exact .cons .ptrNil .nil
  | ptr off h => exact .cons (.ptr off h) .nil
  | sliceNil l c => exact .cons (.sliceNil l c) .nil
  | slice off l c c' h hc => exact .cons (.slice off l c c' h hc) .nil
  | sliceEnd off b o h => exact .cons (.sliceEnd off b o h) .nil
  | mapNil => exact .cons .mapNil .nil
  | map h => exact .cons (.map h) .nil
  | func fn as as' bs bs' h1 h2 h k => exact .cons (.func fn as as' bs bs' h1 h2 h k) .nil
  | nilFunc => exact .cons .nilFunc .nil
  | iface t h => exact .cons (.iface t h) .nil
  | nilIface => exact .cons .nilIface .nil
  | tuple as as' h1 h => exact .cons (.tuple as as' h1 h) .nil
  | unk i => rw [cellsL_one (Unk.one i)]; exact .cons (.unk i) .nil
  | rope k l n s h => exact .cons (.rope k l n s h) .nil
/-! ### Texts with unknown bytes -/
theorem byteV_inj {a b : UInt8} (h : byteV a = byteV b) : a = b := by
  simp only [byteV, Value.int.injEq, true_and] at h
  exact UInt8.toNat_inj.1 (Int.ofNat.inj h)
theorem CRel.len : ∀ {l : List Value} {b : List UInt8}, CRel l b → l.length = b.length
  | [], [], _ => rfl
  | c :: l, x :: b, h => by simp [CRel.len h.2]
theorem CRel.append : ∀ {l : List Value} {b : List UInt8} {m : List Value} {d : List UInt8}, CRel l b → CRel m d → CRel (l ++ m) (b ++ d)
  | [], [], _, _, _, k => k
  | c :: l, x :: b, _, _, h, k => ⟨h.1, CRel.append h.2 k⟩
theorem CRel.take : ∀ {l : List Value} {b : List UInt8} (n : Nat), CRel l b → CRel (l.take n) (b.take n)
  | [], [], n, h => by simp; trivial
  | c :: l, x :: b, 0, h => by simp; trivial
  | c :: l, x :: b, n + 1, h => ⟨h.1, CRel.take n h.2⟩
theorem CRel.drop : ∀ {l : List Value} {b : List UInt8} (n : Nat), CRel l b → CRel (l.drop n) (b.drop n)
  | [], [], n, h => by simp; trivial
  | c :: l, x :: b, 0, h => h
  | c :: l, x :: b, n + 1, h => CRel.drop n h.2
theorem CRel.get : ∀ {l : List Value} {b : List UInt8} {i : Nat} {c : Value}, CRel l b → l[i]? = some c → ∃ x, b[i]? = some x ∧ CharRel c x
  | [], [], i, c, h, hc => by simp at hc
  | d :: l, x :: b, 0, c, h, hc => by
    simp only [List.getElem?_cons_zero, Option.some.injEq] at hc
    subst hc
    exact ⟨x, rfl, h.1⟩
  | d :: l, x :: b, i + 1, c, h, hc => by
    simp only [List.getElem?_cons_succ] at hc ⊢
    exact CRel.get h.2 hc
theorem CRel.bytes : ∀ (b : List UInt8), CRel (b.map byteV) b
  | [] => trivial
  | x :: b => ⟨.inl rfl, CRel.bytes b⟩
theorem CharRel.vrel {σ : Sg} {c : Value} {x : UInt8} (h : CharRel c x) : VRel σ c (byteV x) := by
  rcases h with rfl | ⟨i, rfl, _, hv⟩
  · exact .int _ _
  · rw [← hv]; exact .unk i
theorem CRel.lrel {σ : Sg} : ∀ {l : List Value} {b : List UInt8}, CRel l b → LRel σ l (b.map byteV)
  | [], [], _ => .nil
  | c :: l, x :: b, h => .cons h.1.vrel (CRel.lrel h.2)
theorem charsOf_rel {σ : Sg} {v v' : Value} {l : List Value} (h : VRel σ v v') (hc : charsOf v = some l) : ∃ s, v' = .string s ∧ CRel l (bytesOf s) := by
  cases h <;> simp only [charsOf, Option.some.injEq, reduceCtorEq] at hc
  · subst hc; exact ⟨_, rfl, CRel.bytes _⟩
  · rename_i s h; subst hc; exact ⟨s, rfl, h⟩
theorem code_char {v : Value} {c : Nat} (h : codeC v = some c) : charV c = v ∧ c < 65536 := by
  unfold codeC at h
  split at h
  · rename_i n
    split at h
    · rename_i hn
      cases h
      have : Nat.blt n.toNat 256 = true := Nat.ble_eq_true_of_le (by omega)
      refine ⟨?_, by omega⟩
      simp only [charV, this, cond_true, Value.int.injEq, true_and]
      show ((n.toNat : Nat) : Int) = n
      omega
    · cases h
  · rename_i i
    cases hb : Nat.blt i 4096 with
    | false => rw [hb] at h; cases h
    | true =>
      rw [hb] at h
      cases h
      have hi : i < 4096 := Nat.le_of_ble_eq_true hb
      have e : Nat.add 256 i = 256 + i := rfl
      have hf : Nat.blt (Nat.add 256 i) 256 = false := by
        cases hx : Nat.blt (Nat.add 256 i) 256 with
        | false => rfl
        | true => have : Nat.add 256 i + 1 ≤ 256 := Nat.le_of_ble_eq_true hx; omega
      refine ⟨?_, by omega⟩
      simp only [charV, hf, cond_false, Value.chan.injEq, Option.some.injEq]
      show 256 + i - 256 = i
      omega
  · cases h
theorem dec_enc : ∀ {l : List Value} {n : Nat}, encR l = some n → decR l.length n = l
  | [], n, h => rfl
  | v :: l, n, h => by
    simp only [encR, Option.bind_eq_some_iff, Option.map_eq_some_iff] at h
    obtain ⟨c, hc, m, hm, rfl⟩ := h
    obtain ⟨h1, h2⟩ := code_char hc
    have e1 : Nat.mod (Nat.add c (Nat.mul 65536 m)) 65536 = c := by
      show (c + 65536 * m) % 65536 = c
      omega
    have e2 : Nat.div (Nat.add c (Nat.mul 65536 m)) 65536 = m := by
      show (c + 65536 * m) / 65536 = m
      omega
    simp only [List.length_cons, decR, e1, e2, h1, dec_enc hm]
/-- Cells that have a code stand for bytes. -/
theorem enc_cells {σ : Sg} : ∀ {l l' : List Value} {n : Nat}, encR l = some n → LRel σ l l' → ∃ bs : List UInt8, l' = bs.map byteV ∧ CRel l bs
  | [], l', n, h, hl => by
    have : l' = [] := List.eq_nil_of_length_eq_zero (by have := hl.len; simpa using this.symm)
    subst this
    exact ⟨[], rfl, trivial⟩
  | v :: l, l', n, h, hl => by
    simp only [encR, Option.bind_eq_some_iff, Option.map_eq_some_iff] at h
    obtain ⟨c, hc, m, hm, rfl⟩ := h
    obtain ⟨v', r, rfl, hv, hr⟩ := hl.cons_inv
    obtain ⟨bs, rfl, hb⟩ := enc_cells hm hr
    unfold codeC at hc
    split at hc
    · rename_i k
      split at hc
      · rename_i hk
        cases hv
        have e : byteV (UInt8.ofNat k.toNat) = .int .u8 k := by
          simp only [byteV, Value.int.injEq, true_and]
          have h1 : (UInt8.ofNat k.toNat).toNat = k.toNat := by rw [UInt8.toNat_ofNat']; omega
          rw [h1]
          show ((k.toNat : Nat) : Int) = k
          omega
        exact ⟨UInt8.ofNat k.toNat :: bs, by rw [List.map_cons, e], .inl e.symm, hb⟩
      · cases hc
    · rename_i i
      cases hbt : Nat.blt i 4096 with
      | false => rw [hbt] at hc; cases hc
      | true =>
        have hi : i < 4096 := Nat.le_of_ble_eq_true hbt
        cases hv
        obtain ⟨x, hx⟩ := Unk.byt i hi
        exact ⟨x :: bs, by rw [List.map_cons, hx], .inr ⟨i, rfl, hi, hx⟩, hb⟩
    · cases hc
theorem bytesV_crel : ∀ {l : List Value} {bs b : List UInt8}, bytesV l = some bs → CRel l b → bs = b
  | [], bs, [], h, _ => by simp only [bytesV, Option.some.injEq] at h; exact h.symm
  | v :: l, bs, x :: b, h, hc => by
    obtain ⟨h1, h2⟩ := hc
    rcases h1 with rfl | ⟨i, rfl, _⟩
    · simp only [byteV, bytesV, Option.map_eq_some_iff] at h
      obtain ⟨r, hr, rfl⟩ := h
      rw [bytesV_crel hr h2]
      congr 1
      apply UInt8.toNat_inj.1
      show (UInt8.ofNat (Int.ofNat x.toNat).toNat).toNat = x.toNat
      rw [UInt8.toNat_ofNat']
      have := x.toNat_lt
      show x.toNat % 2 ^ 8 = x.toNat
      omega
    · simp [bytesV] at h
theorem mkStr_rel {σ : Sg} {l : List Value} {v : Value} {b : List UInt8} (h : mkStr l = some v) (hc : CRel l b) : VRel σ v (.string (ofBytes b)) := by
  unfold mkStr at h
  split at h
  · rename_i bs hb
    cases h
    rw [bytesV_crel hb hc]
    exact .string _
  · rw [Option.map_eq_some_iff] at h
    obtain ⟨n, hn, rfl⟩ := h
    exact .rope _ _ _ _ (by rw [dec_enc hn]; exact hc)
theorem eqC1_rel {a b : Value} {x y : UInt8} {t : Bool} (h : eqC1 a b = some t) (ha : CharRel a x) (hb : CharRel b y) : t = (x == y) := by
  unfold eqC1 at h
  split at h
  · rename_i m n
    cases h
    rcases ha with ha | ⟨i, ha, _⟩
    · rcases hb with hb | ⟨i, hb, _⟩
      · simp only [byteV, Value.int.injEq, true_and] at ha hb
        subst ha; subst hb
        by_cases e : x = y
        · subst e; simp
        · have : x.toNat ≠ y.toNat := fun h => e (UInt8.toNat_inj.1 h)
          have h1 : (x == y) = false := by simpa using e
          rw [h1]
          simp only [beq_eq_false_iff_ne, ne_eq]
          intro h2
          exact this (Int.ofNat.inj h2)
      · cases hb
    · cases ha
  · rename_i i j
    rcases ha with ha | ⟨i', ha, _, hi⟩
    · cases ha
    · rcases hb with hb | ⟨j', hb, _, hj⟩
      · cases hb
      · cases ha; cases hb
        cases he : Nat.beq i j with
        | true =>
          rw [he] at h
          have := Nat.eq_of_beq_eq_true he
          subst this
          rw [hi] at hj
          have := byteV_inj hj
          subst this
          cases h
          simp
        | false =>
          rw [he] at h
          simp only [cond_false] at h
          cases hn : neqTok i j with
          | false => rw [hn] at h; cases h
          | true =>
            rw [hn] at h
            cases h
            have := Unk.neq i j hn
            rw [hi, hj] at this
            have hxy : x ≠ y := fun e => this (by rw [e])
            simpa using hxy.symm ∘ Eq.symm
  · cases h
theorem eqCL_rel : ∀ {a b : List Value} {x y : List UInt8} {t : Bool}, eqCL a b = some t → CRel a x → CRel b y → t = (x == y)
  | [], [], [], [], t, h, _, _ => by cases h; rfl
  | a :: l, b :: m, x :: xs, y :: ys, t, h, ha, hb => by
    unfold eqCL at h
    cases h1 : eqC1 a b with
    | none => rw [h1] at h; cases h
    | some u =>
      have e := eqC1_rel h1 ha.1 hb.1
      rw [h1] at h
      cases u with
      | true =>
        simp only at h
        have e2 := eqCL_rel h ha.2 hb.2
        have hxy : x = y := by simpa using e.symm
        rw [e2, hxy]
        simp
      | false =>
        simp only [Option.some.injEq] at h
        subst h
        have hxy : x ≠ y := by simpa using e.symm
        have : (x :: xs == y :: ys) = false := by simp [hxy]
        exact this.symm
theorem eqC_rel {a b : List Value} {x y : List UInt8} {t : Bool} (h : eqC a b = some t) (ha : CRel a x) (hb : CRel b y) : t = (x == y) := by
  unfold eqC at h
  cases hl : Nat.beq a.length b.length with
  | true => rw [hl] at h; exact eqCL_rel h ha hb
  | false =>
    rw [hl] at h
    cases h
    have := Nat.ne_of_beq_eq_false hl
    rw [ha.len, hb.len] at this
    symm
    simp only [beq_eq_false_iff_ne, ne_eq]
    intro e
    exact this (by rw [e])
theorem aggL_rel {l l' : List Value} (h : LRel σ l l') : VRel σ (aggL l) (aggL l') := .agg _ _ (by simpa using h.len) h.get
theorem aggL_toArray (l : List Value) : aggL l = .agg l.toArray := rfl

/-! ### Cells -/
theorem cut_some {l r : List Value} {off n : Nat} (h : cut l off n = some r) : r.length = n ∧ r = (l.drop off).take n ∧ (0 < n → off + n ≤ l.length) := by
  unfold cut at h
  simp only at h
  cases hb : Nat.beq ((l.drop off).take n).length n with
  | false => rw [hb] at h; cases h
  | true =>
    have := Nat.eq_of_beq_eq_true hb
    rw [hb] at h
    cases h
    refine ⟨this, rfl, fun h0 => ?_⟩
    simp at this
    omega
theorem cut_get {l r : List Value} {off n : Nat} (h : cut l off n = some r) {i : Nat} {v : Value} (hi : r[i]? = some v) : l[off + i]? = some v := by
  obtain ⟨h1, h2, _⟩ := cut_some h
  have hlt : i < n := by
    have := List.getElem?_eq_some_iff.1 hi
    obtain ⟨hl, _⟩ := this
    omega
  rw [h2, List.getElem?_take, if_pos hlt, List.getElem?_drop] at hi
  exact hi
theorem Addr.add_none (b o n : Nat) : (⟨b, o, none⟩ : Addr).add n = ⟨b, o + n, none⟩ := by
  unfold Addr.add
  split
  · subst_vars; rfl
  · rfl
/-- What is read of the abstract heap stands in the world. -/
theorem load_rel (hr : Rel P σ A w) {id off n : Nat} {p : Pl} {l : List Value} (hs : σ id = some p) (h : loadA A ⟨id, off, none⟩ n = some l) :
    ∃ l', LRel σ l l' ∧ l'.length = n ∧ ∀ (j : Nat) v', l'[j]? = some v' → w.cell? ((⟨p.b, p.sh + off, none⟩ : Addr).add j) = some v' := by
  unfold loadA at h
  simp only at h
  cases hg : A.get id with
  | none => simp [hg] at h
  | some o =>
    cases o with
    | cells ro e c =>
      simp only [hg] at h
      obtain ⟨cur, e', fz, h1, h2, h3, _⟩ := hr.obj id _ p hg hs
      obtain ⟨k1, k2, k3⟩ := cut_some h
      refine ⟨((cur.toList.drop (p.sh + off)).take n), ⟨?_, fun i v v' hv hv' => ?_⟩, ?_, fun j v' hv' => ?_⟩
      · have hc : cur.toList.length = cur.size := by simp
        rw [k1]
        by_cases h0 : n = 0
        · subst h0; simp
        · have := k3 (by omega); simp; omega
      · have ha := cut_get h hv
        rw [List.getElem?_take] at hv'
        split at hv'
        · rw [List.getElem?_drop] at hv'
          exact h3 (off + i) v v' ha (by rw [← Array.getElem?_toList, ← Nat.add_assoc]; exact hv')
        · cases hv'
      · by_cases h0 : n = 0
        · subst h0; simp
        · have := k3 (by omega); simp; omega
      · rw [List.getElem?_take] at hv'
        split at hv'
        · rw [List.getElem?_drop, Array.getElem?_toList] at hv'
          rw [Addr.add_none]
          simp [World.cell?, h1, hv']
        · cases hv'
    | map es c => simp [hg] at h
    | iter s q => simp [hg] at h
theorem run_loadCells_of {l' : List Value} {a : Addr} {n : Nat} (hn : l'.length = n) (h : ∀ (j : Nat) v', l'[j]? = some v' → w.cell? (a.add j) = some v') : (loadCells a n).run P w = .ok l'.toArray w := by
  subst hn
  exact run_loadCells_list w a l' h

/-! ### Operators -/
theorem eqGuard_pure {op : BinOp} {t : TypeId} {x y : Operand} {a b : Value} (h : (∀ as, a ≠ .agg as) ∧ a ≠ .nilIface) (w : World) : (eqGuard op t x y a b).run P w = .ok () w := by
  obtain ⟨h1, h2⟩ := h
  unfold eqGuard
  cases op <;> simp
  all_goals (cases a <;> simp_all)
theorem bytesOf_eq (s : ByteArray) : s.toList = bytesOf s := by simp [bytesOf, ByteArray.toList_eq]
theorem size_eq (s : ByteArray) : s.size = (bytesOf s).length := by simp [bytesOf]
theorem run_bits {op : BinOp} {k : IntKind} {x y : Int} {v : Value} (h : bitsA op k x y = some v) (w : World) : (Op.intBits op k x y).run P w = .ok v w := by
  cases op <;> simp only [bitsA] at h <;> cases h <;> rfl
theorem run_cmp {op : BinOp} {x y : Int} {v : Value} (h : cmpA op x y = some v) (w : World) : (Op.intCmp op x y).run P w = .ok v w := by
  cases op <;> simp only [cmpA] at h <;> cases h <;> rfl
theorem run_intA {op : BinOp} {k : IntKind} {x y : Int} {v : Value} {t : TypeId} (hs : op ≠ .shl) (hs' : op ≠ .shr) (h : intA op k x y = some v) (w : World) : (binOp op t (.int k x) (.int k y)).run P w = .ok v w := by
  cases op
  case shl => exact absurd rfl hs
  case shr => exact absurd rfl hs'
  case quo =>
    simp only [intA] at h
    split at h
    · cases h
    · rename_i h0; cases h; simp [binOp, Op.intDiv, h0]
  case rem =>
    simp only [intA] at h
    split at h
    · cases h
    · rename_i h0; cases h; simp [binOp, Op.intDiv, h0]
  case add => simp only [intA, Option.some.injEq] at h; subst h; simp [binOp, Op.intArith]
  case sub => simp only [intA, Option.some.injEq] at h; subst h; simp [binOp, Op.intArith]
  case mul => simp only [intA, Option.some.injEq] at h; subst h; simp [binOp, Op.intArith]
  case and => have h' : bitsA .and k x y = some v := h; simpa [binOp] using run_bits (P := P) h' w
  case or => have h' : bitsA .or k x y = some v := h; simpa [binOp] using run_bits (P := P) h' w
  case xor => have h' : bitsA .xor k x y = some v := h; simpa [binOp] using run_bits (P := P) h' w
  case andNot => have h' : bitsA .andNot k x y = some v := h; simpa [binOp] using run_bits (P := P) h' w
  case eql => have h' : cmpA .eql x y = some v := h; simpa [binOp] using run_cmp (P := P) h' w
  case neq => have h' : cmpA .neq x y = some v := h; simpa [binOp] using run_cmp (P := P) h' w
  case lss => have h' : cmpA .lss x y = some v := h; simpa [binOp] using run_cmp (P := P) h' w
  case leq => have h' : cmpA .leq x y = some v := h; simpa [binOp] using run_cmp (P := P) h' w
  case gtr => have h' : cmpA .gtr x y = some v := h; simpa [binOp] using run_cmp (P := P) h' w
  case geq => have h' : cmpA .geq x y = some v := h; simpa [binOp] using run_cmp (P := P) h' w
theorem run_shift {left : Bool} {op : BinOp} {k yk : IntKind} {x y : Int} {v : Value} (ho : op = if left then .shl else .shr) (h : shiftA left k x y = some v) (w : World) : (Op.shift op k x yk y).run P w = .ok v w := by
  unfold shiftA at h
  unfold Op.shift
  split at h
  · cases h
  · rename_i h0
    rw [if_neg h0]
    cases left <;> simp at ho h <;> subst ho <;> subst h <;> rfl
theorem run_str {op : BinOp} {x y : ByteArray} {v : Value} {t : TypeId} (h : strA op x y = some v) (w : World) : (binOp op t (.string x) (.string y)).run P w = .ok v w := by
  have hx := bytesOf_eq x
  have hy := bytesOf_eq y
  cases op <;> simp only [strA] at h
  case add =>
    cases hb : Nat.ble ((bytesOf x).length + (bytesOf y).length) 9223372036854775807 with
    | false => rw [hb] at h; cases h
    | true =>
      rw [hb] at h
      have hle := Nat.le_of_ble_eq_true hb
      cases h
      rw [← size_eq, ← size_eq] at hle
      have hm : ¬ (((x.size + y.size : Nat) : Int) > IntKind.i64.max) := by
        have : IntKind.i64.max = 9223372036854775807 := by decide
        rw [this]; omega
      simp only [binOp, Op.stringOp, if_neg hm, Sem.run_pure]
      congr 2
  all_goals (first | (cases h; done) | (cases h; simp [binOp, Op.stringOp, hx, hy]))

/-! ### The operations that only read -/
def light : XOp → Bool
  | .move _ | .pick .. | .build .. | .load .. | .nilCheck _ | .bin .. | .un .. | .toInt .. | .toUnsafe _ | .assert .. | .isNil .. | .eqS .. | .same _ | .ofBytes _ | .fieldAddr .. | .indexAddr .. | .field .. | .index .. | .sliceStr .. | .slice ..
  | .extract .. | .makeIface .. | .makeFunc .. | .lookup .. | .len .. | .lenStr _ | .minmax .. => true
  | _ => false

/-- The model's operation yields a value that stands for v, and leaves the world alone. -/
def YieldsTo (P : Program) (σ : Sg) (w : World) (s : Sem Next) (v : Value) : Prop := ∃ v', s.run P w = .ok (.value v') w ∧ VRel σ v v'

theorem eqIn_rel (n : Nat) {d : TypeDesc} {t : TypeId} {x y x' y' : Value} {b : Bool} (hd : P.underlying t = some d) (h : eqA d x y = some b) (hx : VRel σ x x') (hy : VRel σ y y') : (Op.equalIn (n + 1) t x' y').run P w = .ok b w := by
  have hd' : (underlying t).run P w = .ok d w := run_underlying hd w
  cases d <;> first | (simp only [eqA] at h; cases h; done) | skip
  all_goals
    cases hx <;> first | (simp only [eqA] at h; cases h; done) | skip
  all_goals
    cases hy <;> first | (simp only [eqA] at h; cases h; done) | skip
  all_goals (simp only [eqA, Option.some.injEq] at h; subst h; simp [Op.equalIn, hd'])
theorem eqA_rel {d : TypeDesc} {t : TypeId} {x y x' y' : Value} {b : Bool} (hd : P.underlying t = some d) (h : eqA d x y = some b) (hx : VRel σ x x') (hy : VRel σ y y') : (Op.equal t x' y').run P w = .ok b w ∧ ((∀ as, x' ≠ .agg as) ∧ x' ≠ .nilIface) ∧
    (∀ k n, x' ≠ .int k n) ∧ (∀ s, x' ≠ .string s) ∧ (∀ k n, x' ≠ .float k n) ∧ (∀ k n m, x' ≠ .complex k n m) := by
  refine ⟨eqIn_rel 9999 hd h hx hy, ?_⟩
  cases d <;> first | (simp only [eqA] at h; cases h; done) | skip
  all_goals
    cases hx <;> first | (simp only [eqA] at h; cases h; done) | exact ⟨by simp, by simp, by simp, by simp, by simp⟩

theorem binA_rel0 {op : BinOp} {d : TypeDesc} {t : TypeId} {xo yo : Operand} {x y x' y' v : Value} (hd : P.underlying t = some d) (h : binA op d x y = some v) (hx : VRel σ x x') (hy : VRel σ y y') (nx : ∀ k l n, x ≠ .complex k l n) (ny : ∀ k l n, y ≠ .complex k l n) (cx : ∀ i, x ≠ .chan (some i)) (cy : ∀ i, y ≠ .chan (some i)) :
    (eqGuard op t xo yo x' y').run P w = .ok () w ∧ (binOp op t x' y').run P w = .ok v w ∧ Flat v := by
  have flatI : ∀ {op k a b v}, intA op k a b = some v → Flat v := by
    intro op k a b v h
    cases op <;> simp only [intA, bitsA, cmpA] at h <;> (try split at h) <;> cases h <;> constructor
  have flatS : ∀ {op a b v}, strA op a b = some v → Flat v := by
    intro op a b v h
    cases op <;> simp only [strA] at h <;> (try (cases hb : Nat.ble ((bytesOf a).length + (bytesOf b).length) 9223372036854775807 <;> rw [hb] at h)) <;> cases h <;> constructor
  have flatH : ∀ {l k a b v}, shiftA l k a b = some v → Flat v := by
    intro l k a b v h
    unfold shiftA at h
    split at h
    · cases h
    · cases l <;> cases h <;> constructor
  have generic : ∀ {b : Bool}, (op = .eql ∨ op = .neq) → eqA d x y = some b → v = .bool (if op = .eql then b else !b) → (eqGuard op t xo yo x' y').run P w = .ok () w ∧ (binOp op t x' y').run P w = .ok v w ∧ Flat v := by
    intro b ho he hv
    obtain ⟨h1, h2, h3, h4, h5, h6⟩ := eqA_rel (w := w) hd he hx hy
    refine ⟨eqGuard_pure h2 w, ?_, by subst hv; constructor⟩
    subst hv
    rcases ho with rfl | rfl
    · unfold binOp
      cases x' <;> simp_all
    · unfold binOp
      cases x' <;> simp_all
  cases hx with
  | unk i => exact absurd rfl (cx i)
  | rope k l n s h => exact absurd rfl (nx k l n)
  | int k n =>
    cases hy with
    | unk i => exact absurd rfl (cy i)
    | rope k l n s h => exact absurd rfl (ny k l n)
    | int k' m =>
      refine ⟨eqGuard_pure (by simp) w, ?_⟩
      by_cases hl : op = .shl
      · subst hl; simp only [binA] at h; exact ⟨by simpa [binOp] using run_shift (P := P) (left := true) (op := .shl) rfl h w, flatH h⟩
      · by_cases hr : op = .shr
        · subst hr; simp only [binA] at h; exact ⟨by simpa [binOp] using run_shift (P := P) (left := false) (op := .shr) rfl h w, flatH h⟩
        · have h' : (if k = k' then intA op k n m else none) = some v := by cases op <;> first | exact absurd rfl hl | exact absurd rfl hr | exact h
          split at h'
          · rename_i e; subst e; exact ⟨run_intA hl hr h' w, flatI h'⟩
          · cases h'
    | _ => cases op <;> simp [binA, eqA] at h <;> (cases d <;> simp [eqA] at h)
  | string s =>
    cases hy with
    | unk i => exact absurd rfl (cy i)
    | rope k l n s h => exact absurd rfl (ny k l n)
    | string s' =>
      have h' : strA op s s' = some v := by cases op <;> first | exact h | (simp [binA] at h; done)
      exact ⟨eqGuard_pure (by simp) w, run_str h' w, flatS h'⟩
    | _ => cases op <;> simp [binA, eqA] at h <;> (cases d <;> simp [eqA] at h)
  | _ =>
    cases op <;> simp only [binA] at h <;> (try (cases h; done)) <;> (try (cases hy <;> first | (exact absurd rfl (cy _)) | (exact absurd rfl (ny _ _ _)) | simp at h; done))
    all_goals
      rw [Option.map_eq_some_iff] at h
      obtain ⟨b, hb, hv⟩ := h
      exact generic (by simp) hb (by simp [← hv])
theorem ropeA_rel {op : BinOp} {t : TypeId} {xo yo : Operand} {x y x' y' v : Value} (h : ropeA op x y = some v) (hx : VRel σ x x') (hy : VRel σ y y') :
    ∃ v', (eqGuard op t xo yo x' y').run P w = .ok () w ∧ (binOp op t x' y').run P w = .ok v' w ∧ VRel σ v v' := by
  unfold ropeA at h
  rw [Option.bind_eq_some_iff] at h
  obtain ⟨a, ha, h⟩ := h
  rw [Option.bind_eq_some_iff] at h
  obtain ⟨b, hb, h⟩ := h
  obtain ⟨s, rfl, hs⟩ := charsOf_rel hx ha
  obtain ⟨s', rfl, hs'⟩ := charsOf_rel hy hb
  have fin : ∀ v', strA op s s' = some v' → VRel σ v v' → ∃ v', (eqGuard op t xo yo (.string s) (.string s')).run P w = .ok () w ∧ (binOp op t (.string s) (.string s')).run P w = .ok v' w ∧ VRel σ v v' :=
    fun v' h1 h2 => ⟨v', eqGuard_pure (by simp) w, run_str h1 w, h2⟩
  cases op <;> simp only [reduceCtorEq] at h
  · cases hl : Nat.ble (a.length + b.length) 9223372036854775807 with
    | false => rw [hl] at h; cases h
    | true =>
      rw [hl] at h
      refine fin (.string (ofBytes (bytesOf s ++ bytesOf s'))) ?_ (mkStr_rel h (hs.append hs'))
      rw [hs.len, hs'.len] at hl
      simp only [strA, hl, cond_true]
  · rw [Option.map_eq_some_iff] at h
    obtain ⟨u, hu, rfl⟩ := h
    exact fin _ rfl (by rw [eqC_rel hu hs hs']; exact .bool _)
  · rw [Option.map_eq_some_iff] at h
    obtain ⟨u, hu, rfl⟩ := h
    exact fin _ rfl (by rw [eqC_rel hu hs hs']; exact .bool _)
theorem eqTok_rel {i : Nat} {y y' : Value} {t : Bool} (h : eqTok i y = some t) (hy : VRel σ y y') : ∃ (k : IntKind) (a b : Int), Unk.val i = .int k a ∧ y' = .int k b ∧ t = (a == b) := by
  unfold eqTok at h
  split at h
  · rename_i j
    cases hk : (isKey i && isKey j) with
    | false =>
      rw [hk] at h
      simp only [cond_false] at h
      cases hb : (Nat.blt i 4096 && Nat.blt j 4096) with
      | false => rw [hb] at h; cases h
      | true =>
        rw [hb] at h
        simp only [cond_true] at h
        rw [Bool.and_eq_true] at hb
        have hi : i < 4096 := Nat.le_of_ble_eq_true hb.1
        have hj : j < 4096 := Nat.le_of_ble_eq_true hb.2
        obtain ⟨x, hx⟩ := Unk.byt i hi
        obtain ⟨z, hz⟩ := Unk.byt j hj
        have e := eqC1_rel (x := x) (y := z) h (.inr ⟨i, rfl, hi, hx⟩) (.inr ⟨j, rfl, hj, hz⟩)
        cases hy
        refine ⟨.u8, Int.ofNat x.toNat, Int.ofNat z.toNat, hx, hz, ?_⟩
        rw [e]
        by_cases hxz : x = z
        · subst hxz; simp
        · have h1 : (x == z) = false := by simpa using hxz
          rw [h1]
          symm
          simp only [beq_eq_false_iff_ne, ne_eq]
          intro h2
          exact hxz (UInt8.toNat_inj.1 (Int.ofNat.inj h2))
    | true =>
      rw [hk] at h
      simp only [cond_true, Option.some.injEq] at h
      rw [Bool.and_eq_true] at hk
      obtain ⟨a, ha, _, _⟩ := Unk.key i hk.1
      obtain ⟨b, hb, _, _⟩ := Unk.key j hk.2
      cases hy
      refine ⟨.u64, a, b, ha, hb, ?_⟩
      subst h
      cases he : Nat.beq i j with
      | true =>
        have := Nat.eq_of_beq_eq_true he
        subst this
        rw [ha] at hb
        cases hb
        simp
      | false =>
        have hne := Nat.ne_of_beq_eq_false he
        have hk1 := hk.1
        have hk2 := hk.2
        unfold isKey at hk1 hk2
        rw [Bool.or_eq_true] at hk1 hk2
        have hd := Unk.keys
        have hab : a ≠ b := by
          intro e
          subst e
          rcases hk1 with h1 | h1 <;> rcases hk2 with h2 | h2 <;> (have e1 := Nat.eq_of_beq_eq_true h1; have e2 := Nat.eq_of_beq_eq_true h2; subst e1; subst e2)
          · exact hne rfl
          · exact hd (ha.trans hb.symm)
          · exact hd (hb.trans ha.symm)
          · exact hne rfl
        simp [hab]
  · rename_i n
    cases hk : (isKey i && n == 0) with
    | false => rw [hk] at h; cases h
    | true =>
      rw [hk] at h
      cases h
      rw [Bool.and_eq_true] at hk
      obtain ⟨a, ha, h0, _⟩ := Unk.key i hk.1
      have hn : n = 0 := by simpa using hk.2
      subst hn
      cases hy
      refine ⟨.u64, a, 0, ha, rfl, ?_⟩
      have : a ≠ 0 := by omega
      simp [this]
  · cases h
theorem run_eqk {op : BinOp} {t : TypeId} {xo yo : Operand} {k : IntKind} {a b : Int} {v : Value} (h : (op = .eql ∧ v = .bool (a == b)) ∨ (op = .neq ∧ v = .bool (!(a == b)))) :
    ∃ v', (eqGuard op t xo yo (.int k a) (.int k b)).run P w = .ok () w ∧ (binOp op t (.int k a) (.int k b)).run P w = .ok v' w ∧ VRel σ v v' := by
  refine ⟨v, eqGuard_pure (by simp) w, run_intA (by rcases h with ⟨rfl, _⟩ | ⟨rfl, _⟩ <;> simp) (by rcases h with ⟨rfl, _⟩ | ⟨rfl, _⟩ <;> simp) ?_ w, ?_⟩
  · rcases h with ⟨rfl, rfl⟩ | ⟨rfl, rfl⟩ <;> simp [intA, cmpA, bne]
  · rcases h with ⟨_, rfl⟩ | ⟨_, rfl⟩ <;> exact .bool _
theorem tok_add {i : Nat} {m : Int} (h : (Nat.blt i 4096 && Nat.blt (Nat.add (Nat.mod i 16) m.toNat) 16 && decide (0 ≤ m)) = true) : ∃ x : Int, Unk.val i = .int .u8 x ∧ Unk.val (Nat.add i m.toNat) = .int .u8 (IntKind.u8.wrap (x + m)) ∧ Unk.val (Nat.add i m.toNat) = .int .u8 (IntKind.u8.wrap (m + x)) := by
  rw [Bool.and_eq_true, Bool.and_eq_true] at h
  obtain ⟨⟨h1, h2⟩, h3⟩ := h
  have hi : i < 4096 := Nat.le_of_ble_eq_true h1
  have hm : i % 16 + m.toNat < 16 := Nat.le_of_ble_eq_true h2
  have h0 : 0 ≤ m := of_decide_eq_true h3
  obtain ⟨b, hb, hs⟩ := Unk.sum i m.toNat hi hm
  have hlt := b.toNat_lt
  have key : byteV (b + UInt8.ofNat m.toNat) = .int .u8 (IntKind.u8.wrap (Int.ofNat b.toNat + m)) := by
    simp only [byteV, Value.int.injEq, true_and]
    have e1 : (b + UInt8.ofNat m.toNat).toNat = (b.toNat + m.toNat) % 256 := by
      rw [UInt8.toNat_add, UInt8.toNat_ofNat']
      omega
    rw [e1]
    simp only [IntKind.wrap, IntKind.signed, IntKind.bits]
    have e2 : (Int.ofNat b.toNat + m) = ((b.toNat + m.toNat : Nat) : Int) := by
      show ((b.toNat : Nat) : Int) + m = _
      omega
    rw [e2]
    simp
  refine ⟨Int.ofNat b.toNat, hb, ?_, ?_⟩
  · show Unk.val (i + m.toNat) = _
    rw [hs, key]
  · show Unk.val (i + m.toNat) = _
    rw [hs, key, Int.add_comm]
theorem tokA_rel {op : BinOp} {t : TypeId} {xo yo : Operand} {i : Nat} {y y' v : Value} (h : tokA op i y = some v) (hy : VRel σ y y') :
    (∃ v', (eqGuard op t xo yo (Unk.val i) y').run P w = .ok () w ∧ (binOp op t (Unk.val i) y').run P w = .ok v' w ∧ VRel σ v v') ∧
    (∃ v', (eqGuard op t xo yo y' (Unk.val i)).run P w = .ok () w ∧ (binOp op t y' (Unk.val i)).run P w = .ok v' w ∧ VRel σ v v') := by
  have main : (∃ (u : Bool), eqTok i y = some u ∧ ((op = .eql ∧ v = .bool u) ∨ (op = .neq ∧ v = .bool (!u)))) ∨
      (∃ m : Int, op = .add ∧ y = .int .u8 m ∧ (Nat.blt i 4096 && Nat.blt (Nat.add (Nat.mod i 16) m.toNat) 16 && decide (0 ≤ m)) = true ∧ v = .chan (some (Nat.add i m.toNat))) := by
    unfold tokA at h
    split at h
    · rw [Option.map_eq_some_iff] at h; obtain ⟨u, hu, rfl⟩ := h; exact .inl ⟨u, hu, .inl ⟨rfl, rfl⟩⟩
    · rw [Option.map_eq_some_iff] at h; obtain ⟨u, hu, rfl⟩ := h; exact .inl ⟨u, hu, .inr ⟨rfl, rfl⟩⟩
    · split at h
      · rename_i m
        cases hb : (Nat.blt i 4096 && Nat.blt (Nat.add (Nat.mod i 16) m.toNat) 16 && decide (0 ≤ m)) with
        | false => rw [hb] at h; cases h
        | true => rw [hb] at h; cases h; exact .inr ⟨m, rfl, rfl, hb, rfl⟩
      · cases h
    · cases h
  rcases main with ⟨u, hu, hv⟩ | ⟨m, rfl, rfl, hb, rfl⟩
  · obtain ⟨k, a, b, ha, rfl, rfl⟩ := eqTok_rel hu hy
    rw [ha]
    refine ⟨run_eqk hv, run_eqk ?_⟩
    have hc : (a == b) = (b == a) := by
      by_cases e : a = b
      · subst e; rfl
      · have h1 : (a == b) = false := by simpa using e
        have h2 : (b == a) = false := by simpa using fun h => e h.symm
        rw [h1, h2]
    rw [← hc]
    exact hv
  · obtain ⟨x, hx, h1, h2⟩ := tok_add hb
    cases hy
    rw [hx]
    refine ⟨⟨Unk.val (Nat.add i m.toNat), eqGuard_pure (by simp) w, ?_, .unk _⟩, ⟨Unk.val (Nat.add i m.toNat), eqGuard_pure (by simp) w, ?_, .unk _⟩⟩
    · exact run_intA (by simp) (by simp) (by rw [h1]; rfl) w
    · exact run_intA (by simp) (by simp) (by rw [h2]; rfl) w
theorem binA_rel {op : BinOp} {d : TypeDesc} {t : TypeId} {xo yo : Operand} {x y x' y' v : Value} (hd : P.underlying t = some d) (h : binA op d x y = some v) (hx : VRel σ x x') (hy : VRel σ y y') :
    ∃ v', (eqGuard op t xo yo x' y').run P w = .ok () w ∧ (binOp op t x' y').run P w = .ok v' w ∧ VRel σ v v' := by
  by_cases nx : ∃ k l n, x = .complex k l n
  · obtain ⟨k, l, n, rfl⟩ := nx
    exact ropeA_rel (by cases op <;> cases y <;> exact h) hx hy
  by_cases ny : ∃ k l n, y = .complex k l n
  · obtain ⟨k, l, n, rfl⟩ := ny
    exact ropeA_rel (by cases op <;> cases x <;> exact h) hx hy
  by_cases cx : ∃ i, x = .chan (some i)
  · obtain ⟨i, rfl⟩ := cx
    have h' : tokA op i y = some v := by
      cases op <;> cases y <;> first | exact h | exact absurd ⟨_, _, _, rfl⟩ ny
    cases hx
    exact (tokA_rel h' hy).1
  by_cases cy : ∃ i, y = .chan (some i)
  · obtain ⟨i, rfl⟩ := cy
    have h' : tokA op i x = some v := by
      cases op <;> (cases x with
        | chan r => cases r with
          | some j => exact absurd ⟨j, rfl⟩ cx
          | none => exact h
        | complex k l n => exact absurd ⟨_, _, _, rfl⟩ nx
        | _ => exact h)
    cases hy
    exact (tokA_rel h' hx).2
  obtain ⟨h1, h2, h3⟩ := binA_rel0 (w := w) (xo := xo) (yo := yo) hd h hx hy (fun k l n e => nx ⟨k, l, n, e⟩) (fun k l n e => ny ⟨k, l, n, e⟩) (fun i e => cx ⟨i, e⟩) (fun i e => cy ⟨i, e⟩)
  exact ⟨v, h1, h2, h3.vrel⟩
/-- What a comparison or an operation of two comes to. -/
theorem compBin_kind {op : BinOp} {xt : TypeId} {d : TypeDesc} {x y : Operand} {X : XOp} (h : compBin P op xt d x y = some X) :
    X = .bin op d x y ∨ ((∃ ms, d = .interface ms) ∧ isNilC y = true ∧ ((op = .eql ∧ X = .isNil false x y) ∨ (op = .neq ∧ X = .isNil true x y))) ∨
    (∃ l, keyKind P xt = some (.many l) ∧ P.eqGuardType P.depth xt = false ∧ ((op = .eql ∧ X = .eqS false l x y) ∨ (op = .neq ∧ X = .eqS true l x y))) := by
  unfold compBin at h
  split at h
  · cases hy : isNilC y with
    | false => rw [hy] at h; cases h
    | true => rw [hy] at h; cases h; exact .inr (.inl ⟨⟨_, rfl⟩, rfl, .inl ⟨rfl, rfl⟩⟩)
  · cases hy : isNilC y with
    | false => rw [hy] at h; cases h
    | true => rw [hy] at h; cases h; exact .inr (.inl ⟨⟨_, rfl⟩, rfl, .inr ⟨rfl, rfl⟩⟩)
  · split at h
    · rename_i l hl
      cases hg : P.eqGuardType P.depth xt with
      | true => rw [hg] at h; cases h
      | false => rw [hg] at h; cases h; exact .inr (.inr ⟨l, hl, rfl, .inl ⟨rfl, rfl⟩⟩)
    · cases h
  · split at h
    · rename_i l hl
      cases hg : P.eqGuardType P.depth xt with
      | true => rw [hg] at h; cases h
      | false => rw [hg] at h; cases h; exact .inr (.inr ⟨l, hl, rfl, .inr ⟨rfl, rfl⟩⟩)
    · cases h
  · cases h; exact .inl rfl
theorem compBin_light {op : BinOp} {xt : TypeId} {d : TypeDesc} {x y : Operand} {X : XOp} (h : compBin P op xt d x y = some X) : light X = true := by
  rcases compBin_kind h with rfl | ⟨_, _, ⟨_, rfl⟩ | ⟨_, rfl⟩⟩ | ⟨_, _, _, ⟨_, rfl⟩ | ⟨_, rfl⟩⟩ <;> rfl
end
end Go.Ab
