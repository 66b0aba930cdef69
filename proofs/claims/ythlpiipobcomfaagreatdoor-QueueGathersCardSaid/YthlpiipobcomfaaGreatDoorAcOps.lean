/- The interpreter's light operations say what the model's do. -/
/- Composite values. -/
/- Keys of maps: scalars, and structs of scalars. -/
/- The light operations, one by one. -/
import Derived.Test.YthlpiipobcomfaaGreatDoorAcRel
import Derived.Laws.StructEq
import Derived.ChangeKeysEq
import Derived.Laws.LoneSync
set_option linter.all false
set_option linter.unusedSectionVars false
set_option linter.unusedVariables false
set_option linter.unusedSimpArgs false
namespace Go.Ab
open Go
variable [Unk]

section
variable {P : Program} {σ : Sg} {A : H} {w : World}

theorem run_size {t : TypeId} {n : Nat} (h : sizeA P t = some n) (w : World) : (sizeOf t).run P w = .ok n w := by
  unfold sizeA at h
  cases hi : P.info? t with
  | none => simp [hi] at h
  | some i => simp [hi] at h; simp [sizeOf, typeInfo, hi, h]
theorem run_agg {t : TypeId} {b : Bool} (h : aggA P t = some b) (w : World) : (isAgg t).run P w = .ok b w := by
  unfold aggA at h
  cases hu : P.underlying t with
  | none => simp [hu] at h
  | some d =>
    simp only [hu, Option.map_some, Option.some.injEq] at h
    subst h
    simp only [isAgg, Sem.run_bind, run_underlying hu, Result.andThen_ok]
    cases d <;> rfl
theorem flat1_flat {v : Value} (h : flat1 v = true) : Flat v := by
  unfold flat1 at h
  split at h <;> first | constructor | cases h
theorem flat_cells {v : Value} (h : (cellsL v).all flat1 = true) : Flat v := by
  cases v with
  | agg cs => exact .agg cs fun x hx => flat1_flat (by rw [List.all_eq_true] at h; exact h x hx)
  | _ => simp [cellsL] at h; exact flat1_flat h
theorem run_zero {t : TypeId} {z : List Value} (h : zeroA P t = some z) (w : World) : ∃ v i, P.info? t = some i ∧ i.zero = some v ∧ (zeroValue t).run P w = .ok v w ∧ v.cells.toList = z ∧ Flat v ∧ LRel σ z z ∧ v.cells.size = i.size := by
  unfold zeroA at h
  cases hi : P.info? t with
  | none => simp [hi] at h
  | some i =>
    cases hz : i.zero with
    | none => simp [hi, hz] at h
    | some v =>
      simp only [hi, hz, Option.bind_some] at h
      cases hb : ((cellsL v).all flat1 && Nat.beq (cellsL v).length i.size) with
      | false => rw [hb] at h; cases h
      | true =>
        rw [hb] at h
        simp only [cond_true, Option.some.injEq] at h
        subst h
        rw [Bool.and_eq_true] at hb
        obtain ⟨hb, hb2⟩ := hb
        have hsz := Nat.eq_of_beq_eq_true hb2
        refine ⟨v, i, rfl, hz, by simp [zeroValue, typeInfo, hi, hz], by cases v <;> rfl, flat_cells hb, (LRel.flat fun x hx => (flat1_flat (by rw [List.all_eq_true] at hb; exact hb x hx)).vrel), ?_⟩
        rw [← hsz]; cases v <;> rfl
theorem cells_toList (v : Value) : v.cells.toList = cellsL v := by cases v <;> rfl

/-! ### Inversions -/
theorem VRel.bool_inv {b : Bool} {v' : Value} (h : VRel σ (.bool b) v') : v' = .bool b := by cases h; rfl
theorem VRel.int_inv {k : IntKind} {n : Int} {v' : Value} (h : VRel σ (.int k n) v') : v' = .int k n := by cases h; rfl
theorem VRel.string_inv {s : ByteArray} {v' : Value} (h : VRel σ (.string s) v') : v' = .string s := by cases h; rfl
theorem boolV_rel {v v' : Value} {b : Bool} (h : VRel σ v v') (hb : boolV v = some b) : v = .bool b ∧ v' = .bool b := by
  cases h <;> simp [boolV] at hb <;> subst hb <;> exact ⟨rfl, rfl⟩
theorem intV_rel {v v' : Value} {n : Int} (h : VRel σ v v') (hb : intV v = some n) : ∃ k, v = .int k n ∧ v' = .int k n := by
  cases h <;> simp [intV] at hb <;> subst hb <;> exact ⟨_, rfl, rfl⟩
theorem strV_rel {v v' : Value} {s : ByteArray} (h : VRel σ v v') (hb : strV v = some s) : v = .string s ∧ v' = .string s := by
  cases h <;> simp [strV] at hb <;> subst hb <;> exact ⟨rfl, rfl⟩
theorem cellsL_one {v : Value} (h : oneCell v = true) : cellsL v = [v] := by cases v <;> first | rfl | cases h
theorem cellsL_rel {v v' : Value} (h : VRel σ v v') : LRel σ (cellsL v) (cellsL v') := by
  cases h with
  | agg as as' h1 h => exact ⟨by simpa [cellsL] using h1, h⟩
  | bool b => exact .cons (.bool b) .nil
  | int k n => exact .cons (.int k n) .nil
  | string s => exact .cons (.string s) .nil
  | ptrNil => exact .cons .ptrNil .nil
  | ptr off h => exact .cons (.ptr off h) .nil
  | sliceNil l c => exact .cons (.sliceNil l c) .nil
  | slice off l c c' h hc => exact .cons (.slice off l c c' h hc) .nil
  | sliceEnd off b o h => exact .cons (.sliceEnd off b o h) .nil
  | mapNil => exact .cons .mapNil .nil
  | map h => exact .cons (.map h) .nil
  | func fn as as' bs bs' h1 h2 h k => exact .cons (.func fn as as' bs bs' h1 h2 h k) .nil
  | nilFunc => exact .cons .nilFunc .nil
  | iface t h => exact .cons (.iface t h) .nil
  | nilIface => exact .cons .nilIface .nil
  | tuple as as' h1 h => exact .cons (.tuple as as' h1 h) .nil
  | unk i => rw [cellsL_one (Unk.one i)]; exact .cons (.unk i) .nil
  | rope l n s h => exact .cons (.rope l n s h) .nil
  | sym c n => exact .cons (.sym c n) .nil
  | any v' h hb => rw [cellsL_one h]; exact .cons (.any v' h hb) .nil
  | pos k n h hl => exact .cons (.pos k n h hl) .nil
/-! ### Texts with unknown bytes -/
theorem byteV_inj {a b : UInt8} (h : byteV a = byteV b) : a = b := by
  simp only [byteV, Value.int.injEq, true_and] at h
  exact UInt8.toNat_inj.1 (Int.ofNat.inj h)
theorem CRel.len : ∀ {l : List Value} {b : List UInt8}, CRel l b → l.length = b.length
  | [], [], _ => rfl
  | c :: l, x :: b, h => by simp [CRel.len h.2]
theorem CRel.append : ∀ {l : List Value} {b : List UInt8} {m : List Value} {d : List UInt8}, CRel l b → CRel m d → CRel (l ++ m) (b ++ d)
  | [], [], _, _, _, k => k
  | c :: l, x :: b, _, _, h, k => ⟨h.1, CRel.append h.2 k⟩
theorem CRel.take : ∀ {l : List Value} {b : List UInt8} (n : Nat), CRel l b → CRel (l.take n) (b.take n)
  | [], [], n, h => by simp; trivial
  | c :: l, x :: b, 0, h => by simp; trivial
  | c :: l, x :: b, n + 1, h => ⟨h.1, CRel.take n h.2⟩
theorem CRel.drop : ∀ {l : List Value} {b : List UInt8} (n : Nat), CRel l b → CRel (l.drop n) (b.drop n)
  | [], [], n, h => by simp; trivial
  | c :: l, x :: b, 0, h => h
  | c :: l, x :: b, n + 1, h => CRel.drop n h.2
theorem CRel.get : ∀ {l : List Value} {b : List UInt8} {i : Nat} {c : Value}, CRel l b → l[i]? = some c → ∃ x, b[i]? = some x ∧ CharRel c x
  | [], [], i, c, h, hc => by simp at hc
  | d :: l, x :: b, 0, c, h, hc => by
    simp only [List.getElem?_cons_zero, Option.some.injEq] at hc
    subst hc
    exact ⟨x, rfl, h.1⟩
  | d :: l, x :: b, i + 1, c, h, hc => by
    simp only [List.getElem?_cons_succ] at hc ⊢
    exact CRel.get h.2 hc
theorem CRel.bytes : ∀ (b : List UInt8), CRel (b.map byteV) b
  | [] => trivial
  | x :: b => ⟨.inl rfl, CRel.bytes b⟩
theorem sym_char {σ : Sg} {n : Nat} {x : UInt8} (hn : denL Unk.bit (unB 8 n) = x.toNat) : VRel σ (.complex .f32 12 n) (byteV x) := by
  have h := VRel.sym (σ := σ) 12 n
  have e1 : symK 12 = .u8 := rfl
  have e2 : symMul 12 = 1 := rfl
  have e3 : symAdd 12 = 0 := rfl
  have e4 : symL 12 n = unB 8 n := rfl
  rw [e1, e2, e3, e4, hn, Nat.one_mul, Nat.add_zero] at h
  exact h
theorem CharRel.vrel {σ : Sg} {c : Value} {x : UInt8} (h : CharRel c x) : VRel σ c (byteV x) := by
  rcases h with rfl | ⟨i, rfl, _, hv⟩ | ⟨n, rfl, hn⟩
  · exact .int _ _
  · rw [← hv]; exact .unk i
  · exact sym_char hn
theorem CRel.lrel {σ : Sg} : ∀ {l : List Value} {b : List UInt8}, CRel l b → LRel σ l (b.map byteV)
  | [], [], _ => .nil
  | c :: l, x :: b, h => .cons h.1.vrel (CRel.lrel h.2)
theorem charsOf_rel {σ : Sg} {v v' : Value} {l : List Value} (h : VRel σ v v') (hc : charsOf v = some l) : ∃ s, v' = .string s ∧ CRel l (bytesOf s) := by
  cases h <;> simp only [charsOf, Option.some.injEq, reduceCtorEq] at hc
  · subst hc; exact ⟨_, rfl, CRel.bytes _⟩
  · rename_i s h; subst hc; exact ⟨s, rfl, h⟩
theorem code_char {v : Value} {c : Nat} (h : codeC v = some c) : charV c = v ∧ c < baseC := by
  have hb : baseC = 1461501637330902918203684832716283019655932542976 := rfl
  unfold codeC at h
  split at h
  · rename_i n
    split at h
    · rename_i hn
      cases h
      have : Nat.blt n.toNat 256 = true := Nat.ble_eq_true_of_le (by omega)
      refine ⟨?_, by omega⟩
      simp only [charV, this, cond_true, Value.int.injEq, true_and]
      show ((n.toNat : Nat) : Int) = n
      omega
    · cases h
  · rename_i i
    cases hb : Nat.blt i 4096 with
    | false => rw [hb] at h; cases h
    | true =>
      rw [hb] at h
      cases h
      have hi : i < 4096 := Nat.le_of_ble_eq_true hb
      have e : Nat.add 256 i = 256 + i := rfl
      have hf : Nat.blt (Nat.add 256 i) 256 = false := by
        cases hx : Nat.blt (Nat.add 256 i) 256 with
        | false => rfl
        | true => have : Nat.add 256 i + 1 ≤ 256 := Nat.le_of_ble_eq_true hx; omega
      have hf2 : Nat.blt (Nat.add 256 i) 65536 = true := Nat.ble_eq_true_of_le (by show 256 + i + 1 ≤ 65536; omega)
      refine ⟨?_, by omega⟩
      simp only [charV, hf, hf2, cond_true, cond_false, Value.chan.injEq, Option.some.injEq]
      show 256 + i - 256 = i
      omega
  · rename_i c n
    cases hx : (Nat.beq c 12 && Nat.blt n 340282366920938463463374607431768211456) with
    | false => rw [hx] at h; cases h
    | true =>
      rw [hx] at h
      cases h
      rw [Bool.and_eq_true] at hx
      have hc := beq_t hx.1
      have hn := blt_t hx.2
      subst hc
      have e : Nat.add 65536 (Nat.mul 65536 n) = 65536 + 65536 * n := rfl
      have hf : Nat.blt (65536 + 65536 * n) 256 = false := by
        cases hx : Nat.blt (65536 + 65536 * n) 256 with
        | false => rfl
        | true => have := blt_t hx; omega
      have hf2 : Nat.blt (65536 + 65536 * n) 65536 = false := by
        cases hx : Nat.blt (65536 + 65536 * n) 65536 with
        | false => rfl
        | true => have := blt_t hx; omega
      rw [e]
      refine ⟨?_, by omega⟩
      simp only [charV, hf, hf2, cond_false, Value.complex.injEq, true_and]
      show (65536 + 65536 * n) / 65536 - 1 = n
      omega
  · cases h
theorem dec_enc : ∀ {l : List Value} {n : Nat}, encR l = some n → decR l.length n = l
  | [], n, h => rfl
  | v :: l, n, h => by
    simp only [encR, Option.bind_eq_some_iff, Option.map_eq_some_iff] at h
    obtain ⟨c, hc, m, hm, rfl⟩ := h
    obtain ⟨h1, h2⟩ := code_char hc
    have hb : baseC = 1461501637330902918203684832716283019655932542976 := rfl
    have e1 : Nat.mod (Nat.add c (Nat.mul baseC m)) baseC = c := by
      show (c + baseC * m) % baseC = c
      rw [Nat.add_mul_mod_self_left, Nat.mod_eq_of_lt h2]
    have e2 : Nat.div (Nat.add c (Nat.mul baseC m)) baseC = m := by
      show (c + baseC * m) / baseC = m
      rw [Nat.add_mul_div_left _ _ (by decide), Nat.div_eq_of_lt h2, Nat.zero_add]
    simp only [List.length_cons, decR, e1, e2, h1, dec_enc hm]
theorem sym_byte {σ : Sg} {n : Nat} {v' : Value} (h : VRel σ (.complex .f32 12 n) v') : ∃ x : UInt8, v' = byteV x ∧ denL Unk.bit (unB 8 n) = x.toNat := by
  cases h
  have e1 : symK 12 = .u8 := rfl
  have e2 : symMul 12 = 1 := rfl
  have e3 : symAdd 12 = 0 := rfl
  have e4 : symL 12 n = unB 8 n := rfl
  rw [e1, e2, e3, e4, Nat.one_mul, Nat.add_zero]
  have hlt := denL_lt (bit := Unk.bit) (unB 8 n)
  rw [unB_len] at hlt
  have e5 : (UInt8.ofNat (denL Unk.bit (unB 8 n))).toNat = denL Unk.bit (unB 8 n) := by rw [UInt8.toNat_ofNat']; omega
  exact ⟨UInt8.ofNat (denL Unk.bit (unB 8 n)), by unfold byteV; rw [e5], e5.symm⟩
/-- Cells that have a code stand for bytes. -/
theorem enc_cells {σ : Sg} : ∀ {l l' : List Value} {n : Nat}, encR l = some n → LRel σ l l' → ∃ bs : List UInt8, l' = bs.map byteV ∧ CRel l bs
  | [], l', n, h, hl => by
    have : l' = [] := List.eq_nil_of_length_eq_zero (by have := hl.len; simpa using this.symm)
    subst this
    exact ⟨[], rfl, trivial⟩
  | v :: l, l', n, h, hl => by
    simp only [encR, Option.bind_eq_some_iff, Option.map_eq_some_iff] at h
    obtain ⟨c, hc, m, hm, rfl⟩ := h
    obtain ⟨v', r, rfl, hv, hr⟩ := hl.cons_inv
    obtain ⟨bs, rfl, hb⟩ := enc_cells hm hr
    unfold codeC at hc
    split at hc
    · rename_i k
      split at hc
      · rename_i hk
        cases hv
        have e : byteV (UInt8.ofNat k.toNat) = .int .u8 k := by
          simp only [byteV, Value.int.injEq, true_and]
          have h1 : (UInt8.ofNat k.toNat).toNat = k.toNat := by rw [UInt8.toNat_ofNat']; omega
          rw [h1]
          show ((k.toNat : Nat) : Int) = k
          omega
        exact ⟨UInt8.ofNat k.toNat :: bs, by rw [List.map_cons, e], .inl e.symm, hb⟩
      · cases hc
    · rename_i i
      cases hbt : Nat.blt i 4096 with
      | false => rw [hbt] at hc; cases hc
      | true =>
        have hi : i < 4096 := Nat.le_of_ble_eq_true hbt
        cases hv
        obtain ⟨x, hx⟩ := Unk.byt i hi
        exact ⟨x :: bs, by rw [List.map_cons, hx], .inr (.inl ⟨i, rfl, hi, hx⟩), hb⟩
    · rename_i c2 n
      cases hx : (Nat.beq c2 12 && Nat.blt n 340282366920938463463374607431768211456) with
      | false => rw [hx] at hc; cases hc
      | true =>
        rw [Bool.and_eq_true] at hx
        have h2 := beq_t hx.1
        subst h2
        obtain ⟨x, hv, hx⟩ := sym_byte hv
        exact ⟨x :: bs, by rw [List.map_cons, hv], .inr (.inr ⟨n, rfl, hx⟩), hb⟩
    · cases hc
theorem bytesV_crel : ∀ {l : List Value} {bs b : List UInt8}, bytesV l = some bs → CRel l b → bs = b
  | [], bs, [], h, _ => by simp only [bytesV, Option.some.injEq] at h; exact h.symm
  | v :: l, bs, x :: b, h, hc => by
    obtain ⟨h1, h2⟩ := hc
    rcases h1 with rfl | ⟨i, rfl, _⟩ | ⟨n, rfl, _⟩
    · simp only [byteV, bytesV, Option.map_eq_some_iff] at h
      obtain ⟨r, hr, rfl⟩ := h
      rw [bytesV_crel hr h2]
      congr 1
      apply UInt8.toNat_inj.1
      show (UInt8.ofNat (Int.ofNat x.toNat).toNat).toNat = x.toNat
      rw [UInt8.toNat_ofNat']
      have := x.toNat_lt
      show x.toNat % 2 ^ 8 = x.toNat
      omega
    · simp [bytesV] at h
    · simp [bytesV] at h
theorem mkStr_rel {σ : Sg} {l : List Value} {v : Value} {b : List UInt8} (h : mkStr l = some v) (hc : CRel l b) : VRel σ v (.string (ofBytes b)) := by
  unfold mkStr at h
  split at h
  · rename_i bs hb
    cases h
    rw [bytesV_crel hb hc]
    exact .string _
  · rw [Option.map_eq_some_iff] at h
    obtain ⟨n, hn, rfl⟩ := h
    exact .rope _ _ _ (by rw [dec_enc hn]; exact hc)
theorem eqC1_rel {a b : Value} {x y : UInt8} {t : Bool} (h : eqC1 a b = some t) (ha : CharRel a x) (hb : CharRel b y) : t = (x == y) := by
  unfold eqC1 at h
  split at h
  · rename_i m n
    cases h
    rcases ha with ha | ⟨i, ha, _⟩ | ⟨i, ha, _⟩
    · rcases hb with hb | ⟨i, hb, _⟩ | ⟨i, hb, _⟩
      · simp only [byteV, Value.int.injEq, true_and] at ha hb
        subst ha; subst hb
        by_cases e : x = y
        · subst e; simp
        · have : x.toNat ≠ y.toNat := fun h => e (UInt8.toNat_inj.1 h)
          have h1 : (x == y) = false := by simpa using e
          rw [h1]
          simp only [beq_eq_false_iff_ne, ne_eq]
          intro h2
          exact this (Int.ofNat.inj h2)
      · cases hb
      · cases hb
    · cases ha
    · cases ha
  · rename_i i j
    rcases ha with ha | ⟨i', ha, _, hi⟩ | ⟨i', ha, _⟩
    · cases ha
    · rcases hb with hb | ⟨j', hb, _, hj⟩ | ⟨j', hb, _⟩
      · cases hb
      · cases ha; cases hb
        cases he : Nat.beq i j with
        | true =>
          rw [he] at h
          have := Nat.eq_of_beq_eq_true he
          subst this
          rw [hi] at hj
          have := byteV_inj hj
          subst this
          cases h
          simp
        | false =>
          rw [he] at h
          simp only [cond_false] at h
          cases hn : neqTok i j with
          | false => rw [hn] at h; cases h
          | true =>
            rw [hn] at h
            cases h
            have := Unk.neq i j hn
            rw [hi, hj] at this
            have hxy : x ≠ y := fun e => this (by rw [e])
            simpa using hxy.symm ∘ Eq.symm
      · cases hb
    · cases ha
  · cases h
theorem CRel.inv {c : Value} {l : List Value} {b : List UInt8} (h : CRel (c :: l) b) : ∃ x m, b = x :: m ∧ CharRel c x ∧ CRel l m := by
  cases b with
  | nil => cases h
  | cons x m => exact ⟨x, m, rfl, h.1, h.2⟩
theorem CRel.nil_inv {b : List UInt8} (h : CRel [] b) : b = [] := by
  cases b with
  | nil => rfl
  | cons x m => cases h
theorem eqCL_rel : ∀ (a b : List Value) (x y : List UInt8) {t : Bool}, eqCL a b = some t → CRel a x → CRel b y → t = (x == y) := by
  intro a
  induction a with
  | nil =>
    intro b x y t h ha hb
    cases b with
    | nil =>
      cases h
      rw [ha.nil_inv, hb.nil_inv]
      rfl
    | cons c m => cases h
  | cons a l ih =>
    intro b x y t h ha hb
    cases b with
    | nil => cases h
    | cons b m =>
      obtain ⟨x, xs, rfl, ha1, ha2⟩ := ha.inv
      obtain ⟨y, ys, rfl, hb1, hb2⟩ := hb.inv
      unfold eqCL at h
      cases h1 : eqC1 a b with
      | none => rw [h1] at h; cases h
      | some u =>
        have e := eqC1_rel h1 ha1 hb1
        rw [h1] at h
        cases u with
        | true =>
          simp only at h
          have e2 := ih m xs ys h ha2 hb2
          have hxy : x = y := by simpa using e.symm
          rw [e2, hxy]
          simp
        | false =>
          simp only [Option.some.injEq] at h
          subst h
          have hxy : x ≠ y := by simpa using e.symm
          have : (x :: xs == y :: ys) = false := by simp [hxy]
          exact this.symm
theorem bitsC_rel {c : Value} {x : UInt8} {l : List Nat} (h : bitsC c = some l) (hc : CharRel c x) : denL Unk.bit l = x.toNat := by
  unfold bitsC at h
  split at h
  · rename_i a
    rcases hc with hc | ⟨i, hc, _⟩ | ⟨n, hc, _⟩
    · cases hb : Nat.blt a 256 with
      | false => rw [hb] at h; cases h
      | true =>
        rw [hb] at h
        cases h
        simp only [byteV, Value.int.injEq, true_and] at hc
        have := Int.ofNat.inj hc
        rw [den_constB, Nat.mod_eq_of_lt (blt_t hb)]
        exact this
    · cases hc
    · cases hc
  · rename_i c n
    rcases hc with hc | ⟨i, hc, _⟩ | ⟨m, hc, hm⟩
    · cases hc
    · cases hc
    · cases hc
      cases h
      exact hm
  · cases h
theorem charsD_rel : ∀ (a b : List Value) (x y : List UInt8) {D : List (Nat × Nat)}, charsD a b = some D → CRel a x → CRel b y → (HoldsD Unk.bit D ↔ x = y) := by
  intro a
  induction a with
  | nil =>
    intro b x y D h ha hb
    cases b with
    | nil =>
      cases h
      rw [ha.nil_inv, hb.nil_inv]
      simp [HoldsD]
    | cons c m => cases h
  | cons a l ih =>
    intro b x y D h ha hb
    cases b with
    | nil => cases h
    | cons b m =>
      obtain ⟨x, xs, rfl, ha1, ha2⟩ := ha.inv
      obtain ⟨y, ys, rfl, hb1, hb2⟩ := hb.inv
      have slow : (bitsC a).bind (fun x => (bitsC b).bind fun y => (charsD l m).map (pairsD x y ++ ·)) = some D → (HoldsD Unk.bit D ↔ x :: xs = y :: ys) := by
        intro h
        rw [Option.bind_eq_some_iff] at h
        obtain ⟨p, hp, h⟩ := h
        rw [Option.bind_eq_some_iff] at h
        obtain ⟨q, hq, h⟩ := h
        rw [Option.map_eq_some_iff] at h
        obtain ⟨E, hE, rfl⟩ := h
        have e1 := bitsC_rel hp ha1
        have e2 := bitsC_rel hq hb1
        have ih := ih m xs ys hE ha2 hb2
        have h1 : HoldsD Unk.bit (pairsD p q ++ E) ↔ HoldsD Unk.bit (pairsD p q) ∧ HoldsD Unk.bit E := by
          constructor
          · intro h; exact ⟨fun r hr => h r (List.mem_append.2 (.inl hr)), fun r hr => h r (List.mem_append.2 (.inr hr))⟩
          · intro h r hr
            rcases List.mem_append.1 hr with hr | hr
            · exact h.1 r hr
            · exact h.2 r hr
        rw [h1, pairs_ok, e1, e2, ih, List.cons.injEq, UInt8.toNat_inj]
      unfold charsD at h
      split at h
      · rename_i h1
        have e := eqC1_rel h1 ha1 hb1
        have hxy : x = y := by simpa using e.symm
        rw [ih m xs ys h ha2 hb2, hxy]
        simp
      · exact slow h
section
variable [Kn] [KnOk]
theorem eqC_rel {a b : List Value} {x y : List UInt8} {t : Bool} (h : eqC a b = some t) (ha : CRel a x) (hb : CRel b y) : t = (x == y) := by
  unfold eqC at h
  cases hl : Nat.beq a.length b.length with
  | true =>
    rw [hl] at h
    simp only [cond_true] at h
    split at h
    · rename_i u hu
      cases h
      exact eqCL_rel _ _ _ _ hu ha hb
    · rw [Option.bind_eq_some_iff] at h
      obtain ⟨D, hD, h⟩ := h
      have h1 := alike_ok KnOk.ok h
      rw [charsD_rel _ _ _ _ hD ha hb] at h1
      cases t with
      | true => simp [h1.1 rfl]
      | false =>
        have : x ≠ y := fun e => by have := h1.2 e; cases this
        simp [this]
  | false =>
    rw [hl] at h
    cases h
    have := beq_f hl
    rw [ha.len, hb.len] at this
    symm
    simp only [beq_eq_false_iff_ne, ne_eq]
    intro e
    exact this (by rw [e])
end
theorem aggL_rel {l l' : List Value} (h : LRel σ l l') : VRel σ (aggL l) (aggL l') := .agg _ _ (by simpa using h.len) h.get
theorem aggL_toArray (l : List Value) : aggL l = .agg l.toArray := rfl

/-! ### Cells -/
theorem cut_some {l r : List Value} {off n : Nat} (h : cut l off n = some r) : r.length = n ∧ r = (l.drop off).take n ∧ (0 < n → off + n ≤ l.length) := by
  unfold cut at h
  simp only at h
  cases hb : Nat.beq ((l.drop off).take n).length n with
  | false => rw [hb] at h; cases h
  | true =>
    have := Nat.eq_of_beq_eq_true hb
    rw [hb] at h
    cases h
    refine ⟨this, rfl, fun h0 => ?_⟩
    simp at this
    omega
theorem cut_get {l r : List Value} {off n : Nat} (h : cut l off n = some r) {i : Nat} {v : Value} (hi : r[i]? = some v) : l[off + i]? = some v := by
  obtain ⟨h1, h2, _⟩ := cut_some h
  have hlt : i < n := by
    have := List.getElem?_eq_some_iff.1 hi
    obtain ⟨hl, _⟩ := this
    omega
  rw [h2, List.getElem?_take, if_pos hlt, List.getElem?_drop] at hi
  exact hi
theorem Addr.add_none (b o n : Nat) : (⟨b, o, none⟩ : Addr).add n = ⟨b, o + n, none⟩ := by
  unfold Addr.add
  split
  · subst_vars; rfl
  · rfl
/-- What is read of the abstract heap stands in the world. -/
theorem load_rel (hr : Rel P σ A w) {id off n : Nat} {p : Pl} {l : List Value} (hs : σ id = some p) (h : loadA A ⟨id, off, none⟩ n = some l) :
    ∃ l', LRel σ l l' ∧ l'.length = n ∧ ∀ (j : Nat) v', l'[j]? = some v' → w.cell? ((⟨p.b, p.sh + off, none⟩ : Addr).add j) = some v' := by
  unfold loadA at h
  simp only at h
  cases hg : A.get id with
  | none => simp [hg] at h
  | some o =>
    cases o with
    | cells ro e c =>
      simp only [hg] at h
      obtain ⟨cur, e', fz, h1, h2, h3, _⟩ := hr.obj id _ p hg hs
      obtain ⟨k1, k2, k3⟩ := cut_some h
      refine ⟨((cur.toList.drop (p.sh + off)).take n), ⟨?_, fun i v v' hv hv' => ?_⟩, ?_, fun j v' hv' => ?_⟩
      · have hc : cur.toList.length = cur.size := by simp
        rw [k1]
        by_cases h0 : n = 0
        · subst h0; simp
        · have := k3 (by omega); simp; omega
      · have ha := cut_get h hv
        rw [List.getElem?_take] at hv'
        split at hv'
        · rw [List.getElem?_drop] at hv'
          exact h3 (off + i) v v' ha (by rw [← Array.getElem?_toList, ← Nat.add_assoc]; exact hv')
        · cases hv'
      · by_cases h0 : n = 0
        · subst h0; simp
        · have := k3 (by omega); simp; omega
      · rw [List.getElem?_take] at hv'
        split at hv'
        · rw [List.getElem?_drop, Array.getElem?_toList] at hv'
          rw [Addr.add_none]
          simp [World.cell?, h1, hv']
        · cases hv'
    | map es c => simp [hg] at h
    | iter s q => simp [hg] at h
theorem run_loadCells_of {l' : List Value} {a : Addr} {n : Nat} (hn : l'.length = n) (h : ∀ (j : Nat) v', l'[j]? = some v' → w.cell? (a.add j) = some v') : (loadCells a n).run P w = .ok l'.toArray w := by
  subst hn
  exact run_loadCells_list w a l' h

/-! ### Operators -/
variable [Kn] [KnOk]
theorem eqGuard_pure {op : BinOp} {t : TypeId} {x y : Operand} {a b : Value} (h : (∀ as, a ≠ .agg as) ∧ a ≠ .nilIface) (w : World) : (eqGuard op t x y a b).run P w = .ok () w := by
  obtain ⟨h1, h2⟩ := h
  unfold eqGuard
  cases op <;> simp
  all_goals (cases a <;> simp_all)
theorem bytesOf_eq (s : ByteArray) : s.toList = bytesOf s := by simp [bytesOf, ByteArray.toList_eq]
theorem size_eq (s : ByteArray) : s.size = (bytesOf s).length := by simp [bytesOf]
theorem run_bits {op : BinOp} {k : IntKind} {x y : Int} {v : Value} (h : bitsA op k x y = some v) (w : World) : (Op.intBits op k x y).run P w = .ok v w := by
  cases op <;> simp only [bitsA] at h <;> cases h <;> rfl
theorem run_cmp {op : BinOp} {x y : Int} {v : Value} (h : cmpA op x y = some v) (w : World) : (Op.intCmp op x y).run P w = .ok v w := by
  cases op <;> simp only [cmpA] at h <;> cases h <;> rfl
theorem run_intA {op : BinOp} {k : IntKind} {x y : Int} {v : Value} {t : TypeId} (hs : op ≠ .shl) (hs' : op ≠ .shr) (h : intA op k x y = some v) (w : World) : (binOp op t (.int k x) (.int k y)).run P w = .ok v w := by
  cases op
  case shl => exact absurd rfl hs
  case shr => exact absurd rfl hs'
  case quo =>
    simp only [intA] at h
    split at h
    · cases h
    · rename_i h0; cases h; simp [binOp, Op.intDiv, h0]
  case rem =>
    simp only [intA] at h
    split at h
    · cases h
    · rename_i h0; cases h; simp [binOp, Op.intDiv, h0]
  case add => simp only [intA, Option.some.injEq] at h; subst h; simp [binOp, Op.intArith]
  case sub => simp only [intA, Option.some.injEq] at h; subst h; simp [binOp, Op.intArith]
  case mul => simp only [intA, Option.some.injEq] at h; subst h; simp [binOp, Op.intArith]
  case and => have h' : bitsA .and k x y = some v := h; simpa [binOp] using run_bits (P := P) h' w
  case or => have h' : bitsA .or k x y = some v := h; simpa [binOp] using run_bits (P := P) h' w
  case xor => have h' : bitsA .xor k x y = some v := h; simpa [binOp] using run_bits (P := P) h' w
  case andNot => have h' : bitsA .andNot k x y = some v := h; simpa [binOp] using run_bits (P := P) h' w
  case eql => have h' : cmpA .eql x y = some v := h; simpa [binOp] using run_cmp (P := P) h' w
  case neq => have h' : cmpA .neq x y = some v := h; simpa [binOp] using run_cmp (P := P) h' w
  case lss => have h' : cmpA .lss x y = some v := h; simpa [binOp] using run_cmp (P := P) h' w
  case leq => have h' : cmpA .leq x y = some v := h; simpa [binOp] using run_cmp (P := P) h' w
  case gtr => have h' : cmpA .gtr x y = some v := h; simpa [binOp] using run_cmp (P := P) h' w
  case geq => have h' : cmpA .geq x y = some v := h; simpa [binOp] using run_cmp (P := P) h' w
theorem run_shift {left : Bool} {op : BinOp} {k yk : IntKind} {x y : Int} {v : Value} (ho : op = if left then .shl else .shr) (h : shiftA left k x y = some v) (w : World) : (Op.shift op k x yk y).run P w = .ok v w := by
  unfold shiftA at h
  unfold Op.shift
  split at h
  · cases h
  · rename_i h0
    rw [if_neg h0]
    cases left <;> simp at ho h <;> subst ho <;> subst h <;> rfl
theorem run_str {op : BinOp} {x y : ByteArray} {v : Value} {t : TypeId} (h : strA op x y = some v) (w : World) : (binOp op t (.string x) (.string y)).run P w = .ok v w := by
  have hx := bytesOf_eq x
  have hy := bytesOf_eq y
  cases op <;> simp only [strA] at h
  case add =>
    cases hb : Nat.ble ((bytesOf x).length + (bytesOf y).length) 9223372036854775807 with
    | false => rw [hb] at h; cases h
    | true =>
      rw [hb] at h
      have hle := Nat.le_of_ble_eq_true hb
      cases h
      rw [← size_eq, ← size_eq] at hle
      have hm : ¬ (((x.size + y.size : Nat) : Int) > IntKind.i64.max) := by
        have : IntKind.i64.max = 9223372036854775807 := by decide
        rw [this]; omega
      simp only [binOp, Op.stringOp, if_neg hm, Sem.run_pure]
      congr 2
  all_goals (first | (cases h; done) | (cases h; simp [binOp, Op.stringOp, hx, hy]))

/-! ### The operations that only read -/
def light : XOp → Bool
  | .move _ | .pick .. | .build .. | .load .. | .nilCheck _ | .bin .. | .un .. | .toInt .. | .toUnsafe _ | .assert .. | .isNil .. | .eqS .. | .same _ | .ofBytes _ | .fieldAddr .. | .indexAddr .. | .field .. | .index .. | .sliceStr .. | .slice ..
  | .extract .. | .makeIface .. | .makeFunc .. | .lookup .. | .len .. | .lenStr _ | .minmax .. => true
  | _ => false

/-- The model's operation yields a value that stands for v, and leaves the world alone. -/
def YieldsTo (P : Program) (σ : Sg) (w : World) (s : Sem Next) (v : Value) : Prop := ∃ v', s.run P w = .ok (.value v') w ∧ VRel σ v v'

theorem eqIn_rel (n : Nat) {d : TypeDesc} {t : TypeId} {x y x' y' : Value} {b : Bool} (hd : P.underlying t = some d) (h : eqA d x y = some b) (hx : VRel σ x x') (hy : VRel σ y y') : (Op.equalIn (n + 1) t x' y').run P w = .ok b w := by
  have hd' : (underlying t).run P w = .ok d w := run_underlying hd w
  cases d <;> first | (simp only [eqA] at h; cases h; done) | skip
  all_goals
    cases hx <;> first | (simp only [eqA] at h; cases h; done) | skip
  all_goals
    cases hy <;> first | (simp only [eqA] at h; cases h; done) | skip
  all_goals (simp only [eqA, Option.some.injEq] at h; subst h; simp [Op.equalIn, hd'])
theorem eqA_rel {d : TypeDesc} {t : TypeId} {x y x' y' : Value} {b : Bool} (hd : P.underlying t = some d) (h : eqA d x y = some b) (hx : VRel σ x x') (hy : VRel σ y y') : (Op.equal t x' y').run P w = .ok b w ∧ ((∀ as, x' ≠ .agg as) ∧ x' ≠ .nilIface) ∧
    (∀ k n, x' ≠ .int k n) ∧ (∀ s, x' ≠ .string s) ∧ (∀ k n, x' ≠ .float k n) ∧ (∀ k n m, x' ≠ .complex k n m) := by
  refine ⟨eqIn_rel 9999 hd h hx hy, ?_⟩
  cases d <;> first | (simp only [eqA] at h; cases h; done) | skip
  all_goals
    cases hx <;> first | (simp only [eqA] at h; cases h; done) | exact ⟨by simp, by simp, by simp, by simp, by simp⟩

theorem binA_rel0 {op : BinOp} {d : TypeDesc} {t : TypeId} {xo yo : Operand} {x y x' y' v : Value} (hd : P.underlying t = some d) (h : binA op d x y = some v) (hx : VRel σ x x') (hy : VRel σ y y') (nx : ∀ k l n, x ≠ .complex k l n) (ny : ∀ k l n, y ≠ .complex k l n) (cx : ∀ i, x ≠ .chan (some i)) (cy : ∀ i, y ≠ .chan (some i)) (fx : ∀ k l, x ≠ .float k l) :
    (eqGuard op t xo yo x' y').run P w = .ok () w ∧ (binOp op t x' y').run P w = .ok v w ∧ Flat v := by
  have flatI : ∀ {op k a b v}, intA op k a b = some v → Flat v := by
    intro op k a b v h
    cases op <;> simp only [intA, bitsA, cmpA] at h <;> (try split at h) <;> cases h <;> constructor
  have flatS : ∀ {op a b v}, strA op a b = some v → Flat v := by
    intro op a b v h
    cases op <;> simp only [strA] at h <;> (try (cases hb : Nat.ble ((bytesOf a).length + (bytesOf b).length) 9223372036854775807 <;> rw [hb] at h)) <;> cases h <;> constructor
  have flatH : ∀ {l k a b v}, shiftA l k a b = some v → Flat v := by
    intro l k a b v h
    unfold shiftA at h
    split at h
    · cases h
    · cases l <;> cases h <;> constructor
  have generic : ∀ {b : Bool}, (op = .eql ∨ op = .neq) → eqA d x y = some b → v = .bool (if op = .eql then b else !b) → (eqGuard op t xo yo x' y').run P w = .ok () w ∧ (binOp op t x' y').run P w = .ok v w ∧ Flat v := by
    intro b ho he hv
    obtain ⟨h1, h2, h3, h4, h5, h6⟩ := eqA_rel (w := w) hd he hx hy
    refine ⟨eqGuard_pure h2 w, ?_, by subst hv; constructor⟩
    subst hv
    rcases ho with rfl | rfl
    · unfold binOp
      cases x' <;> simp_all
    · unfold binOp
      cases x' <;> simp_all
  cases hx with
  | unk i => exact absurd rfl (cx i)
  | rope l n s h => exact absurd rfl (nx .f64 l n)
  | sym c n => exact absurd rfl (nx .f32 c n)
  | pos k n h hl => exact absurd rfl (fx .f64 _)
  | any v' h hb => exact absurd rfl (fx .f32 _)
  | int k n =>
    cases hy with
    | unk i => exact absurd rfl (cy i)
    | rope l n s h => exact absurd rfl (ny .f64 l n)
    | sym c n => exact absurd rfl (ny .f32 c n)
    | int k' m =>
      refine ⟨eqGuard_pure (by simp) w, ?_⟩
      by_cases hl : op = .shl
      · subst hl; simp only [binA] at h; exact ⟨by simpa [binOp] using run_shift (P := P) (left := true) (op := .shl) rfl h w, flatH h⟩
      · by_cases hr : op = .shr
        · subst hr; simp only [binA] at h; exact ⟨by simpa [binOp] using run_shift (P := P) (left := false) (op := .shr) rfl h w, flatH h⟩
        · have h' : (if k = k' then intA op k n m else none) = some v := by cases op <;> first | exact absurd rfl hl | exact absurd rfl hr | exact h
          split at h'
          · rename_i e; subst e; exact ⟨run_intA hl hr h' w, flatI h'⟩
          · cases h'
    | _ => cases op <;> simp [binA, eqA] at h <;> (cases d <;> simp [eqA] at h)
  | string s =>
    cases hy with
    | unk i => exact absurd rfl (cy i)
    | rope l n s h => exact absurd rfl (ny .f64 l n)
    | sym c n => exact absurd rfl (ny .f32 c n)
    | string s' =>
      have h' : strA op s s' = some v := by cases op <;> first | exact h | (simp [binA] at h; done)
      exact ⟨eqGuard_pure (by simp) w, run_str h' w, flatS h'⟩
    | _ => cases op <;> simp [binA, eqA] at h <;> (cases d <;> simp [eqA] at h)
  | _ =>
    cases op <;> simp only [binA] at h <;> (try (cases h; done)) <;> (try (cases hy <;> first | (exact absurd rfl (cy _)) | (exact absurd rfl (ny _ _ _)) | simp at h; done))
    all_goals
      rw [Option.map_eq_some_iff] at h
      obtain ⟨b, hb, hv⟩ := h
      exact generic (by simp) hb (by simp [← hv])
theorem ropeA_rel {op : BinOp} {t : TypeId} {xo yo : Operand} {x y x' y' v : Value} (h : ropeA op x y = some v) (hx : VRel σ x x') (hy : VRel σ y y') :
    ∃ v', (eqGuard op t xo yo x' y').run P w = .ok () w ∧ (binOp op t x' y').run P w = .ok v' w ∧ VRel σ v v' := by
  unfold ropeA at h
  rw [Option.bind_eq_some_iff] at h
  obtain ⟨a, ha, h⟩ := h
  rw [Option.bind_eq_some_iff] at h
  obtain ⟨b, hb, h⟩ := h
  obtain ⟨s, rfl, hs⟩ := charsOf_rel hx ha
  obtain ⟨s', rfl, hs'⟩ := charsOf_rel hy hb
  have fin : ∀ v', strA op s s' = some v' → VRel σ v v' → ∃ v', (eqGuard op t xo yo (.string s) (.string s')).run P w = .ok () w ∧ (binOp op t (.string s) (.string s')).run P w = .ok v' w ∧ VRel σ v v' :=
    fun v' h1 h2 => ⟨v', eqGuard_pure (by simp) w, run_str h1 w, h2⟩
  cases op <;> simp only [reduceCtorEq] at h
  · cases hl : Nat.ble (a.length + b.length) 9223372036854775807 with
    | false => rw [hl] at h; cases h
    | true =>
      rw [hl] at h
      refine fin (.string (ofBytes (bytesOf s ++ bytesOf s'))) ?_ (mkStr_rel h (hs.append hs'))
      rw [hs.len, hs'.len] at hl
      simp only [strA, hl, cond_true]
  · rw [Option.map_eq_some_iff] at h
    obtain ⟨u, hu, rfl⟩ := h
    exact fin _ rfl (by rw [eqC_rel hu hs hs']; exact .bool _)
  · rw [Option.map_eq_some_iff] at h
    obtain ⟨u, hu, rfl⟩ := h
    exact fin _ rfl (by rw [eqC_rel hu hs hs']; exact .bool _)
theorem eqTok_rel {i : Nat} {y y' : Value} {t : Bool} (h : eqTok i y = some t) (hy : VRel σ y y') : ∃ (k : IntKind) (a b : Int), Unk.val i = .int k a ∧ y' = .int k b ∧ t = (a == b) := by
  unfold eqTok at h
  split at h
  · rename_i j
    cases hk : (isKey i && isKey j) with
    | false =>
      rw [hk] at h
      simp only [cond_false] at h
      cases hb : (Nat.blt i 4096 && Nat.blt j 4096) with
      | false => rw [hb] at h; cases h
      | true =>
        rw [hb] at h
        simp only [cond_true] at h
        rw [Bool.and_eq_true] at hb
        have hi : i < 4096 := Nat.le_of_ble_eq_true hb.1
        have hj : j < 4096 := Nat.le_of_ble_eq_true hb.2
        obtain ⟨x, hx⟩ := Unk.byt i hi
        obtain ⟨z, hz⟩ := Unk.byt j hj
        have e := eqC1_rel (x := x) (y := z) h (.inr (.inl ⟨i, rfl, hi, hx⟩)) (.inr (.inl ⟨j, rfl, hj, hz⟩))
        cases hy
        refine ⟨.u8, Int.ofNat x.toNat, Int.ofNat z.toNat, hx, hz, ?_⟩
        rw [e]
        by_cases hxz : x = z
        · subst hxz; simp
        · have h1 : (x == z) = false := by simpa using hxz
          rw [h1]
          symm
          simp only [beq_eq_false_iff_ne, ne_eq]
          intro h2
          exact hxz (UInt8.toNat_inj.1 (Int.ofNat.inj h2))
    | true =>
      rw [hk] at h
      simp only [cond_true, Option.some.injEq] at h
      rw [Bool.and_eq_true] at hk
      obtain ⟨a, ha, _, _⟩ := Unk.key i hk.1
      obtain ⟨b, hb, _, _⟩ := Unk.key j hk.2
      cases hy
      refine ⟨.u64, a, b, ha, hb, ?_⟩
      subst h
      cases he : Nat.beq i j with
      | true =>
        have := Nat.eq_of_beq_eq_true he
        subst this
        rw [ha] at hb
        cases hb
        simp
      | false =>
        have hne := Nat.ne_of_beq_eq_false he
        have hk1 := hk.1
        have hk2 := hk.2
        unfold isKey at hk1 hk2
        rw [Bool.or_eq_true] at hk1 hk2
        have hd := Unk.keys
        have hab : a ≠ b := by
          intro e
          subst e
          rcases hk1 with h1 | h1 <;> rcases hk2 with h2 | h2 <;> (have e1 := Nat.eq_of_beq_eq_true h1; have e2 := Nat.eq_of_beq_eq_true h2; subst e1; subst e2)
          · exact hne rfl
          · exact hd (ha.trans hb.symm)
          · exact hd (hb.trans ha.symm)
          · exact hne rfl
        simp [hab]
  · rename_i n
    cases hk : (isKey i && n == 0) with
    | false => rw [hk] at h; cases h
    | true =>
      rw [hk] at h
      cases h
      rw [Bool.and_eq_true] at hk
      obtain ⟨a, ha, h0, _⟩ := Unk.key i hk.1
      have hn : n = 0 := by simpa using hk.2
      subst hn
      cases hy
      refine ⟨.u64, a, 0, ha, rfl, ?_⟩
      have : a ≠ 0 := by omega
      simp [this]
  · cases h
theorem run_eqk {op : BinOp} {t : TypeId} {xo yo : Operand} {k : IntKind} {a b : Int} {v : Value} (h : (op = .eql ∧ v = .bool (a == b)) ∨ (op = .neq ∧ v = .bool (!(a == b)))) :
    ∃ v', (eqGuard op t xo yo (.int k a) (.int k b)).run P w = .ok () w ∧ (binOp op t (.int k a) (.int k b)).run P w = .ok v' w ∧ VRel σ v v' := by
  refine ⟨v, eqGuard_pure (by simp) w, run_intA (by rcases h with ⟨rfl, _⟩ | ⟨rfl, _⟩ <;> simp) (by rcases h with ⟨rfl, _⟩ | ⟨rfl, _⟩ <;> simp) ?_ w, ?_⟩
  · rcases h with ⟨rfl, rfl⟩ | ⟨rfl, rfl⟩ <;> simp [intA, cmpA, bne]
  · rcases h with ⟨_, rfl⟩ | ⟨_, rfl⟩ <;> exact .bool _
theorem tok_add {i : Nat} {m : Int} (h : (Nat.blt i 4096 && Nat.blt (Nat.add (Nat.mod i 16) m.toNat) 16 && decide (0 ≤ m)) = true) : ∃ x : Int, Unk.val i = .int .u8 x ∧ Unk.val (Nat.add i m.toNat) = .int .u8 (IntKind.u8.wrap (x + m)) ∧ Unk.val (Nat.add i m.toNat) = .int .u8 (IntKind.u8.wrap (m + x)) := by
  rw [Bool.and_eq_true, Bool.and_eq_true] at h
  obtain ⟨⟨h1, h2⟩, h3⟩ := h
  have hi : i < 4096 := Nat.le_of_ble_eq_true h1
  have hm : i % 16 + m.toNat < 16 := Nat.le_of_ble_eq_true h2
  have h0 : 0 ≤ m := of_decide_eq_true h3
  obtain ⟨b, hb, hs⟩ := Unk.sum i m.toNat hi hm
  have hlt := b.toNat_lt
  have key : byteV (b + UInt8.ofNat m.toNat) = .int .u8 (IntKind.u8.wrap (Int.ofNat b.toNat + m)) := by
    simp only [byteV, Value.int.injEq, true_and]
    have e1 : (b + UInt8.ofNat m.toNat).toNat = (b.toNat + m.toNat) % 256 := by
      rw [UInt8.toNat_add, UInt8.toNat_ofNat']
      omega
    rw [e1]
    simp only [IntKind.wrap, IntKind.signed, IntKind.bits]
    have e2 : (Int.ofNat b.toNat + m) = ((b.toNat + m.toNat : Nat) : Int) := by
      show ((b.toNat : Nat) : Int) + m = _
      omega
    rw [e2]
    simp
  refine ⟨Int.ofNat b.toNat, hb, ?_, ?_⟩
  · show Unk.val (i + m.toNat) = _
    rw [hs, key]
  · show Unk.val (i + m.toNat) = _
    rw [hs, key, Int.add_comm]
theorem lenBits_empty {s : ByteArray} {i : Nat} (h : s.size = denL Unk.bit (lenBits i)) : HoldsD Unk.bit (pairsD (lenBits i) []) ↔ bytesOf s = [] := by
  rw [pairs_ok, ← h, size_eq]
  exact List.length_eq_zero_iff
theorem textEq_rel {i : Nat} {y y' : Value} {t : Bool} (hi : isText i = true) (h : textEq i y = some t) (hy : VRel σ y y') : ∃ a b : ByteArray, Unk.val i = .string a ∧ y' = .string b ∧ t = (bytesOf a == bytesOf b) := by
  obtain ⟨s, hs, hl⟩ := Unk.text i hi
  unfold textEq at h
  split at h
  · rename_i j
    cases he : Nat.beq i j with
    | false => rw [he] at h; cases h
    | true =>
      rw [he] at h
      have := beq_t he
      subst this
      cases h
      cases hy
      exact ⟨s, s, hs, hs, by simp⟩
  · rename_i s'
    cases hy
    cases he : (bytesOf s').isEmpty with
    | false => rw [he] at h; cases h
    | true =>
      rw [he] at h
      have e : bytesOf s' = [] := List.isEmpty_iff.1 he
      have := alike_ok KnOk.ok h
      rw [lenBits_empty hl] at this
      refine ⟨s, s', hs, rfl, ?_⟩
      rw [e]
      cases t with
      | true => rw [this.1 rfl]; rfl
      | false =>
        have : bytesOf s ≠ [] := fun hh => by have := this.2 hh; cases this
        symm
        simpa using this
  · cases h
theorem textA_rel {op : BinOp} {t : TypeId} {xo yo : Operand} {i : Nat} {y y' v : Value} (hi : isText i = true) (h : textA op i y = some v) (hy : VRel σ y y') :
    (∃ v', (eqGuard op t xo yo (Unk.val i) y').run P w = .ok () w ∧ (binOp op t (Unk.val i) y').run P w = .ok v' w ∧ VRel σ v v') ∧
    (∃ v', (eqGuard op t xo yo y' (Unk.val i)).run P w = .ok () w ∧ (binOp op t y' (Unk.val i)).run P w = .ok v' w ∧ VRel σ v v') := by
  have main : ∃ u : Bool, textEq i y = some u ∧ ((op = .eql ∧ v = .bool u) ∨ (op = .neq ∧ v = .bool (!u))) := by
    unfold textA at h
    split at h
    · rw [Option.map_eq_some_iff] at h; obtain ⟨u, hu, rfl⟩ := h; exact ⟨u, hu, .inl ⟨rfl, rfl⟩⟩
    · rw [Option.map_eq_some_iff] at h; obtain ⟨u, hu, rfl⟩ := h; exact ⟨u, hu, .inr ⟨rfl, rfl⟩⟩
    · cases h
  obtain ⟨u, hu, hv⟩ := main
  obtain ⟨a, b, ha, rfl, rfl⟩ := textEq_rel hi hu hy
  rw [ha]
  have hc : (bytesOf a == bytesOf b) = (bytesOf b == bytesOf a) := by
    by_cases e : bytesOf a = bytesOf b
    · rw [e]
    · have h1 : (bytesOf a == bytesOf b) = false := by simpa using e
      have h2 : (bytesOf b == bytesOf a) = false := by simpa using fun h => e h.symm
      rw [h1, h2]
  have fin : ∀ a b : ByteArray, ((op = .eql ∧ v = .bool (bytesOf a == bytesOf b)) ∨ (op = .neq ∧ v = .bool (!(bytesOf a == bytesOf b)))) → ∃ v', (eqGuard op t xo yo (.string a) (.string b)).run P w = .ok () w ∧ (binOp op t (.string a) (.string b)).run P w = .ok v' w ∧ VRel σ v v' := by
    intro a b hv
    refine ⟨v, eqGuard_pure (by simp) w, run_str ?_ w, ?_⟩
    · rcases hv with ⟨rfl, rfl⟩ | ⟨rfl, rfl⟩ <;> simp [strA]
    · rcases hv with ⟨_, rfl⟩ | ⟨_, rfl⟩ <;> exact .bool _
  exact ⟨fin a b hv, fin b a (by rw [← hc]; exact hv)⟩
theorem tokA_rel {op : BinOp} {t : TypeId} {xo yo : Operand} {i : Nat} {y y' v : Value} (h : tokA op i y = some v) (hy : VRel σ y y') :
    (∃ v', (eqGuard op t xo yo (Unk.val i) y').run P w = .ok () w ∧ (binOp op t (Unk.val i) y').run P w = .ok v' w ∧ VRel σ v v') ∧
    (∃ v', (eqGuard op t xo yo y' (Unk.val i)).run P w = .ok () w ∧ (binOp op t y' (Unk.val i)).run P w = .ok v' w ∧ VRel σ v v') := by
  cases ht : isText i with
  | true =>
    unfold tokA at h
    rw [ht] at h
    exact textA_rel ht h hy
  | false =>
  have main : (∃ (u : Bool), eqTok i y = some u ∧ ((op = .eql ∧ v = .bool u) ∨ (op = .neq ∧ v = .bool (!u)))) ∨
      (∃ m : Int, op = .add ∧ y = .int .u8 m ∧ (Nat.blt i 4096 && Nat.blt (Nat.add (Nat.mod i 16) m.toNat) 16 && decide (0 ≤ m)) = true ∧ v = .chan (some (Nat.add i m.toNat))) := by
    unfold tokA at h
    rw [ht] at h
    simp only [cond_false] at h
    split at h
    · rw [Option.map_eq_some_iff] at h; obtain ⟨u, hu, rfl⟩ := h; exact .inl ⟨u, hu, .inl ⟨rfl, rfl⟩⟩
    · rw [Option.map_eq_some_iff] at h; obtain ⟨u, hu, rfl⟩ := h; exact .inl ⟨u, hu, .inr ⟨rfl, rfl⟩⟩
    · split at h
      · rename_i m
        cases hb : (Nat.blt i 4096 && Nat.blt (Nat.add (Nat.mod i 16) m.toNat) 16 && decide (0 ≤ m)) with
        | false => rw [hb] at h; cases h
        | true => rw [hb] at h; cases h; exact .inr ⟨m, rfl, rfl, hb, rfl⟩
      · cases h
    · cases h
  rcases main with ⟨u, hu, hv⟩ | ⟨m, rfl, rfl, hb, rfl⟩
  · obtain ⟨k, a, b, ha, rfl, rfl⟩ := eqTok_rel hu hy
    rw [ha]
    refine ⟨run_eqk hv, run_eqk ?_⟩
    have hc : (a == b) = (b == a) := by
      by_cases e : a = b
      · subst e; rfl
      · have h1 : (a == b) = false := by simpa using e
        have h2 : (b == a) = false := by simpa using fun h => e h.symm
        rw [h1, h2]
    rw [← hc]
    exact hv
  · obtain ⟨x, hx, h1, h2⟩ := tok_add hb
    cases hy
    rw [hx]
    refine ⟨⟨Unk.val (Nat.add i m.toNat), eqGuard_pure (by simp) w, ?_, .unk _⟩, ⟨Unk.val (Nat.add i m.toNat), eqGuard_pure (by simp) w, ?_, .unk _⟩⟩
    · exact run_intA (by simp) (by simp) (by rw [h1]; rfl) w
    · exact run_intA (by simp) (by simp) (by rw [h2]; rfl) w
theorem fm_rel {x x' : Value} {f : Fm} (h : fmOf x = some f) (hx : VRel σ x x') : x' = .int f.k (Int.ofNat (fmDen Unk.bit f)) := by
  unfold fmOf at h
  split at h
  · rename_i k a
    cases h
    cases hx
    simp only [fmDen, denL, Nat.mul_zero, Nat.zero_add]
  · rename_i c n
    cases h
    cases hx
    rfl
  · cases h
theorem stands_rel {v v0 : Value} (h : StandsB Unk.bit v v0) : VRel σ v v0 := by
  rcases h with ⟨k, n, rfl, h⟩ | ⟨b, rfl, rfl⟩ | ⟨k, n, rfl, rfl, h0, hl⟩
  · rcases h with rfl | ⟨c, m, rfl, rfl, rfl⟩
    · exact .int _ _
    · exact .sym c m
  · exact .bool b
  · exact .pos k n h0 hl
theorem pos_lim {k : IntKind} (h : Nat.blt 3 (kIdx k) = true) : limN k = 2 ^ k.bits := by
  have h3 := blt_t h
  cases k <;> simp [kIdx] at h3 <;> rfl
theorem or_pos {k : IntKind} (hk : Nat.blt 3 (kIdx k) = true) {a b : Nat} (h0 : 0 < a) (ha : a < 2 ^ k.bits) (hb : b < 2 ^ k.bits) : ∃ n : Nat, intA .or k (Int.ofNat a) (Int.ofNat b) = some (.int k (Int.ofNat n)) ∧ 0 < n ∧ n < 2 ^ k.bits := by
  obtain ⟨r, hr, ht⟩ := hop_or k _ _ ha hb
  have er : r = a ||| b := by
    apply Nat.eq_of_testBit_eq
    intro i
    rw [ht i, Nat.testBit_or]
    by_cases hi : i < k.bits
    · simp [hi]
    · have z1 := Nat.testBit_lt_two_pow (Nat.lt_of_lt_of_le ha (Nat.pow_le_pow_right (n := 2) (by decide) (show k.bits ≤ i by omega)))
      have z2 := Nat.testBit_lt_two_pow (Nat.lt_of_lt_of_le hb (Nat.pow_le_pow_right (n := 2) (by decide) (show k.bits ≤ i by omega)))
      rw [z1, z2]
      simp
  have hlt : a ||| b < 2 ^ k.bits := Nat.or_lt_two_pow ha hb
  rw [er, wrapN_small k (by rw [pos_lim hk]; exact hlt)] at hr
  have := Nat.left_le_or (n := a) (m := b)
  exact ⟨a ||| b, hr, by omega, hlt⟩
theorem posA_rel {op : BinOp} {d : TypeDesc} {t : TypeId} {xo yo : Operand} {x y x' y' v : Value} (hd : P.underlying t = some d) (h : posA op x y = some v) (hx : VRel σ x x') (hy : VRel σ y y') :
    ∃ v', (eqGuard op t xo yo x' y').run P w = .ok () w ∧ (binOp op t x' y').run P w = .ok v' w ∧ VRel σ v v' := by
  have fin : ∀ {k : IntKind} {a b : Int} {v v0 : Value}, op ≠ .shl → op ≠ .shr → intA op k a b = some v0 → VRel σ v v0 → ∃ v', (eqGuard op t xo yo (.int k a) (.int k b)).run P w = .ok () w ∧ (binOp op t (.int k a) (.int k b)).run P w = .ok v' w ∧ VRel σ v v' :=
    fun h1 h2 h3 h4 => ⟨_, eqGuard_pure (by simp) w, run_intA h1 h2 h3 w, h4⟩
  have inv : ∀ {i : Nat} {x' : Value}, VRel σ (.float .f64 i) x' → ∃ (k : IntKind) (n : Nat), i = kIdx k ∧ x' = .int k (Int.ofNat n) ∧ 0 < n ∧ n < 2 ^ k.bits := by
    intro i x' hx
    generalize hv : (Value.float .f64 i) = u at hx
    cases hx <;> first | (cases hv; done) | skip
    rename_i k n h0 hl
    cases hv
    exact ⟨k, n, rfl, rfl, h0, hl⟩
  unfold posA at h
  split at h
  · rename_i i j
    obtain ⟨k, a, rfl, rfl, h0, hl⟩ := inv hx
    obtain ⟨k2, b, rfl, rfl, h02, hl2⟩ := inv hy
    cases hc : (Nat.beq (kIdx k) (kIdx k2) && Nat.blt 3 (kIdx k) && Nat.blt (kIdx k) 8) with
    | false => rw [hc] at h; cases h
    | true =>
      rw [hc] at h
      cases h
      rw [Bool.and_eq_true, Bool.and_eq_true] at hc
      have e := kIdx_inj hc.1.1
      subst e
      obtain ⟨n, k1, k2, k3⟩ := or_pos hc.1.2 h0 hl hl2
      exact fin (by decide) (by decide) k1 (.pos k n k2 k3)
  · rename_i i y _
    obtain ⟨k, a, rfl, rfl, h0, hl⟩ := inv hx
    rw [Option.bind_eq_some_iff] at h
    obtain ⟨f, hf, h⟩ := h
    have e2 := fm_rel hf hy
    subst e2
    cases hc : (Nat.beq (kIdx k) (kIdx f.k) && Nat.blt 3 (kIdx k) && (plain f || Nat.beq f.mul 0 && Nat.blt f.add (limN f.k))) with
    | false => rw [hc] at h; cases h
    | true =>
      rw [hc] at h
      cases h
      rw [Bool.and_eq_true, Bool.and_eq_true, Bool.or_eq_true, Bool.and_eq_true] at hc
      obtain ⟨⟨c1, c2⟩, c3⟩ := hc
      have e := kIdx_inj c1
      have hl2 : fmDen Unk.bit f < 2 ^ f.k.bits := by
        rcases c3 with c3 | ⟨c3, c4⟩
        · have := plain_lt (bit := Unk.bit) c3 (fmOf_ok hf)
          rwa [bitsN_eq] at this
        · rw [const_den (beq_t c3)]
          have := blt_t c4
          rw [pos_lim (by rw [← e]; exact c2)] at this
          exact this
      rw [← e] at hl2 ⊢
      obtain ⟨n, k1, k2, k3⟩ := or_pos c2 h0 hl hl2
      exact fin (by decide) (by decide) k1 (.pos k n k2 k3)
  · rename_i i k2 n
    obtain ⟨k, a, rfl, rfl, h0, hl⟩ := inv hx
    cases hy
    cases hc : (Nat.beq (kIdx k) (kIdx k2) && n == 0) with
    | false => rw [hc] at h; cases h
    | true =>
      rw [hc] at h
      cases h
      rw [Bool.and_eq_true] at hc
      have e := kIdx_inj hc.1
      subst e
      have hn : n = 0 := by simpa using hc.2
      subst hn
      have ha : (Int.ofNat a == 0) = false := by
        rw [beq_eq_false_iff_ne]
        intro hh
        have : a = 0 := Int.ofNat.inj hh
        omega
      exact fin (by decide) (by decide) (by simp only [intA, cmpA]; rw [ha]) (.bool _)
  · rename_i i k2 n
    obtain ⟨k, a, rfl, rfl, h0, hl⟩ := inv hx
    cases hy
    cases hc : (Nat.beq (kIdx k) (kIdx k2) && n == 0) with
    | false => rw [hc] at h; cases h
    | true =>
      rw [hc] at h
      cases h
      rw [Bool.and_eq_true] at hc
      have e := kIdx_inj hc.1
      subst e
      have hn : n = 0 := by simpa using hc.2
      subst hn
      have ha : (Int.ofNat a != 0) = true := by
        rw [bne_iff_ne]
        intro hh
        have : a = 0 := Int.ofNat.inj hh
        omega
      exact fin (by decide) (by decide) (by simp only [intA, cmpA]; rw [ha]) (.bool _)
  · cases h
theorem symA_rel {op : BinOp} {d : TypeDesc} {t : TypeId} {xo yo : Operand} {x y x' y' v : Value} (hd : P.underlying t = some d) (h : symA op x y = some v) (hx : VRel σ x x') (hy : VRel σ y y') :
    ∃ v', (eqGuard op t xo yo x' y').run P w = .ok () w ∧ (binOp op t x' y').run P w = .ok v' w ∧ VRel σ v v' := by
  unfold symA at h
  rw [Option.bind_eq_some_iff] at h
  obtain ⟨f, hf, h⟩ := h
  rw [Option.bind_eq_some_iff] at h
  obtain ⟨g, hg, h⟩ := h
  have e1 := fm_rel hf hx
  have e2 := fm_rel hg hy
  subst e1; subst e2
  obtain ⟨v0, h1, h2⟩ := symF_ok (bit := Unk.bit) KnOk.ok (d := d) (fmOf_ok hf) (fmOf_ok hg) h
  obtain ⟨a, b, _⟩ := binA_rel0 (σ := σ) (w := w) (xo := xo) (yo := yo) hd h1 (.int _ _) (.int _ _) (by simp) (by simp) (by simp) (by simp) (by simp)
  exact ⟨v0, a, b, stands_rel h2⟩
theorem binA_rel {op : BinOp} {d : TypeDesc} {t : TypeId} {xo yo : Operand} {x y x' y' v : Value} (hd : P.underlying t = some d) (h : binA op d x y = some v) (hx : VRel σ x x') (hy : VRel σ y y') :
    ∃ v', (eqGuard op t xo yo x' y').run P w = .ok () w ∧ (binOp op t x' y').run P w = .ok v' w ∧ VRel σ v v' := by
  have cplx : ∀ {k}, cplxA k op x y = some v → ∃ v', (eqGuard op t xo yo x' y').run P w = .ok () w ∧ (binOp op t x' y').run P w = .ok v' w ∧ VRel σ v v' := by
    intro k h
    cases k with
    | f32 => exact symA_rel hd h hx hy
    | f64 => exact ropeA_rel h hx hy
  by_cases fx : ∃ k l, x = .float k l
  · obtain ⟨k, l, rfl⟩ := fx
    exact posA_rel hd (by cases op <;> cases y <;> exact h) hx hy
  by_cases nx : ∃ k l n, x = .complex k l n
  · obtain ⟨k, l, n, rfl⟩ := nx
    exact cplx (k := k) (by cases op <;> cases y <;> exact h)
  by_cases ny : ∃ k l n, y = .complex k l n
  · obtain ⟨k, l, n, rfl⟩ := ny
    refine cplx (k := k) ?_
    cases x with
    | complex k l n => exact absurd ⟨_, _, _, rfl⟩ nx
    | float k l => exact absurd ⟨_, _, rfl⟩ fx
    | _ => cases op <;> exact h
  by_cases cx : ∃ i, x = .chan (some i)
  · obtain ⟨i, rfl⟩ := cx
    have h' : tokA op i y = some v := by
      cases op <;> cases y <;> first | exact h | exact absurd ⟨_, _, _, rfl⟩ ny
    cases hx
    exact (tokA_rel h' hy).1
  by_cases cy : ∃ i, y = .chan (some i)
  · obtain ⟨i, rfl⟩ := cy
    have h' : tokA op i x = some v := by
      cases op <;> (cases x with
        | chan r => cases r with
          | some j => exact absurd ⟨j, rfl⟩ cx
          | none => exact h
        | complex k l n => exact absurd ⟨_, _, _, rfl⟩ nx
        | float k l => exact absurd ⟨_, _, rfl⟩ fx
        | _ => exact h)
    cases hy
    exact (tokA_rel h' hx).2
  obtain ⟨h1, h2, h3⟩ := binA_rel0 (w := w) (xo := xo) (yo := yo) hd h hx hy (fun k l n e => nx ⟨k, l, n, e⟩) (fun k l n e => ny ⟨k, l, n, e⟩) (fun i e => cx ⟨i, e⟩) (fun i e => cy ⟨i, e⟩) (fun k l e => fx ⟨k, l, e⟩)
  exact ⟨v, h1, h2, h3.vrel⟩
/-- What a comparison or an operation of two comes to. -/
theorem compBin_kind {op : BinOp} {xt : TypeId} {d : TypeDesc} {x y : Operand} {X : XOp} (h : compBin P op xt d x y = some X) :
    X = .bin op d x y ∨ ((∃ ms, d = .interface ms) ∧ isNilC y = true ∧ ((op = .eql ∧ X = .isNil false x y) ∨ (op = .neq ∧ X = .isNil true x y))) ∨
    (∃ l, keyKind P xt = some (.many l) ∧ P.eqGuardType P.depth xt = false ∧ ((op = .eql ∧ X = .eqS false l x y) ∨ (op = .neq ∧ X = .eqS true l x y))) := by
  unfold compBin at h
  split at h
  · cases hy : isNilC y with
    | false => rw [hy] at h; cases h
    | true => rw [hy] at h; cases h; exact .inr (.inl ⟨⟨_, rfl⟩, rfl, .inl ⟨rfl, rfl⟩⟩)
  · cases hy : isNilC y with
    | false => rw [hy] at h; cases h
    | true => rw [hy] at h; cases h; exact .inr (.inl ⟨⟨_, rfl⟩, rfl, .inr ⟨rfl, rfl⟩⟩)
  · split at h
    · rename_i l hl
      cases hg : P.eqGuardType P.depth xt with
      | true => rw [hg] at h; cases h
      | false => rw [hg] at h; cases h; exact .inr (.inr ⟨l, hl, rfl, .inl ⟨rfl, rfl⟩⟩)
    · cases h
  · split at h
    · rename_i l hl
      cases hg : P.eqGuardType P.depth xt with
      | true => rw [hg] at h; cases h
      | false => rw [hg] at h; cases h; exact .inr (.inr ⟨l, hl, rfl, .inr ⟨rfl, rfl⟩⟩)
    · cases h
  · cases h; exact .inl rfl
theorem compBin_light {op : BinOp} {xt : TypeId} {d : TypeDesc} {x y : Operand} {X : XOp} (h : compBin P op xt d x y = some X) : light X = true := by
  rcases compBin_kind h with rfl | ⟨_, _, ⟨_, rfl⟩ | ⟨_, rfl⟩⟩ | ⟨_, _, _, ⟨_, rfl⟩ | ⟨_, rfl⟩⟩ <;> rfl
end
end Go.Ab
namespace Go.Ab
open Go
variable [Unk] [Kn] [KnOk]
section
variable {P : Program} {σ : Sg} {A : H} {w : World}

theorem foldl_over (off : Nat) : ∀ (vs : List Value) (k : Nat) (cells : Array Value), off + k + vs.length ≤ cells.size →
    ((vs.zipIdx k).foldl (fun (cs : Array Value) (x : Value × Nat) => cs.setIfInBounds (off + x.2) x.1) cells).toList = cells.toList.take (off + k) ++ vs ++ cells.toList.drop (off + k + vs.length) := by
  intro vs
  induction vs with
  | nil => intro k cells _; simp
  | cons v vs ih =>
    intro k cells h
    simp only [List.length_cons] at h
    rw [List.zipIdx_cons, List.foldl_cons, ih (k + 1) _ (by simp; omega)]
    simp only [Array.toList_setIfInBounds]
    have h1 : (cells.toList.set (off + k) v).take (off + (k + 1)) = cells.toList.take (off + k) ++ [v] := by
      rw [← Nat.add_assoc, List.take_add_one, List.take_set_of_le (Nat.le_refl _), List.getElem?_set_self (by simp; omega)]
      rfl
    have h2 : (cells.toList.set (off + k) v).drop (off + (k + 1) + vs.length) = cells.toList.drop (off + k + (vs.length + 1)) := by
      rw [List.drop_set_of_lt (by omega)]
      congr 1
      omega
    rw [h1, h2]
    simp
theorem over_rel {l l' vs vs' r : List Value} {off : Nat} (h : over l off vs = some r) (hl : LRel σ l l') (hv : LRel σ vs vs') : off + vs.length ≤ l.length ∧ LRel σ r (l'.take off ++ vs' ++ l'.drop (off + vs'.length)) := by
  unfold over at h
  cases hb : Nat.ble (off + vs.length) l.length with
  | false => rw [hb] at h; cases h
  | true =>
    rw [hb] at h
    cases h
    exact ⟨Nat.le_of_ble_eq_true hb, by rw [← hv.len]; exact ((hl.take off).append hv).append (hl.drop _)⟩
theorem cells_rel {v v' : Value} (h : VRel σ v v') : LRel σ (cellsL v) v'.cells.toList := by rw [cells_toList]; exact cellsL_rel h
theorem fill_rel (place : Nat → Option (Nat × Nat)) : ∀ (ps : List (Nat × Operand)) (qs : List (Nat × Nat × Operand)) (c : List Value) (cc : Array Value) (r : List Value) (ρ ρ' : Operand → Value),
    ps.length = qs.length → (∀ (i : Nat) p q, ps[i]? = some p → qs[i]? = some q → place p.1 = some (q.1, q.2.1) ∧ p.2 = q.2.2 ∧ VRel σ (ρ p.2) (ρ' p.2)) → LRel σ c cc.toList →
    fillA c (qs.map fun (o, n, x) => (o, n, ρ x)) = some r → ∃ rc, Instr.fill place cc (ps.map fun (i, x) => (i, ρ' x)) = some rc ∧ LRel σ r rc.toList := by
  intro ps
  induction ps with
  | nil =>
    intro qs c cc r ρ ρ' hl _ hc h
    have : qs = [] := List.eq_nil_of_length_eq_zero (by simpa using hl.symm)
    subst this
    simp only [List.map_nil, fillA] at h
    cases h
    exact ⟨cc, rfl, hc⟩
  | cons p ps ih =>
    intro qs c cc r ρ ρ' hl hp hc h
    cases qs with
    | nil => simp at hl
    | cons q qs =>
      obtain ⟨o, n, x⟩ := q
      obtain ⟨i, y⟩ := p
      obtain ⟨h1, h2, h3⟩ := hp 0 _ _ rfl rfl
      simp only at h1 h2 h3
      subst h2
      simp only [List.map_cons, fillA] at h
      have hcl := cells_rel h3
      cases hb : Nat.beq (cellsL (ρ y)).length n with
      | false => rw [hb] at h; cases h
      | true =>
        have hn := Nat.eq_of_beq_eq_true hb
        rw [hb] at h
        simp only [cond_true, Option.bind_eq_some_iff] at h
        obtain ⟨m, hm, hrest⟩ := h
        obtain ⟨hle, hr⟩ := over_rel hm hc hcl
        have hsz : (ρ' y).cells.size = n := by rw [← Array.length_toList, ← hcl.len, hn]
        have hcc : c.length = cc.size := by rw [hc.len]; simp
        have hz : ((ρ' y).cells.zipIdx.foldl (fun (cs : Array Value) (x : Value × Nat) => cs.setIfInBounds (o + x.2) x.1) cc).toList = cc.toList.take o ++ (ρ' y).cells.toList ++ cc.toList.drop (o + (ρ' y).cells.toList.length) := by
          rw [← Array.foldl_toList, Array.toList_zipIdx]
          simpa using foldl_over o (ρ' y).cells.toList 0 cc (by simp [hsz]; omega)
        obtain ⟨rc, hrc, hrr⟩ := ih qs m ((ρ' y).cells.zipIdx.foldl (fun (cs : Array Value) (x : Value × Nat) => cs.setIfInBounds (o + x.2) x.1) cc) r ρ ρ' (by simpa using hl) (fun j a b ha hb' => hp (j + 1) a b (by simpa using ha) (by simpa using hb')) (by rw [hz]; exact hr) hrest
        refine ⟨rc, ?_, hrr⟩
        simp only [List.map_cons, Instr.fill, h1]
        rw [if_neg (by simp [hsz]; omega)]
        exact hrc
end
end Go.Ab
namespace Go.Ab
open Go Go.RowKit
variable [Unk] [Kn] [KnOk]
section
variable {P : Program} {σ : Sg} {A : H} {w : World}

theorem same1_eq {a b : Value} (h : same1 a b = true) : a = b := by
  unfold same1 at h
  split at h <;> first | (cases h; done) | rfl | skip
  · simp at h; rw [h]
  · simp at h; obtain ⟨rfl, rfl⟩ := h; rfl
  · simp [bytesOf] at h; congr; exact ByteArray.ext h
  · rename_i a b
    obtain ⟨ab, ao, as⟩ := a
    obtain ⟨bb, bo, bs⟩ := b
    simp at h
    obtain ⟨⟨⟨h1, h2⟩, h3⟩, h4⟩ := h
    subst h1; subst h2; subst h3; subst h4; rfl
  · simp at h; obtain ⟨rfl, rfl⟩ := h; rfl
  · rename_i a l c b l' c'
    obtain ⟨ab, ao, as⟩ := a
    obtain ⟨bb, bo, bs⟩ := b
    simp at h
    obtain ⟨⟨⟨⟨⟨h1, h2⟩, h3⟩, h4⟩, h5⟩, h6⟩ := h
    subst h1; subst h2; subst h3; subst h4; subst h5; subst h6; rfl
  · simp at h; rw [h]
  · rw [Nat.eq_of_beq_eq_true h]
  · rw [Bool.and_eq_true] at h; rw [Nat.eq_of_beq_eq_true h.1, Nat.eq_of_beq_eq_true h.2]
  · rw [Bool.and_eq_true] at h; rw [Nat.eq_of_beq_eq_true h.1, Nat.eq_of_beq_eq_true h.2]
  · rw [Nat.eq_of_beq_eq_true h]
theorem sameL_eq : ∀ {l m : List Value}, sameL l m = true → l = m := by
  intro l
  induction l with
  | nil => intro m h; cases m <;> first | rfl | cases h
  | cons a l ih =>
    intro m h
    cases m with
    | nil => cases h
    | cons b m => simp only [sameL, Bool.and_eq_true] at h; rw [same1_eq h.1, ih h.2]
theorem sameV_eq {a b : Value} (h : sameV a b = true) : a = b := by
  unfold sameV at h
  split at h
  · rename_i x y
    have := sameL_eq h
    congr
    exact Array.ext' this
  · exact same1_eq h
theorem getN_eq : ∀ (l : List Value) (n : Nat), getN l n = l[n]? := by
  intro l
  induction l with
  | nil => intro n; rfl
  | cons x l ih =>
    intro n
    unfold getN
    cases h0 : Nat.beq n 0 with
    | true => have := Nat.eq_of_beq_eq_true h0; subst this; rfl
    | false =>
      have := Nat.ne_of_beq_eq_false h0
      obtain ⟨m, rfl⟩ : ∃ m, n = m + 1 := ⟨n - 1, by omega⟩
      simp only [cond_false, ih]
      rfl
theorem ba_beq (s t : ByteArray) : (s == t) = (s.data.toList == t.data.toList) := by
  show (s.data == t.data) = _
  rw [Bool.eq_iff_iff]; simp
theorem keyTok {i j : Nat} {b : Bool} (h : keyEq .string (.chan (some i)) (.chan (some j)) = some b) : ∃ s : ByteArray, Unk.val i = .string s ∧ Unk.val j = .string s ∧ b = true := by
  simp only [keyEq] at h
  cases hb : (isText i && Nat.beq i j) with
  | false => rw [hb] at h; cases h
  | true =>
    rw [hb] at h
    cases h
    rw [Bool.and_eq_true] at hb
    have := Nat.eq_of_beq_eq_true hb.2
    subst this
    obtain ⟨s, hs, _⟩ := Unk.text i hb.1
    exact ⟨s, hs, hs, rfl⟩
theorem keyEq_rel {d : TypeDesc} {k k' x x' : Value} {b : Bool} (hk : VRel σ k k') (hx : VRel σ x x') (h : keyEq d k x = some b) : Instr.sameNow d k' x' = some b := by
  cases d <;> first | (simp only [keyEq] at h; cases h; done) | skip
  all_goals
    cases hk <;> first | (simp only [keyEq] at h; cases h; done) | skip
  all_goals
    cases hx <;> first | (simp only [keyEq] at h; cases h; done) | skip
  · exact h
  · exact h
  · rename_i s s'
    simp only [keyEq, Option.some.injEq] at h
    subst h
    simp only [Instr.sameNow, Option.some.injEq]
    exact ba_beq s s'
  · obtain ⟨s, h1, h2, rfl⟩ := keyTok h
    rw [h1, h2]
    simp [Instr.sameNow, ba_beq]
theorem scalar_equal {d : TypeDesc} {t : TypeId} (hd : P.underlying t = some d) (hs : scalarKey d = true) {k k' x x' : Value} {b : Bool} (hk : VRel σ k k') (hx : VRel σ x x') (h : keyEq d k x = some b) (n : Nat) (w : World) : (Op.equalIn (n + 1) t k' x').run P w = .ok b w := by
  cases d <;> first | (simp only [keyEq] at h; cases h; done) | skip
  all_goals
    cases hk <;> first | (simp only [keyEq] at h; cases h; done) | skip
  all_goals
    cases hx <;> first | (simp only [keyEq] at h; cases h; done) | skip
  · simp only [keyEq, Option.some.injEq] at h
    subst h
    simp [Op.equalIn, run_underlying hd]
  · simp only [keyEq] at h
    split at h
    · rename_i e
      subst e
      cases h
      simp [Op.equalIn, run_underlying hd]
    · cases h
  · rename_i s s'
    simp only [keyEq, Option.some.injEq] at h
    subst h
    simp only [Op.equalIn, Sem.run_bind, run_underlying hd, Result.andThen_ok, Sem.run_pure]
    rw [ba_beq]
    rfl
  · obtain ⟨s, h1, h2, rfl⟩ := keyTok h
    rw [h1, h2]
    simp [Op.equalIn, run_underlying hd, ba_beq]
theorem checkKey_scalar {d : TypeDesc} {t : TypeId} (hd : P.underlying t = some d) (hs : scalarKey d = true) (b : Bool) (n : Nat) (v : Value) (w : World) : (Instr.checkKey b (n + 1) t v).run P w = .ok () w := by
  cases d <;> first | (simp [scalarKey] at hs; done) | (simp [Instr.checkKey, run_underlying hd])

theorem part_scalar {d : TypeDesc} {t : TypeId} (hd : P.underlying t = some d) (hs : scalarKey d = true) {cs : Array Value} {o : Nat} {v : Value} (h : cs[o]? = some v) (w : World) : (part t cs o).run P w = .ok v w := by
  have ha : (isAgg t).run P w = .ok false w := by
    cases d <;> first | (simp [scalarKey] at hs; done) | (simp [isAgg, run_underlying hd])
  simp [part, ha, h]

/-- The fields of a struct key. -/
theorem fields_at {fs : List Field} {l : List (Nat × TypeDesc)} (h : fieldKinds P fs = some l) : ∀ f ∈ fs, f.name ≠ "_" ∧ ∃ d, P.underlying f.type = some d ∧ scalarKey d = true ∧ (f.offset, d) ∈ l := by
  induction fs generalizing l with
  | nil => intro f hf; simp at hf
  | cons g fs ih =>
    simp only [fieldKinds] at h
    cases hn : (g.name == "_") with
    | true => rw [hn] at h; cases h
    | false =>
      rw [hn] at h
      simp only [cond_false, Option.bind_eq_some_iff] at h
      obtain ⟨d, hd, h⟩ := h
      cases hs : scalarKey d with
      | false => rw [hs] at h; cases h
      | true =>
        rw [hs] at h
        simp only [cond_true, Option.map_eq_some_iff] at h
        obtain ⟨r, hr, rfl⟩ := h
        intro f hf
        rcases List.mem_cons.1 hf with rfl | hf
        · exact ⟨by simpa using hn, d, hd, hs, List.mem_cons_self⟩
        · obtain ⟨h1, d', h2, h3, h4⟩ := ih hr f hf
          exact ⟨h1, d', h2, h3, List.mem_cons_of_mem _ h4⟩

theorem eqFields_rel {xs xs' ys ys' : Array Value} (hx : VRel σ (.agg xs) (.agg xs')) (hy : VRel σ (.agg ys) (.agg ys')) (n : Nat) (w : World) : ∀ {fs : List Field} {l : List (Nat × TypeDesc)} {b : Bool}, fieldKinds P fs = some l → keysEq l xs.toList ys.toList = some b → (Op.eqFields (n + 1) xs' ys' fs).run P w = .ok b w := by
  intro fs
  induction fs with
  | nil =>
    intro l b h hb
    simp only [fieldKinds, Option.some.injEq] at h
    subst h
    simp only [keysEq, Option.some.injEq] at hb
    subst hb
    simp [Op.eqFields]
  | cons g fs ih =>
    intro l b h hb
    simp only [fieldKinds] at h
    cases hn : (g.name == "_") with
    | true => rw [hn] at h; cases h
    | false =>
      rw [hn] at h
      simp only [cond_false, Option.bind_eq_some_iff] at h
      obtain ⟨d, hd, h⟩ := h
      cases hs : scalarKey d with
      | false => rw [hs] at h; cases h
      | true =>
        rw [hs] at h
        simp only [cond_true, Option.map_eq_some_iff] at h
        obtain ⟨r, hr, rfl⟩ := h
        simp only [keysEq] at hb
        have hne : g.name ≠ "_" := by simpa using hn
        split at hb
        · rename_i x y hx1 hy1
          rw [getN_eq] at hx1 hy1
          cases hx with
          | agg _ _ hxs hxg =>
            cases hy with
            | agg _ _ hys hyg =>
              have e1 : g.offset < xs'.size := by rw [← hxs]; simpa using (List.getElem?_eq_some_iff.1 hx1).1
              have e2 : g.offset < ys'.size := by rw [← hys]; simpa using (List.getElem?_eq_some_iff.1 hy1).1
              have p1 := part_scalar (P := P) hd hs (cs := xs') (o := g.offset) (v := xs'[g.offset]) (by simp [e1]) w
              have p2 := part_scalar (P := P) hd hs (cs := ys') (o := g.offset) (v := ys'[g.offset]) (by simp [e2]) w
              have v1 := hxg g.offset x xs'[g.offset] hx1 (by simp [e1])
              have v2 := hyg g.offset y ys'[g.offset] hy1 (by simp [e2])
              simp only [Op.eqFields, if_pos hne, Sem.run_bind, p1, p2, Result.andThen_ok]
              cases hq : keyEq d x y with
              | none => rw [hq] at hb; cases hb
              | some q =>
                rw [hq] at hb
                rw [scalar_equal hd hs v1 v2 hq n w]
                cases q with
                | true => simp only [Result.andThen_ok, Bool.not_true, Bool.false_eq_true, if_false]; exact ih hr hb
                | false =>
                  simp only [Option.some.injEq] at hb
                  subst hb
                  simp
        · cases hb

/-- Two keys: the interpreter's answer is the model's. -/
theorem kind_equal {t : TypeId} {d : KKind} (hd : keyKind P t = some d) {k k' x x' : Value} {b : Bool} (hk : VRel σ k k') (hx : VRel σ x x') (h : kindEq d k x = some b) (w : World) : (Op.equal t k' x').run P w = .ok b w := by
  unfold keyKind at hd
  unfold Op.equal
  split at hd
  · rename_i fs hu
    cases hp : P.stoodInHeld t with
    | true => rw [hp] at hd; cases hd
    | false =>
      rw [hp] at hd
      simp only [cond_false, Option.map_eq_some_iff] at hd
      obtain ⟨l, hl, rfl⟩ := hd
      cases hk <;> first | (simp only [kindEq] at h; cases h; done) | skip
      cases hx <;> first | (simp only [kindEq] at h; cases h; done) | skip
      rename_i xs xs' h1 h2 ys ys' h3 h4
      simp only [kindEq] at h
      have hf : P.fieldsOf t = fs := by simp [Program.fieldsOf, hu]
      rw [show Op.maxDepth = 9999 + 1 from rfl, run_equalIn_struct (P := P) w 9999 t xs' ys' (by rw [hf]; exact hu) hp, hf]
      exact eqFields_rel (.agg _ _ h1 h2) (.agg _ _ h3 h4) 9998 w hl h
  · rename_i dd _ hu
    cases hs : scalarKey dd with
    | false => rw [hs] at hd; cases hd
    | true =>
      rw [hs] at hd
      cases hd
      exact scalar_equal hu hs hk hx h 9999 w
  · cases hd

theorem kind_check_at (m q : Nat) (hq : q = m + 1) {t : TypeId} {d : KKind} (hd : keyKind P t = some d) {k k' : Value} (hk : VRel σ k k') (h : kindOk d k = true) (b : Bool) (w : World) : (Instr.checkKey b (q + 1) t k').run P w = .ok () w := by
  unfold keyKind at hd
  split at hd
  · rename_i fs hu
    cases hp : P.stoodInHeld t with
    | true => rw [hp] at hd; cases hd
    | false =>
      rw [hp] at hd
      simp only [cond_false, Option.map_eq_some_iff] at hd
      obtain ⟨l, hl, rfl⟩ := hd
      cases hk <;> first | (simp only [kindOk] at h; cases h; done) | skip
      rename_i xs xs' h1 h2
      simp only [kindOk, List.all_eq_true] at h
      have hat := fields_at hl
      simp only [Instr.checkKey, Sem.run_bind, run_underlying hu, Result.andThen_ok]
      rw [← Array.forIn_toList]
      generalize hfs : fs.toList = gs at hat
      clear hl hu hfs
      induction gs with
      | nil => simp
      | cons g gs ih =>
        obtain ⟨hne, d, hd, hs, hm⟩ := hat g List.mem_cons_self
        have e1 : g.offset < xs'.size := by rw [← h1]; exact Nat.le_of_ble_eq_true (h _ hm)
        have p1 := part_scalar (P := P) hd hs (cs := xs') (o := g.offset) (v := xs'[g.offset]) (by simp [e1]) w
        have p2 := checkKey_scalar (P := P) hd hs b m xs'[g.offset] w
        rw [← hq] at p2
        simp only [List.forIn_cons, Sem.run_bind, Sem.run_ite, if_pos hne, p1, p2, Result.andThen_ok, Sem.run_pure]
        exact ih fun f hf => hat f (List.mem_cons_of_mem _ hf)
  · rename_i dd _ hu
    cases hs : scalarKey dd with
    | false => rw [hs] at hd; cases hd
    | true => exact checkKey_scalar hu hs b q k' w
  · cases hd
theorem kind_check {t : TypeId} {d : KKind} (hd : keyKind P t = some d) {k k' : Value} (hk : VRel σ k k') (h : kindOk d k = true) (b : Bool) (w : World) : (Instr.checkKey b 10000 t k').run P w = .ok () w := kind_check_at 9998 9999 rfl hd hk h b w
theorem ERel.cons_inv {e : MapEntry} {es es' : List MapEntry} (h : ERel σ (e :: es) es') : ∃ e' r, es' = e' :: r ∧ (e.born = e'.born ∧ VRel σ e.key e'.key ∧ VRel σ e.val e'.val) ∧ ERel σ es r := by
  cases es' with
  | nil => have := h.len; simp at this
  | cons e' r => exact ⟨e', r, rfl, h.get 0 e e' rfl rfl, ⟨by have := h.len; simpa using this, fun i a b ha hb => h.get (i + 1) a b (by simpa using ha) (by simpa using hb)⟩⟩

/-- What is found: the same place, alike values. -/
def Found (σ : Sg) (f f' : Option (Nat × Value)) : Prop := f = none ∧ f' = none ∨ ∃ v i v', f = some (i, v) ∧ f' = some (i, v') ∧ VRel σ v v'
theorem findNow_rel {d : TypeDesc} {k k' : Value} (hk : VRel σ k k') : ∀ {es es' : List MapEntry} {f : Option (Nat × Value)} {n : Nat}, findA (.one d) k es n = some f → ERel σ es es' → ∃ f', Instr.findNow d k' es' n = some f' ∧ Found σ f f' := by
  intro es
  induction es with
  | nil =>
    intro es' f n h he
    simp only [findA, Option.some.injEq] at h
    subst h
    have : es' = [] := List.eq_nil_of_length_eq_zero (by have := he.len; simpa using this.symm)
    subst this
    exact ⟨none, rfl, .inl ⟨rfl, rfl⟩⟩
  | cons e es ih =>
    intro es' f n h he
    obtain ⟨e', r, rfl, ⟨_, h2, h3⟩, hr⟩ := he.cons_inv
    simp only [findA, kindEq] at h
    cases hq : keyEq d k e.key with
    | none => rw [hq] at h; cases h
    | some b =>
      rw [hq] at h
      have hs := keyEq_rel hk h2 hq
      cases b with
      | true =>
        simp only [Option.some.injEq] at h
        subst h
        exact ⟨some (n, e'.val), by simp [Instr.findNow, hs], .inr ⟨_, _, _, rfl, rfl, h3⟩⟩
      | false =>
        obtain ⟨f', h4, h5⟩ := ih h hr
        exact ⟨f', by simp only [Instr.findNow, hs]; exact h4, h5⟩
theorem findAsk_rel {t : TypeId} {d : KKind} (hd : keyKind P t = some d) {k k' : Value} (hk : VRel σ k k') (w : World) : ∀ {es es' : List MapEntry} {f : Option (Nat × Value)} {n : Nat}, findA d k es n = some f → ERel σ es es' → ∃ f', (Instr.findAsking t k' es' n).run P w = .ok f' w ∧ Found σ f f' := by
  intro es
  induction es with
  | nil =>
    intro es' f n h he
    simp only [findA, Option.some.injEq] at h
    subst h
    have : es' = [] := List.eq_nil_of_length_eq_zero (by have := he.len; simpa using this.symm)
    subst this
    exact ⟨none, by simp [Instr.findAsking], .inl ⟨rfl, rfl⟩⟩
  | cons e es ih =>
    intro es' f n h he
    obtain ⟨e', r, rfl, ⟨_, h2, h3⟩, hr⟩ := he.cons_inv
    simp only [findA] at h
    cases hq : kindEq d k e.key with
    | none => rw [hq] at h; cases h
    | some b =>
      rw [hq] at h
      have hs := kind_equal hd hk h2 hq w
      cases b with
      | true =>
        simp only [Option.some.injEq] at h
        subst h
        exact ⟨some (n, e'.val), by simp [Instr.findAsking, hs], .inr ⟨_, _, _, rfl, rfl, h3⟩⟩
      | false =>
        obtain ⟨f', h4, h5⟩ := ih h hr
        exact ⟨f', by simp only [Instr.findAsking, Sem.run_bind, hs, Result.andThen_ok, Bool.false_eq_true, if_false]; exact h4, h5⟩
theorem findK_rel {t : TypeId} {d : KKind} (hd : keyKind P t = some d) {k k' : Value} (hk : VRel σ k k') {es es' : List MapEntry} {f : Option (Nat × Value)} (h : findK d k es = some f) (he : ERel σ es es') (w : World) :
    kindOk d k = true ∧ ∃ f', (Instr.findKey t k' es').run P w = .ok f' w ∧ Found σ f f' := by
  unfold findK at h
  cases hb : kindOk d k with
  | false => rw [hb] at h; cases h
  | true =>
    rw [hb] at h
    simp only [cond_true] at h
    refine ⟨rfl, ?_⟩
    have hd' := hd
    unfold keyKind at hd
    split at hd
    · rename_i fs hu
      obtain ⟨f', h1, h2⟩ := findAsk_rel hd' hk w h he
      refine ⟨f', ?_, h2⟩
      cases es' with
      | nil =>
        have : f' = none := by simpa [Instr.findAsking] using h1.symm
        subst this
        simp [Instr.findKey, run_underlying hu, Instr.findNow]
      | cons e es' => simp [Instr.findKey, run_underlying hu, Instr.findNow, Instr.sameNow, h1]
    · rename_i dd _ hu
      cases hs : scalarKey dd with
      | false => rw [hs] at hd; cases hd
      | true =>
        rw [hs] at hd
        cases hd
        obtain ⟨f', h1, h2⟩ := findNow_rel hk h he
        exact ⟨f', by simp [Instr.findKey, run_underlying hu, h1], h2⟩
    · cases hd
end
end Go.Ab
namespace Go.Ab
open Go
variable [Unk] [Kn] [KnOk]
section
variable {P : Program} {σ : Sg} {A : H} {w : World}

theorem bound_rel {x x' : Value} {y m : Nat} {code : BoundsCode} (hx : VRel σ x x') (h : boundA x y = some m) (w : World) : (Instr.sliceBound x' y code).run P w = .ok m w ∧ m ≤ y := by
  cases hx with
  | int k i =>
    simp only [boundA] at h
    split at h
    · rename_i hi
      cases h
      refine ⟨by simp [Instr.sliceBound, asIntOf, hi], by omega⟩
    · cases h
  | _ => simp [boundA] at h
theorem addr_add_add (b o m n : Nat) : (⟨b, o + m, none⟩ : Addr).add n = ⟨b, o + m + n, none⟩ := Addr.add_none _ _ _
theorem ptr_add {id off n : Nat} {p : Pl} (h : σ id = some p) : VRel σ (.pointer (some ((⟨id, off, none⟩ : Addr).add n))) (.pointer (some ((⟨p.b, p.sh + off, none⟩ : Addr).add n))) := by
  rw [Addr.add_none, Addr.add_none, Nat.add_assoc]
  exact .ptr (off + n) h
theorem tuple_flat2 (a b : Value) : (.tuple #[a, b] : Value) = .tuple ⟨[a, b]⟩ := rfl

theorem ba_get (s : ByteArray) (n : Nat) : s[n]? = (bytesOf s)[n]? := by
  by_cases h : n < s.size
  · rw [getElem?_pos s n h, List.getElem?_eq_getElem (by rw [← size_eq]; exact h)]; rfl
  · rw [getElem?_neg s n h, List.getElem?_eq_none (by rw [← size_eq]; omega)]
theorem bound_rel' {x x' : Value} {y y' m : Nat} {code : BoundsCode} (hy : y ≤ y') (hx : VRel σ x x') (h : boundA x y = some m) (w : World) : (Instr.sliceBound x' y' code).run P w = .ok m w ∧ m ≤ y := by
  obtain ⟨_, h2⟩ := bound_rel (P := P) (code := code) hx h w
  refine ⟨?_, h2⟩
  cases hx with
  | int k i =>
    simp only [boundA] at h
    split at h
    · rename_i hi
      cases h
      have : 0 ≤ i ∧ i ≤ (y' : Int) := by omega
      simp [Instr.sliceBound, asIntOf, this]
    · cases h
  | _ => simp [boundA] at h
/-- A bound that is given, or the default. -/
theorem high_rel {x : Option Operand} {ρA ρC : Operand → Value} {y y' d d' m : Nat} {code : BoundsCode} (hy : y ≤ y') (hx : ∀ z, x = some z → VRel σ (ρA z) (ρC z)) (h : highA (x.map ρA) y d = some m) (w : World) :
    (match x.map ρC with | some v => Instr.sliceBound v y' code | none => pure d').run P w = .ok (if x.isSome then m else d') w ∧ (x = none → m = d) ∧ (x.isSome → m ≤ y) := by
  cases x with
  | none => simp only [Option.map_none, highA, Option.some.injEq] at h; subst h; exact ⟨rfl, fun _ => rfl, (fun h => by cases h)⟩
  | some z => simp only [Option.map_some, highA] at h; obtain ⟨h1, h2⟩ := bound_rel' (P := P) (code := code) hy (hx z rfl) h w; exact ⟨h1, (fun h => by cases h), fun _ => h2⟩
theorem bounds_rel {isSlice : Bool} {lo hi mx : Option Operand} {ρA ρC : Operand → Value} {len cap cap' m k l : Nat} (hcap : cap ≤ cap') (hlo : ∀ z, lo = some z → VRel σ (ρA z) (ρC z)) (hhi : ∀ z, hi = some z → VRel σ (ρA z) (ρC z))
    (hmx : ∀ z, mx = some z → VRel σ (ρA z) (ρC z)) (hlen : len ≤ cap) (hm : highA (mx.map ρA) cap cap = some m) (hk : highA (hi.map ρA) m len = some k) (hl : highA (lo.map ρA) k 0 = some l) (hmh : mx.isSome → hi.isSome) (w : World) :
    ∃ m', (Instr.sliceBounds isSlice len cap' (lo.map ρC) (hi.map ρC) (mx.map ρC)).run P w = .ok (l, k, m') w ∧ l ≤ k ∧ k ≤ m ∧ m ≤ cap ∧ ((m = m') ∨ (m = cap ∧ m' = cap')) := by
  cases mx with
  | some vm =>
    obtain ⟨vh, rfl⟩ : ∃ v, hi = some v := Option.isSome_iff_exists.1 (hmh rfl)
    simp only [Option.map_some, highA] at hm hk
    obtain ⟨h1, h1'⟩ := bound_rel' (P := P) (code := if isSlice then .slice3Acap else .slice3Alen) hcap (hmx vm rfl) hm w
    obtain ⟨h2, h2'⟩ := bound_rel' (P := P) (code := .slice3B) (Nat.le_refl m) (hhi vh rfl) hk w
    cases lo with
    | some vl =>
      simp only [Option.map_some, highA] at hl
      obtain ⟨h3, h3'⟩ := bound_rel' (P := P) (code := .slice3C) (Nat.le_refl k) (hlo vl rfl) hl w
      exact ⟨m, by simp [Instr.sliceBounds, h1, h2, h3], h3', h2', h1', .inl rfl⟩
    | none =>
      simp only [Option.map_none, highA, Option.some.injEq] at hl
      subst hl
      exact ⟨m, by simp [Instr.sliceBounds, h1, h2], Nat.zero_le _, h2', h1', .inl rfl⟩
  | none =>
    simp only [Option.map_none, highA, Option.some.injEq] at hm
    subst hm
    refine ⟨cap', ?_⟩
    cases hi with
    | some vh =>
      simp only [Option.map_some, highA] at hk
      obtain ⟨h2, h2'⟩ := bound_rel' (P := P) (code := if isSlice then .sliceAcap else .sliceAlen) hcap (hhi vh rfl) hk w
      cases lo with
      | some vl =>
        simp only [Option.map_some, highA] at hl
        obtain ⟨h3, h3'⟩ := bound_rel' (P := P) (code := .sliceB) (Nat.le_refl k) (hlo vl rfl) hl w
        exact ⟨by simp [Instr.sliceBounds, h2, h3], h3', h2', Nat.le_refl _, .inr ⟨rfl, rfl⟩⟩
      | none =>
        simp only [Option.map_none, highA, Option.some.injEq] at hl
        subst hl
        exact ⟨by simp [Instr.sliceBounds, h2], Nat.zero_le _, h2', Nat.le_refl _, .inr ⟨rfl, rfl⟩⟩
    | none =>
      simp only [Option.map_none, highA, Option.some.injEq] at hk
      subst hk
      cases lo with
      | some vl =>
        simp only [Option.map_some, highA] at hl
        obtain ⟨h3, h3'⟩ := bound_rel' (P := P) (code := .sliceB) (Nat.le_refl len) (hlo vl rfl) hl w
        exact ⟨by simp [Instr.sliceBounds, h3], h3', hlen, Nat.le_refl _, .inr ⟨rfl, rfl⟩⟩
      | none =>
        simp only [Option.map_none, highA, Option.some.injEq] at hl
        subst hl
        exact ⟨by simp [Instr.sliceBounds], Nat.zero_le _, hlen, Nat.le_refl _, .inr ⟨rfl, rfl⟩⟩
theorem extract_bytes (s : ByteArray) (l h : Nat) : s.extract l h = ofBytes (((bytesOf s).take h).drop l) := by
  apply ByteArray.ext
  apply Array.ext'
  simp [ofBytes, bytesOf, ByteArray.data_extract, List.extract_eq_take_drop, List.drop_take]
theorem light_move (x : Operand) {ρA ρC : Operand → Value} {v : Value} {A' : H} (hx : VRel σ (ρA x) (ρC x)) (h : evalOp0 (.move x) ρA A = some (v, A')) : A' = A ∧ VRel σ v (ρC x) := by
  simp only [evalOp0, Option.some.injEq, Prod.mk.injEq] at h
  obtain ⟨rfl, rfl⟩ := h
  exact ⟨rfl, hx⟩

theorem one_rel {agg : Bool} {l l' : List Value} {v : Value} (h : oneV agg l = some v) (hl : LRel σ l l') : ∃ v', oneV agg l' = some v' ∧ VRel σ v v' := by
  cases agg with
  | true => simp only [oneV, cond_true, Option.some.injEq] at h; subst h; exact ⟨aggL l', rfl, aggL_rel hl⟩
  | false =>
    simp only [oneV, cond_false] at h
    match l, h with
    | [u], h =>
      simp only [Option.some.injEq] at h
      subst h
      obtain ⟨u', r', rfl, hu, hr'⟩ := hl.cons_inv
      have : r' = [] := List.eq_nil_of_length_eq_zero (by have := hr'.len; simpa using this.symm)
      subst this
      exact ⟨u', rfl, hu⟩
theorem part_rel {t : TypeId} {n off : Nat} {b : Bool} {l l' r : List Value} {v : Value} (hn : sizeA P t = some n) (hb : aggA P t = some b) (hl : LRel σ l l') (hc : cut l off n = some r)
    (h : oneV b r = some v) (w : World) : ∃ v', (part t l'.toArray off).run P w = .ok v' w ∧ VRel σ v v' := by
  obtain ⟨k1, k2, k3⟩ := cut_some hc
  have hlr : LRel σ r ((l'.drop off).take n) := by rw [k2]; exact (hl.drop off).take n
  obtain ⟨v', h1, h2⟩ := one_rel h hlr
  refine ⟨v', ?_, h2⟩
  cases b with
  | true =>
    simp only [oneV, cond_true, Option.some.injEq] at h1
    subst h1
    simp only [part, Sem.run_bind, run_agg hb, Result.andThen_ok, if_true, run_size hn, Sem.run_pure]
    congr 1
    rw [aggL_toArray]
    congr 1
    apply Array.ext'
    simp [Array.toList_extract, List.extract_eq_take_drop]
  | false =>
    have h1' : (l'.drop off).take n = [v'] := by
      simp only [oneV, cond_false] at h1
      match hx : (l'.drop off).take n, h1 with
      | [u], h1 => simp only [Option.some.injEq] at h1; rw [h1]
    have hg : ((l'.drop off).take n)[0]? = some v' := by rw [h1']; rfl
    rw [List.getElem?_take] at hg
    split at hg
    · rw [List.getElem?_drop, Nat.add_zero] at hg
      have hlt := (List.getElem?_eq_some_iff.1 hg).1
      simp [part, run_agg hb, hg]
    · cases hg

theorem foldl_push (l : List UInt8) : ∀ s : ByteArray, l.foldl (fun r b => r.push b) s = ⟨⟨s.data.toList ++ l⟩⟩ := by
  induction l with
  | nil => intro s; simp
  | cons b l ih => intro s; simp only [List.foldl_cons]; rw [ih]; simp [ByteArray.push]
theorem bytes_key : ∀ {cs l' : List Value} {bs : List UInt8}, bytesV cs = some bs → LRel σ cs l' → ∃ ns : List Int, l' = ns.map (Value.int .u8) ∧ ns.map (fun n => UInt8.ofNat n.toNat) = bs := by
  intro cs
  induction cs with
  | nil =>
    intro l' bs h hl
    simp only [bytesV, Option.some.injEq] at h
    subst h
    have : l' = [] := List.eq_nil_of_length_eq_zero (by have := hl.len; simpa using this.symm)
    subst this
    exact ⟨[], rfl, rfl⟩
  | cons c cs ih =>
    intro l' bs h hl
    obtain ⟨c', r', rfl, hc, hr⟩ := hl.cons_inv
    cases hc with
    | int k n =>
      cases k <;> first | (simp [bytesV] at h; done) | skip
      simp only [bytesV, Option.map_eq_some_iff] at h
      obtain ⟨x, hx, rfl⟩ := h
      obtain ⟨ns, h1, h2⟩ := ih hx hr
      exact ⟨n :: ns, by simp [h1], by simp [h2]⟩
    | _ => simp [bytesV] at h
theorem bytes_ints {cs l' : List Value} {bs : List UInt8} (h : bytesV cs = some bs) (hl : LRel σ cs l') :
    ∃ ns : List Int, l' = ns.map (Value.int .u8) ∧ ns.foldl (fun r n => r.push (UInt8.ofNat n.toNat)) ByteArray.empty = ofBytes bs := by
  obtain ⟨ns, h1, h2⟩ := bytes_key h hl
  refine ⟨ns, h1, ?_⟩
  rw [← h2]
  have := foldl_push (ns.map fun n => UInt8.ofNat n.toNat) ByteArray.empty
  rw [List.foldl_map] at this
  rw [this]
  simp [ofBytes]
theorem decR_len : ∀ (l n : Nat), (decR l n).length = l
  | 0, _ => rfl
  | l + 1, n => by simp [decR, decR_len l]
theorem decR_get : ∀ (l n i : Nat), i < l → (decR l n)[i]? = some (charAt n i)
  | 0, n, i, h => by omega
  | l + 1, n, 0, h => by
    simp only [decR, List.getElem?_cons_zero, charAt]
    have : Nat.div n (Nat.pow baseC 0) = n := Nat.div_one n
    rw [this]
  | l + 1, n, i + 1, h => by
    simp only [decR, List.getElem?_cons_succ, decR_get l (Nat.div n baseC) i (by omega), charAt]
    have : Nat.div (Nat.div n baseC) (Nat.pow baseC i) = Nat.div n (Nat.pow baseC (i + 1)) := by
      show n / baseC / baseC ^ i = n / baseC ^ (i + 1)
      rw [Nat.div_div_eq_div_mul, Nat.pow_succ, Nat.mul_comm]
    rw [this]
/-- Cells that make a text. -/
theorem mk_key {cs l' : List Value} {v : Value} (h : mkStr cs = some v) (hl : LRel σ cs l') :
    ∃ (ns : List Int) (bs : List UInt8), l' = ns.map (Value.int .u8) ∧ ns.map (fun n => UInt8.ofNat n.toNat) = bs ∧ VRel σ v (.string (ofBytes bs)) := by
  cases hb : bytesV cs with
  | some bs =>
    obtain ⟨ns, h1, h2⟩ := bytes_key hb hl
    unfold mkStr at h
    rw [hb] at h
    cases h
    exact ⟨ns, _, h1, h2, .string _⟩
  | none =>
    have h' := h
    unfold mkStr at h'
    rw [hb] at h'
    simp only [Option.map_eq_some_iff] at h'
    obtain ⟨n, hn, _⟩ := h'
    obtain ⟨bs, h1, h2⟩ := enc_cells hn hl
    refine ⟨bs.map fun b => Int.ofNat b.toNat, bs, by rw [h1, List.map_map]; rfl, ?_, mkStr_rel h h2⟩
    rw [List.map_map]
    have e : ((fun n : Int => UInt8.ofNat n.toNat) ∘ fun b : UInt8 => Int.ofNat b.toNat) = id := by
      funext y
      apply UInt8.toNat_inj.1
      show (UInt8.ofNat (Int.ofNat y.toNat).toNat).toNat = y.toNat
      rw [UInt8.toNat_ofNat']
      have := y.toNat_lt
      show y.toNat % 2 ^ 8 = y.toNat
      omega
    rw [e, List.map_id]
theorem mk_ints {cs l' : List Value} {v : Value} (h : mkStr cs = some v) (hl : LRel σ cs l') :
    ∃ (ns : List Int) (s : ByteArray), l' = ns.map (Value.int .u8) ∧ ns.foldl (fun r n => r.push (UInt8.ofNat n.toNat)) ByteArray.empty = s ∧ VRel σ v (.string s) := by
  obtain ⟨ns, bs, h1, h2, h3⟩ := mk_key h hl
  refine ⟨ns, ofBytes bs, h1, ?_, h3⟩
  rw [← h2]
  have := foldl_push (ns.map fun n => UInt8.ofNat n.toNat) ByteArray.empty
  rw [List.foldl_map] at this
  rw [this]
  simp [ofBytes]
theorem run_places (w : World) : ∀ (fs : List Field) (pl : List (Nat × Nat)), placesA P fs = some pl → (fs.mapM (fun f => do pure (f.offset, ← sizeOf f.type) : Field → Sem (Nat × Nat))).run P w = .ok pl w := by
  intro fs
  induction fs with
  | nil => intro pl h; simp only [placesA, Option.some.injEq] at h; subst h; simp
  | cons f fs ih =>
    intro pl h
    simp only [placesA, Option.bind_eq_some_iff, Option.map_eq_some_iff] at h
    obtain ⟨n, hn, r, hr, rfl⟩ := h
    rw [List.mapM_cons]
    simp only [Sem.run_bind, run_size hn, Result.andThen_ok, Sem.run_pure, ih r hr]
theorem parts_get {place : Nat → Option (Nat × Nat)} : ∀ {ps : List (Nat × Operand)} {qs : List (Nat × Nat × Operand)}, partsA place ps = some qs → ps.length = qs.length ∧ ∀ (i : Nat) p q, ps[i]? = some p → qs[i]? = some q → place p.1 = some (q.1, q.2.1) ∧ p.2 = q.2.2 := by
  intro ps
  induction ps with
  | nil => intro qs h; simp only [partsA, Option.some.injEq] at h; subst h; exact ⟨rfl, fun i p q h => by simp at h⟩
  | cons p ps ih =>
    intro qs h
    obtain ⟨i, x⟩ := p
    simp only [partsA, Option.bind_eq_some_iff, Option.map_eq_some_iff] at h
    obtain ⟨q, hq, r, hr, rfl⟩ := h
    obtain ⟨h1, h2⟩ := ih hr
    refine ⟨by simp [h1], fun j a b ha hb => ?_⟩
    cases j with
    | zero => simp at ha hb; subst ha; subst hb; exact ⟨hq, rfl⟩
    | succ j => simp at ha hb; exact h2 j a b ha hb

theorem entries_rel (hr : Rel P σ A w) {m m' : Value} {es : List MapEntry} (hm : VRel σ m m') (h : entriesA A m = some es) : ∃ es' : List MapEntry, ERel σ es es' ∧
    ((m' = .map none ∧ es' = []) ∨ ∃ r a c, m' = .map (some r) ∧ w.heap[r]? = some (.map a c) ∧ a.toList = es') := by
  cases hm with
  | mapNil => simp only [entriesA, Option.some.injEq] at h; subst h; exact ⟨[], ⟨rfl, fun i e e' h => by simp at h⟩, .inl ⟨rfl, rfl⟩⟩
  | @map id p hs =>
    simp only [entriesA] at h
    cases hg : A.get id with
    | none => simp [hg] at h
    | some o =>
      cases o with
      | map es0 c =>
        simp only [hg, Option.some.injEq] at h
        subst h
        obtain ⟨es', h1, h2⟩ := hr.obj id _ p hg hs
        exact ⟨es'.toList, h2, .inr ⟨p.b, es', c, rfl, h1, rfl⟩⟩
      | _ => simp [hg] at h
  | _ => simp [entriesA] at h
theorem minmax_rel (mx : Bool) (k : IntKind) : ∀ (rest rest' : List Value) (x n : Int), LRel σ rest rest' → (rest.foldlM (fun (acc : Int) v => (intV v).map fun y => if mx then (if y > acc then y else acc) else (if y < acc then y else acc)) x) = some n →
    (rest'.foldlM (if mx then Builtin.max2 else Builtin.min2) (.int k x)).run P w = .ok (.int k n) w := by
  intro rest
  induction rest with
  | nil =>
    intro rest' x n hl h
    have : rest' = [] := List.eq_nil_of_length_eq_zero (by have := hl.len; simpa using this.symm)
    subst this
    simp at h; subst h; simp
  | cons v rest ih =>
    intro rest' x n hl h
    obtain ⟨v', r', rfl, hv, hr⟩ := hl.cons_inv
    rw [List.foldlM_cons] at h
    cases hi : intV v with
    | none => simp [hi] at h
    | some y =>
      obtain ⟨k', h1, h2⟩ := intV_rel hv hi
      simp only [hi, Option.map_some, Option.bind_eq_bind, Option.bind_some] at h
      rw [List.foldlM_cons]
      have := ih r' _ n hr h
      cases mx <;> simp [h2, Builtin.max2, Builtin.min2] at this ⊢ <;> exact this
theorem light_minmax (mx : Bool) {o : Oper} {f : Array Bool → Array Value → Sem Next} {args : Array Operand} {ρA ρC : Operand → Value} (hexec : ∀ s : Sem Value, (∀ cs, f cs (args.map ρC) = (do pure (.value (← s)) : Sem Next)) → ∀ v', s.run P w = .ok v' w → (execOp ρC o).run P w = .ok (.value v') w)
    (hf : ∀ cs vs, f cs vs = (do pure (.value (← (match vs.toList with | [] => stuck (if mx then "max: at least one argument expected" else "min: at least one argument expected") | x :: rest => rest.foldlM (if mx then Builtin.max2 else Builtin.min2) x))) : Sem Next)) (hargs : ∀ y ∈ args.toList, VRel σ (ρA y) (ρC y)) {v : Value} {A' : H}
    (h : evalOp0 (.minmax mx args.toList) ρA A = some (v, A')) : A' = A ∧ YieldsTo P σ w (execOp ρC o) v := by
  simp only [evalOp0] at h
  have hl : LRel σ (args.toList.map ρA) (args.toList.map ρC) := LRel.map _ _ _ hargs
  split at h
  · rename_i k x rest hx
    rw [hx] at hl
    obtain ⟨x', r', hr, hv, hrr⟩ := hl.cons_inv
    have hx' := hv.int_inv
    subst hx'
    rw [Option.map_eq_some_iff] at h
    obtain ⟨n, hn, he⟩ := h
    cases he
    have := minmax_rel (P := P) (w := w) mx k rest r' x n hrr hn
    exact ⟨rfl, _, hexec _ (fun cs => hf cs _) _ (by rw [Array.toList_map, hr]; exact this), .int _ _⟩
  · cases h
theorem mk_len {σ : Sg} {l : List Nat} {v : Value} {n : Nat} (h : mkV ⟨.i64, 1, 0, l⟩ = some v) (e : denL Unk.bit l = n) : VRel σ v (.int .i64 (n : Int)) := by
  have hm := mkV_ok (bit := Unk.bit) h
  rw [fmDen_plain, e] at hm
  exact stands_rel (stands_int hm.1)
theorem cond_of {α : Type} {b : Bool} {x y : Option α} {v : α} (h : (bif b then x else y) = some v) (hy : y = none) : b = true ∧ x = some v := by
  cases b with
  | true => exact ⟨rfl, h⟩
  | false => rw [cond_false, hy] at h; cases h
theorem lenText_rel {σ : Sg} {i : Nat} {v : Value} (h : lenText i = some v) : ∃ s : ByteArray, Unk.val i = .string s ∧ VRel σ v (.int .i64 (s.size : Int)) := by
  rw [lenText] at h
  obtain ⟨hi, h⟩ := cond_of h rfl
  obtain ⟨s, hs, he⟩ := Unk.text i hi
  exact ⟨s, hs, mk_len h he.symm⟩
theorem light_call {c : Call} {dst : Option Tmp} {type : TypeId} {pos : String} {after : Array Edge} {guard : Option (Nat × Bool)} {x : XOp} (hc : compOp P ⟨dst, .call c, type, pos, after, guard⟩ = some x) (hl : light x = true) {ρA ρC : Operand → Value}
    (hρ : ∀ y ∈ (Op.call c).operands, VRel σ (ρA y) (ρC y)) {v : Value} {A' : H} (h : evalOp0 x ρA A = some (v, A')) : A' = A ∧ YieldsTo P σ w (execOp ρC ⟨dst, .call c, type, pos, after, guard⟩) v := by
  obtain ⟨callee, args, argTypes⟩ := c
  simp only [compOp, compCall] at hc
  have hargs : ∀ y ∈ args.toList, VRel σ (ρA y) (ρC y) := fun y hy => hρ y (by simp only [Op.operands, Call.operands]; exact Array.mem_append.2 (.inr (Array.mem_toList_iff.1 hy)))
  cases callee with
  | invoke r m => simp only [compCall, Option.some.injEq] at hc; subst hc; cases hl
  | value f =>
    cases f with
    | func f =>
      simp only at hc
      split at hc
      · split at hc
        · cases hc; cases hl
        · split at hc
          · split at hc <;> cases hc; cases hl
          · cases hc
      · cases hc
    | tmp t => simp only [Option.some.injEq] at hc; subst hc; cases hl
    | _ => cases hc
  | builtin b =>
    have hexec : ∀ s : Sem Value, (∀ cs, builtin b argTypes type cs (args.map ρC) = (do pure (.value (← s)) : Sem Next)) → ∀ v', s.run P w = .ok v' w → (execOp ρC ⟨dst, .call ⟨.builtin b, args, argTypes⟩, type, pos, after, guard⟩).run P w = .ok (.value v') w := by
      intro s hs v' hr
      simp only [execOp, resolve, Sem.run_bind, Sem.run_pure, Result.andThen_ok, invoke, hs, hr]
    simp only [compBuiltin] at hc
    cases b with
    | len =>
      simp only at hc
      split at hc
      case h_2 => cases hc
      rename_i t x0 h0 hx0
      have hav : args = #[x0] := by apply Array.ext'; simpa using hx0
      subst hav
      have hx := hargs x0 (by simp)
      have key : ∀ n : Nat, v = .int .i64 n → A' = A → (Builtin.len_ argTypes type #[ρC x0]).run P w = .ok v w → A' = A ∧ YieldsTo P σ w (execOp ρC ⟨dst, .call ⟨.builtin .len, #[x0], argTypes⟩, type, pos, after, guard⟩) v := fun n hn ha hr =>
          ⟨ha, v, hexec (Builtin.len_ argTypes type #[ρC x0]) (fun cs => by simp [builtin]) v hr, by rw [hn]; exact .int _ _⟩
      split at hc
      · rename_i hu
        simp only [Option.some.injEq] at hc; subst hc
        simp only [evalOp0] at h
        revert hx h; generalize ρA x0 = a; generalize hb : ρC x0 = b
        intro hx h
        rw [hb] at key
        cases hx <;> simp only at h <;> (try (cases h; done))
        · cases h
          exact key _ rfl rfl (by simp [Builtin.len_, h0, run_underlying hu, goInt, size_eq])
        · rename_i i
          rw [Option.map_eq_some_iff] at h
          obtain ⟨v0, hv0, he⟩ := h
          cases he
          obtain ⟨s, hs, hv⟩ := lenText_rel (σ := σ) hv0
          rw [hs] at hb
          exact ⟨rfl, _, hexec (Builtin.len_ argTypes type #[ρC x0]) (fun cs => by simp [builtin]) (.int .i64 s.size) (by simp [Builtin.len_, h0, run_underlying hu, goInt, hb]), hv⟩
        · cases h
          rename_i l n s hs
          have hl := hs.len
          rw [decR_len] at hl
          exact key l rfl rfl (by simp [Builtin.len_, h0, run_underlying hu, goInt, size_eq, hl])
      · rename_i e hu
        simp only [Option.some.injEq] at hc; subst hc
        simp only [evalOp0] at h
        revert hx h; generalize ρA x0 = a; generalize hb : ρC x0 = b
        intro hx h
        rw [hb] at key
        cases hx <;> simp only at h <;> cases h
        · exact key _ rfl rfl (by simp [Builtin.len_, h0, run_underlying hu, goInt])
        · exact key _ rfl rfl (by simp [Builtin.len_, h0, run_underlying hu, goInt])
        · exact key 0 rfl rfl (by simp [Builtin.len_, h0, run_underlying hu, goInt])
      · rename_i n e hu
        simp only [Option.some.injEq] at hc; subst hc
        simp only [evalOp0, Option.some.injEq, Prod.mk.injEq] at h
        obtain ⟨rfl, rfl⟩ := h
        exact key n rfl rfl (by simp [Builtin.len_, h0, run_underlying hu, goInt])
      · rename_i a hu
        split at hc
        · rename_i n e hua
          simp only [Option.some.injEq] at hc; subst hc
          simp only [evalOp0, Option.some.injEq, Prod.mk.injEq] at h
          obtain ⟨rfl, rfl⟩ := h
          exact key n rfl rfl (by simp [Builtin.len_, h0, run_underlying hu, run_underlying hua, goInt])
        · cases hc
      · cases hc
    | min =>
      simp only [Option.some.injEq] at hc; subst hc
      exact light_minmax false (fun s hs => hexec s hs) (fun cs vs => by simp only [builtin, Builtin.min_]; cases vs.toList <;> rfl) hargs h
    | max =>
      simp only [Option.some.injEq] at hc; subst hc
      exact light_minmax true (fun s hs => hexec s hs) (fun cs vs => by simp only [builtin, Builtin.max_]; cases vs.toList <;> rfl) hargs h
    | append =>
      simp only at hc
      split at hc
      · split at hc <;> first | (cases hc; done) | (simp only [Option.bind_eq_some_iff, Option.map_eq_some_iff] at hc; obtain ⟨_, _, _, _, rfl⟩ := hc; cases hl)
      · cases hc
    | copy =>
      simp only at hc
      split at hc
      · split at hc <;> first | (cases hc; done) | (simp only [Option.map_eq_some_iff] at hc; obtain ⟨_, _, rfl⟩ := hc; cases hl)
      · cases hc
    | delete =>
      simp only at hc
      split at hc
      · split at hc <;> first | (cases hc; done) | (simp only [Option.map_eq_some_iff] at hc; obtain ⟨_, _, rfl⟩ := hc; cases hl)
      · cases hc
    | clear =>
      simp only at hc
      split at hc
      · split at hc <;> first | (cases hc; done) | (simp only [Option.map_eq_some_iff] at hc; obtain ⟨_, _, rfl⟩ := hc; cases hl)
      · cases hc
    | _ => cases hc

theorem light_sound0 {o : Oper} {x : XOp} (hc : compOp P o = some x) (hl : light x = true) {ρA ρC : Operand → Value} (hρ : ∀ y ∈ o.op.operands, VRel σ (ρA y) (ρC y)) (hr : Rel P σ A w) {v : Value} {A' : H}
    (h : evalOp0 x ρA A = some (v, A')) : A' = A ∧ YieldsTo P σ w (execOp ρC o) v := by
  obtain ⟨dst, op, type, pos, after, guard⟩ := o
  cases op with
  | move y => simp only [compOp, Option.some.injEq] at hc; subst hc; obtain ⟨h1, h2⟩ := light_move y (hρ y (by simp [Op.operands])) h; exact ⟨h1, _, rfl, h2⟩
  | assign y => simp only [compOp, Option.some.injEq] at hc; subst hc; obtain ⟨h1, h2⟩ := light_move y (hρ y (by simp [Op.operands])) h; exact ⟨h1, _, rfl, h2⟩
  | pick c a b =>
    simp only [compOp, Option.some.injEq] at hc; subst hc
    simp only [evalOp0, Option.map_eq_some_iff] at h
    obtain ⟨t, ht, he⟩ := h
    cases he
    obtain ⟨h1, h2⟩ := boolV_rel (hρ c (by simp [Op.operands])) ht
    refine ⟨rfl, _, by simp [execOp, asBool, h2]; rfl, ?_⟩
    cases t
    · exact hρ b (by simp [Op.operands])
    · exact hρ a (by simp [Op.operands])
  | build t ps =>
    simp only [compOp] at hc
    rw [Option.bind_eq_some_iff] at hc
    obtain ⟨z, hz, hc⟩ := hc
    split at hc
    case h_3 => cases hc
    all_goals
      rename_i hu
      rw [Option.map_eq_some_iff] at hc
      obtain ⟨qs, hq, rfl⟩ := hc
      simp only [evalOp0, Option.map_eq_some_iff] at h
      obtain ⟨r, hr', he⟩ := h
      cases he
      refine ⟨rfl, ?_⟩
      obtain ⟨zv, zi, _, _, hzr, hzc, _, hzz, _⟩ := run_zero (P := P) (σ := σ) hz w
      have hop : ∀ p ∈ ps.toList, VRel σ (ρA p.2) (ρC p.2) := fun p hp => hρ p.2 (by simp only [Op.operands]; exact List.mem_toArray.2 (List.mem_map.2 ⟨p, hp, rfl⟩))
      have hzz' : LRel σ z zv.cells.toList := by rw [hzc]; exact hzz
      simp only [compParts, hu, Option.bind_eq_some_iff] at hq
      obtain ⟨pl, hpl, hq⟩ := hq
      obtain ⟨hlen, hget⟩ := parts_get hq
      skip
    · obtain ⟨rc, hrc, hrr⟩ := fill_rel (fun i => pl[i]?) ps.toList qs z zv.cells r ρA ρC hlen (fun i p q hp hq' => ⟨(hget i p q hp hq').1, (hget i p q hp hq').2, hop p (List.mem_of_getElem? hp)⟩) hzz' hr'
      refine ⟨.agg rc, ?_, .agg _ _ (by simpa using hrr.len) hrr.get⟩
      have hpr := run_places (P := P) w _ _ hpl
      have hpa : (Array.mapM (fun (f : Field) => (do pure (f.offset, ← sizeOf f.type) : Sem (Nat × Nat))) ‹Array Field›).run P w = .ok pl.toArray w := by
        rw [Array.mapM_eq_mapM_toList]
        simp only [Sem.run_map, hpr, Result.andThen_ok]
      simp only [execOp, Instr.build, Sem.run_bind, hzr, Result.andThen_ok, run_underlying hu, hpa, Array.toList_map]
      simp only [List.getElem?_toArray, hrc, Sem.run_pure, Result.andThen_ok]
    · obtain ⟨rc, hrc, hrr⟩ := fill_rel (fun i => some (i * pl, pl)) ps.toList qs z zv.cells r ρA ρC hlen (fun i p q hp hq' => ⟨(hget i p q hp hq').1, (hget i p q hp hq').2, hop p (List.mem_of_getElem? hp)⟩) hzz' hr'
      refine ⟨.agg rc, ?_, .agg _ _ (by simpa using hrr.len) hrr.get⟩
      simp only [execOp, Instr.build, Sem.run_bind, hzr, Result.andThen_ok, run_underlying hu, run_size hpl, Array.toList_map, hrc, Sem.run_pure]
  | load t a =>
    simp only [compOp] at hc
    rw [Option.bind_eq_some_iff] at hc
    obtain ⟨n, hn, hc⟩ := hc
    rw [Option.map_eq_some_iff] at hc
    obtain ⟨b, hb, rfl⟩ := hc
    simp only [evalOp0] at h
    have ha := hρ a (by simp [Op.operands])
    revert ha h
    generalize ρA a = x; generalize hy : ρC a = y
    intro h ha
    cases ha with
    | @ptr id p off hs =>
      simp only at h
      rw [Option.bind_eq_some_iff] at h
      obtain ⟨l, hll, h⟩ := h
      obtain ⟨l', h1, h2, h3⟩ := load_rel hr hs hll
      have hrun := run_loadCells_of (P := P) h2 h3
      rw [Option.map_eq_some_iff] at h
      obtain ⟨u, hu, he⟩ := h
      cases he
      obtain ⟨v', hv1, hv2⟩ := one_rel hu h1
      refine ⟨rfl, v', ?_, hv2⟩
      cases b with
      | true =>
        simp only [oneV, cond_true, Option.some.injEq] at hv1
        subst hv1
        simp [execOp, hy, Instr.loadAt, Instr.sureAddr, loadVar, run_agg hb, run_size hn, hrun, aggL_toArray]
      | false =>
        simp only [oneV, cond_false] at hv1
        match l', hv1, h3 with
        | [x], hv1, h3 =>
          simp only [Option.some.injEq] at hv1
          subst hv1
          have hcell := h3 0 x rfl
          rw [Addr.add_none, Nat.add_zero] at hcell
          simp [execOp, hy, Instr.loadAt, Instr.sureAddr, loadVar, run_agg hb, hcell]
    | _ => simp at h
  | nilCheck y =>
    simp only [compOp, Option.some.injEq] at hc; subst hc
    simp only [evalOp0] at h
    have ha := hρ y (by simp [Op.operands])
    revert ha h
    generalize ρA y = x; generalize hy : ρC y = y'
    intro h ha
    cases ha with
    | @ptr id p off hs => simp only [Option.some.injEq, Prod.mk.injEq] at h; obtain ⟨rfl, rfl⟩ := h; exact ⟨rfl, _, by simp [execOp, hy], .ptr off hs⟩
    | _ => simp at h
  | binOp op xt x y yt =>
    simp only [compOp, Option.bind_eq_some_iff] at hc
    obtain ⟨d, hd, hc⟩ := hc
    rcases compBin_kind hc with rfl | ⟨⟨ms, rfl⟩, hy, hcc⟩ | ⟨l, hkk, hgt, hcc⟩
    case inr.inl =>
      have hxr := hρ x (by simp [Op.operands])
      have hyr := hρ y (by simp [Op.operands])
      obtain ⟨vc, rfl⟩ : ∃ v, y = .const v := by
        cases y with
        | const v => exact ⟨v, rfl⟩
        | _ => cases hy
      have hg : ∀ a : Value, (eqGuard op xt x (.const vc) a .nilIface).run P w = .ok () w := fun a => by
        unfold eqGuard
        cases a <;> simp
      have hnn : ∀ n : Nat, (Op.equalIn (n + 1) xt .nilIface .nilIface).run P w = .ok true w := fun n => by simp [Op.equalIn, run_underlying hd]
      have hin : ∀ (n : Nat) (t : TypeId) (u : Value), (Op.equalIn (n + 1) xt (.iface t u) .nilIface).run P w = .ok false w := fun n t u => by simp [Op.equalIn, run_underlying hd]
      have hN : (Op.equal xt .nilIface .nilIface).run P w = .ok true w := by simp only [Op.equal, Op.maxDepth]; exact hnn 9999
      have hI : ∀ t u, (Op.equal xt (.iface t u) .nilIface).run P w = .ok false w := fun t u => by simp only [Op.equal, Op.maxDepth]; exact hin 9999 t u
      rcases hcc with ⟨rfl, rfl⟩ | ⟨rfl, rfl⟩
      all_goals
        simp only [evalOp0] at h
        revert hxr hyr h
        generalize ρA x = x1; generalize hx' : ρC x = x'; generalize ρA (.const vc) = y1; generalize hy' : ρC (.const vc) = y'
        intro hxr hyr h
        cases hxr <;> cases hyr <;> first | (simp at h; done) | skip
        all_goals
          simp only [Option.some.injEq, Prod.mk.injEq] at h
          obtain ⟨rfl, rfl⟩ := h
          refine ⟨rfl, _, ?_, .bool _⟩
          simp [execOp, hx', hy', hg, binOp, hN, hI]
    case inr.inr =>
      have hxr := hρ x (by simp [Op.operands])
      have hyr := hρ y (by simp [Op.operands])
      have key : ∀ b, kindEq (.many l) (ρA x) (ρA y) = some b → (Op.equal xt (ρC x) (ρC y)).run P w = .ok b w ∧ (eqGuard op xt x y (ρC x) (ρC y)).run P w = .ok () w ∧ (∃ a a', ρC x = .agg a ∧ ρC y = .agg a') := by
        intro b hb
        refine ⟨kind_equal hkk hxr hyr hb w, ?_⟩
        revert hxr hyr hb
        generalize ρA x = x1; generalize hx' : ρC x = x'; generalize ρA y = y1; generalize hy' : ρC y = y'
        intro hxr hyr hb
        cases hxr <;> first | (simp [kindEq] at hb; done) | skip
        cases hyr <;> first | (simp [kindEq] at hb; done) | skip
        refine ⟨?_, _, _, rfl, rfl⟩
        unfold eqGuard
        simp [hgt]
      rcases hcc with ⟨rfl, rfl⟩ | ⟨rfl, rfl⟩
      all_goals
        simp only [evalOp0, Option.map_eq_some_iff] at h
        obtain ⟨b, hb, he⟩ := h
        cases he
        obtain ⟨k1, k2, a1, a2, k3, k4⟩ := key b hb
        refine ⟨rfl, _, ?_, .bool _⟩
        rw [k3, k4] at k1 k2
        simp [execOp, k3, k4, k2, binOp, k1]
    simp only [evalOp0, Option.map_eq_some_iff] at h
    obtain ⟨u, hu, he⟩ := h
    cases he
    obtain ⟨v', h1, h2, h3⟩ := binA_rel (w := w) (xo := x) (yo := y) hd hu (hρ x (by simp [Op.operands])) (hρ y (by simp [Op.operands]))
    exact ⟨rfl, v', by simp [execOp, h1, h2], h3⟩
  | unOp op xt x =>
    simp only [compOp, Option.some.injEq] at hc; subst hc
    simp only [evalOp0, Option.map_eq_some_iff] at h
    obtain ⟨u, hu, he⟩ := h
    cases he
    have ha := hρ x (by simp [Op.operands])
    revert ha hu
    generalize ρA x = x1; generalize hy : ρC x = y'
    intro hu ha
    refine ⟨rfl, v, ?_⟩
    cases ha with
    | int k n =>
      cases op with
      | neg => simp only [unA, Option.some.injEq] at hu; subst hu; exact ⟨by simp [execOp, hy, Op.unary, Op.intArith], .int _ _⟩
      | xor =>
        have hu' : bitsA .xor k (if k.signed then -1 else k.max) n = some v := hu
        refine ⟨by simp [execOp, hy, Op.unary, run_bits hu'], ?_⟩
        simp only [bitsA, Option.some.injEq] at hu'; subst hu'; exact .int _ _
      | _ => simp [unA] at hu
    | bool b =>
      cases op with
      | not => simp only [unA, Option.some.injEq] at hu; subst hu; exact ⟨by simp [execOp, hy, Op.unary], .bool _⟩
      | _ => simp [unA] at hu
    | _ => cases op <;> simp [unA] at hu
  | convert s d x =>
    have hx := hρ x (by simp [Op.operands])
    simp only [compOp] at hc
    split at hc
    · rename_i hs hd
      simp only [Option.some.injEq] at hc; subst hc
      rename_i ks kd
      simp only [evalOp0] at h
      by_cases hch : ∃ i, ρA x = .chan (some i)
      · obtain ⟨i, hi⟩ := hch
        rw [hi] at h hx
        simp only at h
        cases hk : (isKey i && decide (kd = .u64)) with
        | false => rw [hk] at h; cases h
        | true =>
          rw [hk] at h
          simp only [cond_true, Option.some.injEq, Prod.mk.injEq] at h
          obtain ⟨rfl, rfl⟩ := h
          rw [Bool.and_eq_true] at hk
          obtain ⟨a, ha, h0, h1⟩ := Unk.key i hk.1
          have hkd : kd = .u64 := by simpa using hk.2
          subst hkd
          generalize hy : ρC x = y' at hx
          cases hx
          have hwr : IntKind.u64.wrap a = a := by simp [IntKind.wrap, IntKind.signed, IntKind.bits]; omega
          exact ⟨rfl, Unk.val i, by simp [execOp, convert, run_underlying hs, run_underlying hd, hy, ha, Conv.intToInt, hwr], .unk i⟩
      · by_cases hcx : ∃ c n, ρA x = .complex .f32 c n
        · obtain ⟨c, n, hi⟩ := hcx
          rw [hi] at h hx
          simp only [Option.map_eq_some_iff, Option.bind_eq_some_iff] at h
          obtain ⟨v0, ⟨f, hf, hv0⟩, he⟩ := h
          cases he
          have e := fm_rel hf hx
          exact ⟨rfl, _, by simp [execOp, convert, run_underlying hs, run_underlying hd, e, Conv.intToInt], stands_rel (symTo_ok (bit := Unk.bit) (fmOf_ok hf) hv0)⟩
        have hcx : ∀ c n, ρA x ≠ .complex .f32 c n := fun c n e => hcx ⟨c, n, e⟩
        have h' : (intV (ρA x)).map (fun n => (Value.int kd (kd.wrap n), A)) = some (v, A') := by
          revert h hch hcx
          generalize ρA x = a
          intro h hch hcx
          cases a with
          | chan r => cases r with
            | some i => exact absurd ⟨i, rfl⟩ hch
            | none => exact h
          | complex k c n => cases k with
            | f32 => exact absurd rfl (hcx c n)
            | f64 => exact h
          | _ => exact h
        rw [Option.map_eq_some_iff] at h'
        obtain ⟨n, hn, he⟩ := h'
        cases he
        obtain ⟨k', h1, h2⟩ := intV_rel hx hn
        exact ⟨rfl, _, by simp [execOp, convert, run_underlying hs, run_underlying hd, h2, Conv.intToInt], .int _ _⟩
    · rename_i hs hd
      simp only [Option.some.injEq] at hc; subst hc
      simp only [evalOp0, Option.some.injEq, Prod.mk.injEq] at h
      obtain ⟨s0, hs0, he⟩ := Option.map_eq_some_iff.1 h
      cases he
      obtain ⟨s, h2, _⟩ := charsOf_rel hx hs0
      rw [h2] at hx
      exact ⟨rfl, .string s, by simp [execOp, convert, run_underlying hs, run_underlying hd, h2], hx⟩
    · split at hc
      · rename_i e _ _ _ _
        cases hb : (sizeA P e == some 1) with
        | false => rw [hb] at hc; cases hc
        | true => rw [hb] at hc; simp only [cond_true, Option.some.injEq] at hc; subst hc; simp [light] at hl
      · cases hc
    · rename_i e hs hd
      split at hc
      · rename_i hue
        simp only [Option.some.injEq] at hc; subst hc
        simp only [evalOp0] at h
        revert hx h
        generalize ρA x = x1; generalize hy : ρC x = y'
        intro hx h
        cases hx with
        | sliceNil l c =>
          simp only [Option.some.injEq, Prod.mk.injEq] at h
          obtain ⟨rfl, rfl⟩ := h
          exact ⟨rfl, .string ByteArray.empty, by simp [execOp, hy, convert, run_underlying hs, run_underlying hd, run_underlying hue, Conv.bytesToString], .string _⟩
        | @slice id p off l c c' hs' hcc =>
          simp only at h
          rw [Option.bind_eq_some_iff] at h
          obtain ⟨cs, hcs, h⟩ := h
          rw [Option.map_eq_some_iff] at h
          obtain ⟨v0, hbs, he⟩ := h
          cases he
          obtain ⟨l', h1, h2, h3⟩ := load_rel hr hs' hcs
          have hrun := run_loadCells_of (P := P) h2 h3
          obtain ⟨ns, s0, hns, hbn, hvs⟩ := mk_ints hbs h1
          refine ⟨rfl, .string s0, ?_, hvs⟩
          rw [hns] at hrun
          have hb := run_bytesToString (P := P) w ⟨p.b, p.sh + off, none⟩ l c' ns hrun
          simp only [execOp, hy, Sem.run_bind, run_convert_bytes_string w s d e _ l c' hs hue hd, hb, Result.andThen_ok, Sem.run_pure, hbn]
        | sliceEnd off b o hs' =>
          simp only at h
          rw [Option.bind_eq_some_iff] at h
          obtain ⟨cs, hcs, h⟩ := h
          rw [Option.map_eq_some_iff] at h
          obtain ⟨v0, hbs, he⟩ := h
          cases he
          obtain ⟨l', h1, h2, h3⟩ := load_rel hr hs' hcs
          obtain ⟨ns, s0, hns, hbn, hvs⟩ := mk_ints hbs h1
          have : ns = [] := List.eq_nil_of_length_eq_zero (by have := congrArg List.length hns; simp at this; omega)
          subst this
          refine ⟨rfl, .string s0, ?_, hvs⟩
          have hb := run_bytesToString (P := P) w ⟨b, o, none⟩ 0 0 [] (by simp [loadCells, loadCellsFrom])
          simp only [execOp, hy, Sem.run_bind, run_convert_bytes_string w s d e _ 0 0 hs hue hd, hb, Result.andThen_ok, Sem.run_pure, hbn]
        | _ => simp at h
      · cases hc
    · rename_i t hs hd
      rw [Option.bind_eq_some_iff] at hc
      obtain ⟨n, hn, hc⟩ := hc
      split at hc
      · cases hc
      · rename_i hn0
        simp only [Option.some.injEq] at hc; subst hc
        simp only [evalOp0] at h
        revert hx h
        generalize ρA x = x1; generalize hy : ρC x = y'
        intro hx h
        cases hx with
        | ptrNil =>
          simp only [Option.some.injEq, Prod.mk.injEq] at h
          obtain ⟨rfl, rfl⟩ := h
          exact ⟨rfl, .pointer none, by simp [execOp, hy, convert, run_underlying hs, run_underlying hd, Conv.unsafePointer, Conv.seenAt], .ptrNil⟩
        | @ptr id p off hs' =>
          simp only [Option.map_eq_some_iff] at h
          obtain ⟨l, hl', he⟩ := h
          cases he
          obtain ⟨l', h1, h2, h3⟩ := load_rel hr hs' hl'
          match l', h2 with
          | [v], _ =>
            have hcell := h3 0 v rfl
            rw [Addr.add_none, Nat.add_zero] at hcell
            have hsz : (P.info? t).map (fun i => decide (i.size = 0)) = some false := by
              simp only [sizeA, Option.map_eq_some_iff] at hn
              obtain ⟨i, hi, rfl⟩ := hn
              rw [hi]
              simpa using hn0
            exact ⟨rfl, _, by simp only [execOp, hy, Sem.run_bind, run_convert_to_unsafe hs hd hsz hcell, Result.andThen_ok, Sem.run_pure], .ptr off hs'⟩
        | _ => simp at h
    · cases hc
  | typeAssert x xt t ok =>
    have hx := hρ x (by simp [Op.operands])
    simp only [compOp] at hc
    cases ok with
    | false => cases hc
    | true =>
      simp only [cond_true, Option.bind_eq_some_iff] at hc
      obtain ⟨z, hz, hc⟩ := hc
      cases hb : (cellsL z).all flat1 with
      | false => rw [hb] at hc; cases hc
      | true =>
        rw [hb] at hc
        simp only [cond_true, Option.map_eq_some_iff] at hc
        obtain ⟨d, hd, hc⟩ := hc
        have hzr : (zeroValue t).run P w = .ok z w := by
          cases hi : P.info? t with
          | none => simp [hi] at hz
          | some i => simp [hi] at hz; simp [zeroValue, typeInfo, hi, hz]
        have hzf : VRel σ z z := (flat_cells hb).vrel
        have hpair : ∀ {a a' : Value} (b : Bool), VRel σ a a' → VRel σ (.tuple #[a, .bool b]) (.tuple #[a', .bool b]) := fun b ha => .tuple _ _ rfl (LRel.cons ha (LRel.cons (.bool b) .nil)).get
        split at hc
        · rename_i ms
          subst hc
          simp only [evalOp0] at h
          revert hx h
          generalize ρA x = x1; generalize hx' : ρC x = x'
          intro hx h
          cases hx <;> first | (simp at h; done) | skip
          simp only [Option.some.injEq, Prod.mk.injEq] at h
          obtain ⟨rfl, rfl⟩ := h
          exact ⟨rfl, _, by simp [execOp, hx', Instr.typeAssert, run_underlying hd, hzr], hpair _ hzf⟩
        · rename_i hni
          subst hc
          simp only [evalOp0] at h
          revert hx h
          generalize ρA x = x1; generalize hx' : ρC x = x'
          intro hx h
          cases hx <;> first | (simp at h; done) | skip
          · rename_i ty u u' hu
            simp only at h
            split at h
            · rename_i e
              subst e
              simp only [Option.some.injEq, Prod.mk.injEq] at h
              obtain ⟨rfl, rfl⟩ := h
              refine ⟨rfl, _, ?_, hpair _ hu⟩
              cases d <;> first | exact absurd rfl (hni _) | simp [execOp, hx', Instr.typeAssert, run_underlying hd]
            · rename_i e
              simp only [Option.some.injEq, Prod.mk.injEq] at h
              obtain ⟨rfl, rfl⟩ := h
              refine ⟨rfl, _, ?_, hpair _ hzf⟩
              cases d <;> first | exact absurd rfl (hni _) | simp [execOp, hx', Instr.typeAssert, run_underlying hd, e, hzr]
          · simp only [Option.some.injEq, Prod.mk.injEq] at h
            obtain ⟨rfl, rfl⟩ := h
            refine ⟨rfl, _, ?_, hpair _ hzf⟩
            cases d <;> first | exact absurd rfl (hni _) | simp [execOp, hx', Instr.typeAssert, run_underlying hd, hzr]
  | makeInterface t x =>
    simp only [compOp] at hc
    split at hc
    · cases hc
    · cases hc
    · rename_i hni hne
      simp only [Option.some.injEq] at hc; subst hc
      simp only [evalOp0, Option.some.injEq, Prod.mk.injEq] at h
      obtain ⟨rfl, rfl⟩ := h
      refine ⟨rfl, .iface t (ρC x), ?_, .iface t (hρ x (by simp [Op.operands]))⟩
      cases hu : P.underlying t with
      | none => exact absurd hu hne
      | some d =>
        simp only [execOp, Instr.makeInterface, Sem.run_bind, run_underlying hu, Result.andThen_ok]
        cases d <;> first | rfl | exact absurd hu (hni _)
  | makeFunc fn first cap =>
    simp only [compOp, Option.some.injEq] at hc; subst hc
    simp only [evalOp0, Option.some.injEq, Prod.mk.injEq] at h
    obtain ⟨rfl, rfl⟩ := h
    have part : ∀ (xs : Array Operand), (∀ y ∈ xs, y ∈ (Op.makeFunc fn first cap).operands) → ∀ (i : Nat) v v', (xs.toList.map ρA)[i]? = some v → (xs.map ρC).toList[i]? = some v' → VRel σ v v' := by
      intro xs hxs i v v' ha hb
      simp only [List.getElem?_map, Array.toList_map] at ha hb
      cases hc : xs.toList[i]? with
      | none => simp [hc] at ha
      | some y =>
        simp [hc] at ha hb
        subst ha; subst hb
        exact hρ y (hxs y (Array.mem_toList_iff.1 (List.mem_of_getElem? hc)))
    exact ⟨rfl, .func fn (first.map ρC) (cap.map ρC), by simp [execOp, Instr.makeFunc], .func fn _ _ _ _ (by simp) (by simp)
      (fun i v v' ha hb => part first (fun y hy => by simp only [Op.operands]; exact Array.mem_append.2 (.inl hy)) i v v' (by simpa using ha) (by simpa using hb))
      (fun i v v' ha hb => part cap (fun y hy => by simp only [Op.operands]; exact Array.mem_append.2 (.inr hy)) i v v' (by simpa using ha) (by simpa using hb))⟩
  | slice t x lo hi mx =>
    have hx := hρ x (by simp [Op.operands])
    have hlo : ∀ z, lo = some z → VRel σ (ρA z) (ρC z) := fun z e => hρ z (by subst e; simp [Op.operands])
    have hhi : ∀ z, hi = some z → VRel σ (ρA z) (ρC z) := fun z e => hρ z (by subst e; simp [Op.operands])
    have hmx : ∀ z, mx = some z → VRel σ (ρA z) (ρC z) := fun z e => hρ z (by subst e; simp [Op.operands])
    simp only [compOp] at hc
    split at hc
    · rename_i hu
      split at hc
      · rename_i hm
        simp only [Option.some.injEq] at hc; subst hc
        have hm' : mx = none := by simpa using hm
        subst hm'
        simp only [evalOp0] at h
        revert hx h
        generalize ρA x = x1; generalize hy : ρC x = y'
        intro hx h
        cases hx with
        | string s =>
          simp only [Option.bind_eq_some_iff, Option.map_eq_some_iff] at h
          obtain ⟨k, hk, b, hb, he⟩ := h
          cases he
          rw [← size_eq] at hk
          obtain ⟨m', hsb, _⟩ := bounds_rel (P := P) (isSlice := false) (mx := none) (Nat.le_refl s.size) hlo hhi (by simp) (Nat.le_refl s.size) rfl hk hb (by simp) w
          refine ⟨rfl, .string (s.extract b k), ?_, by rw [extract_bytes]; exact .string _⟩
          simp only [Option.map_none] at hsb
          simp [execOp, hy, Instr.sliceAt, run_underlying hu, Instr.slice, hsb]
        | rope ll nn s hs =>
          simp only [Option.bind_eq_some_iff, Option.map_eq_some_iff] at h
          obtain ⟨k, hk, b, hb, v0, hv0, he⟩ := h
          cases he
          have hsl : ll = s.size := by
            have := hs.len
            rw [decR_len] at this
            rw [this]; exact (size_eq s).symm
          subst hsl
          obtain ⟨m', hsb, _⟩ := bounds_rel (P := P) (isSlice := false) (mx := none) (Nat.le_refl s.size) hlo hhi (by simp) (Nat.le_refl s.size) rfl hk hb (by simp) w
          refine ⟨rfl, .string (s.extract b k), ?_, by rw [extract_bytes]; exact mkStr_rel hv0 ((hs.take k).drop b)⟩
          simp only [Option.map_none] at hsb
          simp [execOp, hy, Instr.sliceAt, run_underlying hu, Instr.slice, hsb]
        | _ => simp at h
      · cases hc
    · rename_i e hu
      cases hmh : (mx.isSome && hi.isNone) with
      | true => rw [hmh] at hc; cases hc
      | false =>
      rw [hmh] at hc
      simp only [cond_false, Option.map_eq_some_iff] at hc
      obtain ⟨z, hz, rfl⟩ := hc
      have hmh' : mx.isSome → hi.isSome := by cases mx <;> cases hi <;> simp_all
      simp only [evalOp0, Option.bind_eq_some_iff, Option.map_eq_some_iff] at h
      obtain ⟨hd, hh, m, hm, k, hk, l, hl', he⟩ := h
      cases he
      revert hx hh
      generalize ρA x = x1; generalize hy : ρC x = y'
      intro hx hh
      cases hx with
      | sliceNil n c =>
        simp only [sliceHead] at hh
        cases hb : (ofElem A e none && Nat.ble n c) with
        | false => rw [hb] at hh; cases hh
        | true =>
          rw [hb] at hh; cases hh
          have hle : n ≤ c := by simpa [ofElem] using hb
          obtain ⟨m', hsb, h1, h2, h3, h4⟩ := bounds_rel (P := P) (isSlice := true) (Nat.le_refl c) hlo hhi hmx hle hm hk hl' hmh' w
          have hmm : m = m' := by rcases h4 with h4 | ⟨h4, h5⟩ <;> omega
          subst hmm
          refine ⟨rfl, .slice none (k - l) (m - l), ?_, .sliceNil _ _⟩
          simp [execOp, hy, Instr.sliceAt, run_underlying hu, Instr.slice, hsb, run_size hz]
      | @slice id p off n c c' hs' hcc =>
        simp only [sliceHead] at hh
        cases hb : (ofElem A e (some ⟨id, off, none⟩) && Nat.ble n c) with
        | false => rw [hb] at hh; cases hh
        | true =>
          rw [hb] at hh; cases hh
          rw [Bool.and_eq_true] at hb
          obtain ⟨hb1, hb2⟩ := hb
          have hle : n ≤ c := Nat.le_of_ble_eq_true hb2
          have hez : z = p.esz := by
            unfold ofElem at hb1
            simp only at hb1
            cases hg : A.get id with
            | none => simp [hg] at hb1
            | some o =>
              cases o with
              | cells ro e0 cs =>
                simp only [hg] at hb1
                have := Nat.eq_of_beq_eq_true hb1
                subst this
                obtain ⟨cur, e', fz, _, _, _, h4, _⟩ := hr.obj id _ p hg hs'
                have hz' : (P.info? e0).map (·.size) = some z := hz
                rw [hz'] at h4
                exact Option.some.inj h4
              | _ => simp [hg] at hb1
          have hcc' : c ≤ c' := by rcases hcc with h | ⟨h, _⟩ <;> omega
          obtain ⟨m', hsb, h1, h2, h3, h4⟩ := bounds_rel (P := P) (isSlice := true) hcc' hlo hhi hmx hle hm hk hl' hmh' w
          refine ⟨rfl, .slice (if m' = l then some ⟨p.b, p.sh + off, none⟩ else some ((⟨p.b, p.sh + off, none⟩ : Addr).add (l * z))) (k - l) (m' - l), ?_, ?_⟩
          · simp only [execOp, hy, Instr.sliceAt, Sem.run_bind, run_underlying hu, Result.andThen_ok, Instr.slice, hsb, run_size hz, Sem.run_pure, Option.map_some]
          · simp only [Option.map_some, Addr.add_none]
            split
            · rename_i hml
              have e1 : k - l = 0 := by rcases h4 with h4 | ⟨h4, h5⟩ <;> omega
              have e2 : m - l = 0 := by rcases h4 with h4 | ⟨h4, h5⟩ <;> omega
              rw [e1, e2, hml, Nat.sub_self]
              exact .sliceEnd _ _ _ hs'
            · rename_i hml
              rw [Nat.add_assoc]
              refine .slice _ _ _ _ hs' ?_
              rcases h4 with h4 | ⟨h4, h5⟩
              · exact .inl (by omega)
              · subst h4; subst h5
                rcases hcc with h | ⟨h, h6⟩
                · exact .inl (by omega)
                · refine .inr ⟨by omega, ?_⟩
                  rw [hez]
                  have : (m' - l) * p.esz + l * p.esz = m' * p.esz := by rw [← Nat.add_mul]; congr 1; omega
                  omega
      | sliceEnd off b o hs' =>
        simp only [sliceHead] at hh
        cases hb : (ofElem A e (some ⟨_, off, none⟩) && Nat.ble 0 0) with
        | false => rw [hb] at hh; cases hh
        | true =>
          rw [hb] at hh; cases hh
          obtain ⟨m', hsb, h1, h2, h3, h4⟩ := bounds_rel (P := P) (isSlice := true) (Nat.le_refl 0) hlo hhi hmx (Nat.le_refl 0) hm hk hl' hmh' w
          have e1 : l = 0 := by omega
          have e2 : k = 0 := by omega
          have e3 : m = 0 := by omega
          have e4 : m' = 0 := by rcases h4 with h4 | ⟨h4, h5⟩ <;> omega
          subst e1; subst e2; subst e3; subst e4
          refine ⟨rfl, .slice (some ⟨b, o, none⟩) 0 0, ?_, ?_⟩
          · simp [execOp, hy, Instr.sliceAt, run_underlying hu, Instr.slice, hsb, run_size hz]
          · simp only [Option.map_some, Addr.add_none]; exact .sliceEnd _ _ _ hs'
      | _ => simp [sliceHead] at hh
    · rename_i n e hu
      cases hmh : (mx.isSome && hi.isNone) with
      | true => rw [hmh] at hc; cases hc
      | false =>
      rw [hmh] at hc
      simp only [cond_false, Option.map_eq_some_iff] at hc
      obtain ⟨z, hz, rfl⟩ := hc
      have hmh' : mx.isSome → hi.isSome := by cases mx <;> cases hi <;> simp_all
      simp only [evalOp0, Option.bind_eq_some_iff, Option.map_eq_some_iff] at h
      obtain ⟨hd, hh, m, hm, k, hk, l, hl', he⟩ := h
      cases he
      revert hx hh
      generalize ρA x = x1; generalize hy : ρC x = y'
      intro hx hh
      cases hx with
      | @ptr id p off hs' =>
        simp only [sliceHead, Option.some.injEq] at hh
        subst hh
        obtain ⟨m', hsb, h1, h2, h3, h4⟩ := bounds_rel (P := P) (isSlice := false) (Nat.le_refl n) hlo hhi hmx (Nat.le_refl n) hm hk hl' hmh' w
        have hmm : m = m' := by rcases h4 with h4 | ⟨h4, h5⟩ <;> omega
        subst hmm
        refine ⟨rfl, .slice (some (if m = l then ⟨p.b, p.sh + off, none⟩ else (⟨p.b, p.sh + off, none⟩ : Addr).add (l * z))) (k - l) (m - l), ?_, ?_⟩
        · simp only [execOp, hy, Instr.sliceAt, Instr.sureAddr, Sem.run_bind, run_underlying hu, Result.andThen_ok, hsb, run_size hz, Sem.run_pure]
        · simp only [Option.map_some, Addr.add_none]
          split
          · rename_i hml
            have e1 : k - l = 0 := by omega
            rw [e1, hml, Nat.sub_self]
            exact .sliceEnd _ _ _ hs'
          · rw [Nat.add_assoc]
            exact .slice _ _ _ _ hs' (.inl rfl)
      | _ => simp [sliceHead] at hh
    · cases hc
  | fieldAddr s x f =>
    have hx := hρ x (by simp [Op.operands])
    simp only [compOp] at hc
    split at hc
    · rename_i fs hu
      rw [Option.bind_eq_some_iff] at hc
      obtain ⟨fl, hfl, hc⟩ := hc
      rw [Option.bind_eq_some_iff] at hc
      obtain ⟨n, hn, hc⟩ := hc
      split at hc
      · cases hc
      · rename_i hn0
        simp only [Option.some.injEq] at hc; subst hc
        simp only [evalOp0] at h
        revert hx h
        generalize ρA x = x1; generalize hy : ρC x = y'
        intro hx h
        cases hx with
        | @ptr id p off hs =>
          simp only [Option.some.injEq, Prod.mk.injEq] at h
          obtain ⟨rfl, rfl⟩ := h
          refine ⟨rfl, _, ?_, ptr_add hs⟩
          simp [execOp, hy, Instr.fieldAt, run_underlying hu, hfl, Instr.sureAddr, fieldPlace, run_size hn, hn0]
        | _ => simp at h
    · cases hc
  | field t x f =>
    have hx := hρ x (by simp [Op.operands])
    simp only [compOp] at hc
    split at hc
    · rename_i fs hu
      rw [Option.bind_eq_some_iff] at hc
      obtain ⟨fl, hfl, hc⟩ := hc
      rw [Option.bind_eq_some_iff] at hc
      obtain ⟨n, hn, hc⟩ := hc
      rw [Option.map_eq_some_iff] at hc
      obtain ⟨b, hb, rfl⟩ := hc
      simp only [evalOp0] at h
      revert hx h
      generalize ρA x = x1; generalize hy : ρC x = y'
      intro hx h
      cases hx with
      | agg as as' h1 h2 =>
        simp only at h
        rw [Option.bind_eq_some_iff] at h
        obtain ⟨r, hr', h⟩ := h
        rw [Option.map_eq_some_iff] at h
        obtain ⟨u, hu', he⟩ := h
        cases he
        obtain ⟨v', k2, k3⟩ := part_rel hn hb (⟨by simpa using h1, h2⟩ : LRel σ as.toList as'.toList) hr' hu' w
        refine ⟨rfl, v', ?_, k3⟩
        simp only [Array.toArray_toList] at k2
        simp [execOp, hy, Instr.field, run_underlying hu, hfl, asAgg, k2]
      | _ => simp at h
    · cases hc
  | indexAddr t x i =>
    have hx := hρ x (by simp [Op.operands])
    have hi := hρ i (by simp [Op.operands])
    simp only [compOp] at hc
    split at hc
    · rename_i n e hu
      rw [Option.map_eq_some_iff] at hc
      obtain ⟨s, hs, rfl⟩ := hc
      simp only [evalOp0] at h
      cases hiv : intV (ρA i) with
      | none => simp [hiv] at h
      | some j =>
        obtain ⟨k, hi1, hi2⟩ := intV_rel hi hiv
        simp only [hiv] at h
        revert hx h
        generalize ρA x = x1; generalize hy : ρC x = y'
        intro hx h
        cases hx with
        | @ptr id p off hs' =>
          simp only at h
          split at h
          · rename_i hj
            simp only [Option.some.injEq, Prod.mk.injEq] at h
            obtain ⟨rfl, rfl⟩ := h
            refine ⟨rfl, _, ?_, ptr_add hs'⟩
            simp [execOp, hy, hi2, Instr.indexAt, asIntOf, run_underlying hu, Instr.sureAddr, hj, run_size hs]
          · cases h
        | _ => simp at h
    · rename_i e hu
      rw [Option.map_eq_some_iff] at hc
      obtain ⟨s, hs, rfl⟩ := hc
      simp only [evalOp0] at h
      cases hiv : intV (ρA i) with
      | none => simp [hiv] at h
      | some j =>
        obtain ⟨k, hi1, hi2⟩ := intV_rel hi hiv
        simp only [hiv] at h
        revert hx h
        generalize ρA x = x1; generalize hy : ρC x = y'
        intro hx h
        cases hx with
        | @slice id p off l c c' hs' hcc =>
          simp only at h
          split at h
          · rename_i hj
            simp only [Option.some.injEq, Prod.mk.injEq] at h
            obtain ⟨rfl, rfl⟩ := h
            refine ⟨rfl, _, ?_, ptr_add hs'⟩
            simp [execOp, hy, hi2, Instr.indexAt, asIntOf, run_underlying hu, hj, run_size hs]
          · cases h
        | sliceEnd off b o hs' =>
          simp only at h
          split at h
          · rename_i hj; omega
          · cases h
        | _ => simp at h
    · cases hc
  | index t x i =>
    have hx := hρ x (by simp [Op.operands])
    have hi := hρ i (by simp [Op.operands])
    simp only [compOp] at hc
    split at hc
    · rename_i n e hu
      rw [Option.bind_eq_some_iff] at hc
      obtain ⟨s, hs, hc⟩ := hc
      rw [Option.map_eq_some_iff] at hc
      obtain ⟨b, hb, rfl⟩ := hc
      simp only [evalOp0] at h
      cases hiv : intV (ρA i) with
      | none => simp [hiv] at h
      | some j =>
        obtain ⟨k, hi1, hi2⟩ := intV_rel hi hiv
        simp only [hiv] at h
        revert hx h
        generalize ρA x = x1; generalize hy : ρC x = y'
        intro hx h
        cases hx with
        | agg as as' h1 h2 =>
          simp only at h
          split at h
          · rename_i hj
            rw [Option.bind_eq_some_iff] at h
            obtain ⟨r, hr', h⟩ := h
            rw [Option.map_eq_some_iff] at h
            obtain ⟨u, hu', he⟩ := h
            cases he
            obtain ⟨v', k2, k3⟩ := part_rel hs hb (⟨by simpa using h1, h2⟩ : LRel σ as.toList as'.toList) hr' hu' w
            refine ⟨rfl, v', ?_, k3⟩
            simp only [Array.toArray_toList] at k2
            simp [execOp, hy, hi2, Instr.index, asIntOf, run_underlying hu, hj, run_size hs, k2]
          · cases h
        | _ => simp at h
    · rename_i hu
      simp only [Option.some.injEq] at hc; subst hc
      simp only [evalOp0] at h
      cases hiv : intV (ρA i) with
      | none => simp [hiv] at h
      | some j =>
        obtain ⟨k, hi1, hi2⟩ := intV_rel hi hiv
        simp only [hiv] at h
        revert hx h
        generalize ρA x = x1; generalize hy : ρC x = y'
        intro hx h
        cases hx with
        | string s =>
          simp only at h
          split at h
          · rename_i hj
            rw [Option.map_eq_some_iff] at h
            obtain ⟨b, hb, he⟩ := h
            cases he
            have hb' : s[j.toNat]? = some b := by rw [← hb]; exact ba_get s _
            refine ⟨rfl, byteV b, ?_, .int _ _⟩
            simp [execOp, hy, hi2, Instr.index, asIntOf, run_underlying hu, hj, hb', byteV]
          · cases h
        | rope l n s hs =>
          simp only at h
          split at h
          · rename_i hj
            simp only [Option.some.injEq, Prod.mk.injEq] at h
            obtain ⟨rfl, rfl⟩ := h
            obtain ⟨b, hb, hcr⟩ := hs.get (decR_get l n j.toNat (by omega))
            have hb' : s[j.toNat]? = some b := by rw [← hb]; exact ba_get s _
            refine ⟨rfl, byteV b, ?_, hcr.vrel⟩
            simp [execOp, hy, hi2, Instr.index, asIntOf, run_underlying hu, hj.1, hb', byteV]
          · cases h
        | _ => simp at h
    · cases hc
  | lookup t m k ok =>
    have hm := hρ m (by simp [Op.operands])
    have hk := hρ k (by simp [Op.operands])
    simp only [compOp] at hc
    split at hc
    · rename_i kt e hu
      rw [Option.bind_eq_some_iff] at hc
      obtain ⟨d, hd, hc⟩ := hc
      rw [Option.bind_eq_some_iff] at hc
      obtain ⟨z, hz, hc⟩ := hc
      cases hb : (cellsL z).all flat1 with
      | false => rw [hb] at hc; cases hc
      | true =>
        rw [hb] at hc
        simp only [cond_true, Option.some.injEq] at hc
        subst hc
        simp only [evalOp0, Option.bind_eq_some_iff, Option.map_eq_some_iff] at h
        obtain ⟨es, hes, f, hf, he⟩ := h
        cases he
        have hzr : (zeroValue e).run P w = .ok z w := by
          cases hi : P.info? e with
          | none => simp [hi] at hz
          | some i => simp [hi] at hz; simp [zeroValue, typeInfo, hi, hz]
        obtain ⟨es', her, hes'⟩ := entries_rel hr hm hes
        obtain ⟨hko, f', hfk, hfv⟩ := findK_rel hd hk hf her w
        have hck := fun b => kind_check hd hk hko b w
        have hrun : ∀ v' b', (match f' with | some (_, v) => (v, true) | none => (z, false)) = (v', b') → (execOp ρC ⟨dst, .lookup t m k ok, type, pos, after, guard⟩).run P w = .ok (.value (if ok then .tuple #[v', .bool b'] else v')) w := by
          intro v' b' hvb
          rcases hes' with ⟨hm0, he0⟩ | ⟨r, a, c, hm0, hh, ha⟩
          · subst he0
            cases f' <;> (cases hvb; simp [execOp, Instr.lookup, run_underlying hu, hm0, hck, hfk, hzr])
          · subst ha
            have hgo : (getObj r).run P w = .ok (.map a c) w := by simp [getObj, Sem.run, hh]
            cases f' <;> (cases hvb; simp [execOp, Instr.lookup, run_underlying hu, hm0, hgo, hck, hfk, hzr])
        have hzf : VRel σ z z := (flat_cells hb).vrel
        refine ⟨rfl, ?_⟩
        rcases hfv with ⟨rfl, rfl⟩ | ⟨v, i, v', rfl, rfl, hv⟩
        · refine ⟨_, hrun z false rfl, ?_⟩
          cases ok
          · exact hzf
          · exact .tuple _ _ rfl (LRel.cons hzf (LRel.cons (.bool _) .nil)).get
        · refine ⟨_, hrun v' true rfl, ?_⟩
          cases ok
          · exact hv
          · exact .tuple _ _ rfl (LRel.cons hv (LRel.cons (.bool _) .nil)).get
    · cases hc
  | extract x i =>
    have hx := hρ x (by simp [Op.operands])
    simp only [compOp, Option.some.injEq] at hc; subst hc
    simp only [evalOp0] at h
    revert hx h
    generalize ρA x = x1; generalize hy : ρC x = y'
    intro hx h
    cases hx with
    | tuple as as' h1 h2 =>
      simp only [Option.map_eq_some_iff] at h
      obtain ⟨u, hu, he⟩ := h
      cases he
      have hg : as.toList[i]? = some v := by rw [← getN_eq]; exact hu
      have hlt : i < as'.size := by rw [← h1, ← Array.length_toList]; exact (List.getElem?_eq_some_iff.1 hg).1
      refine ⟨rfl, as'[i], by simp [execOp, hy, Instr.extract, hlt], h2 i _ _ hg (by simp [hlt])⟩
    | _ => simp at h
  | call c => exact light_call hc hl (fun y hy => hρ y hy) h
  | makeMap t r => simp only [compOp] at hc; split at hc <;> cases hc; cases hl
  | alloc e => simp only [compOp, Option.map_eq_some_iff] at hc; obtain ⟨z, _, rfl⟩ := hc; cases hl
  | box e y => simp only [compOp, Option.map_eq_some_iff] at hc; obtain ⟨_, _, rfl⟩ := hc; cases hl
  | buildSlice t n ps =>
    simp only [compOp] at hc
    split at hc
    · simp only [Option.bind_eq_some_iff, Option.map_eq_some_iff] at hc; obtain ⟨_, _, _, _, _, _, rfl⟩ := hc; cases hl
    · cases hc
  | store t a x => simp only [compOp, Option.map_eq_some_iff] at hc; obtain ⟨z, _, rfl⟩ := hc; cases hl
  | makeSlice t l c =>
    simp only [compOp] at hc
    split at hc
    · simp only [Option.bind_eq_some_iff, Option.map_eq_some_iff] at hc; obtain ⟨_, _, _, _, rfl⟩ := hc; cases hl
    · cases hc
  | mapUpdate t m k x =>
    simp only [compOp] at hc
    split at hc
    · simp only [Option.map_eq_some_iff] at hc; obtain ⟨d, _, rfl⟩ := hc; cases hl
    · cases hc
  | insert t m k x =>
    simp only [compOp] at hc
    split at hc
    · simp only [Option.map_eq_some_iff] at hc; obtain ⟨d, _, rfl⟩ := hc; cases hl
    · cases hc
  | range t x => simp only [compOp] at hc; split at hc <;> cases hc; cases hl
  | next x b => simp only [compOp] at hc; cases b <;> cases hc; cases hl
  | _ => simp [compOp] at hc
end
end Go.Ab
