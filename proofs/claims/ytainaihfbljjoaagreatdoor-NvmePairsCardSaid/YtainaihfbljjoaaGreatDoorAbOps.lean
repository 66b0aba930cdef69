/- The light operations, one by one. -/
import Derived.Test.YtainaihfbljjoaaGreatDoorAbKeys
import Derived.Laws.LoneSync
set_option linter.all false
set_option linter.unusedSectionVars false
set_option linter.unusedVariables false
set_option linter.unusedSimpArgs false
namespace Go.Ab
open Go
variable [Unk]
section
variable {P : Program} {σ : Sg} {A : H} {w : World}

theorem bound_rel {x x' : Value} {y m : Nat} {code : BoundsCode} (hx : VRel σ x x') (h : boundA x y = some m) (w : World) : (Instr.sliceBound x' y code).run P w = .ok m w ∧ m ≤ y := by
  cases hx with
  | int k i =>
    simp only [boundA] at h
    split at h
    · rename_i hi
      cases h
      refine ⟨by simp [Instr.sliceBound, asIntOf, hi], by omega⟩
    · cases h
  | _ => simp [boundA] at h
theorem addr_add_add (b o m n : Nat) : (⟨b, o + m, none⟩ : Addr).add n = ⟨b, o + m + n, none⟩ := Addr.add_none _ _ _
theorem ptr_add {id off n : Nat} {p : Pl} (h : σ id = some p) : VRel σ (.pointer (some ((⟨id, off, none⟩ : Addr).add n))) (.pointer (some ((⟨p.b, p.sh + off, none⟩ : Addr).add n))) := by
  rw [Addr.add_none, Addr.add_none, Nat.add_assoc]
  exact .ptr (off + n) h
theorem tuple_flat2 (a b : Value) : (.tuple #[a, b] : Value) = .tuple ⟨[a, b]⟩ := rfl

theorem ba_get (s : ByteArray) (n : Nat) : s[n]? = (bytesOf s)[n]? := by
  by_cases h : n < s.size
  · rw [getElem?_pos s n h, List.getElem?_eq_getElem (by rw [← size_eq]; exact h)]; rfl
  · rw [getElem?_neg s n h, List.getElem?_eq_none (by rw [← size_eq]; omega)]
theorem bound_rel' {x x' : Value} {y y' m : Nat} {code : BoundsCode} (hy : y ≤ y') (hx : VRel σ x x') (h : boundA x y = some m) (w : World) : (Instr.sliceBound x' y' code).run P w = .ok m w ∧ m ≤ y := by
  obtain ⟨_, h2⟩ := bound_rel (P := P) (code := code) hx h w
  refine ⟨?_, h2⟩
  cases hx with
  | int k i =>
    simp only [boundA] at h
    split at h
    · rename_i hi
      cases h
      have : 0 ≤ i ∧ i ≤ (y' : Int) := by omega
      simp [Instr.sliceBound, asIntOf, this]
    · cases h
  | _ => simp [boundA] at h
/-- A bound that is given, or the default. -/
theorem high_rel {x : Option Operand} {ρA ρC : Operand → Value} {y y' d d' m : Nat} {code : BoundsCode} (hy : y ≤ y') (hx : ∀ z, x = some z → VRel σ (ρA z) (ρC z)) (h : highA (x.map ρA) y d = some m) (w : World) :
    (match x.map ρC with | some v => Instr.sliceBound v y' code | none => pure d').run P w = .ok (if x.isSome then m else d') w ∧ (x = none → m = d) ∧ (x.isSome → m ≤ y) := by
  cases x with
  | none => simp only [Option.map_none, highA, Option.some.injEq] at h; subst h; exact ⟨rfl, fun _ => rfl, (fun h => by cases h)⟩
  | some z => simp only [Option.map_some, highA] at h; obtain ⟨h1, h2⟩ := bound_rel' (P := P) (code := code) hy (hx z rfl) h w; exact ⟨h1, (fun h => by cases h), fun _ => h2⟩
theorem bounds_rel {isSlice : Bool} {lo hi mx : Option Operand} {ρA ρC : Operand → Value} {len cap cap' m k l : Nat} (hcap : cap ≤ cap') (hlo : ∀ z, lo = some z → VRel σ (ρA z) (ρC z)) (hhi : ∀ z, hi = some z → VRel σ (ρA z) (ρC z))
    (hmx : ∀ z, mx = some z → VRel σ (ρA z) (ρC z)) (hlen : len ≤ cap) (hm : highA (mx.map ρA) cap cap = some m) (hk : highA (hi.map ρA) m len = some k) (hl : highA (lo.map ρA) k 0 = some l) (hmh : mx.isSome → hi.isSome) (w : World) :
    ∃ m', (Instr.sliceBounds isSlice len cap' (lo.map ρC) (hi.map ρC) (mx.map ρC)).run P w = .ok (l, k, m') w ∧ l ≤ k ∧ k ≤ m ∧ m ≤ cap ∧ ((m = m') ∨ (m = cap ∧ m' = cap')) := by
  cases mx with
  | some vm =>
    obtain ⟨vh, rfl⟩ : ∃ v, hi = some v := Option.isSome_iff_exists.1 (hmh rfl)
    simp only [Option.map_some, highA] at hm hk
    obtain ⟨h1, h1'⟩ := bound_rel' (P := P) (code := if isSlice then .slice3Acap else .slice3Alen) hcap (hmx vm rfl) hm w
    obtain ⟨h2, h2'⟩ := bound_rel' (P := P) (code := .slice3B) (Nat.le_refl m) (hhi vh rfl) hk w
    cases lo with
    | some vl =>
      simp only [Option.map_some, highA] at hl
      obtain ⟨h3, h3'⟩ := bound_rel' (P := P) (code := .slice3C) (Nat.le_refl k) (hlo vl rfl) hl w
      exact ⟨m, by simp [Instr.sliceBounds, h1, h2, h3], h3', h2', h1', .inl rfl⟩
    | none =>
      simp only [Option.map_none, highA, Option.some.injEq] at hl
      subst hl
      exact ⟨m, by simp [Instr.sliceBounds, h1, h2], Nat.zero_le _, h2', h1', .inl rfl⟩
  | none =>
    simp only [Option.map_none, highA, Option.some.injEq] at hm
    subst hm
    refine ⟨cap', ?_⟩
    cases hi with
    | some vh =>
      simp only [Option.map_some, highA] at hk
      obtain ⟨h2, h2'⟩ := bound_rel' (P := P) (code := if isSlice then .sliceAcap else .sliceAlen) hcap (hhi vh rfl) hk w
      cases lo with
      | some vl =>
        simp only [Option.map_some, highA] at hl
        obtain ⟨h3, h3'⟩ := bound_rel' (P := P) (code := .sliceB) (Nat.le_refl k) (hlo vl rfl) hl w
        exact ⟨by simp [Instr.sliceBounds, h2, h3], h3', h2', Nat.le_refl _, .inr ⟨rfl, rfl⟩⟩
      | none =>
        simp only [Option.map_none, highA, Option.some.injEq] at hl
        subst hl
        exact ⟨by simp [Instr.sliceBounds, h2], Nat.zero_le _, h2', Nat.le_refl _, .inr ⟨rfl, rfl⟩⟩
    | none =>
      simp only [Option.map_none, highA, Option.some.injEq] at hk
      subst hk
      cases lo with
      | some vl =>
        simp only [Option.map_some, highA] at hl
        obtain ⟨h3, h3'⟩ := bound_rel' (P := P) (code := .sliceB) (Nat.le_refl len) (hlo vl rfl) hl w
        exact ⟨by simp [Instr.sliceBounds, h3], h3', hlen, Nat.le_refl _, .inr ⟨rfl, rfl⟩⟩
      | none =>
        simp only [Option.map_none, highA, Option.some.injEq] at hl
        subst hl
        exact ⟨by simp [Instr.sliceBounds], Nat.zero_le _, hlen, Nat.le_refl _, .inr ⟨rfl, rfl⟩⟩
theorem extract_bytes (s : ByteArray) (l h : Nat) : s.extract l h = ofBytes (((bytesOf s).take h).drop l) := by
  apply ByteArray.ext
  apply Array.ext'
  simp [ofBytes, bytesOf, ByteArray.data_extract, List.extract_eq_take_drop, List.drop_take]
theorem light_move (x : Operand) {ρA ρC : Operand → Value} {v : Value} {A' : H} (hx : VRel σ (ρA x) (ρC x)) (h : evalOp (.move x) ρA A = some (v, A')) : A' = A ∧ VRel σ v (ρC x) := by
  simp only [evalOp, Option.some.injEq, Prod.mk.injEq] at h
  obtain ⟨rfl, rfl⟩ := h
  exact ⟨rfl, hx⟩

theorem one_rel {agg : Bool} {l l' : List Value} {v : Value} (h : oneV agg l = some v) (hl : LRel σ l l') : ∃ v', oneV agg l' = some v' ∧ VRel σ v v' := by
  cases agg with
  | true => simp only [oneV, cond_true, Option.some.injEq] at h; subst h; exact ⟨aggL l', rfl, aggL_rel hl⟩
  | false =>
    simp only [oneV, cond_false] at h
    match l, h with
    | [u], h =>
      simp only [Option.some.injEq] at h
      subst h
      obtain ⟨u', r', rfl, hu, hr'⟩ := hl.cons_inv
      have : r' = [] := List.eq_nil_of_length_eq_zero (by have := hr'.len; simpa using this.symm)
      subst this
      exact ⟨u', rfl, hu⟩
theorem part_rel {t : TypeId} {n off : Nat} {b : Bool} {l l' r : List Value} {v : Value} (hn : sizeA P t = some n) (hb : aggA P t = some b) (hl : LRel σ l l') (hc : cut l off n = some r)
    (h : oneV b r = some v) (w : World) : ∃ v', (part t l'.toArray off).run P w = .ok v' w ∧ VRel σ v v' := by
  obtain ⟨k1, k2, k3⟩ := cut_some hc
  have hlr : LRel σ r ((l'.drop off).take n) := by rw [k2]; exact (hl.drop off).take n
  obtain ⟨v', h1, h2⟩ := one_rel h hlr
  refine ⟨v', ?_, h2⟩
  cases b with
  | true =>
    simp only [oneV, cond_true, Option.some.injEq] at h1
    subst h1
    simp only [part, Sem.run_bind, run_agg hb, Result.andThen_ok, if_true, run_size hn, Sem.run_pure]
    congr 1
    rw [aggL_toArray]
    congr 1
    apply Array.ext'
    simp [Array.toList_extract, List.extract_eq_take_drop]
  | false =>
    have h1' : (l'.drop off).take n = [v'] := by
      simp only [oneV, cond_false] at h1
      match hx : (l'.drop off).take n, h1 with
      | [u], h1 => simp only [Option.some.injEq] at h1; rw [h1]
    have hg : ((l'.drop off).take n)[0]? = some v' := by rw [h1']; rfl
    rw [List.getElem?_take] at hg
    split at hg
    · rw [List.getElem?_drop, Nat.add_zero] at hg
      have hlt := (List.getElem?_eq_some_iff.1 hg).1
      simp [part, run_agg hb, hg]
    · cases hg

theorem foldl_push (l : List UInt8) : ∀ s : ByteArray, l.foldl (fun r b => r.push b) s = ⟨⟨s.data.toList ++ l⟩⟩ := by
  induction l with
  | nil => intro s; simp
  | cons b l ih => intro s; simp only [List.foldl_cons]; rw [ih]; simp [ByteArray.push]
theorem bytes_key : ∀ {cs l' : List Value} {bs : List UInt8}, bytesV cs = some bs → LRel σ cs l' → ∃ ns : List Int, l' = ns.map (Value.int .u8) ∧ ns.map (fun n => UInt8.ofNat n.toNat) = bs := by
  intro cs
  induction cs with
  | nil =>
    intro l' bs h hl
    simp only [bytesV, Option.some.injEq] at h
    subst h
    have : l' = [] := List.eq_nil_of_length_eq_zero (by have := hl.len; simpa using this.symm)
    subst this
    exact ⟨[], rfl, rfl⟩
  | cons c cs ih =>
    intro l' bs h hl
    obtain ⟨c', r', rfl, hc, hr⟩ := hl.cons_inv
    cases hc with
    | int k n =>
      cases k <;> first | (simp [bytesV] at h; done) | skip
      simp only [bytesV, Option.map_eq_some_iff] at h
      obtain ⟨x, hx, rfl⟩ := h
      obtain ⟨ns, h1, h2⟩ := ih hx hr
      exact ⟨n :: ns, by simp [h1], by simp [h2]⟩
    | _ => simp [bytesV] at h
theorem bytes_ints {cs l' : List Value} {bs : List UInt8} (h : bytesV cs = some bs) (hl : LRel σ cs l') :
    ∃ ns : List Int, l' = ns.map (Value.int .u8) ∧ ns.foldl (fun r n => r.push (UInt8.ofNat n.toNat)) ByteArray.empty = ofBytes bs := by
  obtain ⟨ns, h1, h2⟩ := bytes_key h hl
  refine ⟨ns, h1, ?_⟩
  rw [← h2]
  have := foldl_push (ns.map fun n => UInt8.ofNat n.toNat) ByteArray.empty
  rw [List.foldl_map] at this
  rw [this]
  simp [ofBytes]
theorem decR_len : ∀ (l n : Nat), (decR l n).length = l
  | 0, _ => rfl
  | l + 1, n => by simp [decR, decR_len l]
theorem decR_get : ∀ (l n i : Nat), i < l → (decR l n)[i]? = some (charAt n i)
  | 0, n, i, h => by omega
  | l + 1, n, 0, h => by
    simp only [decR, List.getElem?_cons_zero, charAt]
    have : Nat.div n (Nat.pow 65536 0) = n := Nat.div_one n
    rw [this]
  | l + 1, n, i + 1, h => by
    simp only [decR, List.getElem?_cons_succ, decR_get l (Nat.div n 65536) i (by omega), charAt]
    have : Nat.div (Nat.div n 65536) (Nat.pow 65536 i) = Nat.div n (Nat.pow 65536 (i + 1)) := by
      show n / 65536 / 65536 ^ i = n / 65536 ^ (i + 1)
      rw [Nat.div_div_eq_div_mul, Nat.pow_succ, Nat.mul_comm]
    rw [this]
/-- Cells that make a text. -/
theorem mk_key {cs l' : List Value} {v : Value} (h : mkStr cs = some v) (hl : LRel σ cs l') :
    ∃ (ns : List Int) (bs : List UInt8), l' = ns.map (Value.int .u8) ∧ ns.map (fun n => UInt8.ofNat n.toNat) = bs ∧ VRel σ v (.string (ofBytes bs)) := by
  cases hb : bytesV cs with
  | some bs =>
    obtain ⟨ns, h1, h2⟩ := bytes_key hb hl
    unfold mkStr at h
    rw [hb] at h
    cases h
    exact ⟨ns, _, h1, h2, .string _⟩
  | none =>
    have h' := h
    unfold mkStr at h'
    rw [hb] at h'
    simp only [Option.map_eq_some_iff] at h'
    obtain ⟨n, hn, _⟩ := h'
    obtain ⟨bs, h1, h2⟩ := enc_cells hn hl
    refine ⟨bs.map fun b => Int.ofNat b.toNat, bs, by rw [h1, List.map_map]; rfl, ?_, mkStr_rel h h2⟩
    rw [List.map_map]
    have e : ((fun n : Int => UInt8.ofNat n.toNat) ∘ fun b : UInt8 => Int.ofNat b.toNat) = id := by
      funext y
      apply UInt8.toNat_inj.1
      show (UInt8.ofNat (Int.ofNat y.toNat).toNat).toNat = y.toNat
      rw [UInt8.toNat_ofNat']
      have := y.toNat_lt
      show y.toNat % 2 ^ 8 = y.toNat
      omega
    rw [e, List.map_id]
theorem mk_ints {cs l' : List Value} {v : Value} (h : mkStr cs = some v) (hl : LRel σ cs l') :
    ∃ (ns : List Int) (s : ByteArray), l' = ns.map (Value.int .u8) ∧ ns.foldl (fun r n => r.push (UInt8.ofNat n.toNat)) ByteArray.empty = s ∧ VRel σ v (.string s) := by
  obtain ⟨ns, bs, h1, h2, h3⟩ := mk_key h hl
  refine ⟨ns, ofBytes bs, h1, ?_, h3⟩
  rw [← h2]
  have := foldl_push (ns.map fun n => UInt8.ofNat n.toNat) ByteArray.empty
  rw [List.foldl_map] at this
  rw [this]
  simp [ofBytes]
theorem run_places (w : World) : ∀ (fs : List Field) (pl : List (Nat × Nat)), placesA P fs = some pl → (fs.mapM (fun f => do pure (f.offset, ← sizeOf f.type) : Field → Sem (Nat × Nat))).run P w = .ok pl w := by
  intro fs
  induction fs with
  | nil => intro pl h; simp only [placesA, Option.some.injEq] at h; subst h; simp
  | cons f fs ih =>
    intro pl h
    simp only [placesA, Option.bind_eq_some_iff, Option.map_eq_some_iff] at h
    obtain ⟨n, hn, r, hr, rfl⟩ := h
    rw [List.mapM_cons]
    simp only [Sem.run_bind, run_size hn, Result.andThen_ok, Sem.run_pure, ih r hr]
theorem parts_get {place : Nat → Option (Nat × Nat)} : ∀ {ps : List (Nat × Operand)} {qs : List (Nat × Nat × Operand)}, partsA place ps = some qs → ps.length = qs.length ∧ ∀ (i : Nat) p q, ps[i]? = some p → qs[i]? = some q → place p.1 = some (q.1, q.2.1) ∧ p.2 = q.2.2 := by
  intro ps
  induction ps with
  | nil => intro qs h; simp only [partsA, Option.some.injEq] at h; subst h; exact ⟨rfl, fun i p q h => by simp at h⟩
  | cons p ps ih =>
    intro qs h
    obtain ⟨i, x⟩ := p
    simp only [partsA, Option.bind_eq_some_iff, Option.map_eq_some_iff] at h
    obtain ⟨q, hq, r, hr, rfl⟩ := h
    obtain ⟨h1, h2⟩ := ih hr
    refine ⟨by simp [h1], fun j a b ha hb => ?_⟩
    cases j with
    | zero => simp at ha hb; subst ha; subst hb; exact ⟨hq, rfl⟩
    | succ j => simp at ha hb; exact h2 j a b ha hb

theorem entries_rel (hr : Rel P σ A w) {m m' : Value} {es : List MapEntry} (hm : VRel σ m m') (h : entriesA A m = some es) : ∃ es' : List MapEntry, ERel σ es es' ∧
    ((m' = .map none ∧ es' = []) ∨ ∃ r a c, m' = .map (some r) ∧ w.heap[r]? = some (.map a c) ∧ a.toList = es') := by
  cases hm with
  | mapNil => simp only [entriesA, Option.some.injEq] at h; subst h; exact ⟨[], ⟨rfl, fun i e e' h => by simp at h⟩, .inl ⟨rfl, rfl⟩⟩
  | @map id p hs =>
    simp only [entriesA] at h
    cases hg : A.get id with
    | none => simp [hg] at h
    | some o =>
      cases o with
      | map es0 c =>
        simp only [hg, Option.some.injEq] at h
        subst h
        obtain ⟨es', h1, h2⟩ := hr.obj id _ p hg hs
        exact ⟨es'.toList, h2, .inr ⟨p.b, es', c, rfl, h1, rfl⟩⟩
      | _ => simp [hg] at h
  | _ => simp [entriesA] at h
theorem minmax_rel (mx : Bool) (k : IntKind) : ∀ (rest rest' : List Value) (x n : Int), LRel σ rest rest' → (rest.foldlM (fun (acc : Int) v => (intV v).map fun y => if mx then (if y > acc then y else acc) else (if y < acc then y else acc)) x) = some n →
    (rest'.foldlM (if mx then Builtin.max2 else Builtin.min2) (.int k x)).run P w = .ok (.int k n) w := by
  intro rest
  induction rest with
  | nil =>
    intro rest' x n hl h
    have : rest' = [] := List.eq_nil_of_length_eq_zero (by have := hl.len; simpa using this.symm)
    subst this
    simp at h; subst h; simp
  | cons v rest ih =>
    intro rest' x n hl h
    obtain ⟨v', r', rfl, hv, hr⟩ := hl.cons_inv
    rw [List.foldlM_cons] at h
    cases hi : intV v with
    | none => simp [hi] at h
    | some y =>
      obtain ⟨k', h1, h2⟩ := intV_rel hv hi
      simp only [hi, Option.map_some, Option.bind_eq_bind, Option.bind_some] at h
      rw [List.foldlM_cons]
      have := ih r' _ n hr h
      cases mx <;> simp [h2, Builtin.max2, Builtin.min2] at this ⊢ <;> exact this
theorem light_minmax (mx : Bool) {o : Oper} {f : Array Bool → Array Value → Sem Next} {args : Array Operand} {ρA ρC : Operand → Value} (hexec : ∀ s : Sem Value, (∀ cs, f cs (args.map ρC) = (do pure (.value (← s)) : Sem Next)) → ∀ v', s.run P w = .ok v' w → (execOp ρC o).run P w = .ok (.value v') w)
    (hf : ∀ cs vs, f cs vs = (do pure (.value (← (match vs.toList with | [] => stuck (if mx then "max: at least one argument expected" else "min: at least one argument expected") | x :: rest => rest.foldlM (if mx then Builtin.max2 else Builtin.min2) x))) : Sem Next)) (hargs : ∀ y ∈ args.toList, VRel σ (ρA y) (ρC y)) {v : Value} {A' : H}
    (h : evalOp (.minmax mx args.toList) ρA A = some (v, A')) : A' = A ∧ YieldsTo P σ w (execOp ρC o) v := by
  simp only [evalOp] at h
  have hl : LRel σ (args.toList.map ρA) (args.toList.map ρC) := LRel.map _ _ _ hargs
  split at h
  · rename_i k x rest hx
    rw [hx] at hl
    obtain ⟨x', r', hr, hv, hrr⟩ := hl.cons_inv
    have hx' := hv.int_inv
    subst hx'
    rw [Option.map_eq_some_iff] at h
    obtain ⟨n, hn, he⟩ := h
    cases he
    have := minmax_rel (P := P) (w := w) mx k rest r' x n hrr hn
    exact ⟨rfl, _, hexec _ (fun cs => hf cs _) _ (by rw [Array.toList_map, hr]; exact this), .int _ _⟩
  · cases h
theorem light_call {c : Call} {dst : Option Tmp} {type : TypeId} {pos : String} {after : Array Edge} {guard : Option (Nat × Bool)} {x : XOp} (hc : compOp P ⟨dst, .call c, type, pos, after, guard⟩ = some x) (hl : light x = true) {ρA ρC : Operand → Value}
    (hρ : ∀ y ∈ (Op.call c).operands, VRel σ (ρA y) (ρC y)) {v : Value} {A' : H} (h : evalOp x ρA A = some (v, A')) : A' = A ∧ YieldsTo P σ w (execOp ρC ⟨dst, .call c, type, pos, after, guard⟩) v := by
  obtain ⟨callee, args, argTypes⟩ := c
  simp only [compOp, compCall] at hc
  have hargs : ∀ y ∈ args.toList, VRel σ (ρA y) (ρC y) := fun y hy => hρ y (by simp only [Op.operands, Call.operands]; exact Array.mem_append.2 (.inr (Array.mem_toList_iff.1 hy)))
  cases callee with
  | invoke r m => simp only [compCall, Option.some.injEq] at hc; subst hc; cases hl
  | value f =>
    cases f with
    | func f =>
      simp only at hc
      split at hc
      · split at hc
        · cases hc; cases hl
        · split at hc
          · split at hc <;> cases hc; cases hl
          · cases hc
      · cases hc
    | tmp t => simp only [Option.some.injEq] at hc; subst hc; cases hl
    | _ => cases hc
  | builtin b =>
    have hexec : ∀ s : Sem Value, (∀ cs, builtin b argTypes type cs (args.map ρC) = (do pure (.value (← s)) : Sem Next)) → ∀ v', s.run P w = .ok v' w → (execOp ρC ⟨dst, .call ⟨.builtin b, args, argTypes⟩, type, pos, after, guard⟩).run P w = .ok (.value v') w := by
      intro s hs v' hr
      simp only [execOp, resolve, Sem.run_bind, Sem.run_pure, Result.andThen_ok, invoke, hs, hr]
    simp only [compBuiltin] at hc
    cases b with
    | len =>
      simp only at hc
      split at hc
      case h_2 => cases hc
      rename_i t x0 h0 hx0
      have hav : args = #[x0] := by apply Array.ext'; simpa using hx0
      subst hav
      have hx := hargs x0 (by simp)
      have key : ∀ n : Nat, v = .int .i64 n → A' = A → (Builtin.len_ argTypes type #[ρC x0]).run P w = .ok v w → A' = A ∧ YieldsTo P σ w (execOp ρC ⟨dst, .call ⟨.builtin .len, #[x0], argTypes⟩, type, pos, after, guard⟩) v := fun n hn ha hr =>
          ⟨ha, v, hexec (Builtin.len_ argTypes type #[ρC x0]) (fun cs => by simp [builtin]) v hr, by rw [hn]; exact .int _ _⟩
      split at hc
      · rename_i hu
        simp only [Option.some.injEq] at hc; subst hc
        simp only [evalOp] at h
        revert hx h; generalize ρA x0 = a; generalize hb : ρC x0 = b
        intro hx h
        rw [hb] at key
        cases hx <;> simp only at h <;> cases h
        · exact key _ rfl rfl (by simp [Builtin.len_, h0, run_underlying hu, goInt, size_eq])
        · rename_i k l n s hs
          have hl := hs.len
          rw [decR_len] at hl
          exact key l rfl rfl (by simp [Builtin.len_, h0, run_underlying hu, goInt, size_eq, hl])
      · rename_i e hu
        simp only [Option.some.injEq] at hc; subst hc
        simp only [evalOp] at h
        revert hx h; generalize ρA x0 = a; generalize hb : ρC x0 = b
        intro hx h
        rw [hb] at key
        cases hx <;> simp only at h <;> cases h
        · exact key _ rfl rfl (by simp [Builtin.len_, h0, run_underlying hu, goInt])
        · exact key _ rfl rfl (by simp [Builtin.len_, h0, run_underlying hu, goInt])
        · exact key 0 rfl rfl (by simp [Builtin.len_, h0, run_underlying hu, goInt])
      · rename_i n e hu
        simp only [Option.some.injEq] at hc; subst hc
        simp only [evalOp, Option.some.injEq, Prod.mk.injEq] at h
        obtain ⟨rfl, rfl⟩ := h
        exact key n rfl rfl (by simp [Builtin.len_, h0, run_underlying hu, goInt])
      · rename_i a hu
        split at hc
        · rename_i n e hua
          simp only [Option.some.injEq] at hc; subst hc
          simp only [evalOp, Option.some.injEq, Prod.mk.injEq] at h
          obtain ⟨rfl, rfl⟩ := h
          exact key n rfl rfl (by simp [Builtin.len_, h0, run_underlying hu, run_underlying hua, goInt])
        · cases hc
      · cases hc
    | min =>
      simp only [Option.some.injEq] at hc; subst hc
      exact light_minmax false (fun s hs => hexec s hs) (fun cs vs => by simp only [builtin, Builtin.min_]; cases vs.toList <;> rfl) hargs h
    | max =>
      simp only [Option.some.injEq] at hc; subst hc
      exact light_minmax true (fun s hs => hexec s hs) (fun cs vs => by simp only [builtin, Builtin.max_]; cases vs.toList <;> rfl) hargs h
    | append =>
      simp only at hc
      split at hc
      · split at hc <;> first | (cases hc; done) | (simp only [Option.bind_eq_some_iff, Option.map_eq_some_iff] at hc; obtain ⟨_, _, _, _, rfl⟩ := hc; cases hl)
      · cases hc
    | copy =>
      simp only at hc
      split at hc
      · split at hc <;> first | (cases hc; done) | (simp only [Option.map_eq_some_iff] at hc; obtain ⟨_, _, rfl⟩ := hc; cases hl)
      · cases hc
    | delete =>
      simp only at hc
      split at hc
      · split at hc <;> first | (cases hc; done) | (simp only [Option.map_eq_some_iff] at hc; obtain ⟨_, _, rfl⟩ := hc; cases hl)
      · cases hc
    | clear =>
      simp only at hc
      split at hc
      · split at hc <;> first | (cases hc; done) | (simp only [Option.map_eq_some_iff] at hc; obtain ⟨_, _, rfl⟩ := hc; cases hl)
      · cases hc
    | _ => cases hc

theorem light_sound {o : Oper} {x : XOp} (hc : compOp P o = some x) (hl : light x = true) {ρA ρC : Operand → Value} (hρ : ∀ y ∈ o.op.operands, VRel σ (ρA y) (ρC y)) (hr : Rel P σ A w) {v : Value} {A' : H}
    (h : evalOp x ρA A = some (v, A')) : A' = A ∧ YieldsTo P σ w (execOp ρC o) v := by
  obtain ⟨dst, op, type, pos, after, guard⟩ := o
  cases op with
  | move y => simp only [compOp, Option.some.injEq] at hc; subst hc; obtain ⟨h1, h2⟩ := light_move y (hρ y (by simp [Op.operands])) h; exact ⟨h1, _, rfl, h2⟩
  | assign y => simp only [compOp, Option.some.injEq] at hc; subst hc; obtain ⟨h1, h2⟩ := light_move y (hρ y (by simp [Op.operands])) h; exact ⟨h1, _, rfl, h2⟩
  | pick c a b =>
    simp only [compOp, Option.some.injEq] at hc; subst hc
    simp only [evalOp, Option.map_eq_some_iff] at h
    obtain ⟨t, ht, he⟩ := h
    cases he
    obtain ⟨h1, h2⟩ := boolV_rel (hρ c (by simp [Op.operands])) ht
    refine ⟨rfl, _, by simp [execOp, asBool, h2]; rfl, ?_⟩
    cases t
    · exact hρ b (by simp [Op.operands])
    · exact hρ a (by simp [Op.operands])
  | build t ps =>
    simp only [compOp] at hc
    rw [Option.bind_eq_some_iff] at hc
    obtain ⟨z, hz, hc⟩ := hc
    split at hc
    case h_3 => cases hc
    all_goals
      rename_i hu
      rw [Option.map_eq_some_iff] at hc
      obtain ⟨qs, hq, rfl⟩ := hc
      simp only [evalOp, Option.map_eq_some_iff] at h
      obtain ⟨r, hr', he⟩ := h
      cases he
      refine ⟨rfl, ?_⟩
      obtain ⟨zv, zi, _, _, hzr, hzc, _, hzz, _⟩ := run_zero (P := P) (σ := σ) hz w
      have hop : ∀ p ∈ ps.toList, VRel σ (ρA p.2) (ρC p.2) := fun p hp => hρ p.2 (by simp only [Op.operands]; exact List.mem_toArray.2 (List.mem_map.2 ⟨p, hp, rfl⟩))
      have hzz' : LRel σ z zv.cells.toList := by rw [hzc]; exact hzz
      simp only [compParts, hu, Option.bind_eq_some_iff] at hq
      obtain ⟨pl, hpl, hq⟩ := hq
      obtain ⟨hlen, hget⟩ := parts_get hq
      skip
    · obtain ⟨rc, hrc, hrr⟩ := fill_rel (fun i => pl[i]?) ps.toList qs z zv.cells r ρA ρC hlen (fun i p q hp hq' => ⟨(hget i p q hp hq').1, (hget i p q hp hq').2, hop p (List.mem_of_getElem? hp)⟩) hzz' hr'
      refine ⟨.agg rc, ?_, .agg _ _ (by simpa using hrr.len) hrr.get⟩
      have hpr := run_places (P := P) w _ _ hpl
      have hpa : (Array.mapM (fun (f : Field) => (do pure (f.offset, ← sizeOf f.type) : Sem (Nat × Nat))) ‹Array Field›).run P w = .ok pl.toArray w := by
        rw [Array.mapM_eq_mapM_toList]
        simp only [Sem.run_map, hpr, Result.andThen_ok]
      simp only [execOp, Instr.build, Sem.run_bind, hzr, Result.andThen_ok, run_underlying hu, hpa, Array.toList_map]
      simp only [List.getElem?_toArray, hrc, Sem.run_pure, Result.andThen_ok]
    · obtain ⟨rc, hrc, hrr⟩ := fill_rel (fun i => some (i * pl, pl)) ps.toList qs z zv.cells r ρA ρC hlen (fun i p q hp hq' => ⟨(hget i p q hp hq').1, (hget i p q hp hq').2, hop p (List.mem_of_getElem? hp)⟩) hzz' hr'
      refine ⟨.agg rc, ?_, .agg _ _ (by simpa using hrr.len) hrr.get⟩
      simp only [execOp, Instr.build, Sem.run_bind, hzr, Result.andThen_ok, run_underlying hu, run_size hpl, Array.toList_map, hrc, Sem.run_pure]
  | load t a =>
    simp only [compOp] at hc
    rw [Option.bind_eq_some_iff] at hc
    obtain ⟨n, hn, hc⟩ := hc
    rw [Option.map_eq_some_iff] at hc
    obtain ⟨b, hb, rfl⟩ := hc
    simp only [evalOp] at h
    have ha := hρ a (by simp [Op.operands])
    revert ha h
    generalize ρA a = x; generalize hy : ρC a = y
    intro h ha
    cases ha with
    | @ptr id p off hs =>
      simp only at h
      rw [Option.bind_eq_some_iff] at h
      obtain ⟨l, hll, h⟩ := h
      obtain ⟨l', h1, h2, h3⟩ := load_rel hr hs hll
      have hrun := run_loadCells_of (P := P) h2 h3
      rw [Option.map_eq_some_iff] at h
      obtain ⟨u, hu, he⟩ := h
      cases he
      obtain ⟨v', hv1, hv2⟩ := one_rel hu h1
      refine ⟨rfl, v', ?_, hv2⟩
      cases b with
      | true =>
        simp only [oneV, cond_true, Option.some.injEq] at hv1
        subst hv1
        simp [execOp, hy, Instr.loadAt, Instr.sureAddr, loadVar, run_agg hb, run_size hn, hrun, aggL_toArray]
      | false =>
        simp only [oneV, cond_false] at hv1
        match l', hv1, h3 with
        | [x], hv1, h3 =>
          simp only [Option.some.injEq] at hv1
          subst hv1
          have hcell := h3 0 x rfl
          rw [Addr.add_none, Nat.add_zero] at hcell
          simp [execOp, hy, Instr.loadAt, Instr.sureAddr, loadVar, run_agg hb, hcell]
    | _ => simp at h
  | nilCheck y =>
    simp only [compOp, Option.some.injEq] at hc; subst hc
    simp only [evalOp] at h
    have ha := hρ y (by simp [Op.operands])
    revert ha h
    generalize ρA y = x; generalize hy : ρC y = y'
    intro h ha
    cases ha with
    | @ptr id p off hs => simp only [Option.some.injEq, Prod.mk.injEq] at h; obtain ⟨rfl, rfl⟩ := h; exact ⟨rfl, _, by simp [execOp, hy], .ptr off hs⟩
    | _ => simp at h
  | binOp op xt x y yt =>
    simp only [compOp, Option.bind_eq_some_iff] at hc
    obtain ⟨d, hd, hc⟩ := hc
    rcases compBin_kind hc with rfl | ⟨⟨ms, rfl⟩, hy, hcc⟩ | ⟨l, hkk, hgt, hcc⟩
    case inr.inl =>
      have hxr := hρ x (by simp [Op.operands])
      have hyr := hρ y (by simp [Op.operands])
      obtain ⟨vc, rfl⟩ : ∃ v, y = .const v := by
        cases y with
        | const v => exact ⟨v, rfl⟩
        | _ => cases hy
      have hg : ∀ a : Value, (eqGuard op xt x (.const vc) a .nilIface).run P w = .ok () w := fun a => by
        unfold eqGuard
        cases a <;> simp
      have hnn : ∀ n : Nat, (Op.equalIn (n + 1) xt .nilIface .nilIface).run P w = .ok true w := fun n => by simp [Op.equalIn, run_underlying hd]
      have hin : ∀ (n : Nat) (t : TypeId) (u : Value), (Op.equalIn (n + 1) xt (.iface t u) .nilIface).run P w = .ok false w := fun n t u => by simp [Op.equalIn, run_underlying hd]
      have hN : (Op.equal xt .nilIface .nilIface).run P w = .ok true w := by simp only [Op.equal, Op.maxDepth]; exact hnn 9999
      have hI : ∀ t u, (Op.equal xt (.iface t u) .nilIface).run P w = .ok false w := fun t u => by simp only [Op.equal, Op.maxDepth]; exact hin 9999 t u
      rcases hcc with ⟨rfl, rfl⟩ | ⟨rfl, rfl⟩
      all_goals
        simp only [evalOp] at h
        revert hxr hyr h
        generalize ρA x = x1; generalize hx' : ρC x = x'; generalize ρA (.const vc) = y1; generalize hy' : ρC (.const vc) = y'
        intro hxr hyr h
        cases hxr <;> cases hyr <;> first | (simp at h; done) | skip
        all_goals
          simp only [Option.some.injEq, Prod.mk.injEq] at h
          obtain ⟨rfl, rfl⟩ := h
          refine ⟨rfl, _, ?_, .bool _⟩
          simp [execOp, hx', hy', hg, binOp, hN, hI]
    case inr.inr =>
      have hxr := hρ x (by simp [Op.operands])
      have hyr := hρ y (by simp [Op.operands])
      have key : ∀ b, kindEq (.many l) (ρA x) (ρA y) = some b → (Op.equal xt (ρC x) (ρC y)).run P w = .ok b w ∧ (eqGuard op xt x y (ρC x) (ρC y)).run P w = .ok () w ∧ (∃ a a', ρC x = .agg a ∧ ρC y = .agg a') := by
        intro b hb
        refine ⟨kind_equal hkk hxr hyr hb w, ?_⟩
        revert hxr hyr hb
        generalize ρA x = x1; generalize hx' : ρC x = x'; generalize ρA y = y1; generalize hy' : ρC y = y'
        intro hxr hyr hb
        cases hxr <;> first | (simp [kindEq] at hb; done) | skip
        cases hyr <;> first | (simp [kindEq] at hb; done) | skip
        refine ⟨?_, _, _, rfl, rfl⟩
        unfold eqGuard
        simp [hgt]
      rcases hcc with ⟨rfl, rfl⟩ | ⟨rfl, rfl⟩
      all_goals
        simp only [evalOp, Option.map_eq_some_iff] at h
        obtain ⟨b, hb, he⟩ := h
        cases he
        obtain ⟨k1, k2, a1, a2, k3, k4⟩ := key b hb
        refine ⟨rfl, _, ?_, .bool _⟩
        rw [k3, k4] at k1 k2
        simp [execOp, k3, k4, k2, binOp, k1]
    simp only [evalOp, Option.map_eq_some_iff] at h
    obtain ⟨u, hu, he⟩ := h
    cases he
    obtain ⟨v', h1, h2, h3⟩ := binA_rel (w := w) (xo := x) (yo := y) hd hu (hρ x (by simp [Op.operands])) (hρ y (by simp [Op.operands]))
    exact ⟨rfl, v', by simp [execOp, h1, h2], h3⟩
  | unOp op xt x =>
    simp only [compOp, Option.some.injEq] at hc; subst hc
    simp only [evalOp, Option.map_eq_some_iff] at h
    obtain ⟨u, hu, he⟩ := h
    cases he
    have ha := hρ x (by simp [Op.operands])
    revert ha hu
    generalize ρA x = x1; generalize hy : ρC x = y'
    intro hu ha
    refine ⟨rfl, v, ?_⟩
    cases ha with
    | int k n =>
      cases op with
      | neg => simp only [unA, Option.some.injEq] at hu; subst hu; exact ⟨by simp [execOp, hy, Op.unary, Op.intArith], .int _ _⟩
      | xor =>
        have hu' : bitsA .xor k (if k.signed then -1 else k.max) n = some v := hu
        refine ⟨by simp [execOp, hy, Op.unary, run_bits hu'], ?_⟩
        simp only [bitsA, Option.some.injEq] at hu'; subst hu'; exact .int _ _
      | _ => simp [unA] at hu
    | bool b =>
      cases op with
      | not => simp only [unA, Option.some.injEq] at hu; subst hu; exact ⟨by simp [execOp, hy, Op.unary], .bool _⟩
      | _ => simp [unA] at hu
    | _ => cases op <;> simp [unA] at hu
  | convert s d x =>
    have hx := hρ x (by simp [Op.operands])
    simp only [compOp] at hc
    split at hc
    · rename_i hs hd
      simp only [Option.some.injEq] at hc; subst hc
      rename_i ks kd
      simp only [evalOp] at h
      by_cases hch : ∃ i, ρA x = .chan (some i)
      · obtain ⟨i, hi⟩ := hch
        rw [hi] at h hx
        simp only at h
        cases hk : (isKey i && decide (kd = .u64)) with
        | false => rw [hk] at h; cases h
        | true =>
          rw [hk] at h
          simp only [cond_true, Option.some.injEq, Prod.mk.injEq] at h
          obtain ⟨rfl, rfl⟩ := h
          rw [Bool.and_eq_true] at hk
          obtain ⟨a, ha, h0, h1⟩ := Unk.key i hk.1
          have hkd : kd = .u64 := by simpa using hk.2
          subst hkd
          generalize hy : ρC x = y' at hx
          cases hx
          have hwr : IntKind.u64.wrap a = a := by simp [IntKind.wrap, IntKind.signed, IntKind.bits]; omega
          exact ⟨rfl, Unk.val i, by simp [execOp, convert, run_underlying hs, run_underlying hd, hy, ha, Conv.intToInt, hwr], .unk i⟩
      · have h' : (intV (ρA x)).map (fun n => (Value.int kd (kd.wrap n), A)) = some (v, A') := by
          revert h hch
          generalize ρA x = a
          intro h hch
          cases a with
          | chan r => cases r with
            | some i => exact absurd ⟨i, rfl⟩ hch
            | none => exact h
          | _ => exact h
        rw [Option.map_eq_some_iff] at h'
        obtain ⟨n, hn, he⟩ := h'
        cases he
        obtain ⟨k', h1, h2⟩ := intV_rel hx hn
        exact ⟨rfl, _, by simp [execOp, convert, run_underlying hs, run_underlying hd, h2, Conv.intToInt], .int _ _⟩
    · rename_i hs hd
      simp only [Option.some.injEq] at hc; subst hc
      simp only [evalOp, Option.some.injEq, Prod.mk.injEq] at h
      obtain ⟨s0, hs0, he⟩ := Option.map_eq_some_iff.1 h
      cases he
      obtain ⟨s, h2, _⟩ := charsOf_rel hx hs0
      rw [h2] at hx
      exact ⟨rfl, .string s, by simp [execOp, convert, run_underlying hs, run_underlying hd, h2], hx⟩
    · split at hc
      · rename_i e _ _ _ _
        cases hb : (sizeA P e == some 1) with
        | false => rw [hb] at hc; cases hc
        | true => rw [hb] at hc; simp only [cond_true, Option.some.injEq] at hc; subst hc; simp [light] at hl
      · cases hc
    · rename_i e hs hd
      split at hc
      · rename_i hue
        simp only [Option.some.injEq] at hc; subst hc
        simp only [evalOp] at h
        revert hx h
        generalize ρA x = x1; generalize hy : ρC x = y'
        intro hx h
        cases hx with
        | sliceNil l c =>
          simp only [Option.some.injEq, Prod.mk.injEq] at h
          obtain ⟨rfl, rfl⟩ := h
          exact ⟨rfl, .string ByteArray.empty, by simp [execOp, hy, convert, run_underlying hs, run_underlying hd, run_underlying hue, Conv.bytesToString], .string _⟩
        | @slice id p off l c c' hs' hcc =>
          simp only at h
          rw [Option.bind_eq_some_iff] at h
          obtain ⟨cs, hcs, h⟩ := h
          rw [Option.map_eq_some_iff] at h
          obtain ⟨v0, hbs, he⟩ := h
          cases he
          obtain ⟨l', h1, h2, h3⟩ := load_rel hr hs' hcs
          have hrun := run_loadCells_of (P := P) h2 h3
          obtain ⟨ns, s0, hns, hbn, hvs⟩ := mk_ints hbs h1
          refine ⟨rfl, .string s0, ?_, hvs⟩
          rw [hns] at hrun
          have hb := run_bytesToString (P := P) w ⟨p.b, p.sh + off, none⟩ l c' ns hrun
          simp only [execOp, hy, Sem.run_bind, run_convert_bytes_string w s d e _ l c' hs hue hd, hb, Result.andThen_ok, Sem.run_pure, hbn]
        | sliceEnd off b o hs' =>
          simp only at h
          rw [Option.bind_eq_some_iff] at h
          obtain ⟨cs, hcs, h⟩ := h
          rw [Option.map_eq_some_iff] at h
          obtain ⟨v0, hbs, he⟩ := h
          cases he
          obtain ⟨l', h1, h2, h3⟩ := load_rel hr hs' hcs
          obtain ⟨ns, s0, hns, hbn, hvs⟩ := mk_ints hbs h1
          have : ns = [] := List.eq_nil_of_length_eq_zero (by have := congrArg List.length hns; simp at this; omega)
          subst this
          refine ⟨rfl, .string s0, ?_, hvs⟩
          have hb := run_bytesToString (P := P) w ⟨b, o, none⟩ 0 0 [] (by simp [loadCells, loadCellsFrom])
          simp only [execOp, hy, Sem.run_bind, run_convert_bytes_string w s d e _ 0 0 hs hue hd, hb, Result.andThen_ok, Sem.run_pure, hbn]
        | _ => simp at h
      · cases hc
    · rename_i t hs hd
      rw [Option.bind_eq_some_iff] at hc
      obtain ⟨n, hn, hc⟩ := hc
      split at hc
      · cases hc
      · rename_i hn0
        simp only [Option.some.injEq] at hc; subst hc
        simp only [evalOp] at h
        revert hx h
        generalize ρA x = x1; generalize hy : ρC x = y'
        intro hx h
        cases hx with
        | ptrNil =>
          simp only [Option.some.injEq, Prod.mk.injEq] at h
          obtain ⟨rfl, rfl⟩ := h
          exact ⟨rfl, .pointer none, by simp [execOp, hy, convert, run_underlying hs, run_underlying hd, Conv.unsafePointer, Conv.seenAt], .ptrNil⟩
        | @ptr id p off hs' =>
          simp only [Option.map_eq_some_iff] at h
          obtain ⟨l, hl', he⟩ := h
          cases he
          obtain ⟨l', h1, h2, h3⟩ := load_rel hr hs' hl'
          match l', h2 with
          | [v], _ =>
            have hcell := h3 0 v rfl
            rw [Addr.add_none, Nat.add_zero] at hcell
            have hsz : (P.info? t).map (fun i => decide (i.size = 0)) = some false := by
              simp only [sizeA, Option.map_eq_some_iff] at hn
              obtain ⟨i, hi, rfl⟩ := hn
              rw [hi]
              simpa using hn0
            exact ⟨rfl, _, by simp only [execOp, hy, Sem.run_bind, run_convert_to_unsafe hs hd hsz hcell, Result.andThen_ok, Sem.run_pure], .ptr off hs'⟩
        | _ => simp at h
    · cases hc
  | typeAssert x xt t ok =>
    have hx := hρ x (by simp [Op.operands])
    simp only [compOp] at hc
    cases ok with
    | false => cases hc
    | true =>
      simp only [cond_true, Option.bind_eq_some_iff] at hc
      obtain ⟨z, hz, hc⟩ := hc
      cases hb : (cellsL z).all flat1 with
      | false => rw [hb] at hc; cases hc
      | true =>
        rw [hb] at hc
        simp only [cond_true, Option.map_eq_some_iff] at hc
        obtain ⟨d, hd, hc⟩ := hc
        have hzr : (zeroValue t).run P w = .ok z w := by
          cases hi : P.info? t with
          | none => simp [hi] at hz
          | some i => simp [hi] at hz; simp [zeroValue, typeInfo, hi, hz]
        have hzf : VRel σ z z := (flat_cells hb).vrel
        have hpair : ∀ {a a' : Value} (b : Bool), VRel σ a a' → VRel σ (.tuple #[a, .bool b]) (.tuple #[a', .bool b]) := fun b ha => .tuple _ _ rfl (LRel.cons ha (LRel.cons (.bool b) .nil)).get
        split at hc
        · rename_i ms
          subst hc
          simp only [evalOp] at h
          revert hx h
          generalize ρA x = x1; generalize hx' : ρC x = x'
          intro hx h
          cases hx <;> first | (simp at h; done) | skip
          simp only [Option.some.injEq, Prod.mk.injEq] at h
          obtain ⟨rfl, rfl⟩ := h
          exact ⟨rfl, _, by simp [execOp, hx', Instr.typeAssert, run_underlying hd, hzr], hpair _ hzf⟩
        · rename_i hni
          subst hc
          simp only [evalOp] at h
          revert hx h
          generalize ρA x = x1; generalize hx' : ρC x = x'
          intro hx h
          cases hx <;> first | (simp at h; done) | skip
          · rename_i ty u u' hu
            simp only at h
            split at h
            · rename_i e
              subst e
              simp only [Option.some.injEq, Prod.mk.injEq] at h
              obtain ⟨rfl, rfl⟩ := h
              refine ⟨rfl, _, ?_, hpair _ hu⟩
              cases d <;> first | exact absurd rfl (hni _) | simp [execOp, hx', Instr.typeAssert, run_underlying hd]
            · rename_i e
              simp only [Option.some.injEq, Prod.mk.injEq] at h
              obtain ⟨rfl, rfl⟩ := h
              refine ⟨rfl, _, ?_, hpair _ hzf⟩
              cases d <;> first | exact absurd rfl (hni _) | simp [execOp, hx', Instr.typeAssert, run_underlying hd, e, hzr]
          · simp only [Option.some.injEq, Prod.mk.injEq] at h
            obtain ⟨rfl, rfl⟩ := h
            refine ⟨rfl, _, ?_, hpair _ hzf⟩
            cases d <;> first | exact absurd rfl (hni _) | simp [execOp, hx', Instr.typeAssert, run_underlying hd, hzr]
  | makeInterface t x =>
    simp only [compOp] at hc
    split at hc
    · cases hc
    · cases hc
    · rename_i hni hne
      simp only [Option.some.injEq] at hc; subst hc
      simp only [evalOp, Option.some.injEq, Prod.mk.injEq] at h
      obtain ⟨rfl, rfl⟩ := h
      refine ⟨rfl, .iface t (ρC x), ?_, .iface t (hρ x (by simp [Op.operands]))⟩
      cases hu : P.underlying t with
      | none => exact absurd hu hne
      | some d =>
        simp only [execOp, Instr.makeInterface, Sem.run_bind, run_underlying hu, Result.andThen_ok]
        cases d <;> first | rfl | exact absurd hu (hni _)
  | makeFunc fn first cap =>
    simp only [compOp, Option.some.injEq] at hc; subst hc
    simp only [evalOp, Option.some.injEq, Prod.mk.injEq] at h
    obtain ⟨rfl, rfl⟩ := h
    have part : ∀ (xs : Array Operand), (∀ y ∈ xs, y ∈ (Op.makeFunc fn first cap).operands) → ∀ (i : Nat) v v', (xs.toList.map ρA)[i]? = some v → (xs.map ρC).toList[i]? = some v' → VRel σ v v' := by
      intro xs hxs i v v' ha hb
      simp only [List.getElem?_map, Array.toList_map] at ha hb
      cases hc : xs.toList[i]? with
      | none => simp [hc] at ha
      | some y =>
        simp [hc] at ha hb
        subst ha; subst hb
        exact hρ y (hxs y (Array.mem_toList_iff.1 (List.mem_of_getElem? hc)))
    exact ⟨rfl, .func fn (first.map ρC) (cap.map ρC), by simp [execOp, Instr.makeFunc], .func fn _ _ _ _ (by simp) (by simp)
      (fun i v v' ha hb => part first (fun y hy => by simp only [Op.operands]; exact Array.mem_append.2 (.inl hy)) i v v' (by simpa using ha) (by simpa using hb))
      (fun i v v' ha hb => part cap (fun y hy => by simp only [Op.operands]; exact Array.mem_append.2 (.inr hy)) i v v' (by simpa using ha) (by simpa using hb))⟩
  | slice t x lo hi mx =>
    have hx := hρ x (by simp [Op.operands])
    have hlo : ∀ z, lo = some z → VRel σ (ρA z) (ρC z) := fun z e => hρ z (by subst e; simp [Op.operands])
    have hhi : ∀ z, hi = some z → VRel σ (ρA z) (ρC z) := fun z e => hρ z (by subst e; simp [Op.operands])
    have hmx : ∀ z, mx = some z → VRel σ (ρA z) (ρC z) := fun z e => hρ z (by subst e; simp [Op.operands])
    simp only [compOp] at hc
    split at hc
    · rename_i hu
      split at hc
      · rename_i hm
        simp only [Option.some.injEq] at hc; subst hc
        have hm' : mx = none := by simpa using hm
        subst hm'
        simp only [evalOp] at h
        revert hx h
        generalize ρA x = x1; generalize hy : ρC x = y'
        intro hx h
        cases hx with
        | string s =>
          simp only [Option.bind_eq_some_iff, Option.map_eq_some_iff] at h
          obtain ⟨k, hk, b, hb, he⟩ := h
          cases he
          rw [← size_eq] at hk
          obtain ⟨m', hsb, _⟩ := bounds_rel (P := P) (isSlice := false) (mx := none) (Nat.le_refl s.size) hlo hhi (by simp) (Nat.le_refl s.size) rfl hk hb (by simp) w
          refine ⟨rfl, .string (s.extract b k), ?_, by rw [extract_bytes]; exact .string _⟩
          simp only [Option.map_none] at hsb
          simp [execOp, hy, Instr.sliceAt, run_underlying hu, Instr.slice, hsb]
        | rope kk ll nn s hs =>
          simp only [Option.bind_eq_some_iff, Option.map_eq_some_iff] at h
          obtain ⟨k, hk, b, hb, v0, hv0, he⟩ := h
          cases he
          have hsl : ll = s.size := by
            have := hs.len
            rw [decR_len] at this
            rw [this]; exact (size_eq s).symm
          subst hsl
          obtain ⟨m', hsb, _⟩ := bounds_rel (P := P) (isSlice := false) (mx := none) (Nat.le_refl s.size) hlo hhi (by simp) (Nat.le_refl s.size) rfl hk hb (by simp) w
          refine ⟨rfl, .string (s.extract b k), ?_, by rw [extract_bytes]; exact mkStr_rel hv0 ((hs.take k).drop b)⟩
          simp only [Option.map_none] at hsb
          simp [execOp, hy, Instr.sliceAt, run_underlying hu, Instr.slice, hsb]
        | _ => simp at h
      · cases hc
    · rename_i e hu
      cases hmh : (mx.isSome && hi.isNone) with
      | true => rw [hmh] at hc; cases hc
      | false =>
      rw [hmh] at hc
      simp only [cond_false, Option.map_eq_some_iff] at hc
      obtain ⟨z, hz, rfl⟩ := hc
      have hmh' : mx.isSome → hi.isSome := by cases mx <;> cases hi <;> simp_all
      simp only [evalOp, Option.bind_eq_some_iff, Option.map_eq_some_iff] at h
      obtain ⟨hd, hh, m, hm, k, hk, l, hl', he⟩ := h
      cases he
      revert hx hh
      generalize ρA x = x1; generalize hy : ρC x = y'
      intro hx hh
      cases hx with
      | sliceNil n c =>
        simp only [sliceHead] at hh
        cases hb : (ofElem A e none && Nat.ble n c) with
        | false => rw [hb] at hh; cases hh
        | true =>
          rw [hb] at hh; cases hh
          have hle : n ≤ c := by simpa [ofElem] using hb
          obtain ⟨m', hsb, h1, h2, h3, h4⟩ := bounds_rel (P := P) (isSlice := true) (Nat.le_refl c) hlo hhi hmx hle hm hk hl' hmh' w
          have hmm : m = m' := by rcases h4 with h4 | ⟨h4, h5⟩ <;> omega
          subst hmm
          refine ⟨rfl, .slice none (k - l) (m - l), ?_, .sliceNil _ _⟩
          simp [execOp, hy, Instr.sliceAt, run_underlying hu, Instr.slice, hsb, run_size hz]
      | @slice id p off n c c' hs' hcc =>
        simp only [sliceHead] at hh
        cases hb : (ofElem A e (some ⟨id, off, none⟩) && Nat.ble n c) with
        | false => rw [hb] at hh; cases hh
        | true =>
          rw [hb] at hh; cases hh
          rw [Bool.and_eq_true] at hb
          obtain ⟨hb1, hb2⟩ := hb
          have hle : n ≤ c := Nat.le_of_ble_eq_true hb2
          have hez : z = p.esz := by
            unfold ofElem at hb1
            simp only at hb1
            cases hg : A.get id with
            | none => simp [hg] at hb1
            | some o =>
              cases o with
              | cells ro e0 cs =>
                simp only [hg] at hb1
                have := Nat.eq_of_beq_eq_true hb1
                subst this
                obtain ⟨cur, e', fz, _, _, _, h4, _⟩ := hr.obj id _ p hg hs'
                have hz' : (P.info? e0).map (·.size) = some z := hz
                rw [hz'] at h4
                exact Option.some.inj h4
              | _ => simp [hg] at hb1
          have hcc' : c ≤ c' := by rcases hcc with h | ⟨h, _⟩ <;> omega
          obtain ⟨m', hsb, h1, h2, h3, h4⟩ := bounds_rel (P := P) (isSlice := true) hcc' hlo hhi hmx hle hm hk hl' hmh' w
          refine ⟨rfl, .slice (if m' = l then some ⟨p.b, p.sh + off, none⟩ else some ((⟨p.b, p.sh + off, none⟩ : Addr).add (l * z))) (k - l) (m' - l), ?_, ?_⟩
          · simp only [execOp, hy, Instr.sliceAt, Sem.run_bind, run_underlying hu, Result.andThen_ok, Instr.slice, hsb, run_size hz, Sem.run_pure, Option.map_some]
          · simp only [Option.map_some, Addr.add_none]
            split
            · rename_i hml
              have e1 : k - l = 0 := by rcases h4 with h4 | ⟨h4, h5⟩ <;> omega
              have e2 : m - l = 0 := by rcases h4 with h4 | ⟨h4, h5⟩ <;> omega
              rw [e1, e2, hml, Nat.sub_self]
              exact .sliceEnd _ _ _ hs'
            · rename_i hml
              rw [Nat.add_assoc]
              refine .slice _ _ _ _ hs' ?_
              rcases h4 with h4 | ⟨h4, h5⟩
              · exact .inl (by omega)
              · subst h4; subst h5
                rcases hcc with h | ⟨h, h6⟩
                · exact .inl (by omega)
                · refine .inr ⟨by omega, ?_⟩
                  rw [hez]
                  have : (m' - l) * p.esz + l * p.esz = m' * p.esz := by rw [← Nat.add_mul]; congr 1; omega
                  omega
      | sliceEnd off b o hs' =>
        simp only [sliceHead] at hh
        cases hb : (ofElem A e (some ⟨_, off, none⟩) && Nat.ble 0 0) with
        | false => rw [hb] at hh; cases hh
        | true =>
          rw [hb] at hh; cases hh
          obtain ⟨m', hsb, h1, h2, h3, h4⟩ := bounds_rel (P := P) (isSlice := true) (Nat.le_refl 0) hlo hhi hmx (Nat.le_refl 0) hm hk hl' hmh' w
          have e1 : l = 0 := by omega
          have e2 : k = 0 := by omega
          have e3 : m = 0 := by omega
          have e4 : m' = 0 := by rcases h4 with h4 | ⟨h4, h5⟩ <;> omega
          subst e1; subst e2; subst e3; subst e4
          refine ⟨rfl, .slice (some ⟨b, o, none⟩) 0 0, ?_, ?_⟩
          · simp [execOp, hy, Instr.sliceAt, run_underlying hu, Instr.slice, hsb, run_size hz]
          · simp only [Option.map_some, Addr.add_none]; exact .sliceEnd _ _ _ hs'
      | _ => simp [sliceHead] at hh
    · rename_i n e hu
      cases hmh : (mx.isSome && hi.isNone) with
      | true => rw [hmh] at hc; cases hc
      | false =>
      rw [hmh] at hc
      simp only [cond_false, Option.map_eq_some_iff] at hc
      obtain ⟨z, hz, rfl⟩ := hc
      have hmh' : mx.isSome → hi.isSome := by cases mx <;> cases hi <;> simp_all
      simp only [evalOp, Option.bind_eq_some_iff, Option.map_eq_some_iff] at h
      obtain ⟨hd, hh, m, hm, k, hk, l, hl', he⟩ := h
      cases he
      revert hx hh
      generalize ρA x = x1; generalize hy : ρC x = y'
      intro hx hh
      cases hx with
      | @ptr id p off hs' =>
        simp only [sliceHead, Option.some.injEq] at hh
        subst hh
        obtain ⟨m', hsb, h1, h2, h3, h4⟩ := bounds_rel (P := P) (isSlice := false) (Nat.le_refl n) hlo hhi hmx (Nat.le_refl n) hm hk hl' hmh' w
        have hmm : m = m' := by rcases h4 with h4 | ⟨h4, h5⟩ <;> omega
        subst hmm
        refine ⟨rfl, .slice (some (if m = l then ⟨p.b, p.sh + off, none⟩ else (⟨p.b, p.sh + off, none⟩ : Addr).add (l * z))) (k - l) (m - l), ?_, ?_⟩
        · simp only [execOp, hy, Instr.sliceAt, Instr.sureAddr, Sem.run_bind, run_underlying hu, Result.andThen_ok, hsb, run_size hz, Sem.run_pure]
        · simp only [Option.map_some, Addr.add_none]
          split
          · rename_i hml
            have e1 : k - l = 0 := by omega
            rw [e1, hml, Nat.sub_self]
            exact .sliceEnd _ _ _ hs'
          · rw [Nat.add_assoc]
            exact .slice _ _ _ _ hs' (.inl rfl)
      | _ => simp [sliceHead] at hh
    · cases hc
  | fieldAddr s x f =>
    have hx := hρ x (by simp [Op.operands])
    simp only [compOp] at hc
    split at hc
    · rename_i fs hu
      rw [Option.bind_eq_some_iff] at hc
      obtain ⟨fl, hfl, hc⟩ := hc
      rw [Option.bind_eq_some_iff] at hc
      obtain ⟨n, hn, hc⟩ := hc
      split at hc
      · cases hc
      · rename_i hn0
        simp only [Option.some.injEq] at hc; subst hc
        simp only [evalOp] at h
        revert hx h
        generalize ρA x = x1; generalize hy : ρC x = y'
        intro hx h
        cases hx with
        | @ptr id p off hs =>
          simp only [Option.some.injEq, Prod.mk.injEq] at h
          obtain ⟨rfl, rfl⟩ := h
          refine ⟨rfl, _, ?_, ptr_add hs⟩
          simp [execOp, hy, Instr.fieldAt, run_underlying hu, hfl, Instr.sureAddr, fieldPlace, run_size hn, hn0]
        | _ => simp at h
    · cases hc
  | field t x f =>
    have hx := hρ x (by simp [Op.operands])
    simp only [compOp] at hc
    split at hc
    · rename_i fs hu
      rw [Option.bind_eq_some_iff] at hc
      obtain ⟨fl, hfl, hc⟩ := hc
      rw [Option.bind_eq_some_iff] at hc
      obtain ⟨n, hn, hc⟩ := hc
      rw [Option.map_eq_some_iff] at hc
      obtain ⟨b, hb, rfl⟩ := hc
      simp only [evalOp] at h
      revert hx h
      generalize ρA x = x1; generalize hy : ρC x = y'
      intro hx h
      cases hx with
      | agg as as' h1 h2 =>
        simp only at h
        rw [Option.bind_eq_some_iff] at h
        obtain ⟨r, hr', h⟩ := h
        rw [Option.map_eq_some_iff] at h
        obtain ⟨u, hu', he⟩ := h
        cases he
        obtain ⟨v', k2, k3⟩ := part_rel hn hb (⟨by simpa using h1, h2⟩ : LRel σ as.toList as'.toList) hr' hu' w
        refine ⟨rfl, v', ?_, k3⟩
        simp only [Array.toArray_toList] at k2
        simp [execOp, hy, Instr.field, run_underlying hu, hfl, asAgg, k2]
      | _ => simp at h
    · cases hc
  | indexAddr t x i =>
    have hx := hρ x (by simp [Op.operands])
    have hi := hρ i (by simp [Op.operands])
    simp only [compOp] at hc
    split at hc
    · rename_i n e hu
      rw [Option.map_eq_some_iff] at hc
      obtain ⟨s, hs, rfl⟩ := hc
      simp only [evalOp] at h
      cases hiv : intV (ρA i) with
      | none => simp [hiv] at h
      | some j =>
        obtain ⟨k, hi1, hi2⟩ := intV_rel hi hiv
        simp only [hiv] at h
        revert hx h
        generalize ρA x = x1; generalize hy : ρC x = y'
        intro hx h
        cases hx with
        | @ptr id p off hs' =>
          simp only at h
          split at h
          · rename_i hj
            simp only [Option.some.injEq, Prod.mk.injEq] at h
            obtain ⟨rfl, rfl⟩ := h
            refine ⟨rfl, _, ?_, ptr_add hs'⟩
            simp [execOp, hy, hi2, Instr.indexAt, asIntOf, run_underlying hu, Instr.sureAddr, hj, run_size hs]
          · cases h
        | _ => simp at h
    · rename_i e hu
      rw [Option.map_eq_some_iff] at hc
      obtain ⟨s, hs, rfl⟩ := hc
      simp only [evalOp] at h
      cases hiv : intV (ρA i) with
      | none => simp [hiv] at h
      | some j =>
        obtain ⟨k, hi1, hi2⟩ := intV_rel hi hiv
        simp only [hiv] at h
        revert hx h
        generalize ρA x = x1; generalize hy : ρC x = y'
        intro hx h
        cases hx with
        | @slice id p off l c c' hs' hcc =>
          simp only at h
          split at h
          · rename_i hj
            simp only [Option.some.injEq, Prod.mk.injEq] at h
            obtain ⟨rfl, rfl⟩ := h
            refine ⟨rfl, _, ?_, ptr_add hs'⟩
            simp [execOp, hy, hi2, Instr.indexAt, asIntOf, run_underlying hu, hj, run_size hs]
          · cases h
        | sliceEnd off b o hs' =>
          simp only at h
          split at h
          · rename_i hj; omega
          · cases h
        | _ => simp at h
    · cases hc
  | index t x i =>
    have hx := hρ x (by simp [Op.operands])
    have hi := hρ i (by simp [Op.operands])
    simp only [compOp] at hc
    split at hc
    · rename_i n e hu
      rw [Option.bind_eq_some_iff] at hc
      obtain ⟨s, hs, hc⟩ := hc
      rw [Option.map_eq_some_iff] at hc
      obtain ⟨b, hb, rfl⟩ := hc
      simp only [evalOp] at h
      cases hiv : intV (ρA i) with
      | none => simp [hiv] at h
      | some j =>
        obtain ⟨k, hi1, hi2⟩ := intV_rel hi hiv
        simp only [hiv] at h
        revert hx h
        generalize ρA x = x1; generalize hy : ρC x = y'
        intro hx h
        cases hx with
        | agg as as' h1 h2 =>
          simp only at h
          split at h
          · rename_i hj
            rw [Option.bind_eq_some_iff] at h
            obtain ⟨r, hr', h⟩ := h
            rw [Option.map_eq_some_iff] at h
            obtain ⟨u, hu', he⟩ := h
            cases he
            obtain ⟨v', k2, k3⟩ := part_rel hs hb (⟨by simpa using h1, h2⟩ : LRel σ as.toList as'.toList) hr' hu' w
            refine ⟨rfl, v', ?_, k3⟩
            simp only [Array.toArray_toList] at k2
            simp [execOp, hy, hi2, Instr.index, asIntOf, run_underlying hu, hj, run_size hs, k2]
          · cases h
        | _ => simp at h
    · rename_i hu
      simp only [Option.some.injEq] at hc; subst hc
      simp only [evalOp] at h
      cases hiv : intV (ρA i) with
      | none => simp [hiv] at h
      | some j =>
        obtain ⟨k, hi1, hi2⟩ := intV_rel hi hiv
        simp only [hiv] at h
        revert hx h
        generalize ρA x = x1; generalize hy : ρC x = y'
        intro hx h
        cases hx with
        | string s =>
          simp only at h
          split at h
          · rename_i hj
            rw [Option.map_eq_some_iff] at h
            obtain ⟨b, hb, he⟩ := h
            cases he
            have hb' : s[j.toNat]? = some b := by rw [← hb]; exact ba_get s _
            refine ⟨rfl, byteV b, ?_, .int _ _⟩
            simp [execOp, hy, hi2, Instr.index, asIntOf, run_underlying hu, hj, hb', byteV]
          · cases h
        | rope kk l n s hs =>
          simp only at h
          split at h
          · rename_i hj
            simp only [Option.some.injEq, Prod.mk.injEq] at h
            obtain ⟨rfl, rfl⟩ := h
            obtain ⟨b, hb, hcr⟩ := hs.get (decR_get l n j.toNat (by omega))
            have hb' : s[j.toNat]? = some b := by rw [← hb]; exact ba_get s _
            refine ⟨rfl, byteV b, ?_, hcr.vrel⟩
            simp [execOp, hy, hi2, Instr.index, asIntOf, run_underlying hu, hj.1, hb', byteV]
          · cases h
        | _ => simp at h
    · cases hc
  | lookup t m k ok =>
    have hm := hρ m (by simp [Op.operands])
    have hk := hρ k (by simp [Op.operands])
    simp only [compOp] at hc
    split at hc
    · rename_i kt e hu
      rw [Option.bind_eq_some_iff] at hc
      obtain ⟨d, hd, hc⟩ := hc
      rw [Option.bind_eq_some_iff] at hc
      obtain ⟨z, hz, hc⟩ := hc
      cases hb : (cellsL z).all flat1 with
      | false => rw [hb] at hc; cases hc
      | true =>
        rw [hb] at hc
        simp only [cond_true, Option.some.injEq] at hc
        subst hc
        simp only [evalOp, Option.bind_eq_some_iff, Option.map_eq_some_iff] at h
        obtain ⟨es, hes, f, hf, he⟩ := h
        cases he
        have hzr : (zeroValue e).run P w = .ok z w := by
          cases hi : P.info? e with
          | none => simp [hi] at hz
          | some i => simp [hi] at hz; simp [zeroValue, typeInfo, hi, hz]
        obtain ⟨es', her, hes'⟩ := entries_rel hr hm hes
        obtain ⟨hko, f', hfk, hfv⟩ := findK_rel hd hk hf her w
        have hck := fun b => kind_check hd hk hko b w
        have hrun : ∀ v' b', (match f' with | some (_, v) => (v, true) | none => (z, false)) = (v', b') → (execOp ρC ⟨dst, .lookup t m k ok, type, pos, after, guard⟩).run P w = .ok (.value (if ok then .tuple #[v', .bool b'] else v')) w := by
          intro v' b' hvb
          rcases hes' with ⟨hm0, he0⟩ | ⟨r, a, c, hm0, hh, ha⟩
          · subst he0
            cases f' <;> (cases hvb; simp [execOp, Instr.lookup, run_underlying hu, hm0, hck, hfk, hzr])
          · subst ha
            have hgo : (getObj r).run P w = .ok (.map a c) w := by simp [getObj, Sem.run, hh]
            cases f' <;> (cases hvb; simp [execOp, Instr.lookup, run_underlying hu, hm0, hgo, hck, hfk, hzr])
        have hzf : VRel σ z z := (flat_cells hb).vrel
        refine ⟨rfl, ?_⟩
        rcases hfv with ⟨rfl, rfl⟩ | ⟨v, i, v', rfl, rfl, hv⟩
        · refine ⟨_, hrun z false rfl, ?_⟩
          cases ok
          · exact hzf
          · exact .tuple _ _ rfl (LRel.cons hzf (LRel.cons (.bool _) .nil)).get
        · refine ⟨_, hrun v' true rfl, ?_⟩
          cases ok
          · exact hv
          · exact .tuple _ _ rfl (LRel.cons hv (LRel.cons (.bool _) .nil)).get
    · cases hc
  | extract x i =>
    have hx := hρ x (by simp [Op.operands])
    simp only [compOp, Option.some.injEq] at hc; subst hc
    simp only [evalOp] at h
    revert hx h
    generalize ρA x = x1; generalize hy : ρC x = y'
    intro hx h
    cases hx with
    | tuple as as' h1 h2 =>
      simp only [Option.map_eq_some_iff] at h
      obtain ⟨u, hu, he⟩ := h
      cases he
      have hg : as.toList[i]? = some v := by rw [← getN_eq]; exact hu
      have hlt : i < as'.size := by rw [← h1, ← Array.length_toList]; exact (List.getElem?_eq_some_iff.1 hg).1
      refine ⟨rfl, as'[i], by simp [execOp, hy, Instr.extract, hlt], h2 i _ _ hg (by simp [hlt])⟩
    | _ => simp at h
  | call c => exact light_call hc hl (fun y hy => hρ y hy) h
  | makeMap t r => simp only [compOp] at hc; split at hc <;> cases hc; cases hl
  | alloc e => simp only [compOp, Option.map_eq_some_iff] at hc; obtain ⟨z, _, rfl⟩ := hc; cases hl
  | box e y => simp only [compOp, Option.map_eq_some_iff] at hc; obtain ⟨_, _, rfl⟩ := hc; cases hl
  | buildSlice t n ps =>
    simp only [compOp] at hc
    split at hc
    · simp only [Option.bind_eq_some_iff, Option.map_eq_some_iff] at hc; obtain ⟨_, _, _, _, _, _, rfl⟩ := hc; cases hl
    · cases hc
  | store t a x => simp only [compOp, Option.map_eq_some_iff] at hc; obtain ⟨z, _, rfl⟩ := hc; cases hl
  | makeSlice t l c =>
    simp only [compOp] at hc
    split at hc
    · simp only [Option.bind_eq_some_iff, Option.map_eq_some_iff] at hc; obtain ⟨_, _, _, _, rfl⟩ := hc; cases hl
    · cases hc
  | mapUpdate t m k x =>
    simp only [compOp] at hc
    split at hc
    · simp only [Option.map_eq_some_iff] at hc; obtain ⟨d, _, rfl⟩ := hc; cases hl
    · cases hc
  | insert t m k x =>
    simp only [compOp] at hc
    split at hc
    · simp only [Option.map_eq_some_iff] at hc; obtain ⟨d, _, rfl⟩ := hc; cases hl
    · cases hc
  | range t x => simp only [compOp] at hc; split at hc <;> cases hc; cases hl
  | next x b => simp only [compOp] at hc; cases b <;> cases hc; cases hl
  | _ => simp [compOp] at hc
end
end Go.Ab
