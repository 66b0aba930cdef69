/- Operations that are told, from a list; functions whose answers are told. -/
/- States: blocks of cells beside the tables; a state seen otherwise. -/
import Derived.Test.YthlpiipobcomfaaGreatDoorAcMem
import Derived.Test.YthlpiipobcomfaaGreatDoorAcHoare
import Derived.IntWalk
import Derived.Laws.Bits64
set_option linter.all false
set_option linter.unusedSectionVars false
set_option linter.unusedVariables false
set_option linter.unusedSimpArgs false
namespace Go.Ab
open Go Go.RowKit
def opN : BinOp → Nat
  | .add => 0 | .sub => 1 | .mul => 2 | .quo => 3 | .rem => 4 | .and => 5 | .or => 6 | .xor => 7 | .shl => 8 | .shr => 9 | .andNot => 10 | .eql => 11 | .neq => 12 | .lss => 13 | .leq => 14 | .gtr => 15 | .geq => 16
theorem opN_inj {a b : BinOp} (h : Nat.beq (opN a) (opN b) = true) : a = b := by
  cases a <;> cases b <;> first | rfl | (revert h; decide)
theorem kIdxB_inj {a b : IntKind} (h : Nat.beq (kIdx a) (kIdx b) = true) : a = b := by
  cases a <;> cases b <;> first | rfl | (revert h; decide)
def eqTK : TKey → TKey → Bool
  | .bin a, .bin b => Nat.beq (opN a) (opN b)
  | .len, .len => true
  | .sub a b, .sub c d => (a == c) && (b == d)
  | .toInt a, .toInt b => Nat.beq (kIdx a) (kIdx b)
  | .idx, .idx => true
  | .mm a, .mm b => a == b
  | _, _ => false
theorem eqTK_eq {a b : TKey} (h : eqTK a b = true) : a = b := by
  unfold eqTK at h
  split at h
  · rw [opN_inj h]
  · rfl
  · rw [Bool.and_eq_true] at h
    rw [eq_of_beq h.1, eq_of_beq h.2]
  · rw [kIdxB_inj h]
  · rfl
  · rw [eq_of_beq h]
  · cases h
/-- One thing that is told. -/
structure Ent where
  k : TKey
  args : List Value
  res : Value
def entGo (k : TKey) (args : List Value) : List Ent → Option Value
  | [] => none
  | e :: l => bif eqTK k e.k && eqwL eqw args e.args then some e.res else entGo k args l
@[reducible] def knT (l : List Ent) : Kn := ⟨fun _ => none, fun k args => entGo k args l⟩
def EntTrue [Unk] (e : Ent) : Prop := ∀ (σ : Sg) l', LRel σ e.args l' → (∀ a ∈ l', plainV a = true) ∧ ∃ v0, ansOf e.k l' = some v0 ∧ VRel σ e.res v0
def AllTrue [Unk] : List Ent → Prop
  | [] => True
  | e :: l => EntTrue e ∧ AllTrue l
theorem entGo_ok [Unk] {k : TKey} {args : List Value} {v : Value} : ∀ {l : List Ent}, AllTrue l → entGo k args l = some v → ∃ e : Ent, EntTrue e ∧ e.k = k ∧ e.args = args ∧ e.res = v
  | [], _, h => by cases h
  | e :: l, hl, h => by
    unfold entGo at h
    cases hb : (eqTK k e.k && eqwL eqw args e.args) with
    | true =>
      rw [hb] at h
      rw [Bool.and_eq_true] at hb
      simp only [cond_true, Option.some.injEq] at h
      exact ⟨e, hl.1, (eqTK_eq hb.1).symm, (eqwL_eq (fun _ _ => eqw_eq) hb.2).1.symm, h⟩
    | false => rw [hb] at h; exact entGo_ok hl.2 h
theorem knT_ok [Unk] {l : List Ent} (h : AllTrue l) : @KnOk (knT l) _ := @KnOk.mk (knT l) _ (fun _ _ h => by cases h) (fun k args v hv σ l' hl => by
  obtain ⟨e, he, rfl, rfl, rfl⟩ := entGo_ok h hv
  exact he σ l' hl)
/-! ### What a value stands for -/
section
variable [Unk]
def Den (a c : Value) : Prop := ∀ (σ : Sg) v', VRel σ a v' → v' = c
def StandsV (a c : Value) : Prop := ∀ σ : Sg, VRel σ a c
theorem den_int (k : IntKind) (n : Int) : Den (.int k n) (.int k n) := fun σ v' h => by cases h; rfl
theorem den_bool (b : Bool) : Den (.bool b) (.bool b) := fun σ v' h => by cases h; rfl
theorem den_str (s : ByteArray) : Den (.string s) (.string s) := fun σ v' h => by cases h; rfl
theorem den_tok {i : Nat} {c : Value} (h : Unk.val i = c) : Den (.chan (some i)) c := fun σ v' hv => by cases hv; exact h
theorem st_int (k : IntKind) (n : Int) : StandsV (.int k n) (.int k n) := fun σ => .int _ _
theorem st_bool (b : Bool) : StandsV (.bool b) (.bool b) := fun σ => .bool _
theorem st_str (s : ByteArray) : StandsV (.string s) (.string s) := fun σ => .string _
theorem st_tok {i : Nat} {c : Value} (h : Unk.val i = c) : StandsV (.chan (some i)) c := fun σ => h ▸ .unk i
theorem st_as {α : Type} {F : α → Value} {a b : α} {v : Value} (h : a = b) (hv : StandsV v (F b)) : StandsV v (F a) := h ▸ hv
theorem lrel1 {σ : Sg} {a ca : Value} (ha : Den a ca) {l' : List Value} (h : LRel σ [a] l') : l' = [ca] := by
  obtain ⟨v, r, rfl, h1, h2⟩ := h.cons_inv
  have := h2.len
  cases r with
  | nil => rw [ha σ v h1]
  | cons _ _ => simp at this
theorem lrel2 {σ : Sg} {a b ca cb : Value} (ha : Den a ca) (hb : Den b cb) {l' : List Value} (h : LRel σ [a, b] l') : l' = [ca, cb] := by
  obtain ⟨v, r, rfl, h1, h2⟩ := h.cons_inv
  rw [ha σ v h1, lrel1 hb h2]
theorem lrel3 {σ : Sg} {a b c ca cb cc : Value} (ha : Den a ca) (hb : Den b cb) (hc : Den c cc) {l' : List Value} (h : LRel σ [a, b, c] l') : l' = [ca, cb, cc] := by
  obtain ⟨v, r, rfl, h1, h2⟩ := h.cons_inv
  rw [ha σ v h1, lrel2 hb hc h2]
theorem ent1 {k : TKey} {a r ca v0 : Value} (ha : Den a ca) (pa : plainV ca = true) (h : ansOf k [ca] = some v0) (hr : StandsV r v0) : EntTrue ⟨k, [a], r⟩ := fun σ l' hl => by
  rw [lrel1 ha hl]
  exact ⟨by intro x hx; simp at hx; subst hx; exact pa, v0, h, hr σ⟩
theorem ent2 {k : TKey} {a b r ca cb v0 : Value} (ha : Den a ca) (hb : Den b cb) (pa : plainV ca = true) (pb : plainV cb = true) (h : ansOf k [ca, cb] = some v0) (hr : StandsV r v0) : EntTrue ⟨k, [a, b], r⟩ := fun σ l' hl => by
  rw [lrel2 ha hb hl]
  exact ⟨by intro x hx; simp at hx; rcases hx with rfl | rfl <;> assumption, v0, h, hr σ⟩
theorem ent3 {k : TKey} {a b c r ca cb cc v0 : Value} (ha : Den a ca) (hb : Den b cb) (hc : Den c cc) (pa : plainV ca = true) (pb : plainV cb = true) (pc : plainV cc = true) (h : ansOf k [ca, cb, cc] = some v0) (hr : StandsV r v0) : EntTrue ⟨k, [a, b, c], r⟩ := fun σ l' hl => by
  rw [lrel3 ha hb hc hl]
  exact ⟨by intro x hx; simp at hx; rcases hx with rfl | rfl | rfl <;> assumption, v0, h, hr σ⟩
end
/-! ### Answers -/
theorem wrap_in (n : Int) (h1 : -9223372036854775808 ≤ n) (h2 : n < 9223372036854775808) : IntKind.i64.wrap n = n := by
  exact IntWalk.i64_in _ (by omega)
theorem ans_add (a b : Int) (h1 : -9223372036854775808 ≤ a + b) (h2 : a + b < 9223372036854775808) : ansOf (.bin .add) [.int .i64 a, .int .i64 b] = some (.int .i64 (a + b)) := by
  show (if IntKind.i64 = IntKind.i64 then intA .add .i64 a b else none) = _
  rw [if_pos rfl]; simp only [intA, wrap_in _ h1 h2]
theorem ans_sub (a b : Int) (h1 : -9223372036854775808 ≤ a - b) (h2 : a - b < 9223372036854775808) : ansOf (.bin .sub) [.int .i64 a, .int .i64 b] = some (.int .i64 (a - b)) := by
  show (if IntKind.i64 = IntKind.i64 then intA .sub .i64 a b else none) = _
  rw [if_pos rfl]; simp only [intA, wrap_in _ h1 h2]
theorem ans_cmp (op : BinOp) (k : IntKind) (a b : Int) (t : Bool) (hs : op ≠ .shl ∧ op ≠ .shr) (h : cmpA op a b = some (.bool t)) : ansOf (.bin op) [.int k a, .int k b] = some (.bool t) := by
  have : ansOf (.bin op) [.int k a, .int k b] = intA op k a b := by
    cases op <;> first | (exact absurd rfl hs.1) | (exact absurd rfl hs.2) | (show (if k = k then _ else none) = _; rw [if_pos rfl])
  rw [this]
  cases op <;> first | (cases h; done) | exact h
theorem ans_lt_t (k : IntKind) (a b : Int) (h : a < b) : ansOf (.bin .lss) [.int k a, .int k b] = some (.bool true) := ans_cmp _ _ _ _ _ (by decide) (by simp [cmpA, h])
theorem ans_lt_f (k : IntKind) (a b : Int) (h : b ≤ a) : ansOf (.bin .lss) [.int k a, .int k b] = some (.bool false) := ans_cmp _ _ _ _ _ (by decide) (by simp [cmpA, h])
theorem ans_le_t (k : IntKind) (a b : Int) (h : a ≤ b) : ansOf (.bin .leq) [.int k a, .int k b] = some (.bool true) := ans_cmp _ _ _ _ _ (by decide) (by simp [cmpA, h])
theorem ans_le_f (k : IntKind) (a b : Int) (h : b < a) : ansOf (.bin .leq) [.int k a, .int k b] = some (.bool false) := ans_cmp _ _ _ _ _ (by decide) (by simp [cmpA, h])
theorem ans_gt_t (k : IntKind) (a b : Int) (h : b < a) : ansOf (.bin .gtr) [.int k a, .int k b] = some (.bool true) := ans_cmp _ _ _ _ _ (by decide) (by simp [cmpA, h])
theorem ans_gt_f (k : IntKind) (a b : Int) (h : a ≤ b) : ansOf (.bin .gtr) [.int k a, .int k b] = some (.bool false) := ans_cmp _ _ _ _ _ (by decide) (by simp [cmpA, h])
theorem ans_ge_t (k : IntKind) (a b : Int) (h : b ≤ a) : ansOf (.bin .geq) [.int k a, .int k b] = some (.bool true) := ans_cmp _ _ _ _ _ (by decide) (by simp [cmpA, h])
theorem ans_ge_f (k : IntKind) (a b : Int) (h : a < b) : ansOf (.bin .geq) [.int k a, .int k b] = some (.bool false) := ans_cmp _ _ _ _ _ (by decide) (by simp [cmpA, h])
theorem ans_eq_t (k : IntKind) (a b : Int) (h : a = b) : ansOf (.bin .eql) [.int k a, .int k b] = some (.bool true) := ans_cmp _ _ _ _ _ (by decide) (by simp [cmpA, h])
theorem ans_eq_f (k : IntKind) (a b : Int) (h : a ≠ b) : ansOf (.bin .eql) [.int k a, .int k b] = some (.bool false) := ans_cmp _ _ _ _ _ (by decide) (by simp [cmpA, h])
theorem ans_ne_t (k : IntKind) (a b : Int) (h : a ≠ b) : ansOf (.bin .neq) [.int k a, .int k b] = some (.bool true) := ans_cmp _ _ _ _ _ (by decide) (by simp [cmpA, h])
theorem ans_ne_f (k : IntKind) (a b : Int) (h : a = b) : ansOf (.bin .neq) [.int k a, .int k b] = some (.bool false) := ans_cmp _ _ _ _ _ (by decide) (by simp [cmpA, h])
theorem bytes_len (s : ByteArray) : (bytesOf s).length = s.size := by
  unfold bytesOf; rw [Array.length_toList]; rfl
theorem ans_len (s : ByteArray) : ansOf .len [.string s] = some (.int .i64 (s.size : Int)) := by
  show some (Value.int .i64 ((bytesOf s).length : Int)) = _
  rw [bytes_len]
theorem bytes_app (a b : ByteArray) : ofBytes (bytesOf a ++ bytesOf b) = a ++ b := by
  apply ByteArray.ext
  rw [ByteArray.data_append]
  apply Array.ext'
  simp [ofBytes, bytesOf]
theorem ans_cat (a b : ByteArray) (h : a.size + b.size < 9223372036854775808) : ansOf (.bin .add) [.string a, .string b] = some (.string (a ++ b)) := by
  show strA .add a b = _
  simp only [strA]
  have hb : Nat.ble ((bytesOf a).length + (bytesOf b).length) 9223372036854775807 = true := by
    rw [bytes_len, bytes_len]; exact Nat.ble_eq_true_of_le (by omega)
  rw [hb, cond_true, bytes_app]
theorem bytes_inj {a b : ByteArray} (h : bytesOf a = bytesOf b) : a = b := by
  apply ByteArray.ext; exact Array.ext' h
theorem ans_seq_t (a b : ByteArray) (h : a = b) : ansOf (.bin .eql) [.string a, .string b] = some (.bool true) := by
  subst h; show strA .eql a a = _; simp [strA]
theorem ans_seq_f (a b : ByteArray) (h : a ≠ b) : ansOf (.bin .eql) [.string a, .string b] = some (.bool false) := by
  show strA .eql a b = _
  simp only [strA, Option.some.injEq, Value.bool.injEq]
  exact beq_eq_false_iff_ne.2 fun e => h (bytes_inj e)
theorem ans_sne_t (a b : ByteArray) (h : a ≠ b) : ansOf (.bin .neq) [.string a, .string b] = some (.bool true) := by
  show strA .neq a b = _
  simp only [strA, Option.some.injEq, Value.bool.injEq]
  rw [beq_eq_false_iff_ne.2 fun e => h (bytes_inj e)]; rfl
theorem ans_sne_f (a b : ByteArray) (h : a = b) : ansOf (.bin .neq) [.string a, .string b] = some (.bool false) := by
  subst h; show strA .neq a a = _; simp [strA]
theorem take_drop (s : ByteArray) (l h : Nat) : ofBytes (((bytesOf s).take h).drop l) = s.extract l h := by
  apply ByteArray.ext
  rw [ByteArray.data_extract]
  apply Array.ext'
  simp [ofBytes, bytesOf, Array.toList_extract, List.extract_eq_take_drop, List.drop_take]
theorem high_some {k : IntKind} {i : Int} {most d : Nat} (h0 : 0 ≤ i) (h : i ≤ most) : highA (some (.int k i)) most d = some i.toNat := by
  simp only [highA, boundA]
  rw [if_pos ⟨h0, h⟩]
theorem ans_sub2 (s : ByteArray) (k k' : IntKind) (l h : Int) (h0 : 0 ≤ l) (h1 : l ≤ h) (h2 : h ≤ s.size) : ansOf (.sub true true) [.string s, .int k l, .int k' h] = some (.string (s.extract l.toNat h.toNat)) := by
  show subA s (some (.int k l)) (some (.int k' h)) = _
  simp only [subA]
  rw [high_some (by omega) (by rw [bytes_len]; exact h2)]
  simp only [Option.bind_some]
  rw [high_some h0 (by omega), Option.map_some, take_drop]
theorem ans_subL (s : ByteArray) (k : IntKind) (l : Int) (h0 : 0 ≤ l) (h2 : l ≤ s.size) : ansOf (.sub true false) [.string s, .int k l] = some (.string (s.extract l.toNat s.size)) := by
  show subA s (some (.int k l)) none = _
  simp only [subA, highA, Option.bind_some]
  rw [bytes_len]
  show (Option.map _ (boundA (.int k l) s.size)) = _
  simp only [boundA]
  rw [if_pos ⟨h0, h2⟩, Option.map_some, take_drop]
theorem ans_subH (s : ByteArray) (k : IntKind) (h : Int) (h0 : 0 ≤ h) (h2 : h ≤ s.size) : ansOf (.sub false true) [.string s, .int k h] = some (.string (s.extract 0 h.toNat)) := by
  show subA s none (some (.int k h)) = _
  simp only [subA]
  rw [high_some h0 (by rw [bytes_len]; exact h2)]
  simp only [Option.bind_some, highA, Option.map_some]
  have := take_drop s 0 h.toNat
  rw [this]
theorem ans_to (k k' : IntKind) (n : Int) (h : k.wrap n = n) : ansOf (.toInt k) [.int k' n] = some (.int k n) := by
  show some (Value.int k (k.wrap n)) = _
  rw [h]
theorem ans_idx (s : ByteArray) (k : IntKind) (i : Int) (h0 : 0 ≤ i) (h : i.toNat < s.size) : ansOf .idx [.string s, .int k i] = some (.int .u8 ((s[i.toNat]).toNat : Int)) := by
  show (if 0 ≤ i then ((bytesOf s)[i.toNat]?).map byteV else none) = _
  rw [if_pos h0]
  have : (bytesOf s)[i.toNat]? = some s[i.toNat] := by
    unfold bytesOf
    rw [Array.getElem?_toList]
    exact Array.getElem?_eq_getElem h
  rw [this]; rfl
/-- A byte of a text, as a number. -/
def byteAt (s : ByteArray) (i : Nat) : Int := if h : i < s.size then (s[i].toNat : Int) else 0
theorem ans_idxB (s : ByteArray) (k : IntKind) (i : Nat) (h : i < s.size) : ansOf .idx [.string s, .int k (i : Int)] = some (.int .u8 (byteAt s i)) := by
  rw [ans_idx s k (i : Int) (by omega) (by simpa using h)]
  unfold byteAt
  rw [dif_pos h]
  rfl
theorem ans_idxP (s : ByteArray) (k : IntKind) (i : Nat) (v : Int) (h : i < s.size) (hv : byteAt s i = v) : ansOf .idx [.string s, .int k (i : Int)] = some (.int .u8 v) := by
  rw [ans_idxB s k i h, hv]
theorem ans_idxI (s : ByteArray) (k : IntKind) (i : Int) (h0 : 0 ≤ i) (h : i < (s.size : Int)) : ansOf .idx [.string s, .int k i] = some (.int .u8 (byteAt s i.toNat)) := by
  have := ans_idxB s k i.toNat (by omega)
  rw [show ((i.toNat : Nat) : Int) = i by omega] at this
  exact this
theorem byteAt_nn (s : ByteArray) (i : Nat) : 0 ≤ byteAt s i := by unfold byteAt; split <;> omega
theorem byteAt_lt (s : ByteArray) (i : Nat) : byteAt s i < 256 := by
  unfold byteAt
  split
  · have := (s[i]).toNat_lt; omega
  · omega
theorem ans_shl (a : Int) (k : Nat) (c : Int) (k' : IntKind) (hk : k ≤ 64) (hc : c = 2 ^ k) (h0 : 0 ≤ a * c) (h : a * c < 18446744073709551616) : ansOf (.bin .shl) [.int .u64 a, .int k' (k : Int)] = some (.int .u64 (a * c)) := by
  show shiftA true .u64 a (k : Int) = _
  unfold shiftA
  rw [if_neg (by omega)]
  have e : min (k : Int).toNat IntKind.u64.bits = k := by simp [IntKind.bits]; omega
  simp only [e, if_true]
  rw [← hc]
  have : IntKind.u64.wrap (a * c) = a * c := by rw [IntKind.wrap_u64]; omega
  rw [this]
theorem ans_shl0 (a : Int) (k' : IntKind) (h0 : 0 ≤ a) (h : a < 18446744073709551616) : ansOf (.bin .shl) [.int .u64 a, .int k' 0] = some (.int .u64 a) := by
  have := ans_shl a 0 1 k' (by omega) (by decide) (by omega) (by omega)
  rw [Int.mul_one] at this
  exact this
theorem ans_shlI (a : Int) (k : Nat) (c : Int) (k' : IntKind) (hk : k ≤ 64) (hc : c = 2 ^ k) (h0 : 0 ≤ a * c) (h : a * c < 9223372036854775808) : ansOf (.bin .shl) [.int .i64 a, .int k' (k : Int)] = some (.int .i64 (a * c)) := by
  show shiftA true .i64 a (k : Int) = _
  unfold shiftA
  rw [if_neg (by omega)]
  have e : min (k : Int).toNat IntKind.i64.bits = k := by simp [IntKind.bits]; omega
  simp only [e, if_true]
  rw [← hc, wrap_in _ (by omega) h]
def orU (a b : Int) : Int := IntKind.u64.wrap (BitVec.ofInt IntKind.u64.bits a ||| BitVec.ofInt IntKind.u64.bits b).toNat
theorem ans_or (a b c : Int) (h : orU a b = c) : ansOf (.bin .or) [.int .u64 a, .int .u64 b] = some (.int .u64 c) := by
  show (if IntKind.u64 = IntKind.u64 then intA .or .u64 a b else none) = _
  rw [if_pos rfl, ← h]; rfl
theorem ofInt_toNat (n : Int) (h0 : 0 ≤ n) (h : n < 18446744073709551616) : (BitVec.ofInt 64 n).toNat = n.toNat := by
  rw [BitVec.toNat_ofInt]
  omega
theorem orU_sum (a c : Int) (j : Nat) (h0 : 0 ≤ a) (h1 : a < 2 ^ j) (hc : 0 ≤ c) (h : a + c * 2 ^ j < 18446744073709551616) : orU a (c * 2 ^ j) = a + c * 2 ^ j := by
  obtain ⟨a, rfl⟩ := Int.eq_ofNat_of_zero_le h0
  obtain ⟨c, rfl⟩ := Int.eq_ofNat_of_zero_le hc
  have e : ((c : Int) * 2 ^ j) = ((c * 2 ^ j : Nat) : Int) := by simp
  rw [e] at h ⊢
  have h1' : a < 2 ^ j := by
    have : (a : Int) < ((2 ^ j : Nat) : Int) := by simpa using h1
    omega
  unfold orU
  show IntKind.u64.wrap ((BitVec.ofInt 64 (a : Int) ||| BitVec.ofInt 64 ((c * 2 ^ j : Nat) : Int)).toNat : Int) = _
  rw [BitVec.toNat_or, ofInt_toNat _ (by omega) (by omega), ofInt_toNat _ (by omega) (by omega)]
  have hh := Nat.shiftLeft_add_eq_or_of_lt h1' c
  rw [Nat.shiftLeft_eq] at hh
  rw [show ((a : Int)).toNat = a by omega, show (((c * 2 ^ j : Nat) : Int)).toNat = c * 2 ^ j by omega, Nat.or_comm, ← hh, IntKind.wrap_u64]
  omega
theorem orU_0 (a : Int) (h0 : 0 ≤ a) (h : a < 18446744073709551616) : orU 0 a = a := by
  have := orU_sum 0 a 0 (by omega) (by decide) h0 (by simpa using h)
  simpa using this
theorem ans_mul (a b : Int) (h1 : -9223372036854775808 ≤ a * b) (h2 : a * b < 9223372036854775808) : ansOf (.bin .mul) [.int .i64 a, .int .i64 b] = some (.int .i64 (a * b)) := by
  show (if IntKind.i64 = IntKind.i64 then intA .mul .i64 a b else none) = _
  rw [if_pos rfl]; simp only [intA, wrap_in _ h1 h2]
theorem ans_rem (k : IntKind) (a c : Int) (h0 : 0 ≤ a) (hc : 0 < c) : ansOf (.bin .rem) [.int k a, .int k c] = some (.int k (a % c)) := by
  show (if k = k then intA .rem k a c else none) = _
  rw [if_pos rfl]
  simp only [intA]
  rw [if_neg (by omega), Int.tmod_eq_emod_of_nonneg h0]
theorem ans_quo (k : IntKind) (a c : Int) (h0 : 0 ≤ a) (hc : 0 < c) (hw : k.wrap (a / c) = a / c) : ansOf (.bin .quo) [.int k a, .int k c] = some (.int k (a / c)) := by
  show (if k = k then intA .quo k a c else none) = _
  rw [if_pos rfl]
  simp only [intA]
  rw [if_neg (by omega), Int.tdiv_eq_ediv_of_nonneg h0, hw]
theorem ans_shr (kd : IntKind) (a : Int) (k : Nat) (c : Int) (k' : IntKind) (hk : k ≤ kd.bits) (hc : c = 2 ^ k) : ansOf (.bin .shr) [.int kd a, .int k' (k : Int)] = some (.int kd (a / c)) := by
  show shiftA false kd a (k : Int) = _
  unfold shiftA
  rw [if_neg (by omega)]
  have e : min (k : Int).toNat kd.bits = k := by simp; omega
  simp only [e, Bool.false_eq_true, if_false]
  rw [← hc, Int.fdiv_eq_ediv_of_nonneg _ (by rw [hc]; exact Int.le_of_lt (Int.pow_pos (by decide)))]
theorem ans_to8 (k : IntKind) (n : Int) : ansOf (.toInt .u8) [.int k n] = some (.int .u8 (n % 256)) := by
  show some (Value.int .u8 (IntKind.u8.wrap n)) = _
  have : IntKind.u8.wrap n = n % 256 := by simp [IntKind.wrap, IntKind.bits, IntKind.signed]
  rw [this]
theorem ans_to16 (k : IntKind) (n : Int) : ansOf (.toInt .u16) [.int k n] = some (.int .u16 (n % 65536)) := by
  show some (Value.int .u16 (IntKind.u16.wrap n)) = _
  have : IntKind.u16.wrap n = n % 65536 := by simp [IntKind.wrap, IntKind.bits, IntKind.signed]
  rw [this]
theorem ans_to32 (k : IntKind) (n : Int) : ansOf (.toInt .u32) [.int k n] = some (.int .u32 (n % 4294967296)) := by
  show some (Value.int .u32 (IntKind.u32.wrap n)) = _
  have : IntKind.u32.wrap n = n % 4294967296 := by simp [IntKind.wrap, IntKind.bits, IntKind.signed]
  rw [this]
def opV (op : BinOp) (k : IntKind) (a b : Int) : Int := match op with
  | .and => k.wrap (BitVec.ofInt k.bits a &&& BitVec.ofInt k.bits b).toNat
  | .or => k.wrap (BitVec.ofInt k.bits a ||| BitVec.ofInt k.bits b).toNat
  | .xor => k.wrap (BitVec.ofInt k.bits a ^^^ BitVec.ofInt k.bits b).toNat
  | _ => k.wrap (BitVec.ofInt k.bits a &&& ~~~(BitVec.ofInt k.bits b)).toNat
theorem ans_and (k : IntKind) (a b : Int) : ansOf (.bin .and) [.int k a, .int k b] = some (.int k (opV .and k a b)) := by
  show (if k = k then intA .and k a b else none) = _
  rw [if_pos rfl]; rfl
theorem ans_bor (k : IntKind) (a b : Int) : ansOf (.bin .or) [.int k a, .int k b] = some (.int k (opV .or k a b)) := by
  show (if k = k then intA .or k a b else none) = _
  rw [if_pos rfl]; rfl
theorem ans_andNot (k : IntKind) (a b : Int) : ansOf (.bin .andNot) [.int k a, .int k b] = some (.int k (opV .andNot k a b)) := by
  show (if k = k then intA .andNot k a b else none) = _
  rw [if_pos rfl]; rfl
theorem ans_max (a b : Int) (k k' : IntKind) : ansOf (.mm true) [.int k a, .int k' b] = some (.int k (max a b)) := by
  simp only [ansOf, List.foldlM_cons, List.foldlM_nil, intV, Option.map_some, Option.bind_eq_bind, Option.bind_some, Option.pure_def, if_true, Option.some.injEq, Value.int.injEq, true_and]
  split <;> omega
theorem ans_min (a b : Int) (k k' : IntKind) : ansOf (.mm false) [.int k a, .int k' b] = some (.int k (min a b)) := by
  simp only [ansOf, List.foldlM_cons, List.foldlM_nil, intV, Option.map_some, Option.bind_eq_bind, Option.bind_some, Option.pure_def, Bool.false_eq_true, if_false, Option.some.injEq, Value.int.injEq, true_and]
  split <;> omega
/-! ### Unknown values, whatever they are -/
@[reducible] def anyI (g : Nat → Value) (h1 : ∀ i, oneCell (g i) = true) (h2 : ∀ i b, g i ≠ .bool b) : Unk :=
  unkOf (fun i => UInt8.ofNat i) (by decide) g h1 h2 (fun _ => false) (fun _ => ⟨#[]⟩) (fun _ => by decide)
/-- Texts and numbers, by a list. -/
def pickG (l : List (Nat × Value)) (i : Nat) : Value := match l with
  | [] => .nilIface
  | e :: l => if i = e.1 then e.2 else pickG l i
theorem pickG_one : ∀ {l : List (Nat × Value)}, (∀ e ∈ l, plainV e.2 = true) → ∀ i, oneCell (pickG l i) = true ∧ ∀ b, pickG l i ≠ .bool b
  | [], _, i => ⟨rfl, fun b h => by cases h⟩
  | e :: l, h, i => by
    unfold pickG
    split
    · have := h e (.head _)
      cases he : e.2 <;> rw [he] at this <;> first | (cases this; done) | exact ⟨rfl, fun b h => by cases h⟩
    · exact pickG_one (fun x hx => h x (.tail _ hx)) i
@[reducible] def sayI (l : List (Nat × Value)) (h : ∀ e ∈ l, plainV e.2 = true) : Unk := anyI (pickG l) (fun i => (pickG_one h i).1) (fun i => (pickG_one h i).2)
/-- What a text with unknown bytes stands for. -/
def chB [Unk] (c : Value) (b : UInt8) : Prop := c = byteV b ∨ ∃ i, c = .chan (some i) ∧ i < 4096 ∧ Unk.val i = byteV b
def chL [Unk] : List Value → List UInt8 → Prop
  | [], [] => True
  | c :: l, b :: m => chB c b ∧ chL l m
  | _, _ => False
theorem byteV_inj2 {a b : UInt8} (h : byteV a = byteV b) : a = b := by
  simp only [byteV, Value.int.injEq, true_and] at h
  exact UInt8.toNat_inj.1 (Int.ofNat.inj h)
theorem chB_eq [Unk] {c : Value} {b b' : UInt8} (h : chB c b) (h' : CharRel c b') : b' = b := by
  rcases h with rfl | ⟨i, rfl, _, hi⟩
  · rcases h' with h | ⟨j, h, _⟩ | ⟨n, h, _⟩
    · exact (byteV_inj2 h).symm
    · cases h
    · cases h
  · rcases h' with h | ⟨j, h, _, hj⟩ | ⟨n, h, _⟩
    · cases h
    · cases h; rw [hi] at hj; exact (byteV_inj2 hj).symm
    · cases h
theorem chL_eq [Unk] : ∀ {l : List Value} {m m' : List UInt8}, chL l m → CRel l m' → m' = m
  | [], [], [], _, _ => rfl
  | [], [], _ :: _, _, h => by cases h
  | [], _ :: _, _, h, _ => by cases h
  | _ :: _, [], _, h, _ => by cases h
  | _ :: _, _ :: _, [], _, h => by cases h
  | c :: l, b :: m, b' :: m', h, h' => by rw [chB_eq h.1 h'.1, chL_eq h.2 h'.2]
theorem chL_rel [Unk] : ∀ {l : List Value} {m : List UInt8}, chL l m → CRel l m
  | [], [], _ => trivial
  | [], _ :: _, h => by cases h
  | _ :: _, [], h => by cases h
  | c :: l, b :: m, h => ⟨h.1.elim .inl fun h => .inr (.inl h), chL_rel h.2⟩
theorem den_rope [Unk] {l n : Nat} {cs : List Value} {s : ByteArray} (hd : decR l n = cs) (h : chL cs (bytesOf s)) : Den (.complex .f64 l n) (.string s) := fun σ v' hv => by
  subst hd
  cases hv with
  | rope _ _ t ht => rw [bytes_inj (chL_eq h ht)]
theorem st_rope [Unk] {l n : Nat} {cs : List Value} {s : ByteArray} (hd : decR l n = cs) (h : chL cs (bytesOf s)) : StandsV (.complex .f64 l n) (.string s) := fun σ => by
  subst hd
  exact .rope _ _ s (chL_rel h)
theorem chL_b [Unk] {l : List Value} {m : List UInt8} (n : Nat) (b : UInt8) (hb : byteV b = .int .u8 n) (h : chL l m) : chL (.int .u8 n :: l) (b :: m) := ⟨.inl hb.symm, h⟩
theorem chL_t [Unk] {l : List Value} {m : List UInt8} (i : Nat) (b : UInt8) (hi : i < 4096) (hb : Unk.val i = byteV b) (h : chL l m) : chL (.chan (some i) :: l) (b :: m) := ⟨.inr ⟨i, rfl, hi, hb⟩, h⟩
def TokB [Unk] : List (Nat × UInt8) → Prop
  | [] => True
  | e :: l => (e.1 < 4096 ∧ Unk.val e.1 = byteV e.2) ∧ TokB l
def lookU : List (Nat × UInt8) → Nat → Option UInt8
  | [], _ => none
  | e :: l, i => bif Nat.beq i e.1 then some e.2 else lookU l i
def ropeB (bl : List (Nat × UInt8)) : List Value → Option (List UInt8)
  | [] => some []
  | .int .u8 (.ofNat n) :: l => bif Nat.blt n 256 then (ropeB bl l).map (UInt8.ofNat n :: ·) else none
  | .chan (some i) :: l => (lookU bl i).bind fun b => (ropeB bl l).map (b :: ·)
  | _ => none
theorem lookU_ok [Unk] {bl : List (Nat × UInt8)} (h : TokB bl) {i : Nat} {b : UInt8} (hl : lookU bl i = some b) : i < 4096 ∧ Unk.val i = byteV b := by
  induction bl with
  | nil => cases hl
  | cons e l ih =>
    unfold lookU at hl
    cases hb : Nat.beq i e.1 with
    | true => rw [hb] at hl; cases hl; rw [Nat.eq_of_beq_eq_true hb]; exact h.1
    | false => rw [hb] at hl; exact ih h.2 hl
theorem ropeB_ok [Unk] {bl : List (Nat × UInt8)} (h : TokB bl) : ∀ {l : List Value} {m : List UInt8}, ropeB bl l = some m → chL l m
  | [], m, hm => by cases hm; trivial
  | c :: l, m, hm => by
    unfold ropeB at hm
    split at hm
    · rename_i he; cases he
    · rename_i n l' he
      cases he
      cases hb : Nat.blt n 256 with
      | false => rw [hb] at hm; cases hm
      | true =>
        rw [hb, cond_true, Option.map_eq_some_iff] at hm
        obtain ⟨r, hr, rfl⟩ := hm
        refine ⟨.inl ?_, ropeB_ok h hr⟩
        have hn : n < 256 := Nat.le_of_ble_eq_true hb
        unfold byteV
        rw [UInt8.toNat_ofNat', Nat.mod_eq_of_lt hn]
    · rename_i i l' he
      cases he
      rw [Option.bind_eq_some_iff] at hm
      obtain ⟨b, hb, hm⟩ := hm
      rw [Option.map_eq_some_iff] at hm
      obtain ⟨r, hr, rfl⟩ := hm
      exact ⟨.inr ⟨i, rfl, lookU_ok h hb⟩, ropeB_ok h hr⟩
    · cases hm
theorem den_ropeK [Unk] {bl : List (Nat × UInt8)} (hb : TokB bl) {l n : Nat} {s : ByteArray} (h : ropeB bl (decR l n) = some (bytesOf s)) : Den (.complex .f64 l n) (.string s) := den_rope rfl (ropeB_ok hb h)
theorem st_ropeK [Unk] {bl : List (Nat × UInt8)} (hb : TokB bl) {l n : Nat} {s : ByteArray} (h : ropeB bl (decR l n) = some (bytesOf s)) : StandsV (.complex .f64 l n) (.string s) := st_rope rfl (ropeB_ok hb h)
/-- Unknown bytes, too: token 16 j stands for the j-th one. -/
def pickB (l : List (Nat × UInt8)) (j : Nat) : UInt8 := match l with
  | [] => UInt8.ofNat j
  | e :: l => if j = e.1 then e.2 else pickB l j
theorem pickB_low {l : List (Nat × UInt8)} (h : ∀ e ∈ l, 2 ≤ e.1) {j : Nat} (hj : j < 2) : pickB l j = UInt8.ofNat j := by
  induction l with
  | nil => rfl
  | cons e l ih =>
    unfold pickB
    have := h e (.head _)
    rw [if_neg (by omega)]
    exact ih fun x hx => h x (.tail _ hx)
@[reducible] def sayB (l : List (Nat × Value)) (h : ∀ e ∈ l, plainV e.2 = true) (bl : List (Nat × UInt8)) (hb : ∀ e ∈ bl, 2 ≤ e.1) : Unk :=
  unkOf (pickB bl) (by rw [pickB_low hb (by decide), pickB_low hb (by decide)]; decide) (pickG l) (fun i => (pickG_one h i).1) (fun i => (pickG_one h i).2) (fun _ => false) (fun _ => ⟨#[]⟩) (fun _ => by decide)
theorem u8_of [Unk] {i : Nat} {E : Int} (h : Unk.val i = .int .u8 E) (h0 : 0 ≤ E ∧ E < 256) : Unk.val i = byteV (UInt8.ofNat E.toNat) := by
  rw [h]
  unfold byteV
  have : (UInt8.ofNat E.toNat).toNat = E.toNat := by rw [UInt8.toNat_ofNat']; omega
  rw [this]
  exact congrArg _ (Int.toNat_of_nonneg h0.1).symm
theorem val_u8 {l : List (Nat × Value)} {h : ∀ e ∈ l, plainV e.2 = true} {bl : List (Nat × UInt8)} {hb : ∀ e ∈ bl, 2 ≤ e.1} {i j : Nat} {E : Int} (hi : i = 16 * j) (hj : j < 256) (hp : pickB bl j = UInt8.ofNat E.toNat) (h0 : 0 ≤ E ∧ E < 256) :
    (sayB l h bl hb).val i = .int .u8 E := by
  subst hi
  show unkVal2 (pickB bl) _ _ (16 * j) = _
  unfold unkVal2
  rw [if_neg (fun hh => (text_not hh).1 (by omega))]
  unfold unkVal
  rw [if_pos (by omega), show 16 * j / 16 = j by omega, show 16 * j % 16 = 0 by omega, hp]
  unfold byteV
  have : (UInt8.ofNat E.toNat + UInt8.ofNat 0).toNat = E.toNat := by
    rw [UInt8.toNat_add, UInt8.toNat_ofNat']
    have : (UInt8.ofNat 0).toNat = 0 := rfl
    omega
  rw [this]
  exact congrArg _ (Int.toNat_of_nonneg h0.1)
/-! ### Functions whose answers are told -/
abbrev Tolds := List (FuncId × Told)
def lookT (f : FuncId) : Tolds → Option Told
  | [] => none
  | e :: l => bif Nat.beq f e.1 then some e.2 else lookT f l
def AllTold [Unk] [Kn] [KnOk] (P : Program) (tabs : OTabs) : Tolds → Prop
  | [] => True
  | e :: l => (Enters P e.1 ∧ AllRight P tabs e.1 e.2) ∧ AllTold P tabs l
theorem lookT_ok [Unk] [Kn] [KnOk] {P : Program} {tabs : OTabs} {f : FuncId} {t : Told} : ∀ {l : Tolds}, AllTold P tabs l → lookT f l = some t → Enters P f ∧ AllRight P tabs f t
  | [], _, h => by cases h
  | e :: l, hl, h => by
    unfold lookT at h
    cases hb : Nat.beq f e.1 with
    | true =>
      rw [hb] at h
      cases h
      have := Nat.eq_of_beq_eq_true hb
      subst this
      exact hl.1
    | false => rw [hb] at h; exact lookT_ok hl.2 h
end Go.Ab
namespace Go.Ab
open Go Go.RowKit
theorem bltN {a b : Nat} (h : Nat.blt a b = true) : a < b := Nat.le_of_ble_eq_true h
abbrev Blks := List (Nat × TypeId × List Value)
def lookB : Blks → Nat → Option (TypeId × List Value)
  | [], _ => none
  | e :: l, i => bif Nat.beq i e.1 then some e.2 else lookB l i
def treeB (t : Tr AObj) : Blks → Tr AObj
  | [] => t
  | e :: l => (treeB t l).put e.1 (some (.cells false e.2.1 e.2.2))
def ofL (tabs : OTabs) (L : Blks) (n : Nat) : H := ⟨treeB (otabH tabs).t L, n⟩
theorem oget (tabs : OTabs) (j : Nat) : (otabH tabs).get j = (tabs[j]?.join).map fun x => AObj.cells true x.1 x.2 := by
  letI : Unk := sayI [] (fun _ h => by cases h)
  letI : Kn := knNone
  haveI : KnOk := knNone_ok
  exact otabH_get tabs j
theorem ofL_get (tabs : OTabs) (n i : Nat) : ∀ L : Blks, (ofL tabs L n).get i = match lookB L i with
    | some x => some (.cells false x.1 x.2)
    | none => (otabH tabs).get i
  | [] => rfl
  | e :: l => by
    have ih := ofL_get tabs n i l
    show ((treeB (otabH tabs).t l).put e.1 (some (.cells false e.2.1 e.2.2))).get i = _
    rw [Tr.get_put]
    unfold lookB
    cases hb : Nat.beq i e.1 with
    | true => rw [if_pos (Nat.eq_of_beq_eq_true hb)]; rfl
    | false =>
      rw [if_neg (Nat.ne_of_beq_eq_false hb)]
      exact ih
/-- A value without unknown parts, whose places lie below. -/
def closed (n : Nat) : Value → Bool
  | .bool _ | .int _ _ | .string _ | .pointer none | .slice none _ _ | .map none | .nilFunc | .nilIface => true
  | .pointer (some a) => Nat.blt a.block n
  | .slice (some a) _ _ => Nat.blt a.block n
  | _ => false
def matchV (PL : List (Value × Value)) (n : Nat) (a b : Value) : Bool := (same1 a b && closed n a) || PL.any fun p => eqw a p.1 && eqw b p.2
def matchL (PL : List (Value × Value)) (n : Nat) : List Value → List Value → Bool
  | [], [] => true
  | a :: l, b :: m => matchV PL n a b && matchL PL n l m
  | _, _ => false
def fitB (PL : List (Value × Value)) (k n : Nat) (A : H) (e : Nat × TypeId × List Value) : Bool := match A.get e.1 with
  | some (.cells false ty c) => Nat.beq ty e.2.1 && matchL PL n c e.2.2 && Nat.blt e.1 n && Nat.ble k e.1
  | _ => false
def fitL (PL : List (Value × Value)) (k n : Nat) (A : H) (L : Blks) : Bool := L.all (fitB PL k n A)
def cutS (n : Nat) (σ : Sg) : Sg := fun i => if i < n then σ i else none
theorem cutS_lt {n i : Nat} {σ : Sg} (h : i < n) : cutS n σ i = σ i := if_pos h
theorem closed_ok {I I' : Unk} {n : Nat} {σ : Sg} {a v : Value} (h : closed n a = true) (hv : @VRel I σ a v) : @VRel I' (cutS n σ) a v := by
  cases hv <;> first | (cases h; done) | skip
  · exact .bool _
  · exact .int _ _
  · exact .string _
  · exact .ptrNil
  · rename_i off hs; exact .ptr off (by rw [cutS_lt (bltN h)]; exact hs)
  · exact .sliceNil _ _
  · rename_i off l c c' hs hc; exact .slice off l c c' (by rw [cutS_lt (bltN h)]; exact hs) hc
  · rename_i off b o hs; exact .sliceEnd off b o (by rw [cutS_lt (bltN h)]; exact hs)
  · exact .mapNil
  · exact .nilFunc
  · exact .nilIface
/-- Pairs of values of which the second one, with other unknowns, stands for all that the first one does. -/
def Turns (I I' : Unk) (PL : List (Value × Value)) : Prop := ∀ p ∈ PL, ∀ (σ σ' : Sg) v, @VRel I σ p.1 v → @VRel I' σ' p.2 v
theorem matchV_ok {I I' : Unk} {PL : List (Value × Value)} (hP : Turns I I' PL) {n : Nat} {σ : Sg} {a b v : Value} (h : matchV PL n a b = true) (hv : @VRel I σ a v) : @VRel I' (cutS n σ) b v := by
  unfold matchV at h
  rw [Bool.or_eq_true, Bool.and_eq_true] at h
  rcases h with ⟨h1, h2⟩ | h
  · have e := (letI : Kn := knNone; letI : Unk := I; haveI : KnOk := knNone_ok; same1_eq h1)
    subst e
    exact closed_ok h2 hv
  · rw [List.any_eq_true] at h
    obtain ⟨p, hp, h⟩ := h
    rw [Bool.and_eq_true] at h
    have e1 := (eqw_eq h.1).1
    have e2 := (eqw_eq h.2).1
    subst e1; subst e2
    exact hP p hp σ _ v hv
theorem matchL_ok {PL : List (Value × Value)} {n : Nat} : ∀ {l m : List Value}, matchL PL n l m = true → l.length = m.length ∧ ∀ (i : Nat) (b : Value), m[i]? = some b → ∃ a : Value, l[i]? = some a ∧ matchV PL n a b = true
  | [], [], _ => ⟨rfl, fun i b h => by simp at h⟩
  | a :: l, b :: m, h => by
    rw [matchL, Bool.and_eq_true] at h
    obtain ⟨h1, h2⟩ := matchL_ok h.2
    refine ⟨by simp [h1], fun i c hc => ?_⟩
    cases i with
    | zero => simp at hc; subst hc; exact ⟨a, rfl, h.1⟩
    | succ i => simp at hc; obtain ⟨x, hx, hm⟩ := h2 i c hc; exact ⟨x, by simpa using hx, hm⟩
theorem fitB_ok {PL : List (Value × Value)} {k n : Nat} {A : H} {e : Nat × TypeId × List Value} (h : fitB PL k n A e = true) : ∃ c, A.get e.1 = some (.cells false e.2.1 c) ∧ matchL PL n c e.2.2 = true ∧ e.1 < n ∧ k ≤ e.1 := by
  unfold fitB at h
  split at h
  · rename_i ty c hg
    rw [Bool.and_eq_true, Bool.and_eq_true, Bool.and_eq_true] at h
    obtain ⟨⟨⟨h1, h2⟩, h3⟩, h4⟩ := h
    have e := Nat.eq_of_beq_eq_true h1
    subst e
    exact ⟨c, hg, h2, bltN h3, Nat.le_of_ble_eq_true h4⟩
  · cases h
theorem lookB_mem {i : Nat} {x : TypeId × List Value} : ∀ {L : Blks}, lookB L i = some x → (i, x) ∈ L
  | [], h => by cases h
  | e :: l, h => by
    unfold lookB at h
    cases hb : Nat.beq i e.1 with
    | true => rw [hb] at h; cases h; rw [Nat.eq_of_beq_eq_true hb]; exact .head _
    | false => rw [hb] at h; exact .tail _ (lookB_mem h)
theorem reshape {I I' : Unk} {P : Program} {tabs : OTabs} (hg : P.globals.size = tabs.length) (hflat : ∀ (i : Nat) t c, tabs[i]? = some (some (t, c)) → ∀ v ∈ c, flat1 v = true)
    {PL : List (Value × Value)} (hP : Turns I I' PL) {σ : Sg} {A : H} {w : World} {L : Blks} {n : Nat} (hn : tabs.length ≤ n) (hr : @Rel I P σ A w) (ht : tabsIn tabs 0 A = true) (hf : fitL PL tabs.length n A L = true) : @Rel I' P (cutS n σ) (ofL tabs L n) w := by
  letI K0 : Kn := knNone
  have hk0 : @KnOk K0 I := @knNone_ok I
  have hin := (letI := I; tabsIn_get ht)
  obtain ⟨r1, r2, r3, r4, r5⟩ := hr
  have hfit : ∀ e ∈ L, ∃ c, A.get e.1 = some (.cells false e.2.1 c) ∧ matchL PL n c e.2.2 = true ∧ e.1 < n ∧ tabs.length ≤ e.1 := fun e he => fitB_ok (List.all_eq_true.1 hf e he)
  have getT : ∀ id o, lookB L id = none → (ofL tabs L n).get id = some o → ∃ x : TypeId × List Value, tabs[id]? = some (some x) ∧ o = .cells true x.1 x.2 ∧ A.get id = some (.cells true x.1 x.2) ∧ id < tabs.length := by
    intro id o hl ho
    rw [ofL_get, hl] at ho
    simp only at ho
    rw [oget, Option.map_eq_some_iff] at ho
    obtain ⟨x, hx, rfl⟩ := ho
    rw [Option.join_eq_some_iff] at hx
    have hA := hin id x hx
    rw [Nat.zero_add] at hA
    exact ⟨x, hx, rfl, hA, (List.getElem?_eq_some_iff.1 hx).1⟩
  have getA : ∀ id o, (ofL tabs L n).get id = some o → ∃ o', A.get id = some o' ∧ o'.own = o.own := by
    intro id o ho
    cases hl : lookB L id with
    | none =>
      obtain ⟨x, _, rfl, hA, _⟩ := getT id o hl ho
      exact ⟨_, hA, rfl⟩
    | some x =>
      rw [ofL_get, hl] at ho
      cases ho
      obtain ⟨c, hA, _⟩ := hfit _ (lookB_mem hl)
      exact ⟨_, hA, rfl⟩
  refine ⟨fun g hlt => ?_, fun id o p ho hs => ?_, fun i j p q o o' hij ho ho' hp hq hown => ?_, fun id p hs => ?_, fun id hid => ?_⟩
  · obtain ⟨p, h1, h2, h3⟩ := r1 g hlt
    exact ⟨p, by rw [cutS_lt (by omega)]; exact h1, h2, h3⟩
  · have hs' : σ id = some p := by unfold cutS at hs; split at hs; exact hs; cases hs
    cases hl : lookB L id with
    | none =>
      obtain ⟨x, hx, rfl, hA, hlt⟩ := getT id o hl ho
      obtain ⟨cur, e', fz, q1, q2, q3, q4, q5, q6⟩ := r2 id _ p hA hs'
      exact ⟨cur, e', fz, q1, q2, fun i v v' h1 h2 => by
        have hf := hflat id x.1 x.2 hx v (List.mem_of_getElem? h1)
        rw [@flat1_same I K0 hk0 σ v v' hf (q3 i v v' h1 h2)]
        exact @Flat.vrel I' _ _ (flat1_flat hf), q4, q5, fun h => by cases h⟩
    | some x =>
      rw [ofL_get, hl] at ho
      cases ho
      obtain ⟨c, hA, hm, _⟩ := hfit _ (lookB_mem hl)
      obtain ⟨hlen, hm⟩ := matchL_ok hm
      obtain ⟨cur, e', fz, q1, q2, q3, q4, q5, q6⟩ := r2 id _ p hA hs'
      refine ⟨cur, e', fz, q1, by rw [← hlen]; exact q2, fun i v v' h1 h2 => ?_, q4, q5, q6⟩
      obtain ⟨a, ha, hma⟩ := hm i v h1
      exact matchV_ok hP hma (q3 i a v' ha h2)
  · obtain ⟨x, hx, hxo⟩ := getA i o ho
    obtain ⟨y, hy, _⟩ := getA j o' ho'
    have hp' : σ i = some p := by unfold cutS at hp; split at hp; exact hp; cases hp
    have hq' : σ j = some q := by unfold cutS at hq; split at hq; exact hq; cases hq
    exact r3 i j p q x y hij hx hy hp' hq' (by rw [hxo]; exact hown)
  · have hs' : σ id = some p := by unfold cutS at hs; split at hs; exact hs; cases hs
    exact r4 id p hs'
  · have hid : n ≤ id := hid
    refine ⟨?_, by unfold cutS; rw [if_neg (by omega)]⟩
    rw [ofL_get]
    cases hl : lookB L id with
    | none =>
      simp only
      rw [oget, List.getElem?_eq_none (by omega)]
      rfl
    | some x =>
      obtain ⟨c, _, _, hlt, _⟩ := hfit _ (lookB_mem hl)
      exact absurd hlt (by omega)
theorem owned_cut {tabs : OTabs} {PL : List (Value × Value)} {σ : Sg} {A : H} {L : Blks} {n : Nat} (hf : fitL PL tabs.length n A L = true) {b : Nat} (h : Owned (cutS n σ) (ofL tabs L n) b) : Owned σ A b := by
  obtain ⟨id, p, o, hs, hb, hg, ho⟩ := h
  have hs' : σ id = some p := by unfold cutS at hs; split at hs; exact hs; cases hs
  rw [ofL_get] at hg
  cases hl : lookB L id with
  | none =>
    rw [hl] at hg
    simp only at hg
    rw [oget, Option.map_eq_some_iff] at hg
    obtain ⟨x, _, rfl⟩ := hg
    cases ho
  | some x =>
    rw [hl] at hg
    cases hg
    obtain ⟨c, hA, _⟩ := fitB_ok (List.all_eq_true.1 hf _ (lookB_mem hl))
    exact ⟨id, p, _, hs', hb, hA, rfl⟩
end Go.Ab
