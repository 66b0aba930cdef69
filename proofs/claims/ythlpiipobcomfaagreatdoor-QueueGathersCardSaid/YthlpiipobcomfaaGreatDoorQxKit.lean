/- Small lemmas for walks by hand: a world under another name; results in a cell and in a slot; a block known whole. -/
/- The reference's small functions: sizes, plans, first bytes, numbers out of bytes. -/
import Derived.Test.YthlpiipobcomfaaGreatDoorProg
import Derived.WalkKit
import Derived.WalkLawsBesides
import Derived.WalkSpells
import Derived.Laws.Rows
import Derived.Deep.RegionHeld3
import Derived.Deep.QuietTactic
import Derived.BigQuiet
import Derived.Deep.Cut
import Derived.Deep.DeepCutAuto
import Derived.Lib.Hide
set_option linter.all false
set_option linter.unusedSectionVars false
set_option linter.unusedVariables false
set_option linter.unusedSimpArgs false
namespace Go.Proofs.YthlpiipobcomfaaGreatDoor
open Go Go.Proofs Go.RowKit
set_option maxRecDepth 1000000
theorem gen_world {P : Program} {c : Code} {Q : Exit → Act → World → Prop} {a : Act} {w : World} (R : World → Prop) (h : R w) (k : ∀ wx, R wx → c.wp P Q a wx) : c.wp P Q a w := k w h
theorem results_cell_tmp {P : Program} {fn : Func} {p q : Tmp} {ty : TypeId} (h : fn.results = #[.cell p ty, .tmp q]) (tmps : Array Value) (w : World) (g : Nat) (t : TypeId) (cs : Array Value) (fr : Nat × Nat) (d : TypeDesc)
    (hp : tmps.getD p undef = .pointer (some ⟨g, 0, none⟩)) (hg : w.heap[g]? = some (.cells cs t fr))
    (hu : P.underlying ty = some d) (hd : (match d with | .struct _ | .array _ _ => true | _ => false) = true) (hi : (P.info? ty).map (·.size) = some cs.size) :
    (results fn tmps).run P w = .ok (.tuple #[.agg cs, tmps.getD q undef]) w := by
  have hp' : tmps[p]?.getD undef = .pointer (some ⟨g, 0, none⟩) := by simpa using hp
  simp [results, h, hp', asAddr, run_loadVar_row w g t ty cs fr d hg hu hd hi]
theorem below_step {B : Nat} {W w1 w2 : World} (h1 : Below B W w1) (h2 : Below w1.heap.size w1 w2) (hB : B ≤ W.heap.size) : Below B W w2 := h1.trans (h2.mono (Nat.le_trans hB h1.size))
theorem below_lt {B : Nat} {W w1 : World} (h : Below B W w1) {k : Nat} {o : Obj} (hk : k < B) (ho : W.heap[k]? = some o) : w1.heap[k]? = some o := (h.block k hk).trans ho
theorem row5 {w : World} {g : Nat} {a b c d e : Value} {t : TypeId} (h : w.heap[g]? = some (.cells #[a, b, c, d, e] t (0, 0))) :
    w.cell? ⟨g, 0, none⟩ = some a ∧ w.cell? ⟨g, 1, none⟩ = some b ∧ w.cell? ⟨g, 2, none⟩ = some c ∧ w.cell? ⟨g, 3, none⟩ = some d ∧ w.cell? ⟨g, 4, none⟩ = some e ∧
    w.frozen? ⟨g, 0, none⟩ = false ∧ w.frozen? ⟨g, 1, none⟩ = false ∧ w.frozen? ⟨g, 2, none⟩ = false ∧ w.frozen? ⟨g, 3, none⟩ = false ∧ w.frozen? ⟨g, 4, none⟩ = false :=
  ⟨cell_of_row w g 0 _ t _ h, cell_of_row w g 1 _ t _ h, cell_of_row w g 2 _ t _ h, cell_of_row w g 3 _ t _ h, cell_of_row w g 4 _ t _ h, frozen_of_row w g 0 _ t h, frozen_of_row w g 1 _ t h, frozen_of_row w g 2 _ t h, frozen_of_row w g 3 _ t h, frozen_of_row w g 4 _ t h⟩
theorem row5_set {w : World} {g : Nat} {a b c d e a' b' c' d' e' : Value} {t : TypeId} (h : w.heap[g]? = some (.cells #[a, b, c, d, e] t (0, 0))) :
    (((((w.setCell ⟨g, 0, none⟩ a').setCell ⟨g, 1, none⟩ b').setCell ⟨g, 2, none⟩ c').setCell ⟨g, 3, none⟩ d').setCell ⟨g, 4, none⟩ e').heap[g]? = some (.cells #[a', b', c', d', e'] t (0, 0)) := by
  have h0 := heap_setCell_same w g 0 _ t a' h
  have h1 := heap_setCell_same _ g 1 _ t b' h0
  have h2 := heap_setCell_same _ g 2 _ t c' h1
  have h3 := heap_setCell_same _ g 3 _ t d' h2
  have h4 := heap_setCell_same _ g 4 _ t e' h3
  exact h4
theorem bcell {W w1 : World} (hb : Below W.heap.size W w1) : (∀ b o, b < W.heap.size → w1.cell? ⟨b, o, none⟩ = W.cell? ⟨b, o, none⟩) ∧ (∀ b o, b < W.heap.size → w1.frozen? ⟨b, o, none⟩ = W.frozen? ⟨b, o, none⟩) :=
  ⟨fun b o h => hb.cell (p := ⟨b, o, none⟩) h, fun b o h => hb.frozen (p := ⟨b, o, none⟩) h⟩
/-- The first eight bytes of a message. -/
def le4 (n : Nat) : List UInt8 := [UInt8.ofNat n, UInt8.ofNat (n / 256), UInt8.ofNat (n / 65536), UInt8.ofNat (n / 16777216)]
def hdr (ty fl n : Nat) : ByteArray := ⟨⟨[UInt8.ofNat ty, UInt8.ofNat fl, 24, if n = 0 then 0 else 24] ++ le4 (24 + n)⟩⟩
end Go.Proofs.YthlpiipobcomfaaGreatDoor
namespace Go.Proofs.YthlpiipobcomfaaGreatDoor
open Go Go.Proofs Go.RowKit
set_option maxRecDepth 1000000
theorem size_ba (a : ByteArray) : a.size = a.data.size := rfl
theorem hdr_at {s : ByteArray} {ty fl n : Nat} (hs : s.extract 0 8 = hdr ty fl n) (_h8 : 8 ≤ s.size) (i : Nat) (hi : i < 8) (h : i < s.size) : s[i] = (hdr ty fl n)[i]'(by simp [hdr, le4, size_ba]; omega) := by
  have e : (s.extract 0 8)[i]'(by rw [hs]; simp [hdr, le4, size_ba]; omega) = s[i] := by
    rw [ByteArray.getElem_extract]; simp
  rw [← e]
  congr 1
set_option maxHeartbeats 4000000 in
theorem size43_7 (w : World) : Calls Tryz.prog 43 #[.int .i64 7] w fun e w' => e = .returned (.int .i64 16) ∧ w = w' := by
  go_enter Tryz.func43, Tryz.ntmps43; go_wp2; go_ret; exact ⟨rfl, rfl⟩
set_option maxHeartbeats 4000000 in
theorem most44_7 (w : World) : Calls Tryz.prog 44 #[.int .i64 7] w fun e w' => e = .returned (.int .i64 16384) ∧ w = w' := by
  go_enter Tryz.func44, Tryz.ntmps44; go_wp2; go_ret; exact ⟨rfl, rfl⟩
set_option maxHeartbeats 4000000 in
theorem planned81_7 (n : Nat) (hn : n ≤ 8192) (w : World) : Calls Tryz.prog 81 #[.int .i64 7, .int .i64 n, .bool false, .bool false] w fun e w' => e = .returned (.agg #[.int .i64 24, .int .i64 24, .int .i64 (24 + n), .int .i64 (24 + n)]) ∧ Below w.heap.size w w' := by
  go_enter Tryz.func81, Tryz.ntmps81
  go_wp2_with (first | (go_at_call 43; refine (size43_7 _).mono ?_; rintro e w' ⟨rfl, rfl⟩))
  exact bodyPost_ret (results_cell_row rfl _ _ w.heap.size 131 #[.int .i64 24, .int .i64 24, .int .i64 (24 + n), .int .i64 (24 + n)] (0, 0) _ rfl (heap_alloc2_old _ _ _) rfl rfl rfl) rfl ⟨rfl, ((Below.refl _ _).alloc (Nat.le_refl _) _).alloc (by simp) _⟩
set_option maxHeartbeats 4000000 in
theorem there105 (s : ByteArray) (h : 8 ≤ s.size) (hz : s.size ≤ 40000) (w : World) : Calls Tryz.prog 105 #[.string s, .int .i64 4, .int .i64 4] w fun e w' => e = .returned (.bool true) ∧ w = w' := by
  have h1 : (4 : Int) ≤ (s.size : Int) := by omega
  have h2 : (4 : Int) ≤ (s.size : Int) - 4 := by omega
  go_enter Tryz.func105, Tryz.ntmps105; go_wp2; go_ret; exact ⟨rfl, rfl⟩
set_option maxHeartbeats 4000000 in
theorem little80 (s : ByteArray) (n : Nat) (h : 8 ≤ s.size) (hz : s.size ≤ 40000) (hn : n ≤ 8192) (b4 : Hid (s[4] = UInt8.ofNat (24 + n))) (b5 : Hid (s[5] = UInt8.ofNat ((24 + n) / 256))) (b6 : Hid (s[6] = UInt8.ofNat ((24 + n) / 65536))) (b7 : Hid (s[7] = UInt8.ofNat ((24 + n) / 16777216))) (w : World) : Calls Tryz.prog 80 #[.string s, .int .i64 4, .int .i64 4] w fun e w' => e = .returned (.tuple #[.int .u64 (24 + n : Nat), .bool true]) ∧ w = w' := by
  obtain ⟨m, hm⟩ : ∃ m, m = 24 + n := ⟨_, rfl⟩
  have hm2 : m ≤ 8216 := by omega
  have e7 : (s[7]).toNat = 0 := by rw [b7.out, show (24 + n) / 16777216 = 0 by omega]; rfl
  have e6 : (s[6]).toNat = 0 := by rw [b6.out, show (24 + n) / 65536 = 0 by omega]; rfl
  have e5 : (s[5]).toNat = m / 256 := by rw [b5.out, ← hm]; simp; omega
  have e4 : (s[4]).toNat = m % 256 := by rw [b4.out, ← hm]; simp
  rw [← hm]
  clear b4 b5 b6 b7 hm
  have h4 : (4 : Int) < (s.size : Int) := by omega
  have h5 : (5 : Int) < (s.size : Int) := by omega
  have h6 : (6 : Int) < (s.size : Int) := by omega
  have h7 : (7 : Int) < (s.size : Int) := by omega
  go_enter Tryz.func80, Tryz.ntmps80
  go_wp2_with (first | (go_at_call 105; refine (there105 s h hz _).mono ?_; rintro e w' ⟨rfl, rfl⟩))
  go_loop [8, 9] (fun v i => (i = .int .i64 3 ∧ v = .int .u64 0) ∨ (i = .int .i64 2 ∧ v = .int .u64 0) ∨ (i = .int .i64 1 ∧ v = .int .u64 0) ∨ (i = .int .i64 0 ∧ v = .int .u64 (m / 256 : Nat)) ∨ (i = .int .i64 (-1) ∧ v = .int .u64 m))
    (fun _ i => (intOf i + 1).toNat)
  case atStart => exact .inl ⟨rfl, rfl⟩
  case round =>
    rcases hrel with ⟨rfl, rfl⟩ | ⟨rfl, rfl⟩ | ⟨rfl, rfl⟩ | ⟨rfl, rfl⟩ | ⟨rfl, rfl⟩
    · go_wp2
      go_round
      case rel => exact .inr (.inl ⟨rfl, rfl⟩)
      case measure => simp [intOf]
    · go_wp2
      go_round
      case rel => exact .inr (.inr (.inl ⟨rfl, rfl⟩))
      case measure => simp [intOf]
    · go_wp2
      go_round
      case rel => exact .inr (.inr (.inr (.inl ⟨rfl, by simp⟩)))
      case measure => simp [intOf]
    · go_wp2
      go_round
      case rel => exact .inr (.inr (.inr (.inr ⟨rfl, by simp; omega⟩)))
      case measure => simp [intOf]
    · go_wp2
      go_ret2
      exact ⟨rfl, rfl⟩
theorem bits_or_i64_nat (a b : Nat) (ha : a < 9223372036854775808) (hb : b < 9223372036854775808) : bits .or .i64 (a : Int) (b : Int) = ((a ||| b : Nat) : Int) := by
  have hx : a ||| b < 2 ^ 63 := Nat.or_lt_two_pow (by omega) (by omega)
  show IntKind.i64.wrap ((BitVec.ofInt 64 (a : Int) ||| BitVec.ofInt 64 (b : Int)).toNat : Int) = _
  rw [BitVec.toNat_or, ofInt_u64 a (by omega), ofInt_u64 b (by omega)]
  exact IntWalk.i64_in _ (by omega)
theorem or_i64 (a b : Nat) (ha : a < 16777216) (hb : b < 256) : bits .or .i64 ((a : Int) * 256) (b : Int) = (a : Int) * 256 + b := by
  have e : ((a : Int) * 256) = ((a * 256 : Nat) : Int) := by simp
  rw [e, bits_or_i64_nat (a * 256) b (by omega) (by omega)]
  have h := Nat.shiftLeft_add_eq_or_of_lt (i := 8) (by omega : b < 2 ^ 8) a
  rw [Nat.shiftLeft_eq] at h
  rw [show (256 : Nat) = 2 ^ 8 from rfl, ← h]
  simp
theorem or_i64_0 : bits .or .i64 0 0 = 0 := by decide
set_option maxHeartbeats 4000000 in
theorem num16_4 (s : ByteArray) (m : Nat) (hm : m < 65536) (h : 8 ≤ s.size) (b0 : (s[4]).toNat = m % 256) (b1 : (s[5]).toNat = m / 256) (b2 : (s[6]).toNat = 0) (b3 : (s[7]).toNat = 0) (w : World) : Calls Tryz.prog 16 #[.string s, .int .i64 4, .int .i64 4] w fun e w' => e = .returned (.int .i64 m) ∧ w = w' := by
  have h0 : (4 : Int) < (s.size : Int) := by omega
  have h1 : (5 : Int) < (s.size : Int) := by omega
  have h2 : (6 : Int) < (s.size : Int) := by omega
  have h3 : (7 : Int) < (s.size : Int) := by omega
  have eo : bits .or .i64 ((m : Int) / 256 * 256) ((m : Int) % 256) = m := by
    have := or_i64 (m / 256) (m % 256) (by omega) (by omega)
    simp only [Int.natCast_ediv, Int.natCast_emod] at this
    rw [show ((256 : Nat) : Int) = 256 from rfl] at this
    rw [this]; omega
  have ez : bits .or .i64 0 ((m : Int) / 256) = (m : Int) / 256 := by
    have := or_i64 0 (m / 256) (by omega) (by omega)
    simpa using this
  go_enter Tryz.func16, Tryz.ntmps16
  go_wp2
  go_loop [7, 8] (fun v i => (i = .int .i64 3 ∧ v = .int .i64 0) ∨ (i = .int .i64 2 ∧ v = .int .i64 0) ∨ (i = .int .i64 1 ∧ v = .int .i64 0) ∨ (i = .int .i64 0 ∧ v = .int .i64 (m / 256 : Nat)) ∨ (i = .int .i64 (-1) ∧ v = .int .i64 m))
    (fun _ i => (intOf i + 1).toNat)
  case atStart => exact .inl ⟨rfl, rfl⟩
  case round =>
    rcases hrel with ⟨rfl, rfl⟩ | ⟨rfl, rfl⟩ | ⟨rfl, rfl⟩ | ⟨rfl, rfl⟩ | ⟨rfl, rfl⟩
    · go_wp2
      go_round
      case rel => exact .inr (.inl ⟨rfl, by simp [or_i64_0]⟩)
      case measure => simp [intOf]
    · go_wp2
      go_round
      case rel => exact .inr (.inr (.inl ⟨rfl, by simp [or_i64_0]⟩))
      case measure => simp [intOf]
    · go_wp2
      go_round
      case rel => exact .inr (.inr (.inr (.inl ⟨rfl, by simp⟩)))
      case measure => simp [intOf]
    · go_wp2
      go_round
      case rel => exact .inr (.inr (.inr (.inr (⟨rfl, by simp⟩))))
      case measure => simp [intOf]
    · go_wp2
      go_ret
      exact ⟨rfl, rfl⟩
set_option maxHeartbeats 4000000 in
theorem num16_8 (s : ByteArray) (m : Nat) (hm : m < 65536) (h : 12 ≤ s.size) (b0 : (s[8]).toNat = m % 256) (b1 : (s[9]).toNat = m / 256) (b2 : (s[10]).toNat = 0) (b3 : (s[11]).toNat = 0) (w : World) : Calls Tryz.prog 16 #[.string s, .int .i64 8, .int .i64 4] w fun e w' => e = .returned (.int .i64 m) ∧ w = w' := by
  have h0 : (8 : Int) < (s.size : Int) := by omega
  have h1 : (9 : Int) < (s.size : Int) := by omega
  have h2 : (10 : Int) < (s.size : Int) := by omega
  have h3 : (11 : Int) < (s.size : Int) := by omega
  have eo : bits .or .i64 ((m : Int) / 256 * 256) ((m : Int) % 256) = m := by
    have := or_i64 (m / 256) (m % 256) (by omega) (by omega)
    simp only [Int.natCast_ediv, Int.natCast_emod] at this
    rw [show ((256 : Nat) : Int) = 256 from rfl] at this
    rw [this]; omega
  have ez : bits .or .i64 0 ((m : Int) / 256) = (m : Int) / 256 := by
    have := or_i64 0 (m / 256) (by omega) (by omega)
    simpa using this
  go_enter Tryz.func16, Tryz.ntmps16
  go_wp2
  go_loop [7, 8] (fun v i => (i = .int .i64 3 ∧ v = .int .i64 0) ∨ (i = .int .i64 2 ∧ v = .int .i64 0) ∨ (i = .int .i64 1 ∧ v = .int .i64 0) ∨ (i = .int .i64 0 ∧ v = .int .i64 (m / 256 : Nat)) ∨ (i = .int .i64 (-1) ∧ v = .int .i64 m))
    (fun _ i => (intOf i + 1).toNat)
  case atStart => exact .inl ⟨rfl, rfl⟩
  case round =>
    rcases hrel with ⟨rfl, rfl⟩ | ⟨rfl, rfl⟩ | ⟨rfl, rfl⟩ | ⟨rfl, rfl⟩ | ⟨rfl, rfl⟩
    · go_wp2
      go_round
      case rel => exact .inr (.inl ⟨rfl, by simp [or_i64_0]⟩)
      case measure => simp [intOf]
    · go_wp2
      go_round
      case rel => exact .inr (.inr (.inl ⟨rfl, by simp [or_i64_0]⟩))
      case measure => simp [intOf]
    · go_wp2
      go_round
      case rel => exact .inr (.inr (.inr (.inl ⟨rfl, by simp⟩)))
      case measure => simp [intOf]
    · go_wp2
      go_round
      case rel => exact .inr (.inr (.inr (.inr (⟨rfl, by simp⟩))))
      case measure => simp [intOf]
    · go_wp2
      go_ret
      exact ⟨rfl, rfl⟩
set_option maxHeartbeats 4000000 in
theorem num16_0 (s : ByteArray) (m : Nat) (hm : m < 65536) (h : 2 ≤ s.size) (b0 : (s[0]).toNat = m % 256) (b1 : (s[1]).toNat = m / 256) (w : World) : Calls Tryz.prog 16 #[.string s, .int .i64 0, .int .i64 2] w fun e w' => e = .returned (.int .i64 m) ∧ w = w' := by
  have h0 : (0 : Int) < (s.size : Int) := by omega
  have h1 : (1 : Int) < (s.size : Int) := by omega
  have eo : bits .or .i64 ((m : Int) / 256 * 256) ((m : Int) % 256) = m := by
    have := or_i64 (m / 256) (m % 256) (by omega) (by omega)
    simp only [Int.natCast_ediv, Int.natCast_emod] at this
    rw [show ((256 : Nat) : Int) = 256 from rfl] at this
    rw [this]; omega
  have ez : bits .or .i64 0 ((m : Int) / 256) = (m : Int) / 256 := by
    have := or_i64 0 (m / 256) (by omega) (by omega)
    simpa using this
  go_enter Tryz.func16, Tryz.ntmps16
  go_wp2
  go_loop [7, 8] (fun v i => (i = .int .i64 1 ∧ v = .int .i64 0) ∨ (i = .int .i64 0 ∧ v = .int .i64 (m / 256 : Nat)) ∨ (i = .int .i64 (-1) ∧ v = .int .i64 m))
    (fun _ i => (intOf i + 1).toNat)
  case atStart => exact .inl ⟨rfl, rfl⟩
  case round =>
    rcases hrel with ⟨rfl, rfl⟩ | ⟨rfl, rfl⟩ | ⟨rfl, rfl⟩
    · go_wp2
      go_round
      case rel => exact .inr (.inl ⟨rfl, by simp⟩)
      case measure => simp [intOf]
    · go_wp2
      go_round
      case rel => exact .inr (.inr (⟨rfl, by simp⟩))
      case measure => simp [intOf]
    · go_wp2
      go_ret
      exact ⟨rfl, rfl⟩
/-- The head of a message with data. -/
def head16 (a n : Nat) : ByteArray := ⟨⟨[9, 0, 0, 0] ++ le4 a ++ le4 n ++ [0, 0, 0, 0]⟩⟩
theorem num_a (a n : Nat) (ha : a < 65536) (w : World) : Calls Tryz.prog 16 #[.string (head16 a n), .int .i64 4, .int .i64 4] w fun e w' => e = .returned (.int .i64 a) ∧ w = w' :=
  num16_4 (head16 a n) a ha (by simp [head16, le4, size_ba]) (by simp [head16, le4, ByteArray.getElem_eq_getElem_data]) (by simp [head16, le4, ByteArray.getElem_eq_getElem_data]; omega) (by simp [head16, le4, ByteArray.getElem_eq_getElem_data]; omega) (by simp [head16, le4, ByteArray.getElem_eq_getElem_data]; omega) w
theorem num_n (a n : Nat) (ha : n < 65536) (w : World) : Calls Tryz.prog 16 #[.string (head16 a n), .int .i64 8, .int .i64 4] w fun e w' => e = .returned (.int .i64 n) ∧ w = w' :=
  num16_8 (head16 a n) n ha (by simp [head16, le4, size_ba]) (by simp [head16, le4, ByteArray.getElem_eq_getElem_data]) (by simp [head16, le4, ByteArray.getElem_eq_getElem_data]; omega) (by simp [head16, le4, ByteArray.getElem_eq_getElem_data]; omega) (by simp [head16, le4, ByteArray.getElem_eq_getElem_data]; omega) w
theorem num_c (a n : Nat) (w : World) : Calls Tryz.prog 16 #[.string (head16 a n), .int .i64 0, .int .i64 2] w fun e w' => e = .returned (.int .i64 9) ∧ w = w' :=
  num16_0 (head16 a n) 9 (by omega) (by simp [head16, le4, size_ba]) (by simp [head16, le4, ByteArray.getElem_eq_getElem_data]) (by simp [head16, le4, ByteArray.getElem_eq_getElem_data]) w
end Go.Proofs.YthlpiipobcomfaaGreatDoor
