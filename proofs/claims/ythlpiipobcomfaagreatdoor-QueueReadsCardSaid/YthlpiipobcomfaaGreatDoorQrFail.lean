/- A read that failed: what is sent, what the law reads of it. -/
/- A read that failed: what the law reads of what was sent. -/
import Derived.Test.YthlpiipobcomfaaGreatDoorQrSt
import Derived.Test.YthlpiipobcomfaaGreatDoorQrSaid
set_option linter.all false
set_option linter.unusedSectionVars false
set_option linter.unusedVariables false
set_option linter.unusedSimpArgs false
namespace Go.Proofs.YthlpiipobcomfaaGreatDoor
open Go Go.Proofs Go.RowKit Go.Lib
set_option maxRecDepth 1000000
set_option maxHeartbeats 4000000 in
theorem endS93 {s : Nat} (hs : s < 32768) {W x : World} {bq oq : Nat} {v : Value} {xs : List Value} (hL : Laid W) (hQ : QW W bq oq v xs x) (hxs : xs.length ≤ 100000)
    (h4 : W.cell? ⟨bq, oq + 4, none⟩ = some (.bool false)) (h5 : W.cell? ⟨bq, oq + 5, none⟩ = some (.bool false)) (h7 : W.cell? ⟨bq, oq + 7, none⟩ = some (.int .i64 1)) (h9 : W.cell? ⟨bq, oq + 9, none⟩ = some (.int .i64 2)) (hf : W.frozen? ⟨bq, oq + 2, none⟩ = false) :
    Calls Tryz.prog 93 #[.pointer (some ⟨bq, oq, none⟩), .agg #[.int .u32 0, .int .u32 0, .int .i64 0, .int .i64 0, .int .i64 9, .int .i64 s]] x fun e y => e = .returned (.tuple #[]) ∧ ∃ v', QW W bq oq v' (xs ++ strCells (endS s)) y := by
  have q7 : ∀ o, (x.alloc o).cell? ⟨bq, oq + 7, none⟩ = some (.int .i64 1) := fun o => by
    rw [World.cell?_alloc_some _ _ _ (by rw [hQ.cell _ (by omega), h7]; rfl), hQ.cell _ (by omega), h7]
  have q9 : ∀ o, (x.alloc o).cell? ⟨bq, oq + 9, none⟩ = some (.int .i64 2) := fun o => by
    rw [World.cell?_alloc_some _ _ _ (by rw [hQ.cell _ (by omega), h9]; rfl), hQ.cell _ (by omega), h9]
  have hQ1 := Lib.hid hQ
  have hxs1 := Lib.hid hxs
  have hq4 := Lib.hid h4
  have hq5 := Lib.hid h5
  have hqf := Lib.hid hf
  clear hQ h4 h5 h7 h9 hf hxs
  go_enter Tryz.func93, Tryz.ntmps93
  go_wp2
  have hba : bits .and .i64 2 65535 = 2 := by decide
  go_region
  go_upto_region 3 with (first | (go_at_call 113; refine (endS113 hs ?_).mono ?_; rotate_left; rintro e w' ⟨rfl, hb⟩))
  case refine_1 => exact ((hQ1.out.laid hL).alloc _).drew
  have hy := Lib.hid (((hQ1.out.below ((Below.refl _ _).alloc (Nat.le_refl _) _)).below ((Below.refl _ _).drew)).below hb)
  clear hb q7 q9
  go_wp2_with (first | (go_at_call 65; refine (send65 5 0 (headS s) ⟨#[]⟩ (endS s) (by show 24 ≤ 8216; omega) (fun y hy => putS92 hs hy) hL hy.out hxs1.out hq4.out hq5.out hqf.out).mono ?_; rintro e y ⟨rfl, v', hQ'⟩))
  go_end0
  exact ⟨rfl, v', hQ'⟩
set_option maxHeartbeats 4000000 in
theorem endedS66 {s : Nat} (hs : s < 32768) {W x : World} {bq oq : Nat} {v : Value} {xs : List Value} (hL : Laid W) (hQ : QW W bq oq v xs x) (hxs : xs.length ≤ 100000)
    (h4 : W.cell? ⟨bq, oq + 4, none⟩ = some (.bool false)) (h5 : W.cell? ⟨bq, oq + 5, none⟩ = some (.bool false)) (h7 : W.cell? ⟨bq, oq + 7, none⟩ = some (.int .i64 1)) (h9 : W.cell? ⟨bq, oq + 9, none⟩ = some (.int .i64 2)) (hf : W.frozen? ⟨bq, oq + 2, none⟩ = false) :
    Calls Tryz.prog 66 #[.pointer (some ⟨bq, oq, none⟩), .int .i64 9, .int .i64 s] x fun e y => e = .returned (.tuple #[]) ∧ ∃ v', QW W bq oq v' (xs ++ strCells (endS s)) y := by
  have hq := Lib.hid (endS93 hs hL hQ hxs h4 h5 h7 h9 hf)
  clear hQ h4 h5 h7 h9 hf hxs
  go_enter Tryz.func66, Tryz.ntmps66
  go_wp2_with (first | (go_at_call 93; refine hq.out.mono ?_; rintro e y ⟨rfl, v', hQ'⟩))
  go_end0
  exact ⟨rfl, v', hQ'⟩
theorem and_i64 (a : Nat) (ha : a < 32768) : bits .and .i64 (a : Int) 32767 = (a : Int) := by
  have e : a &&& 32767 = a := by
    have := Nat.and_two_pow_sub_one_eq_mod a 15
    rw [show (2 : Nat) ^ 15 - 1 = 32767 from rfl] at this
    rw [this]; omega
  show IntKind.i64.wrap ((BitVec.ofInt 64 (a : Int) &&& BitVec.ofInt 64 ((32767 : Nat) : Int)).toNat : Int) = _
  rw [BitVec.toNat_and, ofInt_u64 a (by omega), ofInt_u64 32767 (by omega), e]
  exact IntWalk.i64_in _ (by omega)
/-- What Done leaves of a read that failed. -/
def DonePostS (w : World) (data : ByteArray) (s bq oq bw ow cw bu bt ot : Nat) (y : World) : Prop := ∃ W v, Rdy W bq oq bt ot (w.heap.size + 1) data ∧ QW W bq oq v (strCells (endS s)) y ∧ W.cell? ⟨bq, oq + 13, none⟩ = some (.slice (some ⟨bw, ow, none⟩) 0 cw) ∧ ∀ B, B ≤ bq → B ≤ bw → B ≤ bu → B ≤ w.heap.size → Below B w W
set_option maxHeartbeats 40000000 in
theorem doneS32 (data : ByteArray) {s : Nat} (hs : s < 32768) (hs0 : 0 < s) {w : World} (hL : Laid w) {bq oq bw ow cw bu ou cu bt ot : Nat} (hcw : 1 ≤ cw)
    (ne1 : bq ≠ bw) (ne2 : bq ≠ bu) (ne3 : bq ≠ bt) (ne4 : bw ≠ bu) (ne5 : bw ≠ bt) (ne6 : bu ≠ bt)
    (c13 : w.cell? ⟨bq, oq + 13, none⟩ = some (.slice (some ⟨bw, ow, none⟩) 1 cw)) (c12 : w.cell? ⟨bq, oq + 12, none⟩ = some (.slice (some ⟨bu, ou, none⟩) 1 cu))
    (f13 : w.frozen? ⟨bq, oq + 13, none⟩ = false) (f12 : w.frozen? ⟨bq, oq + 12, none⟩ = false)
    (cbw : w.cell? ⟨bw, ow, none⟩ = some (.pointer (some ⟨bt, ot, none⟩))) (cbu : w.cell? ⟨bu, ou, none⟩ = some (.pointer (some ⟨bt, ot, none⟩))) (fbw : w.frozen? ⟨bw, ow, none⟩ = false) (fbu : w.frozen? ⟨bu, ou, none⟩ = false)
    (t0 : w.cell? ⟨bt, ot, none⟩ = some (.int .i64 1)) (t4 : w.cell? ⟨bt, ot + 4, none⟩ = some (.int .i64 9)) (t6 : w.cell? ⟨bt, ot + 6, none⟩ = some (.bool false))
    (q2 : w.cell? ⟨bq, oq + 2, none⟩ = some (.slice none 0 0)) (q4 : w.cell? ⟨bq, oq + 4, none⟩ = some (.bool false)) (q5 : w.cell? ⟨bq, oq + 5, none⟩ = some (.bool false)) (q7 : w.cell? ⟨bq, oq + 7, none⟩ = some (.int .i64 1)) (q9 : w.cell? ⟨bq, oq + 9, none⟩ = some (.int .i64 2)) (qf : w.frozen? ⟨bq, oq + 2, none⟩ = false) (h4 : 4 ≤ bq) (h5 : 4 ≤ bw) (h6 : 4 ≤ bu) :
    Calls Tryz.prog 32 #[.pointer (some ⟨bq, oq, none⟩), .int .i64 1, .agg #[.int .i64 s, .int .i64 0, .int .i64 0, .int .i64 0, .int .i64 0, .string data]] w fun e y => e = .returned (.bool true) ∧ DonePostS w data s bq oq bw ow cw bu bt ot y := by
  have lq : bq < w.heap.size := block_lt_of_cell c13
  have lw : bw < w.heap.size := block_lt_of_cell cbw
  have lu : bu < w.heap.size := block_lt_of_cell cbu
  have lt : bt < w.heap.size := block_lt_of_cell t0
  have hba : bits .and .i64 (s : Int) 32767 = s := and_i64 s hs
  have hse : ((s : Int) == 0) = false := by simp; omega
  go_enter Tryz.func32, Tryz.ntmps32
  go_wp2_with (first | (go_at_call 59; refine (idx59 bw ow cw bt ot w.heap.size ?_ ?_ ?_).mono ?_; rotate_right; rintro e w' ⟨rfl, m, rfl⟩) | (go_at_call 60; refine (del60 bw ow cw bt ot hcw ?_ ?_).mono ?_; rotate_right; rintro e w' ⟨rfl, m2, rfl⟩) | (go_at_call 61; refine (delf61 bu ou cu bt ot w.heap.size ?_ ?_ ?_ ?_).mono ?_; rotate_right; rintro e w' ⟨rfl, m3, rfl⟩))
  · refine gen_world (fun W => Rdy W bq oq bt ot (w.heap.size + 1) data ∧ W.cell? ⟨bq, oq + 13, none⟩ = some (.slice (some ⟨bw, ow, none⟩) 0 cw) ∧ ∀ B, B ≤ bq → B ≤ bw → B ≤ bu → B ≤ w.heap.size → Below B w W) ?_ ?_
    · refine ⟨⟨?_, ?_, ?_, ?_, ?_, ?_, ?_, h4, ?_, ?_, ?_, Ne.symm ne3, by omega⟩, ?_, ?_⟩
      case refine_1 => exact hL.keep (by simp; omega) fun k hk => (chain5 (by omega) (by omega) (by omega) (by omega) : Below 4 w _).block k hk
      case refine_12 => exact fun B b1 b2 b3 b4 => chain5 b1 b2 b3 b4
      case refine_11 =>
        go_simp
        exact World.cell?_setCell_same _ _ _ (u := .slice (some ⟨bw, ow, none⟩) 1 cw) (by go_simp)
      all_goals go_simp
    intro W ⟨hR, hW13, hWB⟩
    refine wp_loop_rounds 1 ?_; rw [rounds_succ]
    have hQ := hR.start
    have ht4 := hR.t4
    have ht6 := hR.t6
    go_wp2_with (first | (go_at_call 66; with_reducible refine (endedS66 hs hR.laid hQ (by simp) hR.q4 hR.q5 hR.q7 hR.q9 hR.qf).mono ?_; rintro e y ⟨rfl, v', hQ'⟩; have ht6y := hQ'.other hR.t6 hR.ne1; have hQ2 := Lib.hid hQ'; clear hQ'))
    go_wp2
    go_ret
    exact ⟨rfl, W, v', hR, hQ2.out, hW13, hWB⟩
  all_goals go_simp
end Go.Proofs.YthlpiipobcomfaaGreatDoor
namespace Go.Proofs.YthlpiipobcomfaaGreatDoor
open Go Go.Proofs Go.RowKit Go.Lib
set_option maxRecDepth 1000000
def restS (s : Nat) : Nat → ByteArray
  | 0 => endS s
  | _ + 1 => ⟨#[]⟩
def tpsS (s : Nat) : Nat → List Value
  | 0 => []
  | _ + 1 => [.int .i64 5, .int .i64 0, .string (headS s), .string ⟨#[]⟩]
set_option maxHeartbeats 40000000 in
theorem saidS15 {s : Nat} (hs : s < 32768) {W x : World} {bq oq : Nat} {v : Value} (hL : Laid W) (hQ : QW W bq oq v (strCells (endS s)) x) (hf : W.frozen? ⟨bq, oq + 2, none⟩ = false) :
    Calls Tryz.prog 15 #[.pointer (some ⟨bq, oq, none⟩)] x fun e y => ∃ l, e = .returned l ∧ y.ownsRow W.heap.size 32 4 l 1 (tpsS s 1) ∧ QW W bq oq (.slice none 0 0) [] y := by
  have ht := Lib.hid (take22 hQ hf)
  clear hQ
  go_enter Tryz.func15, Tryz.ntmps15
  go_wp2_with (first | (go_at_call 22; refine ht.out.mono ?_; rintro e y ⟨rfl, hQ'⟩))
  go_loopw [3, 4] (fun l o wr => ∃ j, j ≤ 1 ∧ o = .string (restS s j) ∧ wr.ownsRow W.heap.size 32 4 l j (tpsS s j) ∧ QW W bq oq (.slice none 0 0) [] wr)
    (fun _ o _ => lenOf o)
  case atStart => exact ⟨0, by omega, rfl, World.ownsRow_nil _ _ _ _, hQ'⟩
  case round =>
    obtain ⟨j, hj, rfl, hown, hQ⟩ := hrel
    have hQ1 := Lib.hid hQ
    have hown1 := Lib.hid hown
    clear hQ hown
    rcases Nat.lt_or_ge 0 j with hj2 | hj2
    · obtain rfl : j = 1 := by omega
      rw [show restS s 1 = ⟨#[]⟩ from rfl]
      go_wp2
      go_ret
      exact ⟨_, rfl, hown1.out, hQ1.out⟩
    · obtain rfl : j = 0 := by omega
      obtain ⟨sz, hszz⟩ : ∃ sz : Nat, sz = 24 := ⟨_, rfl⟩
      have z1 : 1 ≤ sz := by omega
      have z2 : sz ≤ (endS s).size := by rw [hszz]; exact Nat.le_refl _
      have hne : (endS s).toList.isEmpty = false := by rw [ByteArray.toList_eq]; rfl
      have z3 : (endS s).extract sz (endS s).size = ⟨#[]⟩ := by
        rw [hszz]
        apply ByteArray.ext
        rw [ByteArray.data_extract]
        exact Array.extract_empty_of_size_le_start (Nat.le_refl _)
      have hget0 := getS42 hs (hQ1.out.laid hL)
      rw [show (24 : Int) = (sz : Int) by omega] at hget0
      have hget1 := Lib.hid hget0
      clear hget0 hszz
      rw [show restS s 0 = endS s from rfl]
      have z3 := Lib.hid z3
      have i1 : (0 : Int) ≤ (sz : Int) := by omega
      have i2 : (sz : Int) ≤ ((endS s).size : Int) := by omega
      have i3 : ((sz : Int) == 0) = false := by simp; omega
      go_upto_region 7 with (first | (go_at_call 42; refine hget1.out.mono ?_; rintro e w' ⟨rfl, hb⟩))
      have hown2 := ownsRow_below hown1.out hb
      have hQ2 := Lib.hid (hQ1.out.below hb)
      have hsz := hQ2.out.size
      obtain ⟨i0, hi, hz0, hz1, hz2⟩ := info_parts info32
      go_wp2_with (first | (at_builtin; refine wpList_append_own _ rfl _ _ 29 rfl W.heap.size 32 i0 _ 4 48 und29 hi hz0 hz1 hz2 rfl (by decide) _ 0 (tpsS s 0) rfl ((hown2.alloc _).alloc _) ⟨w'.heap.size + 1, 0, none⟩ 1 1 [.int .i64 5, .int .i64 0, .string (headS s), .string ⟨#[]⟩] rfl rfl ?c1 ?c2 ?c3 ?c4 ?c5 ?_))
      case c1 =>
        intro k u hk
        match k, hk with
        | 0, hk => simp at hk; subst hk; simp [Addr.add]
        | 1, hk => simp at hk; subst hk; simp [Addr.add]
        | 2, hk => simp at hk; subst hk; simp [Addr.add]
        | 3, hk => simp at hk; subst hk; simp [Addr.add]
        | k + 4, hk => simp at hk
      case c2 => intro u hu; simp at hu; rcases hu with rfl | rfl | rfl | rfl <;> rfl
      case c3 => unfold maxLen; omega
      case c4 => omega
      case c5 => simp; omega
      intro v' w1 ho' hg _
      have hQ3 := Lib.hid (((hQ2.out.below ((Below.refl _ _).alloc (Nat.le_refl _) _)).below ((Below.refl _ _).alloc (Nat.le_refl _) _)).grown ((hown2.alloc _).alloc _) hg)
      have hc4 := box_cell hown2 hg
      have ho2 := Lib.hid ho'
      clear ho' hg hown2
      go_wp2
      go_roundw
      case rel => exact ⟨1, by omega, rfl, ho2.out, hQ3.out⟩
      case measure => show (⟨#[]⟩ : ByteArray).size < (endS s).size; have : (⟨#[]⟩ : ByteArray).size = 0 := rfl; omega
end Go.Proofs.YthlpiipobcomfaaGreatDoor
