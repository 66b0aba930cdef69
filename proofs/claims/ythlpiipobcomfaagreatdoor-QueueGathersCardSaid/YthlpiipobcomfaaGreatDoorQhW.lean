/- The small functions of the law. -/
import Derived.Test.YthlpiipobcomfaaGreatDoorQhE
import Derived.Test.YthlpiipobcomfaaGreatDoorQhN
import Derived.WalkKit
set_option linter.all false
set_option linter.unusedSectionVars false
set_option linter.unusedVariables false
set_option linter.unusedSimpArgs false
namespace Go.Proofs.YthlpiipobcomfaaGreatDoor
open Go Go.Ab Go.Proofs Go.RowKit Go.Lib
set_option maxRecDepth 1000000
theorem mod_ex (a : Int) (n : Nat) (n1 : 1 ≤ n) (n2 : n ≤ 70000) : ∃ m : Nat, m < n ∧ (wrap64 (a.tmod (n : Int) + (n : Int))).tmod (n : Int) = (m : Int) := by
  have hn : (a.tmod (n : Int)).natAbs < n := by
    rw [Int.natAbs_tmod]
    exact Nat.mod_lt _ (by simp; omega)
  have e : wrap64 (a.tmod (n : Int) + (n : Int)) = a.tmod (n : Int) + n := by simp only [wrap64]; omega
  rw [e, Int.tmod_eq_emod_of_nonneg (by omega)]
  have h0 := Int.emod_nonneg (a.tmod (n : Int) + n) (show (n : Int) ≠ 0 by omega)
  have h1 := Int.emod_lt_of_pos (a.tmod (n : Int) + n) (show (0 : Int) < n by omega)
  exact ⟨((a.tmod (n : Int) + n) % n).toNat, by omega, by omega⟩
set_option maxHeartbeats 4000000 in
theorem mod10 (a : Int) (n : Nat) (n1 : 1 ≤ n) (n2 : n ≤ 70000) (w : World) : Calls Tryz.prog 10 #[.int .i64 a, .int .i64 (n : Int)] w fun e w' => (∃ m : Nat, m < n ∧ e = .returned (.int .i64 (m : Int))) ∧ w = w' := by
  have h1 : ((n : Int) < 1) = False := by simp; omega
  obtain ⟨m, hm, hv⟩ := mod_ex a n n1 n2
  go_enter Tryz.func10, Tryz.ntmps10
  go_wp2
  go_ret
  exact ⟨⟨m, hm, rfl⟩, rfl⟩
theorem run11b : (letI : Kn := knNone; kF code nats 3000 11 [.chan (some 32)] (otabH tabs) (fun r _ => match r with
  | .complex .f64 l _ => Nat.beq l 512
  | _ => false)) = true := by kernel_rfl
theorem block11 (b : Int) (hb : 0 ≤ b ∧ b < 256) {w : World} (hL : Laid w) : Calls Tryz.prog 11 #[.int .u8 b] w fun e w' => (∃ s : ByteArray, s.size = 512 ∧ e = .returned (.string s)) ∧ Below w.heap.size w w' := by
  letI : Kn := knNone
  letI I : Unk := sayB [] (fun _ h => by cases h) [(2, UInt8.ofNat b.toNat)] (by intro e he; simp only [List.mem_cons, List.mem_nil_iff, or_false] at he; subst he; exact Nat.le_of_ble_eq_true rfl)
  have t32 : Unk.val 32 = .int .u8 b := val_u8 (j := 2) rfl (by decide) rfl hb
  haveI : KnOk := knNone_ok
  obtain ⟨m, r, A', h1, h2⟩ := quick run11b
  obtain ⟨σ0, hr⟩ := hL I knNone knNone_ok
  refine ((evalF_ok mixed ext code_body code_nat m).calls _ _ _ _ _ h1 _ w [.int .u8 b] hr (.cons (st_tok t32 _) .nil)).mono ?_
  rintro e w' ⟨rc, σ', rfl, k1, k2, k3⟩
  split at h2
  · cases k1 with
    | rope l n s hs =>
      have hl := hs.len
      rw [decR_len] at hl
      refine ⟨⟨s, ?_, rfl⟩, k3.os, k3.tape, k3.output, k3.size, fun b hb => k3.frame b hb fun ho => ?_⟩
      · rw [← bytes_len, ← hl]; exact Nat.eq_of_beq_eq_true h2
      · obtain ⟨id, p, o, _, _, hg, hown⟩ := ho
        rw [otabH_ro _ hg] at hown
        cases hown
  · cases h2
theorem run20b : (letI : Kn := knNone; kF code nats 3000 20 [] (otabH tabs) (fun r _ => eqx 3 r (.bool true))) = true := by kernel_rfl
theorem wakes20 (w : World) (hL : Laid w) : Calls Tryz.prog 20 #[] w fun e w' => e = .returned (.bool true) ∧ Below w.heap.size w w' :=
  told_of (.bool _) run20b (fun σ => @LRel.nil (bitsI 0) σ) hL
set_option maxHeartbeats 4000000 in
theorem closed19 {bq oq : Nat} {w : World} (h : w.cell? ⟨bq, oq + 15, none⟩ = some (.bool false)) : Calls Tryz.prog 19 #[.pointer (some ⟨bq, oq, none⟩)] w fun e w' => e = .returned (.bool false) ∧ w = w' := by
  go_enter Tryz.func19, Tryz.ntmps19
  go_wp2
  go_ret
  exact ⟨rfl, rfl⟩
theorem opor_l (a : Int) (h0 : 0 ≤ a) (h1 : a < 9223372036854775808) : opV .or .i64 0 a = a := by
  obtain ⟨a, rfl⟩ := Int.eq_ofNat_of_zero_le h0
  show IntKind.i64.wrap ((BitVec.ofInt 64 0 ||| BitVec.ofInt 64 (a : Int)).toNat : Int) = _
  rw [BitVec.toNat_or, show (BitVec.ofInt 64 0).toNat = 0 from rfl, ofInt_toNat (a : Int) (by omega) (by omega), Nat.zero_or, show ((a : Int)).toNat = a by omega]
  exact wrI _ (by omega) (by omega)
theorem opor_r (a : Int) (h0 : 0 ≤ a) (h1 : a < 9223372036854775808) : opV .or .i64 a 0 = a := by
  obtain ⟨a, rfl⟩ := Int.eq_ofNat_of_zero_le h0
  show IntKind.i64.wrap ((BitVec.ofInt 64 (a : Int) ||| BitVec.ofInt 64 0).toNat : Int) = _
  rw [BitVec.toNat_or, show (BitVec.ofInt 64 0).toNat = 0 from rfl, ofInt_toNat (a : Int) (by omega) (by omega), Nat.or_zero, show ((a : Int)).toNat = a by omega]
  exact wrI _ (by omega) (by omega)
theorem numc16 (k : Nat) (k1 : 1 ≤ k) (k2 : k ≤ 64) {w : World} (hL : Laid w) : Calls Tryz.prog 16 #[.string (H16 k), .int .i64 0, .int .i64 2] w fun e w' => e = .returned (.int .i64 9) ∧ Below w.heap.size w w' := n0 k (by omega) hL
set_option maxHeartbeats 4000000 in
theorem numn16 (k : Nat) (k1 : 1 ≤ k) (k2 : k ≤ 64) {w : World} (hL : Laid w) : Calls Tryz.prog 16 #[.string (H16 k), .int .i64 8, .int .i64 4] w fun e w' => e = .returned (.int .i64 (512 * (k : Int))) ∧ Below w.heap.size w w' := by
  apply n8 k
  all_goals first | exact hL | omega | ((with_reducible refine wrI _ ?_ ?_) <;> omega) | ((with_reducible refine opor_l _ ?_ ?_) <;> omega) | ((with_reducible refine opor_r _ ?_ ?_) <;> omega)
end Go.Proofs.YthlpiipobcomfaaGreatDoor
