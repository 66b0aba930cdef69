/- The numbers in what is asked for: printed by Say. -/
import Derived.Test.YthlpiipobcomfaaGreatDoorQxSay
set_option linter.all false
set_option linter.unusedSectionVars false
set_option linter.unusedVariables false
set_option linter.unusedSimpArgs false
namespace Go.Proofs.YthlpiipobcomfaaGreatDoor
open Go Go.Ab Go.Proofs Go.RowKit
set_option maxRecDepth 1000000
noncomputable def E_n0 : List Ent := []
noncomputable def T_n0 : Tolds := []
theorem run_n0 : (letI : Kn := knT E_n0; kF (codeT T_n0) (natsT T_n0) 3000 16 [.complex .f64 16 8761656927589077346292486859828044841228437770246846844531878945681010313758227398909065541367644596029105976163734938360995478392279901474691254655348180081259324102570581343518186356995912825696707905672212736843457146062711301613092145637691061815843381692818863687987708326339324849179185022678701568433367815934534900881681697320997405554612815812732794050556185551824996185217290584924590771246148153340169053721425225826187608073, .int .i64 0, .int .i64 2] (otabH tabs) (fun r _ => eqx 3 r (.int .i64 9))) = true := by kernel_rfl
set_option maxHeartbeats 4000000 in
theorem n0 (k : Nat)  (r32 : (0 : Int) ≤ (2 * (k : Int)) ∧ (2 * (k : Int)) < 256) {w : World} (hL : Laid w) : Calls Tryz.prog 16 #[.string ⟨#[9, 0, 1, 0, 0, 0, 0, 0, 0, (UInt8.ofNat (2 * (k : Int)).toNat), 0, 0, 0, 0, 0, 0]⟩, .int .i64 0, .int .i64 2] w fun e w' => e = .returned (.int .i64 9) ∧ Below w.heap.size w w' := by
  have hp : ∀ e ∈ ([] : List (Nat × Value)), plainV e.2 = true := by intro e he; simp only [List.mem_cons, List.mem_nil_iff, or_false] at he; (repeat (first | (rcases he with rfl | he; rfl) | (subst he; rfl))); (try cases he)
  have hb : ∀ e ∈ ([(2, UInt8.ofNat ((2 * (k : Int)) : Int).toNat)] : List (Nat × UInt8)), 2 ≤ e.1 := by intro e he; simp only [List.mem_cons, List.mem_nil_iff, or_false] at he; (repeat (first | (rcases he with rfl | he; exact Nat.le_of_ble_eq_true rfl) | (subst he; exact Nat.le_of_ble_eq_true rfl))); (try cases he)
  letI I : Unk := sayB [] hp [(2, UInt8.ofNat ((2 * (k : Int)) : Int).toNat)] hb
  have t32 : Unk.val 32 = .int .u8 (2 * (k : Int)) := val_u8 (j := 2) rfl (by decide) rfl r32
  have hE : AllTrue E_n0 := trivial
  exact say_of I hE (T := T_n0) trivial run_n0 (fun _ => (.cons (st_ropeK (bl := [(32, UInt8.ofNat ((2 * (k : Int)) : Int).toNat)]) ⟨⟨Nat.le_of_ble_eq_true rfl, u8_of t32 r32⟩, trivial⟩ (by kernel_rfl) _) (.cons (.int _ _) (.cons (.int _ _) .nil)))) (den_int _ _) hL
noncomputable def E_n8 : List Ent := [⟨.toInt .i64, [.chan (some 32)], .chan (some 6000)⟩,
  ⟨.bin .or, [.int .i64 0, .chan (some 6000)], .chan (some 6000)⟩,
  ⟨.bin .shl, [.chan (some 6000), .int .u64 8], .chan (some 6001)⟩,
  ⟨.bin .or, [.chan (some 6001), .int .i64 0], .chan (some 6001)⟩]
noncomputable def T_n8 : Tolds := []
theorem run_n8 : (letI : Kn := knT E_n8; kF (codeT T_n8) (natsT T_n8) 3000 16 [.complex .f64 16 8761656927589077346292486859828044841228437770246846844531878945681010313758227398909065541367644596029105976163734938360995478392279901474691254655348180081259324102570581343518186356995912825696707905672212736843457146062711301613092145637691061815843381692818863687987708326339324849179185022678701568433367815934534900881681697320997405554612815812732794050556185551824996185217290584924590771246148153340169053721425225826187608073, .int .i64 8, .int .i64 4] (otabH tabs) (fun r _ => eqx 3 r (.chan (some 6001)))) = true := by kernel_rfl
set_option maxHeartbeats 4000000 in
theorem n8 (k : Nat) (h0 : IntKind.i64.wrap (2 * (k : Int)) = (2 * (k : Int))) (h1 : ((opV .or .i64 0 (2 * (k : Int))) : Int) = (2 * (k : Int))) (h2 : (0 : Int) ≤ (2 * (k : Int)) * 256) (h3 : ((2 * (k : Int)) : Int) * 256 < 9223372036854775808) (h4 : (((2 * (k : Int)) * 256) : Int) = (512 * (k : Int))) (h5 : ((opV .or .i64 (512 * (k : Int)) 0) : Int) = (512 * (k : Int))) (r32 : (0 : Int) ≤ (2 * (k : Int)) ∧ (2 * (k : Int)) < 256) {w : World} (hL : Laid w) : Calls Tryz.prog 16 #[.string ⟨#[9, 0, 1, 0, 0, 0, 0, 0, 0, (UInt8.ofNat (2 * (k : Int)).toNat), 0, 0, 0, 0, 0, 0]⟩, .int .i64 8, .int .i64 4] w fun e w' => e = .returned (.int .i64 (512 * (k : Int))) ∧ Below w.heap.size w w' := by
  have hp : ∀ e ∈ ([(6000, .int .i64 (2 * (k : Int))), (6001, .int .i64 (512 * (k : Int)))] : List (Nat × Value)), plainV e.2 = true := by intro e he; simp only [List.mem_cons, List.mem_nil_iff, or_false] at he; (repeat (first | (rcases he with rfl | he; rfl) | (subst he; rfl))); (try cases he)
  have hb : ∀ e ∈ ([(2, UInt8.ofNat ((2 * (k : Int)) : Int).toNat)] : List (Nat × UInt8)), 2 ≤ e.1 := by intro e he; simp only [List.mem_cons, List.mem_nil_iff, or_false] at he; (repeat (first | (rcases he with rfl | he; exact Nat.le_of_ble_eq_true rfl) | (subst he; exact Nat.le_of_ble_eq_true rfl))); (try cases he)
  letI I : Unk := sayB [(6000, .int .i64 (2 * (k : Int))), (6001, .int .i64 (512 * (k : Int)))] hp [(2, UInt8.ofNat ((2 * (k : Int)) : Int).toNat)] hb
  have t32 : Unk.val 32 = .int .u8 (2 * (k : Int)) := val_u8 (j := 2) rfl (by decide) rfl r32
  have t6000 : Unk.val 6000 = .int .i64 (2 * (k : Int)) := rfl
  have t6001 : Unk.val 6001 = .int .i64 (512 * (k : Int)) := rfl
  have hE : AllTrue E_n8 := ⟨ent1 (den_tok t32) rfl (ans_to _ _ _ h0) (st_tok t6000), ent2 (den_int _ _) (den_tok t6000) rfl rfl (ans_bor _ _ _) (st_as h1 (st_tok t6000)), ent2 (den_tok t6000) (den_int _ _) rfl rfl (ans_shlI _ 8 256 _ (by decide) (by decide) h2 h3) (st_as h4 (st_tok t6001)), ent2 (den_tok t6001) (den_int _ _) rfl rfl (ans_bor _ _ _) (st_as h5 (st_tok t6001)), trivial⟩
  exact say_of I hE (T := T_n8) trivial run_n8 (fun _ => (.cons (st_ropeK (bl := [(32, UInt8.ofNat ((2 * (k : Int)) : Int).toNat)]) ⟨⟨Nat.le_of_ble_eq_true rfl, u8_of t32 r32⟩, trivial⟩ (by kernel_rfl) _) (.cons (.int _ _) (.cons (.int _ _) .nil)))) (den_tok t6001) hL
end Go.Proofs.YthlpiipobcomfaaGreatDoor
