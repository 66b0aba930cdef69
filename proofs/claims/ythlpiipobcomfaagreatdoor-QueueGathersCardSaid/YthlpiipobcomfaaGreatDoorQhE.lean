/- The queue when a write's last data come, or all its data come with it; the task that waits. -/
import Derived.Test.YthlpiipobcomfaaGreatDoorQhF
set_option linter.all false
set_option linter.unusedSectionVars false
set_option linter.unusedVariables false
set_option linter.unusedSimpArgs false
namespace Go.Proofs.YthlpiipobcomfaaGreatDoor
open Go Go.Ab Go.Proofs Go.RowKit
set_option maxRecDepth 1000000
set_option maxHeartbeats 4000000 in
theorem feed_last {W0 w : World} {d blk hd da : ByteArray} {n have_ : Nat} {v : Value} (h : StG W0 d blk n v w) (hh : Hd hd have_ n) (hn : da.size = n) (n1 : 1 ≤ n) (n2 : n ≤ 16384) (hd1 : d.size = have_) (hd2 : have_ ≤ 40000) :
    Calls Tryz.prog 13 #[v, .string (MdN 4 n hd da)] w fun e w' => e = .returned (.tuple #[]) ∧ ∃ J : Unk, @Unk.val J 6085 = .string (d ++ da) ∧ @Unk.val J 6052 = .string blk ∧ AtL W0 J (ofL tabs L_ml N_ml) [P4] [v] w' := by
  obtain ⟨I, t0, t1, t2, h⟩ := h
  obtain ⟨M, hM⟩ : ∃ M, M = MdN 4 n hd da := ⟨_, rfl⟩
  obtain ⟨s1, p0, p1, p2, p3, p7, p11, pa, pn⟩ := hh
  have ms : M.size = 24 + n := by rw [hM]; unfold MdN; rw [md_size]; omega
  have m0 : byteAt M 0 = 6 := by rw [hM]; unfold MdN; rw [md_byte 0 (by omega)]; rfl
  have m1 : byteAt M 1 = 4 := by rw [hM]; unfold MdN; rw [md_byte 1 (by omega)]; rfl
  have m2 : byteAt M 2 = 24 := by rw [hM]; unfold MdN; rw [md_byte 2 (by omega)]; rfl
  have m3 : byteAt M 3 = 24 := by rw [hM]; unfold MdN; rw [md_byte 3 (by omega)]; rfl
  have m4 : byteAt M 4 = (24 + (n : Int)) % 256 := by rw [hM]; unfold MdN; rw [md_byte 4 (by omega)]; exact u8n _ (by omega) (by omega)
  have m5 : byteAt M 5 = (24 + (n : Int)) / 256 := by rw [hM]; unfold MdN; rw [md_byte 5 (by omega)]; exact u8n _ (by omega) (by omega)
  have m6 : byteAt M 6 = 0 := by rw [hM]; unfold MdN; rw [md_byte 6 (by omega)]; rfl
  have m7 : byteAt M 7 = 0 := by rw [hM]; unfold MdN; rw [md_byte 7 (by omega)]; rfl
  have hz : (⟨#[6, 4, 24, 24, UInt8.ofNat ((24 + (n : Int)) % 256).toNat, UInt8.ofNat ((24 + (n : Int)) / 256).toNat, 0, 0]⟩ : ByteArray).size = 8 := rfl
  have x0 : M.extract (8 : Int).toNat (24 : Int).toNat = hd := by rw [hM]; exact ext_mid _ _ _ _ _ rfl (by rw [hz, s1]; rfl)
  have x1 : M.extract (24 : Int).toNat (24 + (n : Int)).toNat = da := by
    rw [hM]
    exact ext_ap_r _ _ _ _ (by rw [ByteArray.size_append, hz, s1]; rfl) (by rw [ByteArray.size_append, hz, s1]; omega)
  have x2 : M.extract 0 (24 + (n : Int)).toNat = M := ext_all _ _ (by omega)
  have x3 : M.extract (24 + (n : Int)).toNat M.size = ⟨#[]⟩ := ext_none _ _ (by omega)
  have x4 : (⟨#[]⟩ : ByteArray) ++ M = M := empty_ap2 M
  obtain ⟨J, hE, j0, j1, j2, j3, j4, _⟩ : ∃ I : Unk, @AllTrue I E_ml ∧ @Unk.val I 6050 = .string d ∧ @Unk.val I 6051 = .int .i64 (n : Int) ∧ @Unk.val I 6052 = .string blk ∧ @Unk.val I 6053 = .string M ∧ @Unk.val I 6085 = .string (d ++ da) ∧ True := by
    have c4 := byteAt_nn hd 4; have c5 := byteAt_nn hd 5; have c6 := byteAt_nn hd 6; have c8 := byteAt_nn hd 8; have c9 := byteAt_nn hd 9; have c10 := byteAt_nn hd 10
    have d4 := byteAt_lt hd 4; have d5 := byteAt_lt hd 5; have d6 := byteAt_lt hd 6; have d8 := byteAt_lt hd 8; have d9 := byteAt_lt hd 9; have d10 := byteAt_lt hd 10
    apply use_ml M hd da d blk n have_ n
    all_goals first | (with_reducible assumption) | (show 0 + M.size < 9223372036854775808; omega) | omega | ((with_reducible refine wrU _ ?_ ?_) <;> omega) | ((with_reducible refine wrI _ ?_ ?_) <;> omega) | ((with_reducible refine or0 _ ?_ ?_) <;> omega) | ((with_reducible refine or0r _ ?_ ?_) <;> omega) | ((with_reducible refine or8 _ _ ?_ ?_ ?_ ?_) <;> omega) | ((with_reducible refine or16 _ _ ?_ ?_ ?_ ?_) <;> omega) | ((with_reducible refine or24 _ _ ?_ ?_ ?_ ?_) <;> omega)
  rw [← hM]
  have h1 := at_turn (I' := J) h (L := A_md) (n := 738) (by kernel_rfl) (fun _ h => h) rfl (by decide) (turns3 t0 t1 t2 j0 j1 j2)
  refine (at_run h1 hE (T := T_ml) trivial run_ml (fun σ hl => lrel_add hl (@st_tok J 6053 _ j3 σ)) (fun _ h => h) rfl (by decide) (turns_self (by kernel_rfl)) (@den_tup J _ _ .nil)).mono ?_
  rintro e w' ⟨rfl, h2⟩
  exact ⟨rfl, J, j4, j2, h2⟩
/-- One task waits, with these data; the queue is open. -/
def One (W0 : World) (data : ByteArray) (v : Value) (rc : Value) (w : World) : Prop := ∃ b o c bq oq, rc = .slice (some ⟨b, o, none⟩) 1 c ∧ v = .pointer (some ⟨bq, oq, none⟩) ∧ w.cell? ⟨b, o, none⟩ = some (.int .i64 1) ∧ w.cell? ⟨b, o + 1, none⟩ = some (.int .i64 0) ∧ w.cell? ⟨b, o + 3, none⟩ = some (.string data) ∧ w.cell? ⟨bq, oq + 15, none⟩ = some (.bool false) ∧ Below W0.heap.size W0 w
theorem tasks_last {W0 w : World} {data blk : ByteArray} {v : Value} {J : Unk} (t0 : @Unk.val J 6085 = .string data) (t1 : @Unk.val J 6052 = .string blk) (h : AtL W0 J (ofL tabs L_ml N_ml) [P4] [v] w) :
    Calls Tryz.prog 18 #[v] w fun e w' => ∃ rc, e = .returned rc ∧ One W0 data v rc w' := by
  refine (at_runP h (E := E_tl) (T := T_tl) trivial trivial run_tl (fun _ h => h) (fun _ h => h) rfl (by decide) (turns_self (by kernel_rfl)) rfl).mono ?_
  rintro e w' ⟨rc, rfl, h'⟩
  obtain ⟨⟨b, o, c, rfl, hc⟩, h2⟩ := at_slice h' rfl (by decide)
  obtain ⟨bq, oq, rfl, hq⟩ := at_ptr h2 rfl
  exact ⟨_, rfl, b, o, c, bq, oq, rfl, rfl, hc 0 _ _ rfl (@den_int J _ _), hc 1 _ _ rfl (@den_int J _ _), hc 3 _ _ rfl (@den_tok J _ _ t0), hq 15 _ _ rfl (@den_bool J _), h'.below⟩
set_option maxHeartbeats 4000000 in
theorem feed_in (k : Nat) (k1 : 1 ≤ k) (k2 : k ≤ 8) (d : ByteArray) (hd : d.size = 512 * k) {W0 w : World} {v : Value} (h : ∀ I, AtL W0 I (ofL tabs L_beg N_beg) [P4] [v] w) :
    Calls Tryz.prog 13 #[v, .string (WrH k ((72 + 512 * (k : Int)) % 256) ((72 + 512 * (k : Int)) / 256) ++ d)] w fun e w' => e = .returned (.tuple #[]) ∧ ∃ I : Unk, @Unk.val I 6015 = .string d ∧ @Unk.val I 32 = .int .u8 (2 * (k : Int)) ∧ @Unk.val I 48 = .int .u8 ((k : Int) - 1) ∧ AtL W0 I (ofL tabs L_fw N_fw) [P4] [v] w' := by
  obtain ⟨H, hH⟩ : ∃ H, H = WrH k ((72 + 512 * (k : Int)) % 256) ((72 + 512 * (k : Int)) / 256) := ⟨_, rfl⟩
  obtain ⟨M, hM⟩ : ∃ M, M = H ++ d := ⟨_, rfl⟩
  have hs : H.size = 72 := by rw [hH]; rfl
  have ms : M.size = 72 + 512 * k := by rw [hM, ByteArray.size_append, hs, hd]
  have mb : ∀ i, i < 72 → byteAt M i = byteAt H i := fun i hi => by rw [hM]; exact byteAt_ap _ _ _ (by omega)
  have m0 : byteAt M 0 = 4 := by rw [mb 0 (by omega), hH]; rfl
  have m1 : byteAt M 1 = 0 := by rw [mb 1 (by omega), hH]; rfl
  have m2 : byteAt M 2 = 72 := by rw [mb 2 (by omega), hH]; rfl
  have m3 : byteAt M 3 = 72 := by rw [mb 3 (by omega), hH]; rfl
  have m4 : byteAt M 4 = (72 + 512 * (k : Int)) % 256 := by rw [mb 4 (by omega), hH]; exact u8n _ (by omega) (by omega)
  have m5 : byteAt M 5 = (72 + 512 * (k : Int)) / 256 := by rw [mb 5 (by omega), hH]; exact u8n _ (by omega) (by omega)
  have m6 : byteAt M 6 = 0 := by rw [mb 6 (by omega), hH]; rfl
  have m7 : byteAt M 7 = 0 := by rw [mb 7 (by omega), hH]; rfl
  have x0 : M.extract (8 : Int).toNat (72 : Int).toNat = Hd64 k := by
    have e : M.extract 8 72 = H.extract 8 72 := by
      rw [hM]
      apply ba_eq
      rw [ext_list, ext_list, ap_list, List.take_append_of_le_length (by rw [len_list, hs]; omega)]
    show M.extract 8 72 = _
    rw [e, hH]
    apply ba_eq
    rw [ext_list]
    kernel_rfl
  have x1 : M.extract (72 : Int).toNat (72 + 512 * (k : Int)).toNat = d := by
    rw [hM]
    exact ext_ap_r _ _ _ _ (by rw [hs]; rfl) (by rw [hs]; omega)
  have x2 : M.extract 0 (72 + 512 * (k : Int)).toNat = M := ext_all _ _ (by omega)
  have x3 : M.extract (72 + 512 * (k : Int)).toNat M.size = ⟨#[]⟩ := ext_none _ _ (by omega)
  have x4 : (⟨#[]⟩ : ByteArray) ++ M = M := empty_ap2 M
  have x0' := x0
  unfold Hd64 at x0'
  obtain ⟨J, hE, j0, j1, j2, j3, _⟩ : ∃ I : Unk, @AllTrue I E_fw ∧ @Unk.val I 6000 = .string M ∧ @Unk.val I 32 = .int .u8 (2 * (k : Int)) ∧ @Unk.val I 48 = .int .u8 ((k : Int) - 1) ∧ @Unk.val I 6015 = .string d ∧ True := by
    apply use_fw k M d
    all_goals first | (with_reducible assumption) | (show 0 + M.size < 9223372036854775808; omega) | omega | ((with_reducible refine wrU _ ?_ ?_) <;> omega) | ((with_reducible refine wrI _ ?_ ?_) <;> omega) | ((with_reducible refine or0 _ ?_ ?_) <;> omega) | ((with_reducible refine or0r _ ?_ ?_) <;> omega) | ((with_reducible refine and_mask _ ?_ ?_) <;> omega) | ((with_reducible refine or8 _ _ ?_ ?_ ?_ ?_) <;> omega) | ((with_reducible refine or16 _ _ ?_ ?_ ?_ ?_) <;> omega) | ((with_reducible refine or24 _ _ ?_ ?_ ?_ ?_) <;> omega)
  rw [← hH, ← hM]
  refine (at_run (h J) hE (T := T_fw) trivial run_fw (fun σ hl => lrel_add hl (@st_tok J 6000 _ j0 σ)) (fun _ h => h) rfl (by decide) (turns_self (by kernel_rfl)) (@den_tup J _ _ .nil)).mono ?_
  rintro e w' ⟨rfl, h2⟩
  exact ⟨rfl, J, j3, j1, j2, h2⟩
theorem tasks_in {k : Nat} (k1 : 1 ≤ k) (k2 : k ≤ 8) {W0 w : World} {data : ByteArray} {v : Value} {J : Unk} (t0 : @Unk.val J 6015 = .string data) (t1 : @Unk.val J 32 = .int .u8 (2 * (k : Int))) (t2 : @Unk.val J 48 = .int .u8 ((k : Int) - 1)) (h : AtL W0 J (ofL tabs L_fw N_fw) [P4] [v] w) :
    Calls Tryz.prog 18 #[v] w fun e w' => ∃ rc, e = .returned rc ∧ One W0 data v rc w' := by
  refine (at_runP h (E := E_tw) (T := T_tw) trivial trivial run_tw (fun _ h => h) (fun _ h => h) rfl (by decide) (turns_self (by kernel_rfl)) rfl).mono ?_
  rintro e w' ⟨rc, rfl, h'⟩
  obtain ⟨⟨b, o, c, rfl, hc⟩, h2⟩ := at_slice h' rfl (by decide)
  obtain ⟨bq, oq, rfl, hq⟩ := at_ptr h2 rfl
  exact ⟨_, rfl, b, o, c, bq, oq, rfl, rfl, hc 0 _ _ rfl (@den_int J _ _), hc 1 _ _ rfl (@den_int J _ _), hc 3 _ _ rfl (@den_tok J _ _ t0), hq 15 _ _ rfl (@den_bool J _), h'.below⟩
end Go.Proofs.YthlpiipobcomfaaGreatDoor
