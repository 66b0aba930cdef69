/- The queue fed with a write, asked for what it sent and for its tasks. -/
import Derived.Test.YthlpiipobcomfaaGreatDoorQhK
set_option linter.all false
set_option linter.unusedSectionVars false
set_option linter.unusedVariables false
set_option linter.unusedSimpArgs false
namespace Go.Proofs.YthlpiipobcomfaaGreatDoor
open Go Go.Ab Go.Proofs Go.RowKit
set_option maxRecDepth 1000000
abbrev P4 : Value := .pointer (some ⟨4, 0, none⟩)
theorem lrel_add {I : Unk} {σ : Ab.Sg} {a b c d : Value} (h : @LRel I σ [a] [c]) (hv : @VRel I σ b d) : @LRel I σ [a, b] [c, d] := by
  letI := I
  obtain ⟨v, r, e, h1, h2⟩ := h.cons_inv
  cases e
  exact .cons h1 (.cons hv .nil)
theorem at_slice {W0 : World} {I : Unk} {L : Blks} {n id l cap : Nat} {vs cs : List Value} {rc : Value} {w : World} (h : AtL W0 I (ofL tabs L n) (.slice (some ⟨id, 0, none⟩) l cap :: vs) (rc :: cs) w) {ty : TypeId} {c : List Value} (hl : lookB L id = some (ty, c)) (hl0 : 0 < l) :
    (∃ b o cap', rc = .slice (some ⟨b, o, none⟩) l cap' ∧ ∀ (j : Nat) a cv, c[j]? = some a → @Den I a cv → w.cell? ⟨b, o + j, none⟩ = some cv) ∧ AtL W0 I (ofL tabs L n) vs cs w := by
  letI := I
  obtain ⟨σ, h1, h2, h3⟩ := h.st
  obtain ⟨v, r, e, hv, hr⟩ := h1.cons_inv
  cases e
  have hA : cellsAt (ofL tabs L n) id = some c := by unfold cellsAt; rw [ofL_get, hl]
  refine ⟨?_, ⟨⟨σ, hr, h2, h3⟩, h.below⟩⟩
  cases hv with
  | slice off l c1 c' hs hc =>
    rename_i p
    refine ⟨p.b, p.sh + 0, c', rfl, fun j a cv hj hd => ?_⟩
    obtain ⟨v', e1, e2, _⟩ := rel_cell h2 hA hs j hj
    rw [hd σ v' e2] at e1
    exact e1
  | sliceEnd off b o hs =>
    exact absurd hl0 (by omega)
theorem at_ptr {W0 : World} {I : Unk} {L : Blks} {n id : Nat} {vs cs : List Value} {rc : Value} {w : World} (h : AtL W0 I (ofL tabs L n) (.pointer (some ⟨id, 0, none⟩) :: vs) (rc :: cs) w) {ty : TypeId} {c : List Value} (hl : lookB L id = some (ty, c)) :
    ∃ b o, rc = .pointer (some ⟨b, o, none⟩) ∧ ∀ (j : Nat) a cv, c[j]? = some a → @Den I a cv → w.cell? ⟨b, o + j, none⟩ = some cv := by
  letI := I
  obtain ⟨σ, h1, h2, h3⟩ := h.st
  obtain ⟨v, r, e, hv, hr⟩ := h1.cons_inv
  cases e
  have hA : cellsAt (ofL tabs L n) id = some c := by unfold cellsAt; rw [ofL_get, hl]
  cases hv with
  | ptr off hs =>
    rename_i p
    refine ⟨p.b, p.sh + 0, rfl, fun j a cv hj hd => ?_⟩
    obtain ⟨v', e1, e2, _⟩ := rel_cell h2 hA hs j hj
    rw [hd σ v' e2] at e1
    exact e1
theorem at_any {W0 : World} {I I' : Unk} {L : Blks} {n : Nat} {vs cs : List Value} {w : World} (h : AtL W0 I (ofL tabs L n) vs cs w) (hf : (tabsIn tabs 0 (ofL tabs L n) && fitL [] 4 n (ofL tabs L n) L) = true) (hcl : vs.all (closed n) = true) (hn : 4 ≤ n) : AtL W0 I' (ofL tabs L n) vs cs w :=
  at_turn h hf (fun _ h => h) hcl hn (fun p hp => by cases hp)
theorem begun_at {W0 w : World} (hL : Laid w) (hb : Below W0.heap.size W0 w) : Calls Tryz.prog 12 #[] w fun e w' => ∃ b o, e = .returned (.pointer (some ⟨b, o, none⟩)) ∧ ∀ I, AtL W0 I (ofL tabs L_beg N_beg) [P4] [.pointer (some ⟨b, o, none⟩)] w' := by
  have h0 := at_start hL hb (sayI [] (fun _ h => by cases h))
  refine (at_runP h0 (E := E_beg) (T := T_beg) trivial trivial run_beg (fun _ h => h) (fun _ h => h) rfl (by decide) (turns_self (by kernel_rfl)) rfl).mono ?_
  rintro e w' ⟨rc, rfl, h⟩
  obtain ⟨b, o, rfl, _⟩ := at_ptr h rfl
  exact ⟨b, o, rfl, fun I => at_any h (by kernel_rfl) rfl (by decide)⟩
theorem feed_no (k : Nat) (k1 : 1 ≤ k) (k2 : k ≤ 64) {W0 w : World} {v : Value} (h : ∀ I, AtL W0 I (ofL tabs L_beg N_beg) [P4] [v] w) :
    Calls Tryz.prog 13 #[v, .string (Wr k)] w fun e w' => e = .returned (.tuple #[]) ∧ ∃ I, @Unk.val I 32 = .int .u8 (2 * (k : Int)) ∧ @Unk.val I 48 = .int .u8 ((k : Int) - 1) ∧ @Unk.val I 6003 = .int .i64 (512 * (k : Int)) ∧ AtL W0 I (ofL tabs L_fd N_fd) [P4] [v] w' := by
  obtain ⟨I, hE, t32, t48, t6003, _⟩ : ∃ I : Unk, @AllTrue I E_fd ∧ @Unk.val I 32 = .int .u8 (2 * (k : Int)) ∧ @Unk.val I 48 = .int .u8 ((k : Int) - 1) ∧ @Unk.val I 6003 = .int .i64 (512 * (k : Int)) ∧ True := by
    apply use_fd k
    all_goals first | omega | ((with_reducible refine wrU _ ?_ ?_) <;> omega) | ((with_reducible refine wrI _ ?_ ?_) <;> omega) | ((with_reducible refine and_mask _ ?_ ?_) <;> omega) | ((with_reducible refine or0 _ ?_ ?_) <;> omega) | ((with_reducible refine or0r _ ?_ ?_) <;> omega)
  refine (at_run (h I) (T := T_fd) hE trivial run_fd (fun σ hl => lrel_add hl (@st_ropeK I [(32, UInt8.ofNat (2 * (k : Int)).toNat), (48, UInt8.ofNat ((k : Int) - 1).toNat)] ⟨⟨Nat.le_of_ble_eq_true rfl, @u8_of I _ _ t32 (by omega)⟩, ⟨Nat.le_of_ble_eq_true rfl, @u8_of I _ _ t48 (by omega)⟩, trivial⟩ 72 _ (Wr k) (by kernel_rfl) σ)) (fun _ h => h) rfl (by decide) (turns_self (by kernel_rfl)) (@den_tup I _ _ .nil)).mono ?_
  rintro e w' ⟨rfl, h'⟩
  exact ⟨rfl, I, t32, t48, t6003, h'⟩
/-- The head of what is asked for. -/
def H16 (k : Nat) : ByteArray := ⟨#[9, 0, 1, 0, 0, 0, 0, 0, 0, UInt8.ofNat (2 * (k : Int)).toNat, 0, 0, 0, 0, 0, 0]⟩
theorem said_at (k : Nat) (k1 : 1 ≤ k) (k2 : k ≤ 64) {W0 w : World} {v : Value} {I : Unk} (t32 : @Unk.val I 32 = .int .u8 (2 * (k : Int))) (h : AtL W0 I (ofL tabs L_fd N_fd) [P4] [v] w) :
    Calls Tryz.prog 15 #[v] w fun e w' => ∃ b o c, e = .returned (.slice (some ⟨b, o, none⟩) 1 c) ∧ w'.cell? ⟨b, o, none⟩ = some (.int .i64 9) ∧ w'.cell? ⟨b, o + 2, none⟩ = some (.string (H16 k)) ∧ AtL W0 I (ofL tabs L_sd N_sd) [P4] [v] w' := by
  refine (at_runP h (E := E_sd) (T := T_sd) trivial trivial run_sd (fun _ h => h) (fun _ h => h) rfl (by decide) (turns_self (by kernel_rfl)) rfl).mono ?_
  rintro e w' ⟨rc, rfl, h'⟩
  obtain ⟨⟨b, o, c, rfl, hc⟩, h2⟩ := at_slice h' rfl (by decide)
  refine ⟨b, o, c, rfl, ?_, ?_, h2⟩
  · exact hc 0 _ _ rfl (@den_int I _ _)
  · exact hc 2 _ _ rfl (@den_ropeK I [(32, UInt8.ofNat (2 * (k : Int)).toNat)] ⟨⟨Nat.le_of_ble_eq_true rfl, @u8_of I _ _ t32 (by omega)⟩, trivial⟩ 16 _ (H16 k) (by kernel_rfl))
/-- A write waits for its data: d of them are there, lk lack. -/
def StG (W0 : World) (d blk : ByteArray) (lk : Nat) (v : Value) (w : World) : Prop := ∃ I : Unk, @Unk.val I 6050 = .string d ∧ @Unk.val I 6051 = .int .i64 (lk : Int) ∧ @Unk.val I 6052 = .string blk ∧ AtL W0 I (ofL tabs A_md 738) [P4] [v] w
theorem say3 (d : ByteArray) (lk : Nat) (blk : ByteArray) : ∃ I : Unk, @Unk.val I 6050 = .string d ∧ @Unk.val I 6051 = .int .i64 (lk : Int) ∧ @Unk.val I 6052 = .string blk := by
  refine ⟨sayI [(6050, .string d), (6051, .int .i64 (lk : Int)), (6052, .string blk)] ?_, rfl, rfl, rfl⟩
  intro e he
  simp only [List.mem_cons, List.mem_nil_iff, or_false] at he
  rcases he with rfl | rfl | rfl <;> rfl
theorem asked_at (k : Nat) (k1 : 1 ≤ k) (k2 : k ≤ 64) {W0 w : World} {v : Value} {I : Unk} (t32 : @Unk.val I 32 = .int .u8 (2 * (k : Int))) (t48 : @Unk.val I 48 = .int .u8 ((k : Int) - 1)) (t6003 : @Unk.val I 6003 = .int .i64 (512 * (k : Int))) (h : AtL W0 I (ofL tabs L_sd N_sd) [P4] [v] w) : StG W0 ⟨#[]⟩ (Blk k) (512 * k) v w := by
  obtain ⟨I', e0, e1, e2⟩ := say3 ⟨#[]⟩ (512 * k) (Blk k)
  refine ⟨I', e0, e1, e2, ?_⟩
  refine at_turn h (PL := [(.string ⟨#[]⟩, .chan (some 6050)), (.chan (some 6003), .chan (some 6051)), (.complex .f64 64 rope90, .chan (some 6052))]) (by kernel_rfl) (fun _ h => h) rfl (by decide) ?_
  intro p hp σ σ' u hu
  simp only [List.mem_cons, List.mem_nil_iff, or_false] at hp
  rcases hp with rfl | rfl | rfl
  · rw [@den_str I _ σ u hu]; exact @st_tok I' 6050 _ e0 σ'
  · rw [@den_tok I _ _ t6003 σ u hu, show (512 * (k : Int)) = ((512 * k : Nat) : Int) by omega]; exact @st_tok I' 6051 _ e1 σ'
  · rw [@den_ropeK I [(32, UInt8.ofNat (2 * (k : Int)).toNat), (48, UInt8.ofNat ((k : Int) - 1).toNat)] ⟨⟨Nat.le_of_ble_eq_true rfl, @u8_of I _ _ t32 (by omega)⟩, ⟨Nat.le_of_ble_eq_true rfl, @u8_of I _ _ t48 (by omega)⟩, trivial⟩ 64 _ (Blk k) (by kernel_rfl) σ u hu]; exact @st_tok I' 6052 _ e2 σ'
theorem ba_eq {a b : ByteArray} (h : a.data.toList = b.data.toList) : a = b := ByteArray.ext (Array.ext' h)
theorem ext_list (a : ByteArray) (i j : Nat) : (a.extract i j).data.toList = (a.data.toList.take j).drop i := by
  rw [ByteArray.data_extract]
  simp [Array.toList_extract, List.extract_eq_take_drop, List.drop_take]
theorem ap_list (a b : ByteArray) : (a ++ b).data.toList = a.data.toList ++ b.data.toList := by rw [ByteArray.data_append]; simp
theorem len_list (a : ByteArray) : a.data.toList.length = a.size := rfl
theorem ext_mid (a b c : ByteArray) (i j : Nat) (hi : i = a.size) (hj : j = a.size + b.size) : ((a ++ b) ++ c).extract i j = b := by
  subst hi; subst hj
  apply ba_eq
  rw [ext_list, ap_list, ap_list, ← len_list a, ← len_list b]
  rw [List.take_append_of_le_length (by simp), List.take_of_length_le (by simp), List.drop_left]
theorem ext_all (a : ByteArray) (j : Nat) (h : j = a.size) : a.extract 0 j = a := by
  subst h
  apply ba_eq
  rw [ext_list, ← len_list a, List.take_length, List.drop_zero]
theorem ext_none (a : ByteArray) (i : Nat) (h : i = a.size) : a.extract i a.size = ⟨#[]⟩ := by
  subst h
  apply ba_eq
  rw [ext_list, ← len_list a, List.take_length, List.drop_length]
theorem empty_ap2 (a : ByteArray) : (⟨#[]⟩ : ByteArray) ++ a = a := by
  apply ba_eq
  rw [ap_list]; rfl
/-- Three tokens, seen again. -/
theorem turns3 {I J : Unk} {a b c a' b' c' : Nat} {x y z : Value} (h1 : @Unk.val I a = x) (h2 : @Unk.val I b = y) (h3 : @Unk.val I c = z) (k1 : @Unk.val J a' = x) (k2 : @Unk.val J b' = y) (k3 : @Unk.val J c' = z) :
    Turns I J [(.chan (some a), .chan (some a')), (.chan (some b), .chan (some b')), (.chan (some c), .chan (some c'))] := by
  intro p hp σ σ' u hu
  simp only [List.mem_cons, List.mem_nil_iff, or_false] at hp
  rcases hp with rfl | rfl | rfl
  · rw [@den_tok I _ _ h1 σ u hu]; exact @st_tok J a' x k1 σ'
  · rw [@den_tok I _ _ h2 σ u hu]; exact @st_tok J b' y k2 σ'
  · rw [@den_tok I _ _ h3 σ u hu]; exact @st_tok J c' z k3 σ'
theorem tm_eq : A_tm = A_md := rfl
theorem ml_eq : A_ml = A_md := rfl
theorem none_at {W0 w : World} {d blk : ByteArray} {lk : Nat} {v : Value} (h : StG W0 d blk lk v w) : Calls Tryz.prog 18 #[v] w fun e w' => e = .returned (.slice none 0 0) ∧ StG W0 d blk lk v w' := by
  obtain ⟨I, t0, t1, t2, h⟩ := h
  refine (at_run h (E := E_tm) (T := T_tm) trivial trivial (by rw [← tm_eq]; exact run_tm) (fun _ h => h) (fun _ h => h) rfl (by decide) (turns_self (by kernel_rfl)) (fun σ v' hv => by cases hv; rfl)).mono ?_
  rintro e w' ⟨rfl, h'⟩
  exact ⟨rfl, I, t0, t1, t2, h'⟩
theorem md_size {fl : UInt8} {e0 e1 : Int} {hd da : ByteArray} : (Md fl e0 e1 hd da).size = 8 + hd.size + da.size := by
  unfold Md; rw [ByteArray.size_append, ByteArray.size_append]; rfl
theorem md_byte {fl : UInt8} {e0 e1 : Int} {hd da : ByteArray} (i : Nat) (h : i < 8) : byteAt (Md fl e0 e1 hd da) i = byteAt ⟨#[6, fl, 24, 24, UInt8.ofNat e0.toNat, UInt8.ofNat e1.toNat, 0, 0]⟩ i := by
  unfold Md
  rw [byteAt_ap _ _ _ (by rw [ByteArray.size_append]; show i < 8 + hd.size; omega), byteAt_ap _ _ _ h]
/-- What is known of a head. -/
structure Hd (hd : ByteArray) (have_ n : Nat) : Prop where
  size : hd.size = 16
  b0 : byteAt hd 0 = 9
  b1 : byteAt hd 1 = 0
  b2 : byteAt hd 2 = 1
  b3 : byteAt hd 3 = 0
  b7 : byteAt hd 7 = 0
  b11 : byteAt hd 11 = 0
  at_ : byteAt hd 4 + byteAt hd 5 * 256 + byteAt hd 6 * 65536 = (have_ : Int)
  n_ : byteAt hd 8 + byteAt hd 9 * 256 + byteAt hd 10 * 65536 = (n : Int)
set_option maxHeartbeats 4000000 in
theorem feed_mid {W0 w : World} {d blk hd da : ByteArray} {lk n have_ : Nat} {v : Value} (h : StG W0 d blk lk v w) (hh : Hd hd have_ n) (hn : da.size = n) (n1 : 1 ≤ n) (n2 : n ≤ 16384) (n3 : n < lk) (l2 : lk ≤ 40000) (hd1 : d.size = have_) (hd2 : have_ ≤ 40000) :
    Calls Tryz.prog 13 #[v, .string (MdN 0 n hd da)] w fun e w' => e = .returned (.tuple #[]) ∧ StG W0 (d ++ da) blk (lk - n) v w' := by
  obtain ⟨I, t0, t1, t2, h⟩ := h
  obtain ⟨M, hM⟩ : ∃ M, M = MdN 0 n hd da := ⟨_, rfl⟩
  obtain ⟨s1, p0, p1, p2, p3, p7, p11, pa, pn⟩ := hh
  have ms : M.size = 24 + n := by rw [hM]; unfold MdN; rw [md_size]; omega
  have m0 : byteAt M 0 = 6 := by rw [hM]; unfold MdN; rw [md_byte 0 (by omega)]; rfl
  have m1 : byteAt M 1 = 0 := by rw [hM]; unfold MdN; rw [md_byte 1 (by omega)]; rfl
  have m2 : byteAt M 2 = 24 := by rw [hM]; unfold MdN; rw [md_byte 2 (by omega)]; rfl
  have m3 : byteAt M 3 = 24 := by rw [hM]; unfold MdN; rw [md_byte 3 (by omega)]; rfl
  have m4 : byteAt M 4 = (24 + (n : Int)) % 256 := by rw [hM]; unfold MdN; rw [md_byte 4 (by omega)]; exact u8n _ (by omega) (by omega)
  have m5 : byteAt M 5 = (24 + (n : Int)) / 256 := by rw [hM]; unfold MdN; rw [md_byte 5 (by omega)]; exact u8n _ (by omega) (by omega)
  have m6 : byteAt M 6 = 0 := by rw [hM]; unfold MdN; rw [md_byte 6 (by omega)]; rfl
  have m7 : byteAt M 7 = 0 := by rw [hM]; unfold MdN; rw [md_byte 7 (by omega)]; rfl
  have hz : (⟨#[6, 0, 24, 24, UInt8.ofNat ((24 + (n : Int)) % 256).toNat, UInt8.ofNat ((24 + (n : Int)) / 256).toNat, 0, 0]⟩ : ByteArray).size = 8 := rfl
  have x0 : M.extract (8 : Int).toNat (24 : Int).toNat = hd := by rw [hM]; exact ext_mid _ _ _ _ _ rfl (by rw [hz, s1]; rfl)
  have x1 : M.extract (24 : Int).toNat (24 + (n : Int)).toNat = da := by
    rw [hM]
    exact ext_ap_r _ _ _ _ (by rw [ByteArray.size_append, hz, s1]; rfl) (by rw [ByteArray.size_append, hz, s1]; omega)
  have x2 : M.extract 0 (24 + (n : Int)).toNat = M := ext_all _ _ (by omega)
  have x3 : M.extract (24 + (n : Int)).toNat M.size = ⟨#[]⟩ := ext_none _ _ (by omega)
  have x4 : (⟨#[]⟩ : ByteArray) ++ M = M := empty_ap2 M
  obtain ⟨J, hE, j0, j1, j2, j3, j4, j5, _⟩ : ∃ I : Unk, @AllTrue I E_md ∧ @Unk.val I 6050 = .string d ∧ @Unk.val I 6051 = .int .i64 (lk : Int) ∧ @Unk.val I 6052 = .string blk ∧ @Unk.val I 6053 = .string M ∧ @Unk.val I 6085 = .string (d ++ da) ∧ @Unk.val I 6086 = .int .i64 ((lk : Int) - (n : Int)) ∧ True := by
    have c4 := byteAt_nn hd 4; have c5 := byteAt_nn hd 5; have c6 := byteAt_nn hd 6; have c8 := byteAt_nn hd 8; have c9 := byteAt_nn hd 9; have c10 := byteAt_nn hd 10
    have d4 := byteAt_lt hd 4; have d5 := byteAt_lt hd 5; have d6 := byteAt_lt hd 6; have d8 := byteAt_lt hd 8; have d9 := byteAt_lt hd 9; have d10 := byteAt_lt hd 10
    apply use_md M hd da d blk n have_ lk
    all_goals first | (with_reducible assumption) | (show 0 + M.size < 9223372036854775808; omega) | omega | ((with_reducible refine wrU _ ?_ ?_) <;> omega) | ((with_reducible refine wrI _ ?_ ?_) <;> omega) | ((with_reducible refine or0 _ ?_ ?_) <;> omega) | ((with_reducible refine or0r _ ?_ ?_) <;> omega) | ((with_reducible refine or8 _ _ ?_ ?_ ?_ ?_) <;> omega) | ((with_reducible refine or16 _ _ ?_ ?_ ?_ ?_) <;> omega) | ((with_reducible refine or24 _ _ ?_ ?_ ?_ ?_) <;> omega)
  rw [← hM]
  have h1 := at_turn (I' := J) h (L := A_md) (n := 738) (by kernel_rfl) (fun _ h => h) rfl (by decide) (turns3 t0 t1 t2 j0 j1 j2)
  refine (at_run h1 hE (T := T_md) trivial run_md (fun σ hl => lrel_add hl (@st_tok J 6053 _ j3 σ)) (fun _ h => h) rfl (by decide) (turns_self (by kernel_rfl)) (@den_tup J _ _ .nil)).mono ?_
  rintro e w' ⟨rfl, h2⟩
  obtain ⟨K, q0, q1, q2⟩ := say3 (d ++ da) (lk - n) blk
  refine ⟨rfl, K, q0, q1, q2, ?_⟩
  exact at_turn (I' := K) h2 (L := A_md) (n := 738) (by kernel_rfl) (fun _ h => h) rfl (by decide) (turns3 j4 j5 j2 q0 (by rw [q1]; congr 1; omega) q2)
end Go.Proofs.YthlpiipobcomfaaGreatDoor
