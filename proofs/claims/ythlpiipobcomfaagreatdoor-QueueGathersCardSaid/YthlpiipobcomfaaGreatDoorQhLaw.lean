/- QueueGathers: the law's walk. -/
import Derived.Test.YthlpiipobcomfaaGreatDoorQhW
set_option linter.all false
set_option linter.unusedSectionVars false
set_option linter.unusedVariables false
set_option linter.unusedSimpArgs false
namespace Go.Proofs.YthlpiipobcomfaaGreatDoor
open Go Go.Ab Go.Proofs Go.RowKit Go.Lib
set_option maxRecDepth 1000000
/-- A list of ints lies there. -/
def IntsAt (w : World) (v : Value) : Prop := ∃ p n c, v = .slice p n c ∧ n ≤ 9223372036854775807 ∧ ∀ i, i < n → ∃ b o, ∃ x : Int, p = some ⟨b, o, none⟩ ∧ w.cell? ⟨b, o + i, none⟩ = some (.int .i64 x)
theorem laidOf {W w : World} (hL : Laid W) (hb : Below W.heap.size W w) : Laid w := hL.of hb
theorem u8_in (x : Int) : 0 ≤ IntKind.u8.wrap x ∧ IntKind.u8.wrap x < 256 := by
  simp only [IntKind.wrap, IntKind.bits, IntKind.signed]
  simp
  omega
theorem conv16 (w : World) (b : Nat) (h : (isB (w.cell? ⟨b, 0, none⟩) && isB (w.cell? ⟨b, 1, none⟩) && isB (w.cell? ⟨b, 2, none⟩) && isB (w.cell? ⟨b, 3, none⟩) && isB (w.cell? ⟨b, 4, none⟩) && isB (w.cell? ⟨b, 5, none⟩) && isB (w.cell? ⟨b, 6, none⟩) && isB (w.cell? ⟨b, 7, none⟩) && isB (w.cell? ⟨b, 8, none⟩) && isB (w.cell? ⟨b, 9, none⟩) && isB (w.cell? ⟨b, 10, none⟩) && isB (w.cell? ⟨b, 11, none⟩) && isB (w.cell? ⟨b, 12, none⟩) && isB (w.cell? ⟨b, 13, none⟩) && isB (w.cell? ⟨b, 14, none⟩) && isB (w.cell? ⟨b, 15, none⟩)) = true) :
    (convert 35 9 (.slice (some ⟨b, 0, none⟩) 16 16)).run Tryz.prog w = .ok (.string (strOfNums [nB (w.cell? ⟨b, 0, none⟩), nB (w.cell? ⟨b, 1, none⟩), nB (w.cell? ⟨b, 2, none⟩), nB (w.cell? ⟨b, 3, none⟩), nB (w.cell? ⟨b, 4, none⟩), nB (w.cell? ⟨b, 5, none⟩), nB (w.cell? ⟨b, 6, none⟩), nB (w.cell? ⟨b, 7, none⟩), nB (w.cell? ⟨b, 8, none⟩), nB (w.cell? ⟨b, 9, none⟩), nB (w.cell? ⟨b, 10, none⟩), nB (w.cell? ⟨b, 11, none⟩), nB (w.cell? ⟨b, 12, none⟩), nB (w.cell? ⟨b, 13, none⟩), nB (w.cell? ⟨b, 14, none⟩), nB (w.cell? ⟨b, 15, none⟩)])) w := by
  simp only [Bool.and_eq_true] at h
  obtain ⟨⟨⟨⟨⟨⟨⟨⟨⟨⟨⟨⟨⟨⟨⟨h0, h1⟩, h2⟩, h3⟩, h4⟩, h5⟩, h6⟩, h7⟩, h8⟩, h9⟩, h10⟩, h11⟩, h12⟩, h13⟩, h14⟩, h15⟩ := h
  refine run_convert_bytes_arg w 35 5 Tryz.underlying35 (by kernel_rfl) b 0 16 16 _ rfl (fun i hi => ?_) 9 (by kernel_rfl)
  match i, hi with
  | 0, _ => exact isB_some h0
  | 1, _ => exact isB_some h1
  | 2, _ => exact isB_some h2
  | 3, _ => exact isB_some h3
  | 4, _ => exact isB_some h4
  | 5, _ => exact isB_some h5
  | 6, _ => exact isB_some h6
  | 7, _ => exact isB_some h7
  | 8, _ => exact isB_some h8
  | 9, _ => exact isB_some h9
  | 10, _ => exact isB_some h10
  | 11, _ => exact isB_some h11
  | 12, _ => exact isB_some h12
  | 13, _ => exact isB_some h13
  | 14, _ => exact isB_some h14
  | 15, _ => exact isB_some h15
  | n + 16, hi => exact absurd hi (by omega)
def hd16 (x4 x5 x6 x8 x9 x10 : Int) : ByteArray := strOfNums [9, 0, 1, 0, x4, x5, x6, 0, x8, x9, x10, 0, 0, 0, 0, 0]
theorem byteAt_nums (l : List Int) (i : Nat) (x : Int) (h : l[i]? = some x) (h0 : 0 ≤ x) (h1 : x < 256) : byteAt (strOfNums l) i = x := by
  obtain ⟨hi, hx⟩ := List.getElem?_eq_some_iff.1 h
  unfold strOfNums
  rw [byteAt_lit _ _ (by simpa using hi)]
  simp only [List.getElem_map]
  rw [hx]
  exact u8n x h0 h1
theorem hd_of (a z : Nat) (x4 x5 x6 x8 x9 x10 : Int) (h4 : 0 ≤ x4 ∧ x4 < 256) (h5 : 0 ≤ x5 ∧ x5 < 256) (h6 : 0 ≤ x6 ∧ x6 < 256) (h8 : 0 ≤ x8 ∧ x8 < 256) (h9 : 0 ≤ x9 ∧ x9 < 256) (h10 : 0 ≤ x10 ∧ x10 < 256) (ha : x4 + x5 * 256 + x6 * 65536 = (a : Int)) (hz : x8 + x9 * 256 + x10 * 65536 = (z : Int)) : Hd (hd16 x4 x5 x6 x8 x9 x10) a z := by
  unfold hd16
  refine ⟨rfl, ?_, ?_, ?_, ?_, ?_, ?_, ?_, ?_⟩
  · exact byteAt_nums _ _ _ rfl (by decide) (by decide)
  · exact byteAt_nums _ _ _ rfl (by decide) (by decide)
  · exact byteAt_nums _ _ _ rfl (by decide) (by decide)
  · exact byteAt_nums _ _ _ rfl (by decide) (by decide)
  · exact byteAt_nums _ _ _ rfl (by decide) (by decide)
  · exact byteAt_nums _ _ _ rfl (by decide) (by decide)
  · rw [byteAt_nums _ 4 x4 rfl h4.1 h4.2, byteAt_nums _ 5 x5 rfl h5.1 h5.2, byteAt_nums _ 6 x6 rfl h6.1 h6.2, ha]
  · rw [byteAt_nums _ 8 x8 rfl h8.1 h8.2, byteAt_nums _ 9 x9 rfl h9.1 h9.2, byteAt_nums _ 10 x10 rfl h10.1 h10.2, hz]
theorem ext_join (d : ByteArray) (a z : Nat) (h : a + z ≤ d.size) : d.extract 0 a ++ d.extract a (a + z) = d.extract 0 (a + z) := by
  apply ba_eq
  rw [ap_list, ext_list, ext_list, ext_list, List.drop_zero, List.drop_zero]
  rw [show List.take a d.data.toList = List.take a (List.take (a + z) d.data.toList) by rw [List.take_take]; congr 1; omega]
  exact List.take_append_drop a _
theorem ext_size (d : ByteArray) (a b : Nat) (h : b ≤ d.size) : (d.extract a b).size = b - a := by
  rw [ByteArray.size_extract]; omega
/-- Where the second loop stands. -/
def LoopSt (W : World) (d : ByteArray) (j : Nat) (q : Value) (a : Nat) (w : World) : Prop :=
  (a = 0 ∧ ∃ J : Unk, @Unk.val J 32 = .int .u8 (2 * (j : Int)) ∧ @Unk.val J 48 = .int .u8 ((j : Int) - 1) ∧ @Unk.val J 6003 = .int .i64 (512 * (j : Int)) ∧ AtL W J (ofL tabs L_fd N_fd) [P4] [q] w) ∨
  (0 < a ∧ a < 512 * j ∧ StG W (d.extract 0 a) (Blk j) (512 * j - a) q w) ∨
  (a = 512 * j ∧ ∃ J : Unk, @Unk.val J 6085 = .string d ∧ @Unk.val J 6052 = .string (Blk j) ∧ AtL W J (ofL tabs L_ml N_ml) [P4] [q] w)
theorem StG.mono {W : World} {d blk : ByteArray} {lk : Nat} {q : Value} {w w' : World} (h : StG W d blk lk q w) (hb : Below w.heap.size w w') : StG W d blk lk q w' := by
  obtain ⟨I, t0, t1, t2, h⟩ := h
  exact ⟨I, t0, t1, t2, h.mono hb⟩
theorem StG.below {W : World} {d blk : ByteArray} {lk : Nat} {q : Value} {w : World} (h : StG W d blk lk q w) : Below W.heap.size W w := by
  obtain ⟨I, t0, t1, t2, h⟩ := h
  exact h.below
theorem loop_end {W : World} {d : ByteArray} {j : Nat} {q : Value} {a : Nat} {w : World} (h : LoopSt W d j q a w) (j1 : 1 ≤ j) (ha : a = 512 * j) : ∃ J : Unk, @Unk.val J 6085 = .string d ∧ @Unk.val J 6052 = .string (Blk j) ∧ AtL W J (ofL tabs L_ml N_ml) [P4] [q] w := by
  rcases h with ⟨h, _⟩ | ⟨_, h, _⟩ | ⟨_, h⟩
  · omega
  · omega
  · exact h
theorem loop_0 {W : World} {d : ByteArray} {j : Nat} {q : Value} {w : World} (h : LoopSt W d j q 0 w) (j1 : 1 ≤ j) : ∃ J : Unk, @Unk.val J 32 = .int .u8 (2 * (j : Int)) ∧ @Unk.val J 48 = .int .u8 ((j : Int) - 1) ∧ @Unk.val J 6003 = .int .i64 (512 * (j : Int)) ∧ AtL W J (ofL tabs L_fd N_fd) [P4] [q] w := by
  rcases h with ⟨_, h⟩ | ⟨h, _⟩ | ⟨h, _⟩
  · exact h
  · omega
  · omega
theorem loop_mid {W : World} {d : ByteArray} {j : Nat} {q : Value} {a : Nat} {w : World} (h : LoopSt W d j q a w) (j1 : 1 ≤ j) (h0 : a ≠ 0) (ha : a ≠ 512 * j) : StG W (d.extract 0 a) (Blk j) (512 * j - a) q w := by
  rcases h with ⟨h, _⟩ | ⟨_, _, h⟩ | ⟨h, _⟩
  · omega
  · exact h
  · omega
theorem ext_00 (d : ByteArray) : d.extract 0 0 = ⟨#[]⟩ := by
  apply ba_eq
  rw [ext_list]; rfl
@[reducible] def I00 : Unk := sayI [] (fun _ h => by cases h)
set_option maxHeartbeats 40000000 in
theorem gathers_law {W : World} (hL : Laid W) (blocks : Int) (fill : Nat) (hfill : fill < 256) (v : Value) (hI : IntsAt W v) : Calls Tryz.prog 3 #[.int .i64 blocks, .int .u8 (fill : Int), v] W fun e w' => e = .returned (.bool true) ∧ Below W.heap.size W w' := by
  obtain ⟨pp, n, c, rfl, hnn, hI⟩ := hI
  go_enter Tryz.func3, Tryz.ntmps3
  go_wp2_with (first | (go_at_call 10; refine (mod10 blocks 64 (by decide) (by decide) _).mono ?_; rintro e w' ⟨⟨m, hm, rfl⟩, rfl⟩))
  obtain ⟨k, hk⟩ : ∃ k : Nat, Hid (1 + m = k) := ⟨_, Lib.hid rfl⟩
  have ek : (1 : Int) + (m : Int) = (k : Int) := by have := hk.out; omega
  rw [ek]
  have k1 : 1 ≤ k := by have := hk.out; omega
  have k2 : k ≤ 64 := by have := hk.out; omega
  clear ek
  go_loopw [8, 9] (fun s i wr => ∃ j : Nat, j ≤ k ∧ i = .int .i64 (j : Int) ∧ (∃ d : ByteArray, d.size = 512 * j ∧ s = .string d) ∧ Below W.heap.size W wr)
    (fun _ i _ => k - (RowKit.intOf i).toNat)
  case atStart => exact ⟨0, by omega, rfl, ⟨⟨#[]⟩, rfl, rfl⟩, Below.refl _ _⟩
  case round =>
    obtain ⟨j, hj, rfl, ⟨d, hd, rfl⟩, hb⟩ := hrel
    have hd' := Lib.hid hd
    clear hd
    by_cases hlt : j < k
    · have hd2 : d.size ≤ 32768 := by have := hd'.out; omega
      go_wp2_with (first | (go_at_call 11; refine (block11 _ ?_ (laidOf hL hb)).mono ?_; rotate_left; rintro e w' ⟨⟨s, hs, rfl⟩, hb1⟩; have hs2 : s.size ≤ 512 := Nat.le_of_eq hs; have hs' := Lib.hid hs; clear hs))
      · go_wp2
        go_roundw
        case rel => exact ⟨j + 1, by omega, by go_num, ⟨d ++ s, by rw [ByteArray.size_append, hd'.out, hs'.out]; omega, rfl⟩, below_step hb hb1 (Nat.le_refl _)⟩
        case measure => simp [RowKit.intOf]; omega
      · exact u8_in _
    · have ejk : j = k := by omega
      subst ejk
      by_cases hw : j ≤ 8 ∧ fill % 2 = 0
      · have g1 : j ≤ 8 := hw.1
        have g2 : decide ((j : Int) ≤ 8) = true := by simp; omega
        have g3 : (fill : Int) % 2 = 0 := by omega
        clear hw
        go_wp2_with (first | (go_at_call 12; refine (begun_at (laidOf hL hb) hb).mono ?_; rintro e w1 ⟨bq, oq, rfl, hA⟩; have hA' := Lib.hid hA; clear hA) | (go_at_call 14; refine (write_in j k1 g1 d hd'.out ((hA'.out I00).laid hL)).mono ?_; rintro e w2 ⟨rfl, hb2⟩; have hA2 := Lib.hid (fun I => (hA'.out I).mono hb2); clear hb2) | (go_at_call 13; refine (feed_in j k1 g1 d hd'.out hA2.out).mono ?_; rintro e w3 ⟨rfl, J, t1, t2, t3, hJ⟩; have hJ' := Lib.hid (And.intro t1 (And.intro t2 (And.intro t3 hJ))); clear hJ t1 t2 t3))
        refine wp_loop_rounds 1 ?_; rw [rounds_succ]
        go_wp2_with (first | (go_at_call 18; refine (tasks_in k1 g1 hJ'.out.1 hJ'.out.2.1 hJ'.out.2.2.1 hJ'.out.2.2.2).mono ?_; rintro e w4 ⟨rc, rfl, b, o, c, bq', oq', rfl, hv, q0, q1, q3, qc, hbw⟩; cases hv; have hbw' := Lib.hid hbw; clear hbw) | (go_at_call 19; refine (closed19 qc).mono ?_; rintro e w' ⟨rfl, rfl⟩) | (go_at_call 20; refine (wakes20 _ (laidOf hL hbw'.out)).mono ?_; rintro e w5 ⟨rfl, hb5⟩; have hb5' := Lib.hid hb5; clear hb5))
        go_wp2
        go_ret
        exact ⟨rfl, below_step hbw'.out hb5'.out (Nat.le_refl _)⟩
      · have hg : j ≤ 8 → fill % 2 = 1 := by omega
        have hor : (decide ((j : Int) ≤ 8) = true ∧ (fill : Int) % 2 = 1) ∨ decide ((j : Int) ≤ 8) = false := by
          by_cases g : j ≤ 8
          · exact .inl ⟨by simp; omega, by have := hg g; omega⟩
          · exact .inr (by simp; omega)
        clear hg hw
        rcases hor with ⟨g2, g3⟩ | g2
        all_goals
          go_wp2_with (first | (go_at_call 12; refine (begun_at (laidOf hL hb) hb).mono ?_; rintro e w1 ⟨bq, oq, rfl, hA⟩; have hA' := Lib.hid hA; clear hA) | (go_at_call 14; refine (write_no j k1 k2 d ((hA'.out I00).laid hL)).mono ?_; rintro e w2 ⟨rfl, hb2⟩; have hA2 := Lib.hid (fun I => (hA'.out I).mono hb2); clear hb2) | (go_at_call 13; refine (feed_no j k1 k2 hA2.out).mono ?_; rintro e w3 ⟨rfl, hJ⟩; have hJ' := Lib.hid hJ; clear hJ))
          go_loopw [12] (fun h wr => ∃ a : Nat, h = .int .i64 (a : Int) ∧ LoopSt W d j (.pointer (some ⟨bq, oq, none⟩)) a wr) (fun h _ => 512 * j - (RowKit.intOf h).toNat)
          case atStart => exact ⟨0, rfl, .inl ⟨rfl, hJ'.out⟩⟩
          case round =>
            obtain ⟨a, rfl, hS⟩ := hrel
            by_cases hal : a = 512 * j
            · have hx := Lib.hid (loop_end hS k1 hal)
              clear hS
              have hge : (d.size : Int) ≤ (a : Int) := by have := hd'.out; omega
              have hge2 : decide ((a : Int) < (d.size : Int)) = false := by simp; omega
              clear hal
              go_wp2_with (first | (go_at_call 18; obtain ⟨J, t1, t2, hJ3⟩ := hx.out; refine (tasks_last t1 t2 hJ3).mono ?_; rintro e w4 ⟨rc, rfl, b, o, c, bq', oq', rfl, hv, q0, q1, q3, qc, hbw⟩; cases hv; have hbw' := Lib.hid hbw; clear hbw) | (go_at_call 19; refine (closed19 qc).mono ?_; rintro e w' ⟨rfl, rfl⟩) | (go_at_call 20; refine (wakes20 _ (laidOf hL hbw'.out)).mono ?_; rintro e w5 ⟨rfl, hb5⟩; have hb5' := Lib.hid hb5; clear hb5))
              go_wp2
              go_ret
              exact ⟨rfl, below_step hbw'.out hb5'.out (Nat.le_refl _)⟩
            · have hlt2 : (a : Int) < (d.size : Int) := by
                have := hd'.out
                rcases hS with ⟨h, _⟩ | ⟨_, h, _⟩ | ⟨h, _⟩ <;> omega
              have hS' := Lib.hid hS
              clear hS
              have hal' := Lib.hid hal
              clear hal
              go_upto_if 58 with fail
              go_cut [] from 49 to 157 (fun wx => StG W (d.extract 0 a) (Blk j) (512 * j - a) (.pointer (some ⟨bq, oq, none⟩)) wx)
              case first =>
                by_cases a0 : a = 0
                · subst a0
                  have e9 : (512 * (j : Int) == (d.size : Int)) = true := by have := hd'.out; simp; omega
                  obtain ⟨J, t32, t48, t6003, hJ0⟩ := loop_0 hS'.out k1
                  have hJ1 := Lib.hid (And.intro t32 (And.intro t48 (And.intro t6003 hJ0)))
                  clear t32 t48 t6003 hJ0
                  go_wp2_with (first | (go_at_call 15; refine (said_at j k1 k2 hJ1.out.1 hJ1.out.2.2.2).mono ?_; rintro e w4 ⟨b, o, c, rfl, c0, c2, hsd⟩; have hsd' := Lib.hid hsd; clear hsd; have lb := block_lt_of_cell c0) | (go_at_call 16; first | ((with_reducible refine (numc16 j k1 k2 (hsd'.out.laid hL)).mono ?_); rintro e w5 ⟨rfl, hb5⟩; have hb5' := Lib.hid hb5; obtain ⟨hc5, hf5⟩ := bcell hb5; clear hb5) | ((with_reducible refine (numn16 j k1 k2 ((hsd'.out.mono hb5'.out).laid hL)).mono ?_); rintro e w6 ⟨rfl, hb6⟩; have hb6' := Lib.hid hb6; clear hb6)))
                  go_meet
                  have := asked_at j k1 k2 hJ1.out.1 hJ1.out.2.1 hJ1.out.2.2.1 ((hsd'.out.mono hb5'.out).mono hb6'.out)
                  rw [ext_00]
                  exact this
                · have a1 : ((a : Int) == 0) = false := by simp; omega
                  have hmid := Lib.hid (loop_mid hS'.out k1 a0 hal'.out)
                  clear a0
                  go_wp2
                  go_meet
                  exact hmid.out
              case rest =>
                have hst := Lib.hid hcut
                clear hcut
                obtain ⟨n0, hn0⟩ : ∃ n0 : Nat, Hid (n0 = min (d.size - a) 16384) := ⟨_, Lib.hid rfl⟩
                have n01 : 1 ≤ n0 := by rw [hn0.out]; omega
                have n02 : n0 ≤ 16384 := by rw [hn0.out]; omega
                have n03 : a + n0 ≤ d.size := by rw [hn0.out]; omega
                have hdz : d.size ≤ 32768 := by have := hd'.out; omega
                have hmin : min ((d.size : Int) - (a : Int)) 16384 = (n0 : Int) := by rw [hn0.out]; omega
                go_upto_region 17 with fail
                go_cut [100] from 49 to 157 (fun t wx => ∃ B : Bool, t = .bool B ∧ (B = true → 0 < n ∧ a < 5000) ∧ StG W (d.extract 0 a) (Blk j) (512 * j - a) (.pointer (some ⟨bq, oq, none⟩)) wx)
                case first =>
                  by_cases hnz : n = 0
                  · subst hnz
                    go_wp2
                    go_meet
                    exact ⟨false, rfl, (fun h => by cases h), hst.out⟩
                  · have np : (0 : Int) < (n : Int) := by omega
                    have np2 : decide ((0 : Int) < (n : Int)) = true := by simp; omega
                    by_cases h5 : a < 5000
                    · have h5b : decide ((a : Int) < 5000) = true := by simp; omega
                      go_wp2
                      go_meet
                      exact ⟨true, rfl, (fun _ => ⟨by omega, h5⟩), hst.out⟩
                    · have h5b : decide ((a : Int) < 5000) = false := by simp; omega
                      go_wp2
                      go_meet
                      exact ⟨false, rfl, (fun h => by cases h), hst.out⟩
                case' rest => skip
                obtain ⟨B, rfl, hB, hst1⟩ := hcut
                have hst := Lib.hid hst1
                clear hst1
                go_upto_if 100 with fail
                go_cut [14] from 49 to 157 (fun s wx => ∃ z : Nat, s = .int .i64 (z : Int) ∧ 1 ≤ z ∧ z ≤ n0 ∧ StG W (d.extract 0 a) (Blk j) (512 * j - a) (.pointer (some ⟨bq, oq, none⟩)) wx)
                case first =>
                  cases B with
                  | false =>
                    go_wp2
                    go_meet
                    exact ⟨n0, rfl, n01, Nat.le_refl _, hst.out⟩
                  | true =>
                    obtain ⟨hnz, h5⟩ := hB rfl
                    obtain ⟨b, o, x, rfl, hx⟩ := hI (a % n) (Nat.mod_lt _ (by omega))
                    have hx2 := (Below.cell hst.out.below (block_lt_of_cell hx)).trans hx
                    have hi1 : (a : Int) % (n : Int) = ((a % n : Nat) : Int) := by simp
                    have hlt3 : a % n < n := Nat.mod_lt _ (by omega)
                    have np : (0 : Int) < (n : Int) := by omega
                    obtain ⟨r, hr⟩ : ∃ r, Hid (a % n = r) := ⟨_, Lib.hid rfl⟩
                    rw [hr.out] at hi1 hx2 hlt3
                    clear hx
                    go_wp2_with (first | (go_at_call 10; refine (mod10 x n0 n01 (by omega) _).mono ?_; rintro e w' ⟨⟨m2, hm2, rfl⟩, rfl⟩))
                    go_meet
                    exact ⟨1 + m2, by go_num, by omega, by omega, hst.out⟩
                case rest =>
                  obtain ⟨z, rfl, z1, z2, hst2⟩ := hcut
                  have hst3 := Lib.hid hst2
                  clear hst2
                  have z3 : a + z ≤ d.size := by omega
                  have z4 : z ≤ 16384 := by omega
                  have a4 : a ≤ 32768 := by omega
                  have l2 : (0 : Int) ≤ (a : Int) := by omega
                  have l3 : (a : Int) ≤ (a : Int) + (z : Int) := by omega
                  have l4 : (a : Int) + (z : Int) ≤ (d.size : Int) := by omega
                  have l5 : IntKind.i64.wrap ((a : Int) + (z : Int)) = a + z := IntWalk.i64_in _ (by omega)
                  have l6 : ((a : Int) + (z : Int)).toNat = a + z := by omega
                  have hcv := conv16
                  have k1b := isB_int
                  have k2b := nB_int
                  by_cases hl : a + z = d.size
                  · have e1 : ((a : Int) + (z : Int) == (d.size : Int)) = true := by simp; omega
                    have hl' := Lib.hid hl
                    clear hl
                    have es : 512 * j - a = z := by have h1 := hl'.out; have h2 := hd'.out; omega
                    have hz := Lib.hid (ext_size d a (a + z) z3)
                    have hy := Lib.hid (ext_size d 0 a (by omega))
                    have hh := Lib.hid (hd_of a z ((a : Int) % 256) ((a : Int) / 256) ((a : Int) / 65536) ((z : Int) % 256) ((z : Int) / 256) ((z : Int) / 65536) (by omega) (by omega) (by omega) (by omega) (by omega) (by omega) (by omega) (by omega))
                    have es' := Lib.hid es
                    clear es
                    go_wp2_with (first | (go_at_call 17; refine (put_last (hd16 ((a : Int) % 256) ((a : Int) / 256) ((a : Int) / 65536) ((z : Int) % 256) ((z : Int) / 256) ((z : Int) / 65536)) (d.extract a (a + z)) z rfl ?_ z1 z4 ((hL.of hst3.out.below).alloc _)).mono ?_; (focus (rw [hz.out]; omega)); rintro e w4 ⟨rfl, hb4⟩; have hst4 := Lib.hid ((hst3.out.mono ((Below.refl _ _).alloc (Nat.le_refl _) _)).mono hb4); clear hb4) | (go_at_call 18; refine (none_at hst4.out).mono ?_; rintro e w5 ⟨rfl, hs5⟩; rw [es'.out] at hs5; have hst5 := Lib.hid hs5; clear hs5) | (go_at_call 13; refine (feed_last hst5.out hh.out ?_ z1 z4 ?_ ?_).mono ?_; (focus (rw [hz.out]; omega)); (focus (rw [hy.out]; omega)); (focus omega); rintro e w6 ⟨rfl, hs6⟩; have hst6 := Lib.hid hs6; clear hs6))
                    go_wp2
                    go_roundw
                    case rel =>
                      obtain ⟨J, t1, t2, hJ⟩ := hst6.out
                      refine ⟨a + z, by go_num, .inr (.inr ⟨by have h1 := hl'.out; have h2 := hd'.out; omega, J, ?_, t2, hJ⟩)⟩
                      rw [t1, ext_join d a z z3, ext_all d (a + z) hl'.out]
                    case measure => have h1 := hl'.out; have h2 := hd'.out; simp [RowKit.intOf]; omega
                  · have e1 : ((a : Int) + (z : Int) == (d.size : Int)) = false := by simp; omega
                    have hl' := Lib.hid hl
                    clear hl
                    have hz := Lib.hid (ext_size d a (a + z) z3)
                    have hy := Lib.hid (ext_size d 0 a (by omega))
                    have hh := Lib.hid (hd_of a z ((a : Int) % 256) ((a : Int) / 256) ((a : Int) / 65536) ((z : Int) % 256) ((z : Int) / 256) ((z : Int) / 65536) (by omega) (by omega) (by omega) (by omega) (by omega) (by omega) (by omega) (by omega))
                    have z5 : z < 512 * j - a := by have h1 := hl'.out; have h2 := hd'.out; omega
                    go_wp2_with (first | (go_at_call 17; refine (put_mid (hd16 ((a : Int) % 256) ((a : Int) / 256) ((a : Int) / 65536) ((z : Int) % 256) ((z : Int) / 256) ((z : Int) / 65536)) (d.extract a (a + z)) z rfl ?_ z1 z4 ((hL.of hst3.out.below).alloc _)).mono ?_; (focus (rw [hz.out]; omega)); rintro e w4 ⟨rfl, hb4⟩; have hst4 := Lib.hid ((hst3.out.mono ((Below.refl _ _).alloc (Nat.le_refl _) _)).mono hb4); clear hb4) | (go_at_call 18; refine (none_at hst4.out).mono ?_; rintro e w5 ⟨rfl, hs5⟩; have hst5 := Lib.hid hs5; clear hs5) | (go_at_call 13; refine (feed_mid hst5.out hh.out ?_ z1 z4 z5 ?_ ?_ ?_).mono ?_; (focus (rw [hz.out]; omega)); (focus omega); (focus (rw [hy.out]; omega)); (focus omega); rintro e w6 ⟨rfl, hs6⟩; have hst6 := Lib.hid hs6; clear hs6))
                    go_wp2
                    go_roundw
                    case rel =>
                      have hs7 := hst6.out
                      rw [ext_join d a z z3, show 512 * j - a - z = 512 * j - (a + z) by omega] at hs7
                      exact ⟨a + z, by go_num, .inr (.inl ⟨by omega, by omega, hs7⟩)⟩
                    case measure => have h2 := hd'.out; simp [RowKit.intOf]; omega
end Go.Proofs.YthlpiipobcomfaaGreatDoor
