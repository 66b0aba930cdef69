/- The program's Done of a read that went well. -/
import Derived.Test.YthlpiipobcomfaaGreatDoorQrEnd
set_option linter.all false
set_option linter.unusedSectionVars false
set_option linter.unusedVariables false
set_option linter.unusedSimpArgs false
namespace Go.Proofs.YthlpiipobcomfaaGreatDoor
open Go Go.Proofs Go.RowKit Go.Lib
set_option maxRecDepth 1000000
theorem Sm.sets4 {W x : World} {C : Prop} {g i j k l : Nat} {a b c d : Value} (h : Sm W x ∧ C) (hg : W.heap.size ≤ g) : Sm W ((((x.setCell ⟨g, i, none⟩ a).setCell ⟨g, j, none⟩ b).setCell ⟨g, k, none⟩ c).setCell ⟨g, l, none⟩ d) :=
  (((Below.setCell h.1 hg a).setCell hg b).setCell hg c).setCell hg d
theorem Sm.swap {W x : World} {C : Prop} {o : Obj} (h : Sm W (x.alloc o) ∧ C) (hs : W.heap.size ≤ x.heap.size) (o2 : Obj) : Sm W (x.alloc o2) :=
  ⟨h.1.os, h.1.tape, h.1.output, by rw [World.size_alloc]; omega, fun k hk => (Below.heap_alloc x o2 k (by omega)).trans ((Below.heap_alloc x o k (by omega)).symm.trans (h.1.block k hk))⟩
def HasR (x : World) (g : Nat) : Prop := x.heap[g]? = some (.cells #[.int .i64 0, .int .i64 0, .string ⟨#[]⟩, .string ⟨#[]⟩] 32 (0, 0))
theorem hasr_new (x : World) (n : Nat) (h : n = x.heap.size) : HasR (x.alloc (.cells #[.int .i64 0, .int .i64 0, .string ⟨#[]⟩, .string ⟨#[]⟩] 32)) n := by subst h; exact heap_alloc_new _ _
theorem hasr_alloc (x : World) (g : Nat) (o : Obj) (h : HasR x g) : HasR (x.alloc o) g := (Below.heap_alloc _ _ _ (lt_get h)).trans h
theorem hasr_drew (x : World) (g : Nat) (h : HasR x g) : HasR x.drew g := h
theorem hasr_call {x y : World} (hb : Below x.heap.size x y) : ∀ g, HasR x g → HasR y g := fun _ h => below_lt hb (lt_get h) h
theorem hasr_0 (x : World) (g : Nat) (h : HasR x g) : x.cell? ⟨g, 0, none⟩ = some (.int .i64 0) := cell_of_row _ g 0 _ _ _ h
theorem hasr_1 (x : World) (g : Nat) (h : HasR x g) : x.cell? ⟨g, 1, none⟩ = some (.int .i64 0) := cell_of_row _ g 1 _ _ _ h
theorem hasr_2 (x : World) (g : Nat) (h : HasR x g) : x.cell? ⟨g, 2, none⟩ = some (.string ⟨#[]⟩) := cell_of_row _ g 2 _ _ _ h
theorem hasr_3 (x : World) (g : Nat) (h : HasR x g) : x.cell? ⟨g, 3, none⟩ = some (.string ⟨#[]⟩) := cell_of_row _ g 3 _ _ _ h
theorem hasr_f (x : World) (g i : Nat) (h : HasR x g) : x.frozen? ⟨g, i, none⟩ = false := frozen_of_row _ g i _ _ h
/-- What the region that makes a message leaves. -/
def Cut14 (wr : World) (a n : Nat) (data : ByteArray) (p : Value) (wx : World) : Prop := ∃ g, p = .pointer (some ⟨g, 0, none⟩) ∧ Sm wr wx ∧ wr.heap.size ≤ g ∧ wx.cell? ⟨g, 0, none⟩ = some (.int .i64 7) ∧ wx.cell? ⟨g, 1, none⟩ = some (.int .i64 0) ∧ wx.cell? ⟨g, 2, none⟩ = some (.string (head16 a n)) ∧ wx.cell? ⟨g, 3, none⟩ = some (.string (data.extract a (a + n))) ∧ wx.frozen? ⟨g, 1, none⟩ = false
theorem cut14 {wr wx : World} {a n : Nat} {data : ByteArray} {g : Nat} (h0 : Sm wr wx) (h1 : wr.heap.size ≤ g) (h2 : wx.cell? ⟨g, 0, none⟩ = some (.int .i64 7)) (h3 : wx.cell? ⟨g, 1, none⟩ = some (.int .i64 0)) (h4 : wx.cell? ⟨g, 2, none⟩ = some (.string (head16 a n))) (h5 : wx.cell? ⟨g, 3, none⟩ = some (.string (data.extract a (a + n)))) (h6 : wx.frozen? ⟨g, 1, none⟩ = false) : Cut14 wr a n data (.pointer (some ⟨g, 0, none⟩)) wx := ⟨g, rfl, h0, h1, h2, h3, h4, h5, h6⟩
theorem bsz {W w1 : World} (hb : Below W.heap.size W w1) : W.heap.size ≤ w1.heap.size := hb.size
/-- What holds when the data begin to be sent. -/
structure Rdy (W : World) (bq oq bt ot b5 : Nat) (data : ByteArray) : Prop where
  laid : Laid W
  q2 : W.cell? ⟨bq, oq + 2, none⟩ = some (.slice none 0 0)
  q4 : W.cell? ⟨bq, oq + 4, none⟩ = some (.bool false)
  q5 : W.cell? ⟨bq, oq + 5, none⟩ = some (.bool false)
  q7 : W.cell? ⟨bq, oq + 7, none⟩ = some (.int .i64 1)
  q9 : W.cell? ⟨bq, oq + 9, none⟩ = some (.int .i64 2)
  qf : W.frozen? ⟨bq, oq + 2, none⟩ = false
  h4 : 4 ≤ bq
  t4 : W.cell? ⟨bt, ot + 4, none⟩ = some (.int .i64 9)
  t6 : W.cell? ⟨bt, ot + 6, none⟩ = some (.bool false)
  d5 : W.cell? ⟨b5, 5, none⟩ = some (.string data)
  ne1 : bt ≠ bq
  ne2 : b5 ≠ bq
theorem Rdy.start {W : World} {bq oq bt ot b5 : Nat} {data : ByteArray} (h : Rdy W bq oq bt ot b5 data) : QW W bq oq (.slice none 0 0) [] W :=
  ⟨rfl, rfl, rfl, Nat.le_refl _, block_lt_of_cell h.q2, h.h4, fun _ _ _ => rfl, fun _ _ => rfl, fun _ => rfl, h.q2, World.ownsRow_nil _ _ _ _⟩
theorem QW.other {W x : World} {bq oq : Nat} {v : Value} {xs : List Value} (h : QW W bq oq v xs x) {b o : Nat} {u : Value} (hc : W.cell? ⟨b, o, none⟩ = some u) (hn : b ≠ bq) : x.cell? ⟨b, o, none⟩ = some u :=
  (World.cell?_of_block (w := W) (h.block b (block_lt_of_cell hc) hn)).trans hc
theorem Below.drewN' {B : Nat} {w x : World} (h : Below B w x) (m : Nat) : Below B w (x.drewN m) := ⟨h.os, h.tape, h.output, h.size, h.block⟩
theorem chain5 {B : Nat} {w : World} {bq bw bu i j k l m n : Nat} {o1 o2 : Obj} {a b c d : Value} (b1 : B ≤ bq) (b2 : B ≤ bw) (b3 : B ≤ bu) (b4 : B ≤ w.heap.size) :
    Below B w (((((((w.alloc o1).alloc o2).drewN m).setCell ⟨bw, i, none⟩ a).setCell ⟨bq, j, none⟩ b).drewN n).setCell ⟨bu, k, none⟩ c |>.setCell ⟨bq, l, none⟩ d) :=
  ((Below.drewN' (((Below.drewN' (((Below.refl B w).alloc b4 o1).alloc (by simp; omega) o2) m).setCell b2 a).setCell b1 b) n).setCell b3 c).setCell b1 d
/-- What Done leaves. -/
def DonePost (w : World) (data : ByteArray) (bq oq bw ow cw bu bt ot : Nat) (y : World) : Prop := ∃ W v, Rdy W bq oq bt ot (w.heap.size + 1) data ∧ QW W bq oq v (strCells (msgs data (nMsgs data) ++ endM)) y ∧ W.cell? ⟨bq, oq + 13, none⟩ = some (.slice (some ⟨bw, ow, none⟩) 0 cw) ∧ ∀ B, B ≤ bq → B ≤ bw → B ≤ bu → B ≤ w.heap.size → Below B w W
set_option maxHeartbeats 40000000 in
theorem done32 (data : ByteArray) (hda : data.size ≤ 30000) {w : World} (hL : Laid w) {bq oq bw ow cw bu ou cu bt ot : Nat} (hcw : 1 ≤ cw)
    (ne1 : bq ≠ bw) (ne2 : bq ≠ bu) (ne3 : bq ≠ bt) (ne4 : bw ≠ bu) (ne5 : bw ≠ bt) (ne6 : bu ≠ bt)
    (c13 : w.cell? ⟨bq, oq + 13, none⟩ = some (.slice (some ⟨bw, ow, none⟩) 1 cw)) (c12 : w.cell? ⟨bq, oq + 12, none⟩ = some (.slice (some ⟨bu, ou, none⟩) 1 cu))
    (f13 : w.frozen? ⟨bq, oq + 13, none⟩ = false) (f12 : w.frozen? ⟨bq, oq + 12, none⟩ = false)
    (cbw : w.cell? ⟨bw, ow, none⟩ = some (.pointer (some ⟨bt, ot, none⟩))) (cbu : w.cell? ⟨bu, ou, none⟩ = some (.pointer (some ⟨bt, ot, none⟩))) (fbw : w.frozen? ⟨bw, ow, none⟩ = false) (fbu : w.frozen? ⟨bu, ou, none⟩ = false)
    (t0 : w.cell? ⟨bt, ot, none⟩ = some (.int .i64 1)) (t4 : w.cell? ⟨bt, ot + 4, none⟩ = some (.int .i64 9)) (t6 : w.cell? ⟨bt, ot + 6, none⟩ = some (.bool false))
    (q2 : w.cell? ⟨bq, oq + 2, none⟩ = some (.slice none 0 0)) (q4 : w.cell? ⟨bq, oq + 4, none⟩ = some (.bool false)) (q5 : w.cell? ⟨bq, oq + 5, none⟩ = some (.bool false)) (q7 : w.cell? ⟨bq, oq + 7, none⟩ = some (.int .i64 1)) (q9 : w.cell? ⟨bq, oq + 9, none⟩ = some (.int .i64 2)) (qf : w.frozen? ⟨bq, oq + 2, none⟩ = false) (h4 : 4 ≤ bq) (h5 : 4 ≤ bw) (h6 : 4 ≤ bu) :
    Calls Tryz.prog 32 #[.pointer (some ⟨bq, oq, none⟩), .int .i64 1, .agg #[.int .i64 0, .int .i64 0, .int .i64 0, .int .i64 0, .int .i64 0, .string data]] w fun e y => e = .returned (.bool true) ∧ DonePost w data bq oq bw ow cw bu bt ot y := by
  have lq : bq < w.heap.size := block_lt_of_cell c13
  have lw : bw < w.heap.size := block_lt_of_cell cbw
  have lu : bu < w.heap.size := block_lt_of_cell cbu
  have lt : bt < w.heap.size := block_lt_of_cell t0
  have hba : bits .and .i64 0 32767 = 0 := by decide
  go_enter Tryz.func32, Tryz.ntmps32
  go_wp2_with (first | (go_at_call 59; refine (idx59 bw ow cw bt ot w.heap.size ?_ ?_ ?_).mono ?_; rotate_right; rintro e w' ⟨rfl, m, rfl⟩) | (go_at_call 60; refine (del60 bw ow cw bt ot hcw ?_ ?_).mono ?_; rotate_right; rintro e w' ⟨rfl, m2, rfl⟩) | (go_at_call 61; refine (delf61 bu ou cu bt ot w.heap.size ?_ ?_ ?_ ?_).mono ?_; rotate_right; rintro e w' ⟨rfl, m3, rfl⟩))
  · refine gen_world (fun W => Rdy W bq oq bt ot (w.heap.size + 1) data ∧ W.cell? ⟨bq, oq + 13, none⟩ = some (.slice (some ⟨bw, ow, none⟩) 0 cw) ∧ ∀ B, B ≤ bq → B ≤ bw → B ≤ bu → B ≤ w.heap.size → Below B w W) ?_ ?_
    · refine ⟨⟨?_, ?_, ?_, ?_, ?_, ?_, ?_, h4, ?_, ?_, ?_, Ne.symm ne3, by omega⟩, ?_, ?_⟩
      case refine_1 => exact hL.keep (by simp; omega) fun k hk => (chain5 (by omega) (by omega) (by omega) (by omega) : Below 4 w _).block k hk
      case refine_12 => exact fun B b1 b2 b3 b4 => chain5 b1 b2 b3 b4
      case refine_11 =>
        go_simp
        exact World.cell?_setCell_same _ _ _ (u := .slice (some ⟨bw, ow, none⟩) 1 cw) (by go_simp)
      all_goals go_simp
    intro W ⟨hR, hW13, hWB⟩
    go_loopw [11] (fun at_ wr => ∃ k : Nat, (k = 0 ∨ 8192 * (k - 1) < data.size) ∧ at_ = .int .i64 (min (8192 * k) data.size : Nat) ∧ ∃ v, QW W bq oq v (strCells (msgs data k)) wr)
      (fun at_ _ => data.size - (RowKit.intOf at_).toNat)
    case atStart => exact ⟨0, .inl rfl, rfl, _, hR.start⟩
    case round =>
      obtain ⟨k, hk, rfl, v, hQ⟩ := hrel
      have hd5 := hQ.other hR.d5 hR.ne2
      have ht4 := hQ.other hR.t4 hR.ne1
      have hQ := Lib.hid hQ
      have hk := Lib.hid hk
      by_cases hlt : 8192 * k < data.size
      · rw [show min (8192 * k) data.size = 8192 * k by omega]
        obtain ⟨a, ha⟩ : ∃ a, Hid (8192 * k = a) := ⟨_, Lib.hid rfl⟩
        rw [ha.out] at hlt ⊢
        obtain ⟨n, hn⟩ : ∃ n : Nat, Hid (n = min (data.size - a) 8192) := ⟨_, Lib.hid rfl⟩
        have hn1 : 1 ≤ n := by rw [hn.out]; omega
        have hn2 : n ≤ 8192 := by rw [hn.out]; omega
        have hn3 : a + n ≤ data.size := by rw [hn.out]; omega
        have ha2 : a < 65536 := by omega
        have hn4 : n < 65536 := by omega
        have hmin : min ((data.size : Int) - (a : Int)) 8192 = (n : Int) := by rw [hn.out]; omega
        have l1 : (a : Int) < (data.size : Int) := by omega
        have l2 : (0 : Int) ≤ (a : Int) := by omega
        have l3 : (a : Int) ≤ (a : Int) + (n : Int) := by omega
        have l4 : (a : Int) + (n : Int) ≤ (data.size : Int) := by omega
        have l5 : IntKind.i64.wrap ((a : Int) + (n : Int)) = a + n := IntWalk.i64_in _ (by omega)
        have l6 : ((a : Int) + (n : Int)).toNat = a + n := by omega
        go_upto_region 14 with fail
        have hLr : Laid wr := hQ.out.laid hR.laid
        go_cut [13] from 70 to 89 (fun p wx => Cut14 wr a n data p wx)
        case first =>
          have hmk := Lib.hid (fun (y : World) (h : Sm wr y) => show Sm wr y ∧ y.cell? ⟨bt, ot + 4, none⟩ = some (.int .i64 9) ∧ y.cell? ⟨w.heap.size + 1, 5, none⟩ = some (.string data) from ⟨h, h.cell ht4, h.cell hd5⟩)
          have r3 := hasr_0; have r4 := hasr_1; have r5 := hasr_2; have r6 := hasr_3; have r7 := hasr_f
          go_region_held3 (fun y => Sm wr y ∧ y.cell? ⟨bt, ot + 4, none⟩ = some (.int .i64 9) ∧ y.cell? ⟨w.heap.size + 1, 5, none⟩ = some (.string data))
            (first | (with_reducible assumption) | exact hmk.out _ (Sm.drew0 _) | exact hmk.out _ (Sm.adrew (by with_reducible assumption) _) | exact hmk.out _ (Sm.call (by with_reducible assumption) (by with_reducible assumption)) | exact hmk.out _ (Sm.al (by with_reducible assumption) _) | (refine hmk.out _ (Sm.swap (by with_reducible assumption) ?_ _); omega) | (refine hmk.out _ (Sm.sets4 (by with_reducible assumption) ?_); (try simp only [World.size_alloc, heap_drew]); omega))
            (first | (go_at_call 63; (first | (with_reducible refine (two63_9 (Sm.laid hLr (by with_reducible assumption))).mono ?_) | (with_reducible refine (two63_0 (Sm.laid hLr (by with_reducible assumption))).mono ?_)); rintro e w' ⟨rfl, hb4⟩; obtain ⟨hc4, hf4⟩ := bcell hb4; have hr4 := hasr_call hb4; (first | (have q4 := hr4 _ (by with_reducible assumption)) | (have q4 := hr4 _ (hasr_alloc _ _ _ (by with_reducible assumption))) | (have q4 := hr4 _ (hasr_new _ _ rfl)) | (have q4 := hr4 _ (hasr_drew _ _ (hasr_new _ _ rfl))) | (have q4 := hr4 _ (hasr_alloc _ _ _ (hasr_new _ _ rfl))) | skip); (try simp only [World.size_alloc] at q4); clear hr4; have hz4 := bsz hb4; (try simp only [World.size_alloc, heap_drew] at hz4)) | (go_at_call 64; (first | (with_reducible refine (four64 a ha2 (Sm.laid hLr (by with_reducible assumption))).mono ?_) | (with_reducible refine (four64 n hn4 (Sm.laid hLr (by with_reducible assumption))).mono ?_)); rintro e w' ⟨rfl, hb4⟩; obtain ⟨hc4, hf4⟩ := bcell hb4; have hr4 := hasr_call hb4; (first | (have q4 := hr4 _ (by with_reducible assumption)) | (have q4 := hr4 _ (hasr_alloc _ _ _ (by with_reducible assumption))) | (have q4 := hr4 _ (hasr_new _ _ rfl)) | (have q4 := hr4 _ (hasr_drew _ _ (hasr_new _ _ rfl))) | (have q4 := hr4 _ (hasr_alloc _ _ _ (hasr_new _ _ rfl))) | skip); (try simp only [World.size_alloc] at q4); clear hr4; have hz4 := bsz hb4; (try simp only [World.size_alloc, heap_drew] at hz4)) | (go_at_call 62; refine (head62 _ ⟨⟨leB 2 9⟩⟩ ⟨⟨leB 2 0⟩⟩ ⟨⟨leB 4 a⟩⟩ ⟨⟨leB 4 n⟩⟩ rfl rfl rfl rfl ?_ ?_ ?_ ?_).mono ?_; (focus go_simp); (focus go_simp); (focus go_simp); (focus go_simp); rintro e w' ⟨rfl, hb4⟩; obtain ⟨hc4, hf4⟩ := bcell hb4; have hr4 := hasr_call hb4; (first | (have q4 := hr4 _ (by with_reducible assumption)) | (have q4 := hr4 _ (hasr_alloc _ _ _ (by with_reducible assumption))) | (have q4 := hr4 _ (hasr_new _ _ rfl)) | (have q4 := hr4 _ (hasr_drew _ _ (hasr_new _ _ rfl))) | (have q4 := hr4 _ (hasr_alloc _ _ _ (hasr_new _ _ rfl))) | skip); (try simp only [World.size_alloc] at q4); clear hr4; have hz4 := bsz hb4; (try simp only [World.size_alloc, heap_drew] at hz4)))
          all_goals (try go_wp2_with fail)
          all_goals go_meet
          all_goals (refine cut14 (And.left (by with_reducible assumption)) ?_ ?_ ?_ (by rw [← head_eq a n ha2 hn4]; go_simp) ?_ ?_)
          all_goals first | omega | go_simp
        case rest =>
          obtain ⟨g, rfl, hsm, hg, g0, g1, g2, g3, gf⟩ := hcut
          have d5c := hsm.cell hd5
          have hx : (strCells (msgs data k)).length ≤ 100000 := by
            rw [strCells_length]
            have h1 := msgs_size data k hk.out
            have h2 := ha.out
            omega
          have hx := Lib.hid hx
          have hM : (msgAt data a n).size ≤ 8216 := by rw [msgAt_size hn3]; omega
          have hM := Lib.hid hM
          by_cases hl0 : a + n = data.size
          · have e1 : ((a : Int) + (n : Int) == (data.size : Int)) = true := by simp; omega
            have hlast := Lib.hid hl0
            clear hl0
            have hqx := Lib.hid (hQ.out.below (Below.setCell hsm hg (.int .i64 4) : Below wr.heap.size wr (wc.setCell ⟨g, 1, none⟩ (.int .i64 4))))
            go_wp2_with (first | (go_at_call 65; with_reducible refine (send65 7 4 (head16 a n) (data.extract a (a + n)) (msgAt data a n) hM.out (fun y hy => put_last hlast.out hn1 hn2 y hy) hR.laid hqx.out hx.out hR.q4 hR.q5 hR.qf).mono ?_; rintro e y ⟨rfl, v', hQ'⟩; have hQ2 := Lib.hid hQ'; clear hQ'))
            go_wp2
            go_roundw
            case rel => exact ⟨k + 1, .inr (by have := ha.out; simp; omega), by rw [at_next ha.out hn.out hlt], v', by rw [← msgs_next ha.out hn.out]; exact hQ2.out⟩
            case measure => simp [RowKit.intOf]; omega
          · have e1 : ((a : Int) + (n : Int) == (data.size : Int)) = false := by simp; omega
            have hmid : a + n < data.size := by omega
            clear hl0
            have hqx := Lib.hid (hQ.out.below (show Below wr.heap.size wr wc from hsm))
            go_wp2_with (first | (go_at_call 65; with_reducible refine (send65 7 0 (head16 a n) (data.extract a (a + n)) (msgAt data a n) hM.out (fun y hy => put_mid hmid hn1 hn2 y hy) hR.laid hqx.out hx.out hR.q4 hR.q5 hR.qf).mono ?_; rintro e y ⟨rfl, v', hQ'⟩; have hQ2 := Lib.hid hQ'; clear hQ'))
            go_wp2
            go_roundw
            case rel => exact ⟨k + 1, .inr (by have := ha.out; simp; omega), by rw [at_next ha.out hn.out hlt], v', by rw [← msgs_next ha.out hn.out]; exact hQ2.out⟩
            case measure => simp [RowKit.intOf]; omega
      · rw [show min (8192 * k) data.size = data.size by omega]
        have hK := nMsgs_of hk.out (by omega : data.size ≤ 8192 * k)
        have hx : (strCells (msgs data k)).length ≤ 100000 := by
          rw [strCells_length]
          have h1 := msgs_size data k hk.out
          have h2 := hk.out
          rcases h2 with h2 | h2 <;> omega
        have hx := Lib.hid hx
        have hK := Lib.hid hK
        have ht6 := hQ.out.other hR.t6 hR.ne1
        have l1 : ((data.size : Int) < (data.size : Int)) = False := by simp
        clear hd5
        have hd5 := hQ.out.other hR.d5 hR.ne2
        go_wp2_with (first | (go_at_call 66; with_reducible refine (ended66 hR.laid hQ.out hx.out hR.q4 hR.q5 hR.q7 hR.q9 hR.qf).mono ?_; rintro e y ⟨rfl, v', hQ'⟩; have ht6y := hQ'.other hR.t6 hR.ne1; have hQ2 := Lib.hid hQ'; clear hQ'))
        go_wp2
        go_ret
        exact ⟨rfl, W, v', hR, by rw [← hK.out, strCells_append]; exact hQ2.out, hW13, hWB⟩
  all_goals go_simp
end Go.Proofs.YthlpiipobcomfaaGreatDoor
