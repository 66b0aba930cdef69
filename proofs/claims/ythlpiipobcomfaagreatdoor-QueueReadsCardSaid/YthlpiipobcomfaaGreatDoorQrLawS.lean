/- The law's walk where the read failed. -/
/- 'QueueReads' answers true: for every text and every status. -/
import Derived.Test.YthlpiipobcomfaaGreatDoorQrLaw
import Derived.Test.YthlpiipobcomfaaGreatDoorQrFail
set_option linter.all false
set_option linter.unusedSectionVars false
set_option linter.unusedVariables false
set_option linter.unusedSimpArgs false
namespace Go.Proofs.YthlpiipobcomfaaGreatDoor
open Go Go.Proofs Go.RowKit Go.Lib
set_option maxRecDepth 1000000
set_option maxHeartbeats 40000000 in
theorem law_s (data : ByteArray) (hda : data.size ≤ 30000) (st s : Nat) (hst : st < 65536) (hz : st % 32768 = s) (hs0 : 0 < s) {w : World} (hL : Laid w) :
    Calls Tryz.prog 6 #[.string data, .int .u16 st] w fun e y => e = .returned (.bool true) ∧ Below w.heap.size w y := by
  have i1 : ((30000 : Int) < (data.size : Int)) = False := by simp; omega
  have hs : s < 32768 := by omega
  have i2 : ((st : Int) % 32768) = (s : Int) := by omega
  have hse : ((s : Int) == 0) = false := by simp; omega
  have hse2 : ((s : Int) != 0) = true := by simp; omega
  have hb0 := begun12 hL (Below.refl w.heap.size w)
  have hb1 := Lib.hid hb0
  clear hb0 hz
  go_enter Tryz.func6, Tryz.ntmps6
  go_upto_region 7 with (first | (go_at_call 12; refine hb1.out.mono ?_; rintro e w1 ⟨bq, oq, rfl, hAt⟩) | (go_at_call 31; refine (put31 _ ?_).mono ?_; rotate_left; rintro e w2 ⟨rfl, hb2⟩) | (go_at_call 17; refine (put17 _ ?_).mono ?_; rotate_left; rintro e w3 ⟨rfl, hb3⟩))
  rotate_left
  · exact ((hL.of hAt.below).alloc _).of hb2
  · exact (hL.of hAt.below).alloc _
  have hAt3 := Lib.hid (((hAt.mono ((Below.refl _ _).alloc (Nat.le_refl _) _)).mono hb2).mono hb3)
  clear hb1 hAt hb2 hb3
  go_upto_region 9 with (first | (go_at_call 13; refine (feed13 hAt3.out).mono ?_; rintro e w4 ⟨_, rfl, hAt4⟩))
  have hAt5 := Lib.hid hAt4
  clear hAt4 hAt3
  go_upto_region 11 with (first | (go_at_call 18; refine (tasks18 hAt5.out).mono ?_; rintro e w5 ⟨ta, tc, rfl, hb5, bw, ow, cw, bu, ou, cu, bt, ot, hW, g1, g2, g3⟩; have hW1 := Lib.hid hW; clear hW) | (go_at_call 32; refine (doneS32 data hs hs0 (hL.of hb5) hW1.out.hcw hW1.out.ne1 hW1.out.ne2 hW1.out.ne3 hW1.out.ne4 hW1.out.ne5 hW1.out.ne6 hW1.out.c13 hW1.out.c12 hW1.out.f13 hW1.out.f12 hW1.out.cbw hW1.out.cbu hW1.out.fbw hW1.out.fbu hW1.out.t0 hW1.out.t4 hW1.out.t6 hW1.out.q2 hW1.out.q4 hW1.out.q5 hW1.out.q7 hW1.out.q9 hW1.out.qf hW1.out.h4 hW1.out.h5 hW1.out.h6).mono ?_; rintro e w6 ⟨rfl, hD⟩))
  obtain ⟨W, v, hR, hQ, h13, hWB⟩ := hD
  have hS := Lib.hid (saidS15 hs hR.laid hQ hR.qf)
  clear hQ
  go_upto_region 12 with (first | (go_at_call 15; refine hS.out.mono ?_; rintro e w7 ⟨l, rfl, hl, hQ7⟩))
  rcases hl.2 with ⟨_, h0⟩ | ⟨g, cap, cur, rfl, hx⟩
  · omega
  clear hx
  have hl1 := Lib.hid hl
  have hQ8 := Lib.hid hQ7
  clear hl hQ7 hS
  go_wp2
  refine wp_loop_rounds 1 ?_; rw [rounds_succ]
  have hQw := hQ8.out
  have hLr : Laid w7 := hQw.laid hR.laid
  have d13 := (hQw.cell (oq + 13) (by omega)).trans h13
  have hcK : w7.cell? ⟨g, 2, none⟩ = some (.string (headS s)) := by
    rw [hl1.out.cellAt _ (by omega)]
    rfl
  have hBw : Below w.heap.size w w7 := by
    have s1 := hb5.size
    have e1 := hWB w.heap.size g1 g2 g3 s1
    have e2 := hQw.belowB (B := w.heap.size) g1 (Nat.le_trans s1 e1.size)
    exact (hb5.trans e1).trans e2
  have hBw1 := Lib.hid hBw
  have hqlt := Nat.lt_of_lt_of_le hQw.hq hQw.size
  clear hBw hQw
  go_upto_region 22 with (first | (go_at_call 33; refine (endedS33 hs hLr).mono ?_; rintro e w8 ⟨rfl, hb8⟩))
  have w13 := (hb8.cell (p := ⟨bq, oq + 13, none⟩) hqlt).trans d13
  have hq8 : bq < w8.heap.size := Nat.lt_of_lt_of_le hqlt hb8.size
  have hL8 := hLr.of hb8
  have hB8 := Lib.hid (below_step hBw1.out hb8 (Nat.le_refl _))
  clear hb8 d13 hcK hqlt
  go_wp2_with (first | (go_at_call 18; refine (tasks18e (a := some ⟨bw, ow, none⟩) (c := cw) ?_).mono ?_; (focus go_simp); rintro e w9 ⟨rfl, rfl⟩) | (go_at_call 20; refine (wakes20 _ ?_).mono ?_; rotate_left; rintro e w10 ⟨rfl, hb10⟩))
  · go_ret
    exact ⟨rfl, below_step (Below.alloc hB8.out hB8.out.size _) hb10 (Nat.le_refl _)⟩
  · exact hL8.alloc _
end Go.Proofs.YthlpiipobcomfaaGreatDoor
namespace Go.Proofs.YthlpiipobcomfaaGreatDoor
open Go Go.Proofs Go.RowKit
theorem reads_law (data : ByteArray) (hm : data.size ≤ 9223372036854775807) (st : Nat) (hst : st < 65536) {w : World} (hL : Laid w) :
    Calls Tryz.prog 6 #[.string data, .int .u16 st] w fun e y => e = .returned (.bool true) ∧ Below w.heap.size w y := by
  rcases Nat.lt_or_ge 30000 data.size with h | h
  · exact law_long data h hm st hL
  · rcases Nat.eq_zero_or_pos (st % 32768) with h0 | h0
    · exact law_0 data h st hst h0 hL
    · exact law_s data h st _ hst rfl h0 hL
end Go.Proofs.YthlpiipobcomfaaGreatDoor
