/- Told answers of the law's own, and the tasks of a queue that has none. -/
/- The law's walk where the read went well. -/
import Derived.Test.YthlpiipobcomfaaGreatDoorQrSaid
import Derived.Test.YthlpiipobcomfaaGreatDoorQrStart
set_option linter.all false
set_option linter.unusedSectionVars false
set_option linter.unusedVariables false
set_option linter.unusedSimpArgs false
namespace Go.Proofs.YthlpiipobcomfaaGreatDoor
open Go Go.Ab Go.Proofs Go.RowKit Go.Lib
set_option maxRecDepth 1000000
theorem flatL {l : List Value} (h : ∀ v ∈ l, Flat v) : Flat (.agg l.toArray) := .agg _ (by simpa using h)
theorem run31 : (letI : Kn := knNone; kF code nats 3000 31 [.agg #[.int .i64 2, .int .i64 0, .int .i64 9, .int .u32 1, .int .i64 512, .int .u32 0, .int .u32 0, .int .u32 0, .int .u32 0, .int .u32 0, .int .u32 0], .bool false] (otabH tabs) (fun r _ => eqx 3 r (.tuple #[.string sqe64, .int .i64 0]))) = true := by kernel_rfl
theorem run17 : (letI : Kn := knNone; kF code nats 3000 17 [.agg #[.int .i64 4, .int .i64 0, .string sqe64, .string ⟨#[]⟩], .bool false, .bool false] (otabH tabs) (fun r _ => eqx 3 r (.tuple #[.string cmd72, .int .i64 0]))) = true := by kernel_rfl
theorem run33 : (letI : Kn := knNone; kF code nats 3000 33 [.string endHead] (otabH tabs) (fun r _ => eqx 3 r (.tuple #[.agg #[.int .u32 0, .int .u32 0, .int .i64 2, .int .i64 1, .int .i64 9, .int .i64 0], .int .i64 0]))) = true := by kernel_rfl
theorem run20 : (letI : Kn := knNone; kF code nats 3000 20 [] (otabH tabs) (fun r _ => eqx 3 r (.bool true))) = true := by kernel_rfl
theorem flat_ints {l : List (IntKind × Int)} : ∀ v ∈ l.map (fun p => Value.int p.1 p.2), Flat v := by
  intro v hv
  rw [List.mem_map] at hv
  obtain ⟨p, _, rfl⟩ := hv
  exact .int _ _
theorem put31 (w : World) (hL : Laid w) : Calls Tryz.prog 31 #[.agg #[.int .i64 2, .int .i64 0, .int .i64 9, .int .u32 1, .int .i64 512, .int .u32 0, .int .u32 0, .int .u32 0, .int .u32 0, .int .u32 0, .int .u32 0], .bool false] w fun e w' => e = .returned (.tuple #[.string sqe64, .int .i64 0]) ∧ Below w.heap.size w w' :=
  told_of (flT2 _) run31 (fun σ => @flat_lrel (bitsI 0) σ _ (by
    intro v hv; simp at hv; rcases hv with rfl | rfl
    · exact flatL (flat_ints (l := [(.i64, 2), (.i64, 0), (.i64, 9), (.u32, 1), (.i64, 512), (.u32, 0), (.u32, 0), (.u32, 0), (.u32, 0), (.u32, 0), (.u32, 0)]))
    · exact .bool _)) hL
theorem put17 (w : World) (hL : Laid w) : Calls Tryz.prog 17 #[.agg #[.int .i64 4, .int .i64 0, .string sqe64, .string ⟨#[]⟩], .bool false, .bool false] w fun e w' => e = .returned (.tuple #[.string cmd72, .int .i64 0]) ∧ Below w.heap.size w w' :=
  told_of (flT2 _) run17 (fun σ => @flat_lrel (bitsI 0) σ _ (by intro v hv; simp at hv; rcases hv with rfl | rfl <;> first | exact .bool _ | exact .agg _ (by intro v hv; simp at hv; rcases hv with rfl | rfl | rfl | rfl <;> constructor))) hL
theorem ended33 (w : World) (hL : Laid w) : Calls Tryz.prog 33 #[.string endHead] w fun e w' => e = .returned (.tuple #[.agg #[.int .u32 0, .int .u32 0, .int .i64 2, .int .i64 1, .int .i64 9, .int .i64 0], .int .i64 0]) ∧ Below w.heap.size w w' :=
  told_of (.tuple _ (by intro v hv; simp at hv; rcases hv with rfl | rfl; exact flatL (flat_ints (l := [(.u32, 0), (.u32, 0), (.i64, 2), (.i64, 1), (.i64, 9), (.i64, 0)])); constructor)) run33 (fun σ => @flat_lrel (bitsI 0) σ _ (by intro v hv; simp at hv; subst hv; constructor)) hL
theorem wakes20 (w : World) (hL : Laid w) : Calls Tryz.prog 20 #[] w fun e w' => e = .returned (.bool true) ∧ Below w.heap.size w w' :=
  told_of (.bool _) run20 (fun σ => @LRel.nil (bitsI 0) σ) hL
set_option maxHeartbeats 4000000 in
theorem tasks18e {x : World} {bq oq c : Nat} {a : Option Addr} (h : x.cell? ⟨bq, oq + 13, none⟩ = some (.slice a 0 c)) : Calls Tryz.prog 18 #[.pointer (some ⟨bq, oq, none⟩)] x fun e y => e = .returned (.slice none 0 0) ∧ x = y := by
  go_enter Tryz.func18, Tryz.ntmps18
  go_wp2
  refine wp_loop_rounds 1 ?_; rw [rounds_succ]
  go_wp2
  go_ret
  exact ⟨rfl, rfl⟩
end Go.Proofs.YthlpiipobcomfaaGreatDoor
namespace Go.Proofs.YthlpiipobcomfaaGreatDoor
open Go Go.Proofs Go.RowKit Go.Lib
set_option maxRecDepth 1000000
theorem num_a' (a n : Nat) (ha : a < 65536) (w : World) : Calls Tryz.prog 16 #[.string (head16 a n), .int .i64 4, .int .i64 4] w fun e w' => e = .returned (.int .i64 a) ∧ w' = w := (num_a a n ha w).mono fun _ _ h => ⟨h.1, h.2.symm⟩
theorem num_n' (a n : Nat) (ha : n < 65536) (w : World) : Calls Tryz.prog 16 #[.string (head16 a n), .int .i64 8, .int .i64 4] w fun e w' => e = .returned (.int .i64 n) ∧ w' = w := (num_n a n ha w).mono fun _ _ h => ⟨h.1, h.2.symm⟩
theorem num_c' (a n : Nat) (w : World) : Calls Tryz.prog 16 #[.string (head16 a n), .int .i64 0, .int .i64 2] w fun e w' => e = .returned (.int .i64 9) ∧ w' = w := (num_c a n w).mono fun _ _ h => ⟨h.1, h.2.symm⟩
/-- The same world, with draws. -/
def Qt (a b : World) : Prop := ∃ m, b = a.drewN m
theorem Qt.cell {a b : World} (h : Qt a b) (p : Addr) : b.cell? p = a.cell? p := by
  obtain ⟨m, rfl⟩ := h
  rfl
theorem Qt.next {a b : World} (h : Qt a b) (n : Nat) : Qt a (b.drewN n) := by
  obtain ⟨m, rfl⟩ := h
  exact ⟨m + n, by rw [World.drewN_drewN]⟩
theorem tps_get (data : ByteArray) (j f : Nat) (hf : f < 4) : ∀ k, j < k → (tps data k)[j * 4 + f]? = (tpOf data j)[f]?
  | 0, h => by omega
  | k + 1, h => by
    show (tps data k ++ tpOf data k)[j * 4 + f]? = _
    rcases Nat.lt_or_ge j k with hj | hj
    · rw [List.getElem?_append_left (by rw [tps_len]; omega)]
      exact tps_get data j f hf k hj
    · have e : j = k := by omega
      subst e
      rw [List.getElem?_append_right (by rw [tps_len]; omega), tps_len, Nat.add_sub_cancel_left]
theorem last_iff {data : ByteArray} {j : Nat} (h : j < nMsgs data) : 8192 * j + nAt data j = data.size ↔ j + 1 = nMsgs data := by
  unfold nAt nMsgs at *; omega
theorem got_next {data : ByteArray} {j : Nat} (h : 8192 * j < data.size) : data.extract 0 (min (8192 * j) data.size) ++ data.extract (8192 * j) (8192 * j + nAt data j) = data.extract 0 (min (8192 * (j + 1)) data.size) := by
  have e1 : min (8192 * j) data.size = 8192 * j := by omega
  have e2 : min (8192 * (j + 1)) data.size = 8192 * j + nAt data j := by unfold nAt; omega
  rw [e1, e2]
  apply ByteArray.ext
  rw [ByteArray.data_append, ByteArray.data_extract, ByteArray.data_extract, ByteArray.data_extract]
  rw [Array.extract_append_extract]
  congr 1 <;> omega
theorem ext_K (data : ByteArray) : data.extract 0 (min (8192 * nMsgs data) data.size) = data := by
  have : min (8192 * nMsgs data) data.size = data.size := by unfold nMsgs; omega
  rw [this]
  exact ext_all data
theorem QW.belowB {W x : World} {bq oq B : Nat} {v : Value} {xs : List Value} (h : QW W bq oq v xs x) (h1 : B ≤ bq) (h2 : B ≤ W.heap.size) : Below B W x :=
  ⟨h.os, h.tape, h.output, h.size, fun k hk => h.block k (by omega) (by omega)⟩
theorem Qt.below {a b : World} (h : Qt a b) : Below a.heap.size a b := by
  obtain ⟨m, rfl⟩ := h
  exact ⟨rfl, rfl, rfl, Nat.le_refl _, fun _ _ => rfl⟩
theorem ext_nil (data : ByteArray) : data.extract 0 (min (8192 * 0) data.size) = ⟨#[]⟩ := by
  apply ByteArray.ext
  rw [ByteArray.data_extract]
  simp
set_option maxHeartbeats 4000000 in
theorem law_long (data : ByteArray) (hda : 30000 < data.size) (hm : data.size ≤ 9223372036854775807) (st : Nat) {w : World} (hL : Laid w) :
    Calls Tryz.prog 6 #[.string data, .int .u16 st] w fun e y => e = .returned (.bool true) ∧ Below w.heap.size w y := by
  have i1 : (30000 : Int) < (data.size : Int) := by omega
  go_enter Tryz.func6, Tryz.ntmps6
  go_wp2_with (first | (go_at_call 20; refine (wakes20 _ hL).mono ?_; rintro e w2 ⟨rfl, hb⟩))
  go_ret
  exact ⟨rfl, hb⟩
set_option maxHeartbeats 40000000 in
theorem law_0 (data : ByteArray) (hda : data.size ≤ 30000) (st : Nat) (hst : st < 65536) (hz : st % 32768 = 0) {w : World} (hL : Laid w) :
    Calls Tryz.prog 6 #[.string data, .int .u16 st] w fun e y => e = .returned (.bool true) ∧ Below w.heap.size w y := by
  have i1 : ((30000 : Int) < (data.size : Int)) = False := by simp; omega
  have i2 : ((st : Int) % 32768) = 0 := by omega
  have hb0 := begun12 hL (Below.refl w.heap.size w)
  have hb1 := Lib.hid hb0
  clear hb0 hz
  go_enter Tryz.func6, Tryz.ntmps6
  go_upto_region 7 with (first | (go_at_call 12; refine hb1.out.mono ?_; rintro e w1 ⟨bq, oq, rfl, hAt⟩) | (go_at_call 31; refine (put31 _ ?_).mono ?_; rotate_left; rintro e w2 ⟨rfl, hb2⟩) | (go_at_call 17; refine (put17 _ ?_).mono ?_; rotate_left; rintro e w3 ⟨rfl, hb3⟩))
  rotate_left
  · exact ((hL.of hAt.below).alloc _).of hb2
  · exact (hL.of hAt.below).alloc _
  have hAt3 := Lib.hid (((hAt.mono ((Below.refl _ _).alloc (Nat.le_refl _) _)).mono hb2).mono hb3)
  clear hb1 hAt hb2 hb3
  go_upto_region 9 with (first | (go_at_call 13; refine (feed13 hAt3.out).mono ?_; rintro e w4 ⟨_, rfl, hAt4⟩))
  have hAt5 := Lib.hid hAt4
  clear hAt4 hAt3
  go_upto_region 11 with (first | (go_at_call 18; refine (tasks18 hAt5.out).mono ?_; rintro e w5 ⟨ta, tc, rfl, hb5, bw, ow, cw, bu, ou, cu, bt, ot, hW, g1, g2, g3⟩; have hW1 := Lib.hid hW; clear hW) | (go_at_call 32; refine (done32 data hda (hL.of hb5) hW1.out.hcw hW1.out.ne1 hW1.out.ne2 hW1.out.ne3 hW1.out.ne4 hW1.out.ne5 hW1.out.ne6 hW1.out.c13 hW1.out.c12 hW1.out.f13 hW1.out.f12 hW1.out.cbw hW1.out.cbu hW1.out.fbw hW1.out.fbu hW1.out.t0 hW1.out.t4 hW1.out.t6 hW1.out.q2 hW1.out.q4 hW1.out.q5 hW1.out.q7 hW1.out.q9 hW1.out.qf hW1.out.h4 hW1.out.h5 hW1.out.h6).mono ?_; rintro e w6 ⟨rfl, hD⟩))
  obtain ⟨W, v, hR, hQ, h13, hWB⟩ := hD
  rw [rest_all] at hQ
  have hS0 := said15 hda hR.laid hQ hR.qf
  have hK4 : nMsgs data ≤ 4 := by unfold nMsgs; omega
  obtain ⟨K, hK⟩ : ∃ K, Hid (nMsgs data = K) := ⟨_, Lib.hid rfl⟩
  rw [hK.out] at hS0 hK4
  have hS := Lib.hid hS0
  clear hQ hS0
  go_upto_region 12 with (first | (go_at_call 15; refine hS.out.mono ?_; rintro e w7 ⟨l, rfl, hl, hQ7⟩))
  rcases hl.2 with ⟨_, h0⟩ | ⟨g, cap, cur, rfl, hx⟩
  · omega
  clear hx
  have hl1 := Lib.hid hl
  have hQ8 := Lib.hid hQ7
  clear hl hQ7 hS
  go_wp2
  go_loopw [13, 14] (fun got i wr => ∃ j, j ≤ K ∧ i = .int .i64 j ∧ got = .string (data.extract 0 (min (8192 * j) data.size)) ∧ Qt w7 wr)
    (fun _ i _ => K - (RowKit.intOf i).toNat)
  case atStart => exact ⟨0, by omega, rfl, by rw [ext_nil], ⟨0, rfl⟩⟩
  case round =>
    obtain ⟨j, hj, rfl, rfl, hqt⟩ := hrel
    rcases Nat.lt_or_ge j K with hlt | hge
    · have j1 : (j : Int) + 1 < (K : Int) + 1 := by omega
      have hjn : j < nMsgs data := by rw [hK.out]; exact hlt
      have hlt2 := nMsgs_lt hjn
      have hn1 : nAt data j ≤ 8192 := by unfold nAt; omega
      have hn2 : 8192 * j + nAt data j ≤ data.size := by unfold nAt; omega
      have hlast := last_iff hjn
      have hgn := got_next hlt2
      have hCs : (data.extract (8192 * j) (8192 * j + nAt data j)).size = nAt data j := chunk_size hn2
      have hGs : (data.extract 0 (min (8192 * j) data.size)).size = 8192 * j := by rw [ByteArray.size_extract]; omega
      have hcell : ∀ f, f < 4 → wr.cell? ⟨g, j * 4 + f, none⟩ = (tpOf data j)[f]? := fun f hf => by
        rw [hqt.cell]
        rw [← tps_get data j f hf (K + 1) (by omega)]
        exact hl1.out.cellAt _ (by omega)
      have ht : tpOf data j = [.int .i64 7, .int .i64 (if 8192 * j + nAt data j = data.size then 4 else 0), .string (head16 (8192 * j) (nAt data j)), .string (data.extract (8192 * j) (8192 * j + nAt data j))] := by unfold tpOf; rw [if_pos hjn]
      rw [ht] at hcell
      have hgnh := Lib.hid hgn
      clear hgn ht hjn
      obtain ⟨G, hG⟩ : ∃ G, Hid (data.extract 0 (min (8192 * j) data.size) = G) := ⟨_, Lib.hid rfl⟩
      obtain ⟨C, hC⟩ : ∃ C, Hid (data.extract (8192 * j) (8192 * j + nAt data j) = C) := ⟨_, Lib.hid rfl⟩
      rw [hG.out] at hGs ⊢
      rw [hC.out] at hCs hcell
      obtain ⟨fl, hfl⟩ : ∃ fl : Int, Hid ((if 8192 * j + nAt data j = data.size then (4 : Int) else 0) = fl) := ⟨_, Lib.hid rfl⟩
      rw [hfl.out] at hcell
      have b1 : ((fl == 4) == ((j : Int) + 2 == (K : Int) + 1)) = true := by
        rw [← hfl.out]
        rw [hK.out] at hlast
        by_cases hq : j + 1 = K
        · rw [if_pos (hlast.2 hq)]; simp; omega
        · rw [if_neg (fun h => hq (hlast.1 h))]; simp; omega
      clear hlast
      obtain ⟨n, hn⟩ : ∃ n, Hid (nAt data j = n) := ⟨_, Lib.hid rfl⟩
      obtain ⟨a, ha⟩ : ∃ a, Hid (8192 * j = a) := ⟨_, Lib.hid rfl⟩
      rw [hn.out] at hn1 hn2 hCs hcell
      rw [ha.out] at hn2 hGs hcell hlt2
      have b2 : ((a : Int) != (G.size : Int)) = false := by simp; omega
      have b3 : ((n : Int) != (C.size : Int)) = false := by simp; omega
      have ha2 : a < 65536 := by omega
      have hn3 : n < 65536 := by omega
      have c0 : wr.cell? ⟨g, j * 4, none⟩ = some (.int .i64 7) := hcell 0 (by omega)
      have c1 := hcell 1 (by omega)
      have c2 := hcell 2 (by omega)
      have c3 := hcell 3 (by omega)
      have s1 : G.size ≤ 30000 := by omega
      have s2 : C.size ≤ 30000 := by omega
      clear hcell hCs hGs
      have j2 : (0 : Int) ≤ (j : Int) := by omega
      have j3 : (j : Int) < (K : Int) + 1 := by omega
      have j4 : j < K + 1 := by omega
      have j5 : (j : Int) < ((K + 1 : Nat) : Int) := by omega
      have l2 : IntKind.i64.wrap ((j : Int) + 2) = j + 2 := IntWalk.i64_in _ (by omega)
      go_upto_region 16 with fail
      simp only [List.getElem?_cons_zero, List.getElem?_cons_succ] at c1 c2 c3
      go_quiet ((go_at_call 16; (first | (with_reducible exact Calls.quiet_of_same (num_a' a n ha2 _)) | (with_reducible exact Calls.quiet_of_same (num_n' a n hn3 _)) | (with_reducible exact Calls.quiet_of_same (num_c' a n _)))))
      go_wp2
      go_roundw
      case rel => exact ⟨j + 1, by omega, by go_num, by rw [← hgnh.out, hG.out, hC.out], hqt.next _⟩
      case measure => simp [RowKit.intOf]; omega
    · obtain rfl : j = K := by omega
      have hQw := hQ8.out.below hqt.below
      have hLr : Laid wr := hQw.laid hR.laid
      have d13 := (hQw.cell (oq + 13) (by omega)).trans h13
      have hcK : wr.cell? ⟨g, j * 4 + 2, none⟩ = some (.string endHead) := by
        rw [hqt.cell, hl1.out.cellAt _ (by omega), ← hK.out, tps_get data (nMsgs data) 2 (by omega) _ (by omega)]
        unfold tpOf
        rw [if_neg (by omega)]
        rfl
      have hgot : data.extract 0 (min (8192 * j) data.size) = data := by rw [← hK.out]; exact ext_K data
      rw [hgot]
      have hBw : Below w.heap.size w wr := by
        have s1 := hb5.size
        have e1 := hWB w.heap.size g1 g2 g3 s1
        have e2 := hQw.belowB (B := w.heap.size) g1 (Nat.le_trans s1 e1.size)
        exact (hb5.trans e1).trans e2
      have hBw1 := Lib.hid hBw
      have hqlt := Nat.lt_of_lt_of_le hQw.hq hQw.size
      clear hgot hBw hQw
      have x1 : (0 : Int) ≤ (j : Int) := by omega
      have x2 : (j : Int) < (j : Int) + 1 := by omega
      have x3 : j < j + 1 := by omega
      go_upto_region 22 with (first | (go_at_call 33; refine (ended33 _ hLr).mono ?_; rintro e w8 ⟨rfl, hb8⟩))
      have w13 := (hb8.cell (p := ⟨bq, oq + 13, none⟩) hqlt).trans d13
      have hq8 : bq < w8.heap.size := Nat.lt_of_lt_of_le hqlt hb8.size
      have hL8 := hLr.of hb8
      have hB8 := Lib.hid (below_step hBw1.out hb8 (Nat.le_refl _))
      clear hb8 d13 hcK hqlt
      go_wp2_with (first | (go_at_call 18; refine (tasks18e (a := some ⟨bw, ow, none⟩) (c := cw) ?_).mono ?_; (focus go_simp); rintro e w9 ⟨rfl, rfl⟩) | (go_at_call 20; refine (wakes20 _ ?_).mono ?_; rotate_left; rintro e w10 ⟨rfl, hb10⟩))
      · go_ret
        exact ⟨rfl, below_step (Below.alloc hB8.out hB8.out.size _) hb10 (Nat.le_refl _)⟩
      · exact hL8.alloc _
end Go.Proofs.YthlpiipobcomfaaGreatDoor
