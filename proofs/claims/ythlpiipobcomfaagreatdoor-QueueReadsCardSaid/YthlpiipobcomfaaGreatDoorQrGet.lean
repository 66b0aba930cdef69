/- The reference's Get at a message with data: what it answers. -/
import Derived.Test.YthlpiipobcomfaaGreatDoorQrEng
set_option linter.all false
set_option linter.unusedSectionVars false
set_option linter.unusedVariables false
set_option linter.unusedSimpArgs false
namespace Go.Proofs.YthlpiipobcomfaaGreatDoor
open Go Go.Proofs Go.RowKit
set_option maxRecDepth 1000000
def Sg (w wr : World) : Prop := Below (w.heap.size + 1) (w.alloc (.cells #[.int .i64 0, .int .i64 0, .string ⟨#[]⟩, .string ⟨#[]⟩, .int .i64 0] 96)) wr
theorem Sg.drew {w wr : World} (h : Sg w wr) : Sg w wr.drew := Below.drew h
theorem Sg.step {w w1 w2 : World} (h1 : Sg w w1) (h2 : Below w1.heap.size w1 w2) : Sg w w2 := below_step h1 h2 (by simp)
theorem Laid.sg {w x : World} (hL : Laid w) (h : Sg w x) : Laid x := (hL.alloc _).of (by rw [show (w.alloc (.cells #[.int .i64 0, .int .i64 0, .string ⟨#[]⟩, .string ⟨#[]⟩, .int .i64 0] 96)).heap.size = w.heap.size + 1 by simp]; exact h)
theorem Sg.fin {w w2 : World} (h : Sg w w2) (o1 : Obj) (a b : Nat) (cs : Array Value) :
    Below w.heap.size w ((((w2.alloc o1).drewN a).alloc (.cells cs 96)).drewN b) ∧ ((((w2.alloc o1).drewN a).alloc (.cells cs 96)).drewN b).heap[w.heap.size]? = some (.cells #[.int .i64 0, .int .i64 0, .string ⟨#[]⟩, .string ⟨#[]⟩, .int .i64 0] 96 (0, 0)) ∧
      ((((w2.alloc o1).drewN a).alloc (.cells cs 96)).drewN b).heap[w2.heap.size + 1]? = some (.cells cs 96 (0, 0)) := by
  have hs : w.heap.size + 1 ≤ w2.heap.size := by have := h.size; simpa using this
  have h2 : w2.heap[w.heap.size]? = some (.cells #[.int .i64 0, .int .i64 0, .string ⟨#[]⟩, .string ⟨#[]⟩, .int .i64 0] 96 (0, 0)) := below_lt h (Nat.lt_succ_self _) (heap_alloc_new _ _)
  have hb : Below w.heap.size w w2 := ((Below.refl _ w).alloc (Nat.le_refl _) _).trans (h.mono (Nat.le_succ _))
  refine ⟨?_, ?_, heap_alloc2_new _ _ _⟩
  · have h3 := (hb.alloc (by omega) o1).alloc (by simp; omega) (.cells cs 96)
    exact ⟨h3.os, h3.tape, h3.output, h3.size, h3.block⟩
  · show ((w2.alloc o1).alloc (.cells cs 96)).heap[w.heap.size]? = _
    rw [Below.heap_alloc _ _ _ (by simp; omega), Below.heap_alloc _ _ _ (by omega), h2]
theorem fld131 (a b c d : Int) (w : World) : (Instr.field 131 (.agg #[.int .i64 a, .int .i64 b, .int .i64 c, .int .i64 d]) 3).run Tryz.prog w = .ok (.int .i64 d) w := by kernel_rfl
set_option maxHeartbeats 4000000 in
theorem get42_4 (n : Nat) (hn : n ≤ 8192) (hn1 : 1 ≤ n) (s : ByteArray) (hall : 24 + n ≤ s.size) (hz : s.size ≤ 40000) (hs : s.extract 0 8 = hdr 7 4 n) (w : World) (hL : Laid w) : Calls Tryz.prog 42 #[.string s, .bool false, .bool false] w fun e w' => e = .returned (.tuple #[.agg #[.int .i64 7, .int .i64 4, .string (s.extract 8 24), .string (s.extract 24 (24 + n)), .int .i64 (24 + n)], .int .i64 0]) ∧ Below w.heap.size w w' := by
  have h8 : 8 ≤ s.size := by omega
  have h0 : 0 < s.size := by omega
  have h1 : 1 < s.size := by omega
  have e0 : s[0] = 7 := hdr_at hs h8 0 (by omega) h0
  have e1 : s[1] = 4 := hdr_at hs h8 1 (by omega) h1
  have b4 := hdr_at hs h8 4 (by omega) (by omega)
  have b5 := hdr_at hs h8 5 (by omega) (by omega)
  have b6 := hdr_at hs h8 6 (by omega) (by omega)
  have b7 := hdr_at hs h8 7 (by omega) (by omega)
  have ehd : ((hdr 7 4 n).toList == (s.extract 0 8).toList) = true := by rw [hs]; simp
  have b4 := Lib.hid b4; have b5 := Lib.hid b5; have b6 := Lib.hid b6; have b7 := Lib.hid b7
  clear hs
  have hf := fld131
  go_enter Tryz.func42, Tryz.ntmps42
  go_upto_region 14 with (first | (go_at_call 43; refine (size43_7 _).mono ?_; rintro e w' ⟨rfl, rfl⟩) | (go_at_call 80; refine (little80 s n h8 hz hn b4 b5 b6 b7 _).mono ?_; rintro e w' ⟨rfl, rfl⟩))
  go_loopw [12, 13] (fun d k wr => ∃ j : Nat, k = .int .i64 j ∧ (d = .int .i64 (-1) ∧ j ≤ n ∨ d = .int .i64 n ∧ j = n + 1) ∧ Sg w wr)
    (fun _ k _ => n + 1 - (intOf k).toNat)
  case atStart => exact ⟨0, rfl, .inl ⟨rfl, by omega⟩, Below.refl _ _⟩
  case round =>
    obtain ⟨j, rfl, hd, hbel⟩ := hrel
    rcases hd with ⟨rfl, hj⟩ | ⟨rfl, rfl⟩
    · have hj2 : j ≤ 8192 := by omega
      by_cases hjn : j = n
      · subst hjn
        go_wp2_with (first | (go_at_call 44; refine (most44_7 _).mono ?_; rintro e w' ⟨rfl, rfl⟩) | (go_at_call 81; refine (planned81_7 j hj2 _).mono ?_; rintro e w' ⟨rfl, hb⟩))
        go_wp2
        go_roundw
        case rel => exact ⟨j + 1, by go_num, .inr ⟨rfl, rfl⟩, hbel.step hb⟩
        case measure => simp [intOf]
      · go_wp2_with (first | (go_at_call 44; refine (most44_7 _).mono ?_; rintro e w' ⟨rfl, rfl⟩) | (go_at_call 81; refine (planned81_7 j hj2 _).mono ?_; rintro e w' ⟨rfl, hb⟩))
        go_wp2
        go_roundw
        case rel => exact ⟨j + 1, by go_num, .inl ⟨rfl, by omega⟩, hbel.step hb⟩
        case measure => simp [intOf]; omega
    · go_wp2_with (first | (go_at_call 44; refine (most44_7 _).mono ?_; rintro e w' ⟨rfl, rfl⟩))
      go_region_held3 (fun x => Sg w x) (first | exact hbel.drew | exact Sg.step (by assumption) (by assumption)) (first | (go_at_call 45; refine (common45_4 n hn hn1 _ (hL.sg hbel.drew)).mono ?_; rintro e w' ⟨rfl, hb⟩))
      have hneg : decide ((n : Int) < 0) = false := by simp
      go_wp2_with (first | (go_at_call 81; refine (planned81_7 n hn _).mono ?_; rintro e w'' ⟨rfl, hb2⟩))
      go_quiet (fail)
      go_wp2
      have i1 : (24 : Int) ≤ (s.size : Int) := by omega
      have i2 : (24 : Int) + (n : Int) ≤ (s.size : Int) := by omega
      have i3 : (24 : Int) ≤ 24 + (n : Int) := by omega
      have i4 : (0 : Int) ≤ 24 + (n : Int) := by omega
      go_region_held3 (fun x => x.cell? ⟨w''.heap.size, 0, none⟩ = some (.int .i64 24) ∧ x.cell? ⟨w''.heap.size, 1, none⟩ = some (.int .i64 24) ∧ x.cell? ⟨w''.heap.size, 2, none⟩ = some (.int .i64 (24 + n)) ∧ x.cell? ⟨w''.heap.size, 3, none⟩ = some (.int .i64 (24 + n))) (go_keep) (fail)
      go_wp2
      go_quiet (fail)
      go_upto_region 24 with fail
      refine gen_world (fun x => Below w.heap.size w x ∧ x.heap[w.heap.size]? = some (.cells #[.int .i64 0, .int .i64 0, .string ⟨#[]⟩, .string ⟨#[]⟩, .int .i64 0] 96 (0, 0)) ∧
        x.heap[w''.heap.size + 1]? = some (.cells #[.int .i64 7, .int .i64 4, .string (s.extract 8 24), .string (s.extract 24 (24 + (n : Int)).toNat), .int .i64 (24 + n)] 96 (0, 0))) ?_ ?_
      · exact (Sg.step (Sg.step hbel.drew hb) hb2).fin _ _ _ _
      rintro wz ⟨z1, z2, z3⟩
      obtain ⟨o0, o1, o2, o3, o4, f0, f1, f2, f3, f4⟩ := row5 z2
      obtain ⟨d0, d1, d2, d3, d4, _⟩ := row5 z3
      have z4 := Lib.hid z2
      clear z2 z3
      go_wp2
      refine bodyPost_ret (results_cell_tmp rfl _ _ w.heap.size 96 #[.int .i64 7, .int .i64 4, .string (s.extract 8 24), .string (s.extract 24 (24 + (n : Int)).toNat), .int .i64 (24 + n)] (0, 0) _ rfl (row5_set z4.out) rfl rfl rfl) rfl ?_
      rw [show (24 + (n : Int)).toNat = 24 + n by omega]
      exact ⟨rfl, ((((z1.setCell (Nat.le_refl _) _).setCell (Nat.le_refl _) _).setCell (Nat.le_refl _) _).setCell (Nat.le_refl _) _).setCell (Nat.le_refl _) _⟩
set_option maxHeartbeats 4000000 in
theorem get42_0 (n : Nat) (hn : n ≤ 8192) (hn1 : 1 ≤ n) (s : ByteArray) (hall : 24 + n ≤ s.size) (hz : s.size ≤ 40000) (hs : s.extract 0 8 = hdr 7 0 n) (w : World) (hL : Laid w) : Calls Tryz.prog 42 #[.string s, .bool false, .bool false] w fun e w' => e = .returned (.tuple #[.agg #[.int .i64 7, .int .i64 0, .string (s.extract 8 24), .string (s.extract 24 (24 + n)), .int .i64 (24 + n)], .int .i64 0]) ∧ Below w.heap.size w w' := by
  have h8 : 8 ≤ s.size := by omega
  have h0 : 0 < s.size := by omega
  have h1 : 1 < s.size := by omega
  have e0 : s[0] = 7 := hdr_at hs h8 0 (by omega) h0
  have e1 : s[1] = 0 := hdr_at hs h8 1 (by omega) h1
  have b4 := hdr_at hs h8 4 (by omega) (by omega)
  have b5 := hdr_at hs h8 5 (by omega) (by omega)
  have b6 := hdr_at hs h8 6 (by omega) (by omega)
  have b7 := hdr_at hs h8 7 (by omega) (by omega)
  have ehd : ((hdr 7 0 n).toList == (s.extract 0 8).toList) = true := by rw [hs]; simp
  have b4 := Lib.hid b4; have b5 := Lib.hid b5; have b6 := Lib.hid b6; have b7 := Lib.hid b7
  clear hs
  have hf := fld131
  go_enter Tryz.func42, Tryz.ntmps42
  go_upto_region 14 with (first | (go_at_call 43; refine (size43_7 _).mono ?_; rintro e w' ⟨rfl, rfl⟩) | (go_at_call 80; refine (little80 s n h8 hz hn b4 b5 b6 b7 _).mono ?_; rintro e w' ⟨rfl, rfl⟩))
  go_loopw [12, 13] (fun d k wr => ∃ j : Nat, k = .int .i64 j ∧ (d = .int .i64 (-1) ∧ j ≤ n ∨ d = .int .i64 n ∧ j = n + 1) ∧ Sg w wr)
    (fun _ k _ => n + 1 - (intOf k).toNat)
  case atStart => exact ⟨0, rfl, .inl ⟨rfl, by omega⟩, Below.refl _ _⟩
  case round =>
    obtain ⟨j, rfl, hd, hbel⟩ := hrel
    rcases hd with ⟨rfl, hj⟩ | ⟨rfl, rfl⟩
    · have hj2 : j ≤ 8192 := by omega
      by_cases hjn : j = n
      · subst hjn
        go_wp2_with (first | (go_at_call 44; refine (most44_7 _).mono ?_; rintro e w' ⟨rfl, rfl⟩) | (go_at_call 81; refine (planned81_7 j hj2 _).mono ?_; rintro e w' ⟨rfl, hb⟩))
        go_wp2
        go_roundw
        case rel => exact ⟨j + 1, by go_num, .inr ⟨rfl, rfl⟩, hbel.step hb⟩
        case measure => simp [intOf]
      · go_wp2_with (first | (go_at_call 44; refine (most44_7 _).mono ?_; rintro e w' ⟨rfl, rfl⟩) | (go_at_call 81; refine (planned81_7 j hj2 _).mono ?_; rintro e w' ⟨rfl, hb⟩))
        go_wp2
        go_roundw
        case rel => exact ⟨j + 1, by go_num, .inl ⟨rfl, by omega⟩, hbel.step hb⟩
        case measure => simp [intOf]; omega
    · go_wp2_with (first | (go_at_call 44; refine (most44_7 _).mono ?_; rintro e w' ⟨rfl, rfl⟩))
      go_region_held3 (fun x => Sg w x) (first | exact hbel.drew | exact Sg.step (by assumption) (by assumption)) (first | (go_at_call 45; refine (common45_0 n hn hn1 _ (hL.sg hbel.drew)).mono ?_; rintro e w' ⟨rfl, hb⟩))
      have hneg : decide ((n : Int) < 0) = false := by simp
      go_wp2_with (first | (go_at_call 81; refine (planned81_7 n hn _).mono ?_; rintro e w'' ⟨rfl, hb2⟩))
      go_quiet (fail)
      go_wp2
      have i1 : (24 : Int) ≤ (s.size : Int) := by omega
      have i2 : (24 : Int) + (n : Int) ≤ (s.size : Int) := by omega
      have i3 : (24 : Int) ≤ 24 + (n : Int) := by omega
      have i4 : (0 : Int) ≤ 24 + (n : Int) := by omega
      go_region_held3 (fun x => x.cell? ⟨w''.heap.size, 0, none⟩ = some (.int .i64 24) ∧ x.cell? ⟨w''.heap.size, 1, none⟩ = some (.int .i64 24) ∧ x.cell? ⟨w''.heap.size, 2, none⟩ = some (.int .i64 (24 + n)) ∧ x.cell? ⟨w''.heap.size, 3, none⟩ = some (.int .i64 (24 + n))) (go_keep) (fail)
      go_wp2
      go_quiet (fail)
      go_upto_region 24 with fail
      refine gen_world (fun x => Below w.heap.size w x ∧ x.heap[w.heap.size]? = some (.cells #[.int .i64 0, .int .i64 0, .string ⟨#[]⟩, .string ⟨#[]⟩, .int .i64 0] 96 (0, 0)) ∧
        x.heap[w''.heap.size + 1]? = some (.cells #[.int .i64 7, .int .i64 0, .string (s.extract 8 24), .string (s.extract 24 (24 + (n : Int)).toNat), .int .i64 (24 + n)] 96 (0, 0))) ?_ ?_
      · exact (Sg.step (Sg.step hbel.drew hb) hb2).fin _ _ _ _
      rintro wz ⟨z1, z2, z3⟩
      obtain ⟨o0, o1, o2, o3, o4, f0, f1, f2, f3, f4⟩ := row5 z2
      obtain ⟨d0, d1, d2, d3, d4, _⟩ := row5 z3
      have z4 := Lib.hid z2
      clear z2 z3
      go_wp2
      refine bodyPost_ret (results_cell_tmp rfl _ _ w.heap.size 96 #[.int .i64 7, .int .i64 0, .string (s.extract 8 24), .string (s.extract 24 (24 + (n : Int)).toNat), .int .i64 (24 + n)] (0, 0) _ rfl (row5_set z4.out) rfl rfl rfl) rfl ?_
      rw [show (24 + (n : Int)).toNat = 24 + n by omega]
      exact ⟨rfl, ((((z1.setCell (Nat.le_refl _) _).setCell (Nat.le_refl _) _).setCell (Nat.le_refl _) _).setCell (Nat.le_refl _) _).setCell (Nat.le_refl _) _⟩
end Go.Proofs.YthlpiipobcomfaaGreatDoor
