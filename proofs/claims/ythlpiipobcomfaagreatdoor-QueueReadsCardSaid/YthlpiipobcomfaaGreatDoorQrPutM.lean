/- The program's Put of a message with data: what it answers. -/
import Derived.Deep.RegionHeldLaw
import Derived.Test.YthlpiipobcomfaaGreatDoorQrEng
import Derived.Test.YthlpiipobcomfaaGreatDoorQrPut
set_option linter.all false
set_option linter.unusedSectionVars false
set_option linter.unusedVariables false
set_option linter.unusedSimpArgs false
namespace Go.Proofs.YthlpiipobcomfaaGreatDoor
open Go Go.Proofs Go.RowKit
set_option maxRecDepth 1000000
set_option maxHeartbeats 4000000 in
theorem measure73 (d n : Int) (g : Bool) (hn : 0 < n) (hn2 : n ≤ 16384) (w : World) : Calls Tryz.prog 73 #[.agg #[.int .i64 16, .int .i64 d, .bool g], .int .i64 n, .bool false, .bool false] w fun e w' => e = .returned (.agg #[.int .i64 24, .int .i64 24, .int .i64 (24 + n), .bool false, .bool false]) ∧ Below w.heap.size w w' := by
  go_enter Tryz.func73, Tryz.ntmps73
  go_wp2
  refine bodyPost_ret (results_cell_row rfl _ _ (w.heap.size + 1) 125 #[.int .i64 24, .int .i64 24, .int .i64 (24 + n), .bool false, .bool false] (0, 0) _ rfl ?_ rfl rfl rfl) rfl ⟨rfl, (((Below.refl _ _).alloc (Nat.le_refl _) _).alloc (by simp) _).alloc (by simp; omega) _⟩
  exact (Below.heap_alloc _ _ _ (by simp)).trans (heap_alloc2_new _ _ _)
set_option maxHeartbeats 4000000 in
theorem flags74 (a b c fl : Int) (w : World) : Calls Tryz.prog 74 #[.agg #[.int .i64 a, .int .i64 b, .int .i64 c, .bool false, .bool false], .int .i64 fl] w fun e w' => e = .returned (.int .i64 fl) ∧ Below w.heap.size w w' := by
  go_enter Tryz.func74, Tryz.ntmps74
  go_wp2
  go_ret
  exact ⟨rfl, (Below.refl _ _).alloc (Nat.le_refl _) _⟩
theorem Sm.below3 {w w2 w3 x : World} {o1 o2 o3 : Obj} (hb : Below (w.alloc o1).heap.size (w.alloc o1) w2) (hb3 : Below (w2.alloc o2).heap.size (w2.alloc o2) w3) (h : Sm (w3.alloc o3) x) : Below w.heap.size w x := by
  have s1 := hb.size
  have s2 := hb3.size
  simp only [World.size_alloc] at s1 s2
  have e1 : Below w.heap.size w w2 := ((Below.refl _ w).alloc (Nat.le_refl _) o1).trans (hb.mono (by simp))
  have e2 : Below w.heap.size w w3 := (e1.alloc (by omega) o2).trans (hb3.mono (by simp; omega))
  exact (e2.alloc (by omega) o3).trans (Below.mono h (by simp; omega))
theorem put91_n (n : Nat) (hn : n ≤ 8192) {w : World} (hL : Laid w) : Calls Tryz.prog 91 #[.int .u64 (24 + (n : Int)), .int .i64 4] w fun e w' => e = .returned (.string ⟨⟨leB 4 (24 + n)⟩⟩) ∧ Below w.heap.size w w' := by
  have := put91_4 (24 + n) (by omega) hL
  rw [show ((24 + n : Nat) : Int) = 24 + (n : Int) by simp] at this
  exact this
set_option maxHeartbeats 4000000 in
theorem put92_4 (hd da : ByteArray) (hh : hd.size = 16) (hd1 : 1 ≤ da.size) (hd2 : da.size ≤ 8192) (w : World) (hL : Laid w) : Calls Tryz.prog 92 #[.agg #[.int .i64 7, .int .i64 4, .string hd, .string da], .bool false, .bool false] w fun e w' => e = .returned (.tuple #[.string (hdr 7 4 da.size ++ hd ++ da), .int .i64 0]) ∧ Below w.heap.size w w' := by
  have i1 : (0 : Int) < (da.size : Int) := by omega
  have i2 : (da.size : Int) ≤ 16384 := by omega
  have i3 : (da.size : Int) ≤ 8192 := by omega
  have i4 : decide ((16384 : Int) < (da.size : Int)) = false := by simp; omega
  go_enter Tryz.func92, Tryz.ntmps92
  go_upto_region 5 with (first | (go_at_call 71; refine (form71_7 _ (hL.alloc _)).mono ?_; rintro e w2 ⟨rfl, hb⟩; have g2 := Lib.hid (box_get hb); obtain ⟨q0, q1, q2, q3⟩ := box4 g2.out) | (go_at_call 73; refine (measure73 _ _ _ i1 i2 _).mono ?_; rintro e w3 ⟨rfl, hb3⟩; have g3 := Lib.hid (box_on g2.out hb3); obtain ⟨r0, r1, r2, r3⟩ := box4 g3.out))
  have hLW : Laid (w3.alloc (.cells #[.int .i64 24, .int .i64 24, .int .i64 (24 + (da.size : Int)), .bool false, .bool false] 125)) := (((hL.alloc _).of hb).alloc _).of hb3 |>.alloc _
  have hn5 : (w3.alloc (.cells #[.int .i64 24, .int .i64 24, .int .i64 (24 + (da.size : Int)), .bool false, .bool false] 125)).heap[w3.heap.size]? = some (.cells #[.int .i64 24, .int .i64 24, .int .i64 (24 + (da.size : Int)), .bool false, .bool false] 125 (0, 0)) := heap_alloc_new _ _
  have hmk := Lib.hid (fun (x : World) (h : Sm (w3.alloc (.cells #[.int .i64 24, .int .i64 24, .int .i64 (24 + (da.size : Int)), .bool false, .bool false] 125)) x) => show
    Sm (w3.alloc (.cells #[.int .i64 24, .int .i64 24, .int .i64 (24 + (da.size : Int)), .bool false, .bool false] 125)) x ∧ x.cell? ⟨w.heap.size, 0, none⟩ = some (.int .i64 7) ∧ x.cell? ⟨w.heap.size, 1, none⟩ = some (.int .i64 4) ∧ x.cell? ⟨w.heap.size, 2, none⟩ = some (.string hd) ∧ x.cell? ⟨w.heap.size, 3, none⟩ = some (.string da) ∧
      x.cell? ⟨w3.heap.size, 0, none⟩ = some (.int .i64 24) ∧ x.cell? ⟨w3.heap.size, 1, none⟩ = some (.int .i64 24) ∧ x.cell? ⟨w3.heap.size, 2, none⟩ = some (.int .i64 (24 + (da.size : Int))) ∧ x.cell? ⟨w3.heap.size, 3, none⟩ = some (.bool false) ∧ x.cell? ⟨w3.heap.size, 4, none⟩ = some (.bool false)
    from ⟨h, h.cell (r0 _), h.cell (r1 _), h.cell (r2 _), h.cell (r3 _), h.cell (cell_of_row _ _ 0 _ _ _ hn5), h.cell (cell_of_row _ _ 1 _ _ _ hn5), h.cell (cell_of_row _ _ 2 _ _ _ hn5), h.cell (cell_of_row _ _ 3 _ _ _ hn5), h.cell (cell_of_row _ _ 4 _ _ _ hn5)⟩)
  clear hn5
  have hwr : IntKind.u64.wrap (24 + (da.size : Int)) = 24 + da.size := by rw [IntKind.wrap_u64]; omega
  have hcv := conv4
  have l1 := strOfNums_size
  have l2 := leB_len
  have k1 := isB_int
  have k2 := nB_int
  go_region_held_law (fun x => Sm (w3.alloc (.cells #[.int .i64 24, .int .i64 24, .int .i64 (24 + (da.size : Int)), .bool false, .bool false] 125)) x ∧ x.cell? ⟨w.heap.size, 0, none⟩ = some (.int .i64 7) ∧ x.cell? ⟨w.heap.size, 1, none⟩ = some (.int .i64 4) ∧ x.cell? ⟨w.heap.size, 2, none⟩ = some (.string hd) ∧ x.cell? ⟨w.heap.size, 3, none⟩ = some (.string da) ∧
      x.cell? ⟨w3.heap.size, 0, none⟩ = some (.int .i64 24) ∧ x.cell? ⟨w3.heap.size, 1, none⟩ = some (.int .i64 24) ∧ x.cell? ⟨w3.heap.size, 2, none⟩ = some (.int .i64 (24 + (da.size : Int))) ∧ x.cell? ⟨w3.heap.size, 3, none⟩ = some (.bool false) ∧ x.cell? ⟨w3.heap.size, 4, none⟩ = some (.bool false))
    (first | (with_reducible assumption) | exact hmk.out _ (Sm.drew0 _) | exact hmk.out _ (Sm.adrew (by with_reducible assumption) _) | exact hmk.out _ (Sm.call (by with_reducible assumption) (by with_reducible assumption)) | exact hmk.out _ (Sm.al (by with_reducible assumption) _))
    (first | (go_at_call 74; refine (flags74 _ _ _ _ _).mono ?_; rintro e w' ⟨rfl, hb4⟩; obtain ⟨hc4, hf4⟩ := bcell hb4) | (go_at_call 91; refine (put91_n da.size hd2 (Sm.laid hLW (by with_reducible assumption))).mono ?_; rintro e w' ⟨rfl, hb5⟩; obtain ⟨hc5, hf5⟩ := bcell hb5))
  all_goals go_upto_region 6 with fail
  all_goals refine gen_world (fun x => Sm (w3.alloc (.cells #[.int .i64 24, .int .i64 24, .int .i64 (24 + (da.size : Int)), .bool false, .bool false] 125)) x ∧ x.cell? ⟨w.heap.size, 0, none⟩ = some (.int .i64 7) ∧ x.cell? ⟨w.heap.size, 1, none⟩ = some (.int .i64 4) ∧ x.cell? ⟨w.heap.size, 2, none⟩ = some (.string hd) ∧ x.cell? ⟨w.heap.size, 3, none⟩ = some (.string da) ∧
      x.cell? ⟨w3.heap.size, 0, none⟩ = some (.int .i64 24) ∧ x.cell? ⟨w3.heap.size, 1, none⟩ = some (.int .i64 24) ∧ x.cell? ⟨w3.heap.size, 2, none⟩ = some (.int .i64 (24 + (da.size : Int))) ∧ x.cell? ⟨w3.heap.size, 3, none⟩ = some (.bool false) ∧ x.cell? ⟨w3.heap.size, 4, none⟩ = some (.bool false)) (by assumption) ?_
  all_goals intro wz hz
  all_goals have hbz : Below w.heap.size w wz := Sm.below3 hb hb3 hz.1
  all_goals go_wp2
  all_goals go_ret2
  all_goals exact ⟨congrArg (fun s => Ending.returned (Value.tuple #[Value.string (s ++ hd ++ da), Value.int .i64 0])) (hdr_eq 7 4 da.size (by omega) hd2 _ _ _ _ (by decide) (by decide) (by decide) (by decide)), hbz⟩
set_option maxHeartbeats 4000000 in
theorem put92_0 (hd da : ByteArray) (hh : hd.size = 16) (hd1 : 1 ≤ da.size) (hd2 : da.size ≤ 8192) (w : World) (hL : Laid w) : Calls Tryz.prog 92 #[.agg #[.int .i64 7, .int .i64 0, .string hd, .string da], .bool false, .bool false] w fun e w' => e = .returned (.tuple #[.string (hdr 7 0 da.size ++ hd ++ da), .int .i64 0]) ∧ Below w.heap.size w w' := by
  have i1 : (0 : Int) < (da.size : Int) := by omega
  have i2 : (da.size : Int) ≤ 16384 := by omega
  have i3 : (da.size : Int) ≤ 8192 := by omega
  have i4 : decide ((16384 : Int) < (da.size : Int)) = false := by simp; omega
  go_enter Tryz.func92, Tryz.ntmps92
  go_upto_region 5 with (first | (go_at_call 71; refine (form71_7 _ (hL.alloc _)).mono ?_; rintro e w2 ⟨rfl, hb⟩; have g2 := Lib.hid (box_get hb); obtain ⟨q0, q1, q2, q3⟩ := box4 g2.out) | (go_at_call 73; refine (measure73 _ _ _ i1 i2 _).mono ?_; rintro e w3 ⟨rfl, hb3⟩; have g3 := Lib.hid (box_on g2.out hb3); obtain ⟨r0, r1, r2, r3⟩ := box4 g3.out))
  have hLW : Laid (w3.alloc (.cells #[.int .i64 24, .int .i64 24, .int .i64 (24 + (da.size : Int)), .bool false, .bool false] 125)) := (((hL.alloc _).of hb).alloc _).of hb3 |>.alloc _
  have hn5 : (w3.alloc (.cells #[.int .i64 24, .int .i64 24, .int .i64 (24 + (da.size : Int)), .bool false, .bool false] 125)).heap[w3.heap.size]? = some (.cells #[.int .i64 24, .int .i64 24, .int .i64 (24 + (da.size : Int)), .bool false, .bool false] 125 (0, 0)) := heap_alloc_new _ _
  have hmk := Lib.hid (fun (x : World) (h : Sm (w3.alloc (.cells #[.int .i64 24, .int .i64 24, .int .i64 (24 + (da.size : Int)), .bool false, .bool false] 125)) x) => show
    Sm (w3.alloc (.cells #[.int .i64 24, .int .i64 24, .int .i64 (24 + (da.size : Int)), .bool false, .bool false] 125)) x ∧ x.cell? ⟨w.heap.size, 0, none⟩ = some (.int .i64 7) ∧ x.cell? ⟨w.heap.size, 1, none⟩ = some (.int .i64 0) ∧ x.cell? ⟨w.heap.size, 2, none⟩ = some (.string hd) ∧ x.cell? ⟨w.heap.size, 3, none⟩ = some (.string da) ∧
      x.cell? ⟨w3.heap.size, 0, none⟩ = some (.int .i64 24) ∧ x.cell? ⟨w3.heap.size, 1, none⟩ = some (.int .i64 24) ∧ x.cell? ⟨w3.heap.size, 2, none⟩ = some (.int .i64 (24 + (da.size : Int))) ∧ x.cell? ⟨w3.heap.size, 3, none⟩ = some (.bool false) ∧ x.cell? ⟨w3.heap.size, 4, none⟩ = some (.bool false)
    from ⟨h, h.cell (r0 _), h.cell (r1 _), h.cell (r2 _), h.cell (r3 _), h.cell (cell_of_row _ _ 0 _ _ _ hn5), h.cell (cell_of_row _ _ 1 _ _ _ hn5), h.cell (cell_of_row _ _ 2 _ _ _ hn5), h.cell (cell_of_row _ _ 3 _ _ _ hn5), h.cell (cell_of_row _ _ 4 _ _ _ hn5)⟩)
  clear hn5
  have hwr : IntKind.u64.wrap (24 + (da.size : Int)) = 24 + da.size := by rw [IntKind.wrap_u64]; omega
  have hcv := conv4
  have l1 := strOfNums_size
  have l2 := leB_len
  have k1 := isB_int
  have k2 := nB_int
  go_region_held_law (fun x => Sm (w3.alloc (.cells #[.int .i64 24, .int .i64 24, .int .i64 (24 + (da.size : Int)), .bool false, .bool false] 125)) x ∧ x.cell? ⟨w.heap.size, 0, none⟩ = some (.int .i64 7) ∧ x.cell? ⟨w.heap.size, 1, none⟩ = some (.int .i64 0) ∧ x.cell? ⟨w.heap.size, 2, none⟩ = some (.string hd) ∧ x.cell? ⟨w.heap.size, 3, none⟩ = some (.string da) ∧
      x.cell? ⟨w3.heap.size, 0, none⟩ = some (.int .i64 24) ∧ x.cell? ⟨w3.heap.size, 1, none⟩ = some (.int .i64 24) ∧ x.cell? ⟨w3.heap.size, 2, none⟩ = some (.int .i64 (24 + (da.size : Int))) ∧ x.cell? ⟨w3.heap.size, 3, none⟩ = some (.bool false) ∧ x.cell? ⟨w3.heap.size, 4, none⟩ = some (.bool false))
    (first | (with_reducible assumption) | exact hmk.out _ (Sm.drew0 _) | exact hmk.out _ (Sm.adrew (by with_reducible assumption) _) | exact hmk.out _ (Sm.call (by with_reducible assumption) (by with_reducible assumption)) | exact hmk.out _ (Sm.al (by with_reducible assumption) _))
    (first | (go_at_call 74; refine (flags74 _ _ _ _ _).mono ?_; rintro e w' ⟨rfl, hb4⟩; obtain ⟨hc4, hf4⟩ := bcell hb4) | (go_at_call 91; refine (put91_n da.size hd2 (Sm.laid hLW (by with_reducible assumption))).mono ?_; rintro e w' ⟨rfl, hb5⟩; obtain ⟨hc5, hf5⟩ := bcell hb5))
  all_goals go_upto_region 6 with fail
  all_goals refine gen_world (fun x => Sm (w3.alloc (.cells #[.int .i64 24, .int .i64 24, .int .i64 (24 + (da.size : Int)), .bool false, .bool false] 125)) x ∧ x.cell? ⟨w.heap.size, 0, none⟩ = some (.int .i64 7) ∧ x.cell? ⟨w.heap.size, 1, none⟩ = some (.int .i64 0) ∧ x.cell? ⟨w.heap.size, 2, none⟩ = some (.string hd) ∧ x.cell? ⟨w.heap.size, 3, none⟩ = some (.string da) ∧
      x.cell? ⟨w3.heap.size, 0, none⟩ = some (.int .i64 24) ∧ x.cell? ⟨w3.heap.size, 1, none⟩ = some (.int .i64 24) ∧ x.cell? ⟨w3.heap.size, 2, none⟩ = some (.int .i64 (24 + (da.size : Int))) ∧ x.cell? ⟨w3.heap.size, 3, none⟩ = some (.bool false) ∧ x.cell? ⟨w3.heap.size, 4, none⟩ = some (.bool false)) (by assumption) ?_
  all_goals intro wz hz
  all_goals have hbz : Below w.heap.size w wz := Sm.below3 hb hb3 hz.1
  all_goals go_wp2
  all_goals go_ret2
  all_goals exact ⟨congrArg (fun s => Ending.returned (Value.tuple #[Value.string (s ++ hd ++ da), Value.int .i64 0])) (hdr_eq 7 0 da.size (by omega) hd2 _ _ _ _ (by decide) (by decide) (by decide) (by decide)), hbz⟩
end Go.Proofs.YthlpiipobcomfaaGreatDoor
