/- The first eight bytes of a message, by the reference. -/
import Derived.Deep.RegionHeldLaw
import Derived.Test.YthlpiipobcomfaaGreatDoorQxKit
import Derived.Test.YthlpiipobcomfaaGreatDoorQxPut
set_option linter.all false
set_option linter.unusedSectionVars false
set_option linter.unusedVariables false
set_option linter.unusedSimpArgs false
namespace Go.Proofs.YthlpiipobcomfaaGreatDoor
open Go Go.Proofs Go.RowKit
set_option maxRecDepth 1000000
/-- Below a block nothing has turned. -/
def Kp (W : World) (B : Nat) (x : World) : Prop := Below B W x
theorem Kp.drew {W x : World} {B : Nat} (h : Kp W B x) : Kp W B x.drew := Below.drew h
theorem Kp.alloc {W x : World} {B : Nat} (h : Kp W B x) (hB : B ≤ W.heap.size) (o : Obj) : Kp W B (x.alloc o) := Below.alloc h (Nat.le_trans hB h.size) o
theorem Kp.step {W x y : World} {B : Nat} (h : Kp W B x) (hB : B ≤ W.heap.size) (hb : Below x.heap.size x y) : Kp W B y := below_step h hb hB
abbrev F4 (W : World) (g : Nat) (a b c d : Value) (x : World) : Prop := x.cell? ⟨g, 0, none⟩ = some a ∧ x.cell? ⟨g, 1, none⟩ = some b ∧ x.cell? ⟨g, 2, none⟩ = some c ∧ x.cell? ⟨g, 3, none⟩ = some d ∧ Kp W (g + 1) x
theorem F4.mk {W x : World} {g : Nat} {a b c d : Value} {t : TypeId} (hW : W.heap[g]? = some (.cells #[a, b, c, d] t (0, 0))) (h : Kp W (g + 1) x) : F4 W g a b c d x := by
  have e := below_lt h (Nat.lt_succ_self g) hW
  exact ⟨cell_of_row x g 0 _ t _ e, cell_of_row x g 1 _ t _ e, cell_of_row x g 2 _ t _ e, cell_of_row x g 3 _ t _ e, h⟩
theorem F4.drew {W x : World} {g : Nat} {a b c d : Value} {t : TypeId} (hW : W.heap[g]? = some (.cells #[a, b, c, d] t (0, 0))) (h : F4 W g a b c d x) : F4 W g a b c d x.drew := F4.mk hW h.2.2.2.2.drew
theorem lt_get {w : World} {g : Nat} {o : Obj} (h : w.heap[g]? = some o) : g < w.heap.size := (Array.getElem?_eq_some_iff.1 h).1
theorem F4.alloc {W x : World} {g : Nat} {a b c d : Value} {t : TypeId} (hW : W.heap[g]? = some (.cells #[a, b, c, d] t (0, 0))) (h : F4 W g a b c d x) (o : Obj) : F4 W g a b c d (x.alloc o) := F4.mk hW (h.2.2.2.2.alloc (lt_get hW) o)
theorem F4.adrew {W x : World} {g : Nat} {a b c d : Value} {t : TypeId} (hW : W.heap[g]? = some (.cells #[a, b, c, d] t (0, 0))) (h : F4 W g a b c d x.drew) (o : Obj) : F4 W g a b c d (x.alloc o).drew := F4.alloc hW h o
theorem F4.step {W x y : World} {g : Nat} {a b c d : Value} {t : TypeId} (hW : W.heap[g]? = some (.cells #[a, b, c, d] t (0, 0))) (h : F4 W g a b c d x) (hb : Below x.heap.size x y) : F4 W g a b c d y := F4.mk hW (h.2.2.2.2.step (lt_get hW) hb)
theorem F4.laid {W x : World} {g : Nat} {a b c d : Value} (hL : Laid W) (hg : W.heap.size = g + 1) (h : F4 W g a b c d x) : Laid x := hL.of (by have := h.2.2.2.2; unfold Kp at this; rw [hg]; exact this)
/-- Nothing that was there has turned. -/
def Sm (W x : World) : Prop := Below W.heap.size W x
theorem Sm.drew0 (W : World) : Sm W W.drew := Below.drew (Below.refl _ _)
theorem Sm.drew {W x : World} {C : Prop} (h : Sm W x ∧ C) : Sm W x.drew := Below.drew h.1
theorem Sm.al {W x : World} {C : Prop} (h : Sm W x ∧ C) (o : Obj) : Sm W (x.alloc o) := Below.alloc h.1 (Below.size h.1) o
theorem Sm.adrew {W x : World} {C : Prop} (h : Sm W x.drew ∧ C) (o : Obj) : Sm W (x.alloc o).drew := Below.alloc h.1 (Below.size h.1) o
theorem Sm.call {W x y : World} {C : Prop} (hb : Below x.heap.size x y) (h : Sm W x ∧ C) : Sm W y := below_step h.1 hb (Nat.le_refl _)
theorem Sm.cell {W x : World} {a : Addr} {v : Value} (h : Sm W x) (hc : W.cell? a = some v) : x.cell? a = some v := (Below.cell h (block_lt_of_cell hc)).trans hc
theorem Sm.laid {W x : World} {C : Prop} (hL : Laid W) (h : Sm W x ∧ C) : Laid x := hL.of h.1
theorem box_get {w w2 : World} {cs : Array Value} {t : TypeId} (hb : Below (w.alloc (.cells cs t)).heap.size (w.alloc (.cells cs t)) w2) : w2.heap[w.heap.size]? = some (.cells cs t (0, 0)) := below_lt hb (by simp) (heap_alloc_new _ _)
theorem box_on {w2 w3 : World} {g : Nat} {o o2 : Obj} (h : w2.heap[g]? = some o) (hb : Below (w2.alloc o2).heap.size (w2.alloc o2) w3) : w3.heap[g]? = some o :=
  below_lt hb (by have := lt_get h; simp; omega) ((Below.heap_alloc _ _ _ (lt_get h)).trans h)
theorem box4 {w : World} {g : Nat} {a b c d : Value} {t : TypeId} (h : w.heap[g]? = some (.cells #[a, b, c, d] t (0, 0))) : (∀ o, (w.alloc o).cell? ⟨g, 0, none⟩ = some a) ∧ (∀ o, (w.alloc o).cell? ⟨g, 1, none⟩ = some b) ∧ (∀ o, (w.alloc o).cell? ⟨g, 2, none⟩ = some c) ∧ (∀ o, (w.alloc o).cell? ⟨g, 3, none⟩ = some d) := by
  have e : ∀ o, (w.alloc o).heap[g]? = some (.cells #[a, b, c, d] t (0, 0)) := fun o => (Below.heap_alloc _ _ _ (lt_get h)).trans h
  exact ⟨fun o => cell_of_row _ g 0 _ t _ (e o), fun o => cell_of_row _ g 1 _ t _ (e o), fun o => cell_of_row _ g 2 _ t _ (e o), fun o => cell_of_row _ g 3 _ t _ (e o)⟩
def isB (v : Option Value) : Bool := match v with
  | some (.int .u8 _) => true
  | _ => false
def nB (v : Option Value) : Int := match v with
  | some (.int _ n) => n
  | _ => 0
theorem isB_some {v : Option Value} (h : isB v = true) : v = some (.int .u8 (nB v)) := by
  unfold isB at h
  split at h
  · rfl
  · cases h
theorem conv4 (w : World) (b : Nat) (h : (isB (w.cell? ⟨b, 0, none⟩) && isB (w.cell? ⟨b, 1, none⟩) && isB (w.cell? ⟨b, 2, none⟩) && isB (w.cell? ⟨b, 3, none⟩)) = true) :
    (convert 35 9 (.slice (some ⟨b, 0, none⟩) 4 4)).run Tryz.prog w = .ok (.string (strOfNums [nB (w.cell? ⟨b, 0, none⟩), nB (w.cell? ⟨b, 1, none⟩), nB (w.cell? ⟨b, 2, none⟩), nB (w.cell? ⟨b, 3, none⟩)])) w := by
  rw [Bool.and_eq_true, Bool.and_eq_true, Bool.and_eq_true] at h
  obtain ⟨⟨⟨h0, h1⟩, h2⟩, h3⟩ := h
  refine run_convert_bytes_arg w 35 5 Tryz.underlying35 (by kernel_rfl) b 0 4 4 _ rfl (fun i hi => ?_) 9 (by kernel_rfl)
  match i, hi with
  | 0, _ => exact isB_some h0
  | 1, _ => exact isB_some h1
  | 2, _ => exact isB_some h2
  | 3, _ => exact isB_some h3
theorem leB_len (v : Nat) : (leB 4 v).length = 4 := rfl
theorem F4.fin {w w2 x : World} {o : Obj} {a b c d : Value} (hb : Below w.heap.size w w2) (h : F4 (w2.alloc o) w2.heap.size a b c d x) : Below w.heap.size w x :=
  (hb.alloc hb.size o).trans (Below.mono h.2.2.2.2 (by have := hb.size; omega))
theorem le4_eq (m : Nat) (h : m < 65536) : leB 4 m = le4 m := by
  unfold leB le4
  rw [show m / 65536 = 0 by omega, show m / 16777216 = 0 by omega]
  rfl
theorem hdr_eq (ty fl n : Nat) (hn : n ≠ 0) (h : n ≤ 8192) (a b c d : Int) (ha : UInt8.ofNat a.toNat = UInt8.ofNat ty) (hb : UInt8.ofNat b.toNat = UInt8.ofNat fl) (hc : UInt8.ofNat c.toNat = 24) (hd : UInt8.ofNat d.toNat = 24) :
    strOfNums [a, b, c, d] ++ ⟨⟨leB 4 (24 + n)⟩⟩ = hdr ty fl n := by
  rw [le4_eq _ (by omega)]
  apply ByteArray.ext
  rw [ByteArray.data_append]
  unfold strOfNums hdr
  simp [ha, hb, hc, hd, hn]
theorem isB_int (n : Int) : isB (some (.int .u8 n)) = true := rfl
theorem nB_int (k : IntKind) (n : Int) : nB (some (.int k n)) = n := rfl
theorem put57_n (n : Nat) (hn : n ≤ 8192) {w : World} (hL : Laid w) : Calls Tryz.prog 57 #[.int .u64 (24 + (n : Int)), .int .i64 4] w fun e w' => e = .returned (.string ⟨⟨leB 4 (24 + n)⟩⟩) ∧ Below w.heap.size w w' := by
  have := put57_4 (24 + n) (by omega) hL
  rw [show ((24 + n : Nat) : Int) = 24 + (n : Int) by simp] at this
  exact this
set_option maxHeartbeats 4000000 in
theorem common45_4 (n : Nat) (hn : n ≤ 8192) (hn1 : 1 ≤ n) (w : World) (hL : Laid w) : Calls Tryz.prog 45 #[.int .i64 7, .int .i64 4, .int .i64 n, .bool false, .bool false] w fun e w' => e = .returned (.string (hdr 7 4 n)) ∧ Below w.heap.size w w' := by
  have hpos : (0 : Int) < (n : Int) := by omega
  go_enter Tryz.func45, Tryz.ntmps45
  go_wp2_with (first | (go_at_call 81; refine (planned81_7 n hn _).mono ?_; rintro e w2 ⟨rfl, hb⟩))
  have hW : (w2.alloc (.cells #[.int .i64 24, .int .i64 24, .int .i64 (24 + (n : Int)), .int .i64 (24 + n)] 131)).heap[w2.heap.size]? = some (.cells #[.int .i64 24, .int .i64 24, .int .i64 (24 + n), .int .i64 (24 + n)] 131 (0, 0)) := heap_alloc_new _ _
  have hLW : Laid (w2.alloc (.cells #[.int .i64 24, .int .i64 24, .int .i64 (24 + (n : Int)), .int .i64 (24 + n)] 131)) := (hL.of hb).alloc _
  have h0 := F4.mk hW (Below.refl _ _)
  have h0 := Lib.hid h0
  have hsz : (w2.alloc (.cells #[.int .i64 24, .int .i64 24, .int .i64 (24 + (n : Int)), .int .i64 (24 + n)] 131)).heap.size = w2.heap.size + 1 := by simp
  have hsz := Lib.hid hsz
  have hwr : IntKind.u64.wrap (24 + (n : Int)) = 24 + n := by rw [IntKind.wrap_u64]; omega
  have hcv := conv4
  have l1 := strOfNums_size
  have l2 := leB_len
  have k1 := isB_int
  have k2 := nB_int
  go_region_held_law (fun x => x.cell? ⟨w2.heap.size, 0, none⟩ = some (.int .i64 24) ∧ x.cell? ⟨w2.heap.size, 1, none⟩ = some (.int .i64 24) ∧ x.cell? ⟨w2.heap.size, 2, none⟩ = some (.int .i64 (24 + n)) ∧ x.cell? ⟨w2.heap.size, 3, none⟩ = some (.int .i64 (24 + n)) ∧ Kp (w2.alloc (.cells #[.int .i64 24, .int .i64 24, .int .i64 (24 + (n : Int)), .int .i64 (24 + n)] 131)) (w2.heap.size + 1) x)
    (first | (with_reducible assumption) | exact F4.drew hW h0.out | exact F4.adrew hW (by with_reducible assumption) _ | exact F4.step hW (by with_reducible assumption) (by with_reducible assumption) | exact F4.alloc hW (by with_reducible assumption) _)
    (first | (go_at_call 57; refine (put57_n n hn (F4.laid hLW hsz.out (by with_reducible assumption))).mono ?_; rintro e w' ⟨rfl, hb3⟩; obtain ⟨hc3, hf3⟩ := bcell hb3))
  all_goals go_wp2
  all_goals go_ret
  all_goals exact ⟨congrArg (fun s => Ending.returned (Value.string s)) (hdr_eq 7 4 n (by omega) hn _ _ _ _ (by decide) (by decide) (by decide) (by decide)), F4.fin hb (by with_reducible assumption)⟩
set_option maxHeartbeats 4000000 in
theorem common45_0 (n : Nat) (hn : n ≤ 8192) (hn1 : 1 ≤ n) (w : World) (hL : Laid w) : Calls Tryz.prog 45 #[.int .i64 7, .int .i64 0, .int .i64 n, .bool false, .bool false] w fun e w' => e = .returned (.string (hdr 7 0 n)) ∧ Below w.heap.size w w' := by
  have hpos : (0 : Int) < (n : Int) := by omega
  go_enter Tryz.func45, Tryz.ntmps45
  go_wp2_with (first | (go_at_call 81; refine (planned81_7 n hn _).mono ?_; rintro e w2 ⟨rfl, hb⟩))
  have hW : (w2.alloc (.cells #[.int .i64 24, .int .i64 24, .int .i64 (24 + (n : Int)), .int .i64 (24 + n)] 131)).heap[w2.heap.size]? = some (.cells #[.int .i64 24, .int .i64 24, .int .i64 (24 + n), .int .i64 (24 + n)] 131 (0, 0)) := heap_alloc_new _ _
  have hLW : Laid (w2.alloc (.cells #[.int .i64 24, .int .i64 24, .int .i64 (24 + (n : Int)), .int .i64 (24 + n)] 131)) := (hL.of hb).alloc _
  have h0 := F4.mk hW (Below.refl _ _)
  have h0 := Lib.hid h0
  have hsz : (w2.alloc (.cells #[.int .i64 24, .int .i64 24, .int .i64 (24 + (n : Int)), .int .i64 (24 + n)] 131)).heap.size = w2.heap.size + 1 := by simp
  have hsz := Lib.hid hsz
  have hwr : IntKind.u64.wrap (24 + (n : Int)) = 24 + n := by rw [IntKind.wrap_u64]; omega
  have hcv := conv4
  have l1 := strOfNums_size
  have l2 := leB_len
  have k1 := isB_int
  have k2 := nB_int
  go_region_held_law (fun x => x.cell? ⟨w2.heap.size, 0, none⟩ = some (.int .i64 24) ∧ x.cell? ⟨w2.heap.size, 1, none⟩ = some (.int .i64 24) ∧ x.cell? ⟨w2.heap.size, 2, none⟩ = some (.int .i64 (24 + n)) ∧ x.cell? ⟨w2.heap.size, 3, none⟩ = some (.int .i64 (24 + n)) ∧ Kp (w2.alloc (.cells #[.int .i64 24, .int .i64 24, .int .i64 (24 + (n : Int)), .int .i64 (24 + n)] 131)) (w2.heap.size + 1) x)
    (first | (with_reducible assumption) | exact F4.drew hW h0.out | exact F4.adrew hW (by with_reducible assumption) _ | exact F4.step hW (by with_reducible assumption) (by with_reducible assumption) | exact F4.alloc hW (by with_reducible assumption) _)
    (first | (go_at_call 57; refine (put57_n n hn (F4.laid hLW hsz.out (by with_reducible assumption))).mono ?_; rintro e w' ⟨rfl, hb3⟩; obtain ⟨hc3, hf3⟩ := bcell hb3))
  all_goals go_wp2
  all_goals go_ret
  all_goals exact ⟨congrArg (fun s => Ending.returned (Value.string s)) (hdr_eq 7 0 n (by omega) hn _ _ _ _ (by decide) (by decide) (by decide) (by decide)), F4.fin hb (by with_reducible assumption)⟩
end Go.Proofs.YthlpiipobcomfaaGreatDoor
