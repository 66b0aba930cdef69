/- The program's send: a message's bytes behind what is to be sent. -/
/- A head of numbers, by the program. -/
/- The task's search and its taking out of lists of one. -/
import Derived.Test.YthlpiipobcomfaaGreatDoorQrPutM
import Derived.Lib.AppendStr
import Derived.Deep.RegionLaw
import Derived.Lib.SliceRun
set_option linter.all false
set_option linter.unusedSectionVars false
set_option linter.unusedVariables false
set_option linter.unusedSimpArgs false
namespace Go.Proofs.YthlpiipobcomfaaGreatDoor
open Go Go.Proofs Go.RowKit Go.Lib
set_option maxRecDepth 1000000
/-- A world in which, of what was there in W, only the queue's bytes to be sent (v: xs) have turned. -/
structure QW (W : World) (bq oq : Nat) (v : Value) (xs : List Value) (x : World) : Prop where
  os : x.os = W.os
  tape : x.tape = W.tape
  output : x.output = W.output
  size : W.heap.size ≤ x.heap.size
  hq : bq < W.heap.size
  h4 : 4 ≤ bq
  block : ∀ k, k < W.heap.size → k ≠ bq → x.heap[k]? = W.heap[k]?
  cell : ∀ i, i ≠ oq + 2 → x.cell? ⟨bq, i, none⟩ = W.cell? ⟨bq, i, none⟩
  froz : ∀ i, x.frozen? ⟨bq, i, none⟩ = W.frozen? ⟨bq, i, none⟩
  out : x.cell? ⟨bq, oq + 2, none⟩ = some v
  own : x.ownsRow W.heap.size 5 1 v xs.length xs
theorem ownsRow_below {x y : World} {base : Nat} {e : TypeId} {size n : Nat} {v : Value} {xs : List Value} (h : x.ownsRow base e size v n xs) (hb : Below x.heap.size x y) : y.ownsRow base e size v n xs := by
  refine ⟨h.1, h.2.imp id fun ⟨g, cap, cur, h1, h2, h3, h4⟩ => ⟨g, cap, cur, h1, h2, below_lt hb (lt_get h3) h3, h4⟩⟩
theorem QW.below {W x y : World} {bq oq : Nat} {v : Value} {xs : List Value} (h : QW W bq oq v xs x) (hb : Below x.heap.size x y) : QW W bq oq v xs y where
  os := hb.os.trans h.os
  tape := hb.tape.trans h.tape
  output := hb.output.trans h.output
  size := Nat.le_trans h.size hb.size
  hq := h.hq
  h4 := h.h4
  block k hk hn := (hb.block k (Nat.lt_of_lt_of_le hk h.size)).trans (h.block k hk hn)
  cell i hi := (hb.cell (p := ⟨bq, i, none⟩) (Nat.lt_of_lt_of_le h.hq h.size)).trans (h.cell i hi)
  froz i := (hb.frozen (p := ⟨bq, i, none⟩) (Nat.lt_of_lt_of_le h.hq h.size)).trans (h.froz i)
  out := (hb.cell (p := ⟨bq, oq + 2, none⟩) (Nat.lt_of_lt_of_le h.hq h.size)).trans h.out
  own := ownsRow_below h.own hb
theorem QW.laid {W x : World} {bq oq : Nat} {v : Value} {xs : List Value} (hL : Laid W) (h : QW W bq oq v xs x) : Laid x :=
  hL.keep h.size fun k hk => h.block k (by have := h.hq; have := h.h4; omega) (by have := h.h4; omega)
/-- The row is none of the queue's own. -/
theorem own_ne {W x : World} {bq : Nat} {v : Value} {n : Nat} {xs : List Value} (h : x.ownsRow W.heap.size 5 1 v n xs) (hq : bq < W.heap.size) : some bq ≠ v.ownBlock := by
  rcases h.2 with ⟨rfl, _⟩ | ⟨g, cap, cur, rfl, hg, _⟩
  · intro h; cases h
  · intro h
    have := Option.some.inj h
    simp at this
    omega
theorem own_old {W x : World} {k : Nat} {v : Value} {n : Nat} {xs : List Value} (h : x.ownsRow W.heap.size 5 1 v n xs) (hk : k < W.heap.size) : some k ≠ v.ownBlock := own_ne h hk
theorem QW.store {W x y : World} {bq oq : Nat} {v v' : Value} {xs ys : List Value} (h : QW W bq oq v xs x) (hg : x.grownBy y v.ownBlock) (ho : y.ownsRow W.heap.size 5 1 v' ys.length ys) (hf : W.frozen? ⟨bq, oq + 2, none⟩ = false) :
    (y.cell? ⟨bq, oq + 2, none⟩ = some v ∧ y.frozen? ⟨bq, oq + 2, none⟩ = false) ∧ QW W bq oq v' ys (y.setCell ⟨bq, oq + 2, none⟩ v') := by
  have hlt : bq < x.heap.size := Nat.lt_of_lt_of_le h.hq h.size
  have hb := hg.block bq hlt (own_ne h.own h.hq)
  have c : ∀ i, y.cell? ⟨bq, i, none⟩ = x.cell? ⟨bq, i, none⟩ := fun i => World.cell?_of_block hb
  have f : ∀ i, y.frozen? ⟨bq, i, none⟩ = x.frozen? ⟨bq, i, none⟩ := fun i => World.frozen?_of_block hb
  refine ⟨⟨(c _).trans h.out, (f _).trans ((h.froz _).trans hf)⟩, ?_⟩
  have hne : ∀ k, k ≠ bq → (y.setCell ⟨bq, oq + 2, none⟩ v').heap[k]? = y.heap[k]? := fun k hk => heap_setCell_other _ _ k _ hk
  refine ⟨?_, ?_, ?_, ?_, h.hq, h.h4, fun k hk hn => ?_, fun i hi => ?_, fun i => ?_, ?_, ?_⟩
  · exact hg.os.trans h.os
  · exact hg.tape.trans h.tape
  · exact hg.output.trans h.output
  · rw [World.size_setCell]; exact Nat.le_trans h.size hg.size
  · exact (hne k hn).trans ((hg.block k (Nat.lt_of_lt_of_le hk h.size) (own_old h.own hk)).trans (h.block k hk hn))
  · rw [World.cell?_setCell_other _ _ _ _ (by intro e; injection e with _ e; exact hi e.symm)]
    exact (c i).trans (h.cell i hi)
  · rw [World.frozen?_setCell]; exact (f i).trans (h.froz i)
  · exact World.cell?_setCell_same _ _ _ ((c _).trans h.out)
  · refine ⟨ho.1, ho.2.imp id fun ⟨g, cap, cur, h1, h2, h3, h4⟩ => ⟨g, cap, cur, h1, h2, ?_, h4⟩⟩
    rw [hne g (by have := h.hq; omega)]
    exact h3
theorem info5 : (Tryz.prog.info? 5).map (fun i => (i.zero, i.size, i.bytes)) = some (some (.int .u8 0), 1, 1) := by kernel_rfl
theorem und5 : Tryz.prog.underlying 35 = some (.slice 5) := by kernel_rfl
theorem und9 : Tryz.prog.underlying 9 = some .string := by kernel_rfl
set_option maxHeartbeats 4000000 in
theorem send65 (ty fl : Int) (hd da M : ByteArray) (hsz : M.size ≤ 8216) (hput : ∀ y, Laid y → Calls Tryz.prog 92 #[.agg #[.int .i64 ty, .int .i64 fl, .string hd, .string da], .bool false, .bool false] y fun e z => e = .returned (.tuple #[.string M, .int .i64 0]) ∧ Below y.heap.size y z) {W x : World} {bq oq : Nat} {v : Value} {xs : List Value} (hL : Laid W) (hQ : QW W bq oq v xs x) (hxs : xs.length ≤ 100000)
    (h4 : W.cell? ⟨bq, oq + 4, none⟩ = some (.bool false)) (h5 : W.cell? ⟨bq, oq + 5, none⟩ = some (.bool false)) (hf : W.frozen? ⟨bq, oq + 2, none⟩ = false) :
    Calls Tryz.prog 65 #[.pointer (some ⟨bq, oq, none⟩), .agg #[.int .i64 ty, .int .i64 fl, .string hd, .string da]] x fun e y => e = .returned (.tuple #[]) ∧ ∃ v', QW W bq oq v' (xs ++ strCells M) y := by
  have q4 : ∀ o, (x.alloc o).cell? ⟨bq, oq + 4, none⟩ = some (.bool false) := fun o => by
    rw [World.cell?_alloc_some _ _ _ (by rw [hQ.cell _ (by omega), h4]; rfl), hQ.cell _ (by omega), h4]
  have q5 : ∀ o, (x.alloc o).cell? ⟨bq, oq + 5, none⟩ = some (.bool false) := fun o => by
    rw [World.cell?_alloc_some _ _ _ (by rw [hQ.cell _ (by omega), h5]; rfl), hQ.cell _ (by omega), h5]
  have hLx : Laid (x.alloc (.cells #[.int .i64 ty, .int .i64 fl, .string hd, .string da] 32)) := (hQ.laid hL).alloc _
  have hn : (x.alloc (.cells #[.int .i64 ty, .int .i64 fl, .string hd, .string da] 32)).heap[x.heap.size]? = some (.cells #[.int .i64 ty, .int .i64 fl, .string hd, .string da] 32 (0, 0)) := heap_alloc_new _ _
  have hmk := Lib.hid (fun (y : World) (h : Sm (x.alloc (.cells #[.int .i64 ty, .int .i64 fl, .string hd, .string da] 32)) y) => show
    Sm (x.alloc (.cells #[.int .i64 ty, .int .i64 fl, .string hd, .string da] 32)) y ∧ y.cell? ⟨x.heap.size, 0, none⟩ = some (.int .i64 ty) ∧ y.cell? ⟨x.heap.size, 1, none⟩ = some (.int .i64 fl) ∧ y.cell? ⟨x.heap.size, 2, none⟩ = some (.string hd) ∧ y.cell? ⟨x.heap.size, 3, none⟩ = some (.string da) ∧
      y.cell? ⟨bq, oq + 4, none⟩ = some (.bool false) ∧ y.cell? ⟨bq, oq + 5, none⟩ = some (.bool false)
    from ⟨h, h.cell (cell_of_row _ _ 0 _ _ _ hn), h.cell (cell_of_row _ _ 1 _ _ _ hn), h.cell (cell_of_row _ _ 2 _ _ _ hn), h.cell (cell_of_row _ _ 3 _ _ _ hn), h.cell (q4 _), h.cell (q5 _)⟩)
  have hQ1 := Lib.hid hQ
  have hxs1 := Lib.hid hxs
  clear hQ h4 h5 hn q4 q5
  go_enter Tryz.func65, Tryz.ntmps65
  go_wp2
  go_region_held3 (fun y => Sm (x.alloc (.cells #[.int .i64 ty, .int .i64 fl, .string hd, .string da] 32)) y ∧ y.cell? ⟨x.heap.size, 0, none⟩ = some (.int .i64 ty) ∧ y.cell? ⟨x.heap.size, 1, none⟩ = some (.int .i64 fl) ∧ y.cell? ⟨x.heap.size, 2, none⟩ = some (.string hd) ∧ y.cell? ⟨x.heap.size, 3, none⟩ = some (.string da) ∧
      y.cell? ⟨bq, oq + 4, none⟩ = some (.bool false) ∧ y.cell? ⟨bq, oq + 5, none⟩ = some (.bool false))
    (first | (with_reducible assumption) | exact hmk.out _ (Sm.drew0 _) | exact hmk.out _ (Sm.adrew (by with_reducible assumption) _) | exact hmk.out _ (Sm.call (by with_reducible assumption) (by with_reducible assumption)) | exact hmk.out _ (Sm.al (by with_reducible assumption) _))
    (first | (go_at_call 92; refine (hput _ (Sm.laid hLx (by with_reducible assumption))).mono ?_; rintro e w' ⟨rfl, hb4⟩; obtain ⟨hc4, hf4⟩ := bcell hb4))
  go_upto_region 2 with fail
  have hsm : Sm (x.alloc (.cells #[.int .i64 ty, .int .i64 fl, .string hd, .string da] 32)) w' := And.left (by with_reducible assumption)
  have hy : QW W bq oq v xs w' := (hQ1.out.below ((Below.refl _ _).alloc (Nat.le_refl _) _)).below hsm
  have c2 := hy.out
  have hy := Lib.hid hy
  have hown := hy.out.own
  have hbase := hy.out.size
  clear hc4 hf4 hmk hsm
  obtain ⟨i0, hi, hz0, hz1, hz2⟩ := info_parts info5
  go_wp2_with (first | (at_builtin; refine wpList_append_own_string _ rfl _ _ 35 9 rfl W.heap.size 5 i0 und5 und9 hi hz0 hz1 hz2 v xs.length xs rfl hown M rfl ?c1 ?c2 hbase ?_))
  case c1 => have := hxs1.out; unfold maxLen; omega
  case c2 => have := hxs1.out; omega
  intro v' w1 ho' hg _
  obtain ⟨⟨k1, k2⟩, k3⟩ := hy.out.store (ys := xs ++ strCells M) hg (by rw [List.length_append, strCells_length]; exact ho') hf
  have k3 := Lib.hid k3
  have hshape := ho'.2
  clear ho' hg
  rcases hshape with ⟨rfl, _⟩ | ⟨g, cap, cur, rfl, _⟩
  all_goals go_wp2
  all_goals go_end0
  all_goals exact ⟨rfl, _, k3.out⟩
end Go.Proofs.YthlpiipobcomfaaGreatDoor
namespace Go.Proofs.YthlpiipobcomfaaGreatDoor
open Go Go.Proofs Go.RowKit Go.Lib
set_option maxRecDepth 1000000
set_option maxHeartbeats 4000000 in
theorem two63 (n : Nat) (h : n < 65536) {w : World} (hL : Laid w) : Calls Tryz.prog 63 #[.int .i64 n] w fun e w' => e = .returned (.string ⟨⟨leB 2 n⟩⟩) ∧ Below w.heap.size w w' := by
  go_enter Tryz.func63, Tryz.ntmps63
  go_wp2_with (first | (go_at_call 91; refine (put91_2 n h hL).mono ?_; rintro e w' ⟨rfl, hb⟩))
  go_ret
  exact ⟨rfl, hb⟩
theorem two63_9 {w : World} (hL : Laid w) : Calls Tryz.prog 63 #[.int .i64 9] w fun e w' => e = .returned (.string ⟨⟨leB 2 9⟩⟩) ∧ Below w.heap.size w w' := two63 9 (by decide) hL
theorem two63_0 {w : World} (hL : Laid w) : Calls Tryz.prog 63 #[.int .i64 0] w fun e w' => e = .returned (.string ⟨⟨leB 2 0⟩⟩) ∧ Below w.heap.size w w' := two63 0 (by decide) hL
set_option maxHeartbeats 4000000 in
theorem four64 (n : Nat) (h : n < 65536) {w : World} (hL : Laid w) : Calls Tryz.prog 64 #[.int .i64 n] w fun e w' => e = .returned (.string ⟨⟨leB 4 n⟩⟩) ∧ Below w.heap.size w w' := by
  go_enter Tryz.func64, Tryz.ntmps64
  go_wp2_with (first | (go_at_call 91; refine (put91_4 n h hL).mono ?_; rintro e w' ⟨rfl, hb⟩))
  go_ret
  exact ⟨rfl, hb⟩
theorem empty_app (a : ByteArray) : (⟨#[]⟩ : ByteArray) ++ a = a := by
  apply ByteArray.ext
  rw [ByteArray.data_append]
  simp
theorem make4 (w : World) : (Instr.makeSlice 35 (.int .i64 4) (.int .i64 4)).run Tryz.prog w = .ok (.slice (some ⟨w.heap.size, 0, none⟩) 4 4) (w.alloc (.cells #[.int .u8 0, .int .u8 0, .int .u8 0, .int .u8 0] 5)) := by kernel_rfl
set_option maxHeartbeats 4000000 in
theorem head62 (b : Nat) (a0 a1 a2 a3 : ByteArray) (s0 : a0.size = 2) (s1 : a1.size = 2) (s2 : a2.size = 4) (s3 : a3.size = 4) {w : World} (c0 : w.cell? ⟨b, 0, none⟩ = some (.string a0)) (c1 : w.cell? ⟨b, 1, none⟩ = some (.string a1)) (c2 : w.cell? ⟨b, 2, none⟩ = some (.string a2)) (c3 : w.cell? ⟨b, 3, none⟩ = some (.string a3)) :
    Calls Tryz.prog 62 #[.slice (some ⟨b, 0, none⟩) 4 4] w fun e w' => e = .returned (.string (a0 ++ a1 ++ a2 ++ a3 ++ ⟨⟨[0, 0, 0, 0]⟩⟩)) ∧ Below w.heap.size w w' := by
  have hmk := make4
  have hcv := conv4
  have k1 := isB_int
  have k2 := nB_int
  have l1 := strOfNums_size
  go_enter Tryz.func62, Tryz.ntmps62
  go_wp2
  go_loop [3, 8] (fun s i => (i = .int .i64 0 ∧ s = .string ⟨#[]⟩) ∨ (i = .int .i64 1 ∧ s = .string a0) ∨ (i = .int .i64 2 ∧ s = .string (a0 ++ a1)) ∨ (i = .int .i64 3 ∧ s = .string (a0 ++ a1 ++ a2)) ∨ (i = .int .i64 4 ∧ s = .string (a0 ++ a1 ++ a2 ++ a3)))
    (fun _ i => 4 - (RowKit.intOf i).toNat)
  case atStart => exact .inl ⟨rfl, rfl⟩
  case round =>
    rcases hrel with ⟨rfl, rfl⟩ | ⟨rfl, rfl⟩ | ⟨rfl, rfl⟩ | ⟨rfl, rfl⟩ | ⟨rfl, rfl⟩
    · go_wp2
      go_round
      case rel => exact .inr (.inl ⟨rfl, by rw [empty_app]⟩)
      case measure => simp [RowKit.intOf]
    · go_wp2
      go_round
      case rel => exact .inr (.inr (.inl ⟨rfl, rfl⟩))
      case measure => simp [RowKit.intOf]
    · go_wp2
      go_round
      case rel => exact .inr (.inr (.inr (.inl ⟨rfl, rfl⟩)))
      case measure => simp [RowKit.intOf]
    · go_wp2
      go_round
      case rel => exact .inr (.inr (.inr (.inr ⟨rfl, rfl⟩)))
      case measure => simp [RowKit.intOf]
    · go_wp2
      go_ret
      refine ⟨congrArg (fun s => Ending.returned (Value.string (a0 ++ a1 ++ a2 ++ a3 ++ s))) (by decide), (Below.refl _ _).alloc (Nat.le_refl _) _⟩
end Go.Proofs.YthlpiipobcomfaaGreatDoor
namespace Go.Proofs.YthlpiipobcomfaaGreatDoor
open Go Go.Proofs Go.RowKit Go.Lib
set_option maxRecDepth 1000000
set_option maxHeartbeats 4000000 in
theorem is58 (bt ot bi : Nat) {w : World} (c0 : w.cell? ⟨bt, ot, none⟩ = some (.int .i64 1)) (c1 : w.cell? ⟨bi, 0, none⟩ = some (.int .i64 1)) : Calls Tryz.prog 58 #[.pointer (some ⟨bt, ot, none⟩), .pointer (some ⟨bi, 0, none⟩)] w fun e w' => e = .returned (.bool true) ∧ ∃ m, w' = w.drewN m := by
  go_enter Tryz.func58, Tryz.ntmps58
  go_wp2
  go_quiet (fail)
  go_wp2
  go_ret
  exact ⟨rfl, _, rfl⟩
set_option maxHeartbeats 4000000 in
theorem idx59 (bw ow c bt ot bi : Nat) {w : World} (cw : w.cell? ⟨bw, ow, none⟩ = some (.pointer (some ⟨bt, ot, none⟩))) (c0 : w.cell? ⟨bt, ot, none⟩ = some (.int .i64 1)) (c1 : w.cell? ⟨bi, 0, none⟩ = some (.int .i64 1)) :
    Calls Tryz.prog 59 #[.slice (some ⟨bw, ow, none⟩) 1 c, .func (.func 58) #[] #[.pointer (some ⟨bi, 0, none⟩)]] w fun e w' => e = .returned (.int .i64 0) ∧ ∃ m, w' = w.drewN m := by
  go_enter Tryz.func59, Tryz.ntmps59
  go_wp2
  refine wp_loop_rounds 1 ?_; rw [rounds_succ]
  go_wp2_with (first | (go_at_call 58; refine (is58 bt ot bi c0 c1).mono ?_; rintro e w' ⟨rfl, m, rfl⟩))
  go_ret
  exact ⟨rfl, _, rfl⟩
theorem info80 : (Tryz.prog.info? 80).map (fun i => (i.zero, i.size, i.bytes)) = some (some (.pointer none), 1, 8) := by kernel_rfl
theorem und81 : Tryz.prog.underlying 81 = some (.slice 80) := by kernel_rfl
set_option maxHeartbeats 4000000 in
theorem del60 (bw ow c bt ot : Nat) (hc : 1 ≤ c) {w : World} (cw : w.cell? ⟨bw, ow, none⟩ = some (.pointer (some ⟨bt, ot, none⟩))) (fw : w.frozen? ⟨bw, ow, none⟩ = false) :
    Calls Tryz.prog 60 #[.slice (some ⟨bw, ow, none⟩) 1 c, .int .i64 0, .int .i64 1] w fun e w' => e = .returned (.slice (some ⟨bw, ow, none⟩) 0 c) ∧ ∃ m, w' = (w.drewN m).setCell ⟨bw, ow, none⟩ (.pointer none) := by
  go_enter Tryz.func60, Tryz.ntmps60
  go_wp2
  obtain ⟨A, hA⟩ : ∃ A, (if c = 1 then some (⟨bw, ow, none⟩ : Addr) else some ⟨bw, ow + 1, none⟩) = some A := by split <;> exact ⟨_, rfl⟩
  obtain ⟨i0, hi, hz0, hz1, hz2⟩ := info_parts info80
  go_region_law (refine step_append_room rfl (.tmp 22) (.tmp 25) 81 rfl 80 i0 1 und81 hi hz1 bw ow 0 c (by simp [Act.eval, Act.put]) A 0 (c - 1) [] (by simp [Act.eval, Act.put]) rfl (by simp) (by simp) (by omega) (by simp) ?_)
  rw [show w.drew.setCells bw ow [] = w.drew from rfl]
  have hcl : ∀ c ty, (Builtin.clear_ #[81] ty #[.slice (some ⟨bw, ow, none⟩) 1 c]).run Tryz.prog w.drew = .ok (.tuple #[]) (w.drew.setCell ⟨bw, ow, none⟩ (.pointer none)) := fun c ty =>
    run_clear_slice w.drew 81 80 ty (.pointer none) und81 (fun _ => by kernel_rfl) rfl rfl bw ow 1 c (by omega)
      (fun j hj => by have : j = 0 := by omega
                      subst this; show (w.cell? ⟨bw, ow, none⟩).isSome = true; rw [cw]; rfl)
      (fun j hj => by have : j = 0 := by omega
                      subst this; exact fw)
  go_wp2
  go_ret
  exact ⟨rfl, 1, rfl⟩
set_option maxHeartbeats 4000000 in
theorem delf61 (bw ow c bt ot bi : Nat) {w : World} (cw : w.cell? ⟨bw, ow, none⟩ = some (.pointer (some ⟨bt, ot, none⟩))) (fw : w.frozen? ⟨bw, ow, none⟩ = false) (c0 : w.cell? ⟨bt, ot, none⟩ = some (.int .i64 1)) (c1 : w.cell? ⟨bi, 0, none⟩ = some (.int .i64 1)) :
    Calls Tryz.prog 61 #[.slice (some ⟨bw, ow, none⟩) 1 c, .func (.func 58) #[] #[.pointer (some ⟨bi, 0, none⟩)]] w fun e w' => e = .returned (.slice (some ⟨bw, ow, none⟩) 0 c) ∧ ∃ m, w' = (w.drewN m).setCell ⟨bw, ow, none⟩ (.pointer none) := by
  have hcl : ∀ m c ty, (Builtin.clear_ #[81] ty #[.slice (some ⟨bw, ow, none⟩) 1 c]).run Tryz.prog (w.drewN m) = .ok (.tuple #[]) ((w.drewN m).setCell ⟨bw, ow, none⟩ (.pointer none)) := fun m c ty =>
    run_clear_slice (w.drewN m) 81 80 ty (.pointer none) und81 (fun _ => by kernel_rfl) rfl rfl bw ow 1 c (by omega)
      (fun j hj => by have : j = 0 := by omega
                      subst this; show (w.cell? ⟨bw, ow, none⟩).isSome = true; rw [cw]; rfl)
      (fun j hj => by have : j = 0 := by omega
                      subst this; exact fw)
  go_enter Tryz.func61, Tryz.ntmps61
  go_wp2_with (first | (go_at_call 59; refine (idx59 bw ow c bt ot bi cw c0 c1).mono ?_; rintro e w' ⟨rfl, m, rfl⟩))
  refine wp_loop_rounds 1 ?_; rw [rounds_succ]
  go_wp2
  go_ret
  exact ⟨rfl, _, rfl⟩
end Go.Proofs.YthlpiipobcomfaaGreatDoor
