/- What the reference's Get answers of each message that was sent. -/
/- What is to be sent, taken. -/
/- The law's own reading of what was sent: message by message. -/
import Derived.Test.YthlpiipobcomfaaGreatDoorQrEnd
import Derived.Test.YthlpiipobcomfaaGreatDoorQrGet
set_option linter.all false
set_option linter.unusedSectionVars false
set_option linter.unusedVariables false
set_option linter.unusedSimpArgs false
namespace Go.Proofs.YthlpiipobcomfaaGreatDoor
open Go Go.Ab Go.Proofs Go.RowKit Go.Lib
set_option maxRecDepth 1000000
/-- The j-th message, as it is got. -/
def tpOf (data : ByteArray) (j : Nat) : List Value :=
  if j < nMsgs data then [.int .i64 7, .int .i64 (if 8192 * j + nAt data j = data.size then 4 else 0), .string (head16 (8192 * j) (nAt data j)), .string (data.extract (8192 * j) (8192 * j + nAt data j))]
  else [.int .i64 5, .int .i64 0, .string endHead, .string ⟨#[]⟩]
def tps (data : ByteArray) : Nat → List Value
  | 0 => []
  | j + 1 => tps data j ++ tpOf data j
theorem tpOf_len (data : ByteArray) (j : Nat) : (tpOf data j).length = 4 := by unfold tpOf; split <;> rfl
theorem tps_len (data : ByteArray) : ∀ j, (tps data j).length = j * 4
  | 0 => rfl
  | j + 1 => by
    show (tps data j ++ tpOf data j).length = _
    rw [List.length_append, tps_len data j, tpOf_len]; omega
theorem nMsgs_lt {data : ByteArray} {j : Nat} (h : j < nMsgs data) : 8192 * j < data.size := by unfold nMsgs at h; omega
theorem rest_size {data : ByteArray} (hd : data.size ≤ 30000) {j : Nat} (h : j ≤ nMsgs data) : (rest data j).size ≤ 40000 := by
  have h0 := msgs_rest data j h
  have h1 : (rest data j).size ≤ (rest data 0).size := by rw [← h0, ByteArray.size_append]; omega
  rw [← rest_all, ByteArray.size_append] at h1
  have hK : nMsgs data ≤ 4 := by unfold nMsgs; omega
  have h2 := msgs_size data (nMsgs data) (by
    rcases Nat.eq_zero_or_pos (nMsgs data) with h | h
    · exact .inl h
    · exact .inr (nMsgs_lt (by omega)))
  have h3 : endM.size = 24 := rfl
  omega
theorem run42e : (letI : Kn := knNone; kF code nats 3000 42 [.string endM, .bool false, .bool false] (otabH tabs) (fun r _ => eqx 3 r (.tuple #[.agg #[.int .i64 5, .int .i64 0, .string endHead, .string ⟨#[]⟩, .int .i64 24], .int .i64 0]))) = true := by kernel_rfl
theorem get42e (w : World) (hL : Laid w) : Calls Tryz.prog 42 #[.string endM, .bool false, .bool false] w fun e w' => e = .returned (.tuple #[.agg #[.int .i64 5, .int .i64 0, .string endHead, .string ⟨#[]⟩, .int .i64 24], .int .i64 0]) ∧ Below w.heap.size w w' :=
  told_of (.tuple _ (by intro v hv; simp at hv; rcases hv with rfl | rfl; exact .agg _ (by intro v hv; simp at hv; rcases hv with rfl | rfl | rfl | rfl | rfl <;> constructor); constructor)) run42e (fun σ => @flat_lrel (bitsI 0) σ _ (by intro v hv; simp at hv; rcases hv with rfl | rfl <;> constructor)) hL
theorem get_any {data : ByteArray} (hd : data.size ≤ 30000) {j : Nat} (h : j ≤ nMsgs data) : ∃ (ty fl : Int) (hd da : ByteArray) (sz : Nat), 1 ≤ sz ∧ sz ≤ (rest data j).size ∧ (rest data j).extract sz (rest data j).size = rest data (j + 1) ∧
    tpOf data j = [.int .i64 ty, .int .i64 fl, .string hd, .string da] ∧
    ∀ w, Laid w → Calls Tryz.prog 42 #[.string (rest data j), .bool false, .bool false] w fun e w' => e = .returned (.tuple #[.agg #[.int .i64 ty, .int .i64 fl, .string hd, .string da, .int .i64 sz], .int .i64 0]) ∧ Below w.heap.size w w' := by
  rcases Nat.lt_or_ge j (nMsgs data) with hj | hj
  · have hlt := nMsgs_lt hj
    have hn : 8192 * j + nAt data j ≤ data.size := by unfold nAt; omega
    have h1 : 1 ≤ nAt data j := by unfold nAt; omega
    have h2 : nAt data j ≤ 8192 := by unfold nAt; omega
    have hz := rest_size hd h
    have hs : (rest data j).size = 24 + nAt data j + (rest data (j + 1)).size := by rw [rest_step hj, ByteArray.size_append, msgAt_size hn]
    refine ⟨7, if 8192 * j + nAt data j = data.size then 4 else 0, head16 (8192 * j) (nAt data j), data.extract (8192 * j) (8192 * j + nAt data j), 24 + nAt data j, by omega, by omega, ?_, ?_, fun w hL => ?_⟩
    · rw [rest_step hj]; exact got_rest hn _
    · unfold tpOf; rw [if_pos hj]
    · have e1 : (rest data j).extract 8 24 = head16 (8192 * j) (nAt data j) := by rw [rest_step hj]; exact got_head hn _
      have e2 : (rest data j).extract 24 (24 + nAt data j) = data.extract (8192 * j) (8192 * j + nAt data j) := by rw [rest_step hj]; exact got_data hn _
      have e0 : (rest data j).extract 0 8 = hdr 7 (if 8192 * j + nAt data j = data.size then 4 else 0) (nAt data j) := by rw [rest_step hj]; exact got_hdr hn _
      by_cases hl : 8192 * j + nAt data j = data.size
      · rw [if_pos hl] at e0
        have := get42_4 (nAt data j) h2 h1 (rest data j) (by omega) hz e0 w hL
        rw [e1, e2] at this
        rw [if_pos hl]
        exact this
      · rw [if_neg hl] at e0
        have := get42_0 (nAt data j) h2 h1 (rest data j) (by omega) hz e0 w hL
        rw [e1, e2] at this
        rw [if_neg hl]
        exact this
  · have e : j = nMsgs data := by omega
    subst e
    refine ⟨5, 0, endHead, ⟨#[]⟩, 24, by omega, ?_, ?_, ?_, fun w hL => ?_⟩
    · rw [rest_last]; exact Nat.le_refl _
    · rw [rest_last, rest_end]; decide
    · unfold tpOf; rw [if_neg (by omega)]
    · rw [rest_last]; exact get42e w hL
end Go.Proofs.YthlpiipobcomfaaGreatDoor
namespace Go.Proofs.YthlpiipobcomfaaGreatDoor
open Go Go.Proofs Go.RowKit Go.Lib
set_option maxRecDepth 1000000
theorem strOf_cells (M : ByteArray) : strOfNums (M.data.toList.map fun b => (b.toNat : Int)) = M := by
  apply ByteArray.ext
  unfold strOfNums
  have e : ((fun n : Int => UInt8.ofNat n.toNat) ∘ fun b : UInt8 => (b.toNat : Int)) = id := by funext b; simp
  rw [List.map_map, e]
  simp
theorem conv_own {x : World} {B : Nat} {v : Value} {M : ByteArray} (h : x.ownsRow B 5 1 v M.size (strCells M)) : (convert 35 9 v).run Tryz.prog x = .ok (.string M) x := by
  rcases h.2 with ⟨rfl, h0⟩ | ⟨g, cap, cur, rfl, hg, hh, hn, hc, hs, ht⟩
  · rw [run_convert_bytes_nil x 35 5 und5 (by kernel_rfl) 0 0 9 und9]
    have : M = ByteArray.empty := by
      apply ByteArray.ext
      have : M.data = #[] := Array.eq_empty_of_size_eq_zero h0
      rw [this]; rfl
    rw [this]
  · have hcell : ∀ i, i < M.size → x.cell? ⟨g, 0 + i, none⟩ = some (.int .u8 ((M.data.toList.map fun b => (b.toNat : Int)).getD i 0)) := fun i hi => by
      rw [cell_of_row x g (0 + i) cur 5 _ hh]
      have e : (cur.toList.take (M.size * 1))[i]? = (strCells M)[i]? := by rw [ht]
      rw [List.getElem?_take, if_pos (by omega), Array.getElem?_toList] at e
      rw [Nat.zero_add, e]
      unfold strCells
      have hi2 : i < M.data.toList.length := by rw [Array.length_toList]; exact hi
      rw [List.getElem?_map, List.getD_eq_getElem?_getD, List.getElem?_map, List.getElem?_eq_getElem hi2]
      rfl
    have := run_convert_bytes_arg (P := Tryz.prog) x 35 5 und5 (by kernel_rfl) g 0 M.size cap _ (by rw [List.length_map, Array.length_toList]; rfl) hcell 9 und9
    rw [strOf_cells] at this
    exact this
set_option maxHeartbeats 4000000 in
theorem take22 {W x : World} {bq oq : Nat} {v : Value} {M : ByteArray} (hQ : QW W bq oq v (strCells M) x) (hf : W.frozen? ⟨bq, oq + 2, none⟩ = false) :
    Calls Tryz.prog 22 #[.pointer (some ⟨bq, oq, none⟩)] x fun e y => e = .returned (.string M) ∧ QW W bq oq (.slice none 0 0) [] y := by
  have hcv := conv_own (by have := hQ.own; rw [strCells_length] at this; exact this)
  have k1 := hQ.out
  have hst := Lib.hid (hQ.store (v' := .slice none 0 0) (ys := []) ⟨rfl, rfl, rfl, Nat.le_refl _, fun _ _ _ => rfl⟩ (World.ownsRow_nil _ _ _ _) hf)
  have k2 := hst.out.1.2
  clear hQ
  go_enter Tryz.func22, Tryz.ntmps22
  go_wp2
  go_ret
  exact ⟨rfl, hst.out.2⟩
end Go.Proofs.YthlpiipobcomfaaGreatDoor
namespace Go.Proofs.YthlpiipobcomfaaGreatDoor
open Go Go.Proofs Go.RowKit Go.Lib
set_option maxRecDepth 1000000
def lenOf : Value → Nat
  | .string s => s.size
  | _ => 0
theorem info32 : (Tryz.prog.info? 32).map (fun i => (i.zero, i.size, i.bytes)) = some (some (.agg #[.int .i64 0, .int .i64 0, .string ⟨#[]⟩, .string ⟨#[]⟩]), 4, 48) := by kernel_rfl
theorem und29 : Tryz.prog.underlying 29 = some (.slice 32) := by kernel_rfl
theorem QW.grown {W x y : World} {bq oq : Nat} {v : Value} {e size n : Nat} {xs : List Value} (h : QW W bq oq (.slice none 0 0) [] x) (ho : x.ownsRow W.heap.size e size v n xs) (hg : x.grownBy y v.ownBlock) : QW W bq oq (.slice none 0 0) [] y := by
  have hne : ∀ k, k < W.heap.size → some k ≠ v.ownBlock := fun k hk he => by
    have := (ho.lt k he.symm).1
    omega
  have hb : ∀ k, k < W.heap.size → y.heap[k]? = x.heap[k]? := fun k hk => hg.block k (Nat.lt_of_lt_of_le hk h.size) (hne k hk)
  exact ⟨hg.os.trans h.os, hg.tape.trans h.tape, hg.output.trans h.output, Nat.le_trans h.size hg.size, h.hq, h.h4, fun k hk hn => (hb k hk).trans (h.block k hk hn),
    fun i hi => (World.cell?_of_block (w := x) (hb bq h.hq)).trans (h.cell i hi), fun i => (World.frozen?_of_block (w := x) (hb bq h.hq)).trans (h.froz i), (World.cell?_of_block (w := x) (hb bq h.hq)).trans h.out, World.ownsRow_nil _ _ _ _⟩
theorem rest_ne {data : ByteArray} {j : Nat} {sz : Nat} (h1 : 1 ≤ sz) (h2 : sz ≤ (rest data j).size) : (rest data j).toList.isEmpty = false := by
  rw [ByteArray.toList_eq]
  have : (rest data j).data.toList.length = (rest data j).size := Array.length_toList
  cases h : (rest data j).data.toList with
  | nil => rw [h] at this; simp at this; omega
  | cons a l => rfl
theorem box_cell {w w1 : World} {B n e size : Nat} {v : Value} {xs : List Value} {a b c d s : Value} {o : Obj} {t : TypeId} (ho : w.ownsRow B e size v n xs) (hg : ((w.alloc (.cells #[a, b, c, d, s] t)).alloc o).grownBy w1 v.ownBlock) : w1.cell? ⟨w.heap.size, 4, none⟩ = some s := by
  have hne : some w.heap.size ≠ v.ownBlock := fun he => by
    have := (ho.lt _ he.symm).2
    omega
  have hb := hg.block w.heap.size (by simp; omega) hne
  exact cell_of_row w1 _ 4 _ t _ (hb.trans (heap_alloc2_old _ _ _))
set_option maxHeartbeats 40000000 in
theorem said15 {data : ByteArray} (hda : data.size ≤ 30000) {W x : World} {bq oq : Nat} {v : Value} (hL : Laid W) (hQ : QW W bq oq v (strCells (rest data 0)) x) (hf : W.frozen? ⟨bq, oq + 2, none⟩ = false) :
    Calls Tryz.prog 15 #[.pointer (some ⟨bq, oq, none⟩)] x fun e y => ∃ l, e = .returned l ∧ y.ownsRow W.heap.size 32 4 l (nMsgs data + 1) (tps data (nMsgs data + 1)) ∧ QW W bq oq (.slice none 0 0) [] y := by
  have ht := Lib.hid (take22 hQ hf)
  clear hQ
  go_enter Tryz.func15, Tryz.ntmps15
  go_wp2_with (first | (go_at_call 22; refine ht.out.mono ?_; rintro e y ⟨rfl, hQ'⟩))
  go_loopw [3, 4] (fun l o wr => ∃ j, j ≤ nMsgs data + 1 ∧ o = .string (rest data j) ∧ wr.ownsRow W.heap.size 32 4 l j (tps data j) ∧ QW W bq oq (.slice none 0 0) [] wr)
    (fun _ o _ => lenOf o)
  case atStart => exact ⟨0, by omega, rfl, World.ownsRow_nil _ _ _ _, hQ'⟩
  case round =>
    obtain ⟨j, hj, rfl, hown, hQ⟩ := hrel
    have hQ1 := Lib.hid hQ
    have hown1 := Lib.hid hown
    clear hQ hown
    rcases Nat.lt_or_ge (nMsgs data) j with hj2 | hj2
    · obtain rfl : j = nMsgs data + 1 := by omega
      rw [rest_end]
      go_wp2
      go_ret
      exact ⟨_, rfl, hown1.out, hQ1.out⟩
    · obtain ⟨ty, fl, hd, da, sz, z1, z2, z3, z4, hget⟩ := get_any hda hj2
      have hne := rest_ne z1 z2
      have hget1 := Lib.hid (hget wr (hQ1.out.laid hL))
      have z3 := Lib.hid z3
      have z4 := Lib.hid z4
      have i1 : (0 : Int) ≤ (sz : Int) := by omega
      have i2 : (sz : Int) ≤ ((rest data j).size : Int) := by omega
      have i3 : ((sz : Int) == 0) = false := by simp; omega
      go_upto_region 7 with (first | (go_at_call 42; refine hget1.out.mono ?_; rintro e w' ⟨rfl, hb⟩))
      have hown2 := ownsRow_below hown1.out hb
      have hQ2 := Lib.hid (hQ1.out.below hb)
      have hsz := hQ2.out.size
      obtain ⟨i0, hi, hz0, hz1, hz2⟩ := info_parts info32
      go_wp2_with (first | (at_builtin; refine wpList_append_own _ rfl _ _ 29 rfl W.heap.size 32 i0 _ 4 48 und29 hi hz0 hz1 hz2 rfl (by decide) _ j (tps data j) rfl ((hown2.alloc _).alloc _) ⟨w'.heap.size + 1, 0, none⟩ 1 1 [.int .i64 ty, .int .i64 fl, .string hd, .string da] rfl rfl ?c1 ?c2 ?c3 ?c4 ?c5 ?_))
      case c1 =>
        intro k u hk
        match k, hk with
        | 0, hk => simp at hk; subst hk; simp [Addr.add]
        | 1, hk => simp at hk; subst hk; simp [Addr.add]
        | 2, hk => simp at hk; subst hk; simp [Addr.add]
        | 3, hk => simp at hk; subst hk; simp [Addr.add]
        | k + 4, hk => simp at hk
      case c2 => intro u hu; simp at hu; rcases hu with rfl | rfl | rfl | rfl <;> rfl
      case c3 => have : nMsgs data ≤ 4 := by unfold nMsgs; omega
                 unfold maxLen; omega
      case c4 => have : nMsgs data ≤ 4 := by unfold nMsgs; omega
                 omega
      case c5 => simp; omega
      intro v' w1 ho' hg _
      have hQ3 := Lib.hid (((hQ2.out.below ((Below.refl _ _).alloc (Nat.le_refl _) _)).below ((Below.refl _ _).alloc (Nat.le_refl _) _)).grown ((hown2.alloc _).alloc _) hg)
      have hc4 := box_cell hown2 hg
      rw [← z4.out] at ho'
      have ho2 := Lib.hid ho'
      clear ho' hg hown2
      go_wp2
      go_roundw
      case rel => exact ⟨j + 1, by omega, by rw [← z3.out], ho2.out, hQ3.out⟩
      case measure => show (rest data (j + 1)).size < (rest data j).size; rw [← z3.out, ByteArray.size_extract]; omega
end Go.Proofs.YthlpiipobcomfaaGreatDoor
