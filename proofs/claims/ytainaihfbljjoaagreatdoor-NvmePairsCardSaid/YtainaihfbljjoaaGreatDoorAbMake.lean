/- The operations that make a block of their own. -/
import Derived.Test.YtainaihfbljjoaaGreatDoorAbOps
set_option linter.all false
set_option linter.unusedSectionVars false
set_option linter.unusedVariables false
set_option linter.unusedSimpArgs false
namespace Go.Ab
open Go Go.RowKit
variable [Unk]
section
variable {P : Program} {σ : Sg}

def make : XOp → Bool
  | .alloc .. | .box .. | .buildSlice .. | .toBytes .. | .makeMap | .makeSlice .. | .rangeStr _ => true
  | _ => false

/-- A world with one block more. -/
structure OneMore (w w' : World) : Prop where
  size : w'.heap.size = w.heap.size + 1
  old : ∀ k, k < w.heap.size → w'.heap[k]? = w.heap[k]?
  os : w'.os = w.os
  tape : w'.tape = w.tape
  output : w'.output = w.output
theorem OneMore.alloc (w : World) (o : Obj) : OneMore w (w.alloc o) := ⟨by simp, fun k hk => Below.heap_alloc w o k hk, rfl, rfl, rfl⟩

structure Makes (P : Program) (σ : Sg) (s : Sem Next) (mk : Nat → Value) (ob : AObj) : Prop where
  own : ob.own = true
  run : ∀ w : World, ∃ v' w' p, s.run P w = .ok (.value v') w' ∧ OneMore w w' ∧ p.b = w.heap.size ∧ ∀ τ id, σ.le τ → τ id = some p → VRel τ (mk id) v' ∧ ORel P τ w' p ob

theorem cells_made {w : World} {cur : Array Value} {c : List Value} {e : TypeId} {n : Nat} (hn : sizeA P e = some n) (hl : LRel σ c cur.toList) {τ : Sg} (hle : σ.le τ) : ORel P τ (w.alloc (.cells cur e)) ⟨w.heap.size, 0, n, cur.size⟩ (.cells false e c) :=
  ⟨cur, e, (0, 0), heap_alloc_new w _, by have := hl.len; simp at this; simp [this], fun i v v' ha hb => ((hl.mono hle).get i v v' ha (by simpa using hb)), hn, rfl, fun _ => ⟨fun o _ h => by simp at h, rfl, Nat.zero_mod _⟩⟩

theorem zeros_length (z : List Value) (n : Nat) : (zeros z n).length = n * z.length := by
  induction n with
  | zero => simp [zeros]
  | succ n ih => simp only [zeros, List.length_append, ih, Nat.succ_mul]; omega
theorem zeros_get (z : List Value) : ∀ (n i : Nat), i < n * z.length → (zeros z n)[i]? = z[i % z.length]? := by
  intro n
  induction n with
  | zero => intro i h; simp at h
  | succ n ih =>
    intro i h
    simp only [zeros]
    by_cases hi : i < z.length
    · rw [List.getElem?_append_left hi, Nat.mod_eq_of_lt hi]
    · rw [List.getElem?_append_right (by omega), ih _ (by rw [Nat.succ_mul] at h; omega)]
      congr 1
      conv => rhs; rw [show i = (i - z.length) + z.length by omega]
      rw [Nat.add_mod_right]
/-- The model's own way to write so many zero values. -/
theorem range_zeros (z : Value) (n m : Nat) (hm : m = n * z.cells.size) : ((Array.range m).map (z.cells[· % z.cells.size]!)).toList = zeros z.cells.toList n := by
  subst hm
  by_cases h0 : z.cells.size = 0
  · have : z.cells.toList = [] := List.eq_nil_of_length_eq_zero (by simpa using h0)
    rw [this, h0]
    have hz : zeros ([] : List Value) n = [] := List.eq_nil_of_length_eq_zero (by rw [zeros_length]; simp)
    rw [hz]
    simp
  · apply List.ext_getElem?
    intro i
    by_cases hi : i < n * z.cells.size
    · rw [zeros_get z.cells.toList n i (by simpa using hi)]
      have hlt : i % z.cells.size < z.cells.size := Nat.mod_lt _ (by omega)
      simp [Array.toList_map, hi, hlt]
    · rw [List.getElem?_eq_none (by simp; omega), List.getElem?_eq_none (by rw [zeros_length]; simp; omega)]

theorem zeros_rel {z : List Value} (h : LRel σ z z) (n : Nat) : LRel σ (zeros z n) (zeros z n) := by
  induction n with
  | zero => exact .nil
  | succ n ih => exact h.append ih
theorem make_sound {o : Oper} {x : XOp} (hc : compOp P o = some x) (hm : make x = true) {ρA ρC : Operand → Value} (hρ : ∀ y ∈ o.op.operands, VRel σ (ρA y) (ρC y)) {A : H} {v : Value} {A' : H}
    (h : evalOp x ρA A = some (v, A')) : ∃ mk ob, Makes P σ (execOp ρC o) mk ob ∧ ∀ B, evalOp x ρA B = some (mk B.next, B.push ob) := by
  obtain ⟨dst, op, type, pos, after, guard⟩ := o
  cases op with
  | alloc e =>
    simp only [compOp, Option.map_eq_some_iff] at hc
    obtain ⟨z, hz, rfl⟩ := hc
    refine ⟨fun id => .pointer (some ⟨id, 0, none⟩), .cells false e z, ⟨rfl, fun w => ?_⟩, fun B => rfl⟩
    obtain ⟨zv, zi, hi, _, hzr, hzc, _, hzz, _⟩ := run_zero (P := P) (σ := σ) hz w
    have hn : sizeA P e = some zi.size := by simp [sizeA, hi]
    refine ⟨.pointer (some ⟨w.heap.size, 0, none⟩), w.alloc (.cells zv.cells e), ⟨w.heap.size, 0, zi.size, zv.cells.size⟩, ?_, OneMore.alloc _ _, rfl, fun τ id hle hid => ⟨.ptr 0 hid, cells_made hn (by rw [hzc]; exact hzz) hle⟩⟩
    simp [execOp, Instr.alloc, hzr, newVar, newRow]
  | box e y =>
    simp only [compOp, Option.map_eq_some_iff] at hc
    obtain ⟨n, hn, rfl⟩ := hc
    have hy := hρ y (by simp [Op.operands])
    refine ⟨fun id => .pointer (some ⟨id, 0, none⟩), .cells false e (cellsL (ρA y)), ⟨rfl, fun w => ?_⟩, fun B => rfl⟩
    refine ⟨.pointer (some ⟨w.heap.size, 0, none⟩), w.alloc (.cells (ρC y).cells e), ⟨w.heap.size, 0, n, (ρC y).cells.size⟩, ?_, OneMore.alloc _ _, rfl, fun τ id hle hid => ⟨.ptr 0 hid, cells_made hn (cells_rel hy) hle⟩⟩
    simp [execOp, Instr.box, newVar, newRow]
  | buildSlice t n ps =>
    simp only [compOp] at hc
    split at hc
    case h_2 => cases hc
    rename_i e hu
    simp only [Option.bind_eq_some_iff, Option.map_eq_some_iff] at hc
    obtain ⟨s, hs, qs, hq, z, hz, rfl⟩ := hc
    simp only [evalOp, Option.map_eq_some_iff] at h
    obtain ⟨r, hr, he⟩ := h
    have hop : ∀ p ∈ ps.toList, VRel σ (ρA p.2) (ρC p.2) := fun p hp => hρ p.2 (by simp only [Op.operands]; exact List.mem_toArray.2 (List.mem_map.2 ⟨p, hp, rfl⟩))
    refine ⟨fun id => .slice (some ⟨id, 0, none⟩) n n, .cells false e r, ⟨rfl, fun w => ?_⟩, fun B => by simp only [evalOp, hr, Option.map_some]⟩
    simp only [compParts, hu, Option.bind_eq_some_iff] at hq
    obtain ⟨s', hs', hq⟩ := hq
    rw [hs] at hs'
    cases hs'
    obtain ⟨hlen, hget⟩ := parts_get hq
    obtain ⟨za, hza0, hza, hzl⟩ : ∃ za : Array Value, (n * s = 0 → za = #[]) ∧ (n * s ≠ 0 → ∃ zv, (zeroValue e).run P w = .ok zv w ∧ zv.cells = za) ∧ LRel σ z ((Array.range (n * s)).map (za[· % za.size]!)).toList := by
      split at hz
      · rename_i h0
        cases hz
        refine ⟨#[], fun _ => rfl, fun h => absurd h0 h, ?_⟩
        rw [h0]
        simp
        exact .nil
      · rename_i h0
        split at hz
        · cases hz
        rw [Option.map_eq_some_iff] at hz
        obtain ⟨z1, hz1, rfl⟩ := hz
        obtain ⟨zv, zi, hi, _, hzr, hzc, _, hzz, hsz⟩ := run_zero (P := P) (σ := σ) hz1 w
        refine ⟨zv.cells, fun h => absurd h h0, fun _ => ⟨zv, hzr, rfl⟩, ?_⟩
        have hsi : s = zi.size := by simpa [sizeA, hi] using hs.symm
        rw [range_zeros zv n (n * s) (by rw [hsz, hsi]), hzc]
        exact zeros_rel hzz n
    have hlim : ¬ (n * s > 2 ^ 24) := by
      split at hz
      · omega
      · split at hz
        · cases hz
        · omega
    obtain ⟨rc, hrc, hrr⟩ := fill_rel (fun i => some (i * s, s)) ps.toList qs z _ r ρA ρC hlen (fun i p q hp hq' => ⟨(hget i p q hp hq').1, (hget i p q hp hq').2, hop p (List.mem_of_getElem? hp)⟩) hzl hr
    refine ⟨.slice (some ⟨w.heap.size, 0, none⟩) n n, w.alloc (.cells rc e), ⟨w.heap.size, 0, s, rc.size⟩, ?_, OneMore.alloc _ _, rfl, fun τ id hle hid => ⟨.slice 0 n n n hid (.inl rfl), cells_made hs hrr hle⟩⟩
    by_cases h0 : n * s = 0
    · have := hza0 h0
      subst this
      simp only [execOp, Instr.buildSlice, Sem.run_bind, run_underlying hu, Result.andThen_ok, run_size hs, if_neg hlim, if_pos h0, Array.toList_map, hrc, Sem.run_pure, newRow, run_newObj]
      rfl
    · obtain ⟨zv, hzr, hzv⟩ := hza h0
      subst hzv
      simp only [execOp, Instr.buildSlice, Sem.run_bind, run_underlying hu, Result.andThen_ok, run_size hs, if_neg hlim, if_neg h0, hzr, Array.toList_map, hrc, Sem.run_pure, newRow, run_newObj]
      rfl
  | convert s d y =>
    have hx := hρ y (by simp [Op.operands])
    simp only [compOp] at hc
    split at hc
    · cases hc; cases hm
    · cases hc; cases hm
    · rename_i e hs hd
      split at hc
      · rename_i hue
        cases hb : (sizeA P e == some 1) with
        | false => rw [hb] at hc; cases hc
        | true =>
          rw [hb] at hc
          simp only [cond_true, Option.some.injEq] at hc
          subst hc
          have h1 : sizeA P e = some 1 := by simpa using hb
          simp only [evalOp, Option.map_eq_some_iff] at h
          obtain ⟨l0, hstr, he⟩ := h
          obtain ⟨str, hc2, hcr⟩ := charsOf_rel hx hstr
          have hl := hcr.len
          refine ⟨fun id => .slice (some ⟨id, 0, none⟩) l0.length l0.length, .cells false e l0, ⟨rfl, fun w => ?_⟩, fun B => by simp only [evalOp, hstr, Option.map_some]⟩
          let cap := (Question.appendCap str.size 0 e).cut (w.tape w.drawn (.appendCap str.size 0 e))
          have hcap : str.size ≤ cap := by simp [cap, Question.cut]
          let cur : Array Value := (str.data.map fun b => Value.int .u8 b.toNat) ++ Array.replicate (cap - str.size) (.int .u8 0)
          have hcs : cur.size = cap := by simp [cur]; omega
          let w1 : World := (w.drew.alloc (.cells cur e)).freeze { block := w.heap.size, off := cur.size } 1
          have hw1 : w1.heap = (w.heap.push (.cells cur e)).modify w.heap.size fun
              | .cells c elem (lo, hi) => .cells c elem (if lo == hi then (cur.size, cur.size + 1) else (min lo cur.size, max hi (cur.size + 1)))
              | o => o := rfl
          have hblk : w1.heap[w.heap.size]? = some (.cells cur e (cur.size, cur.size + 1)) := by
            rw [hw1, Array.getElem?_modify, if_pos rfl, Array.getElem?_push, if_pos rfl]
            rfl
          have hsh : (w.drew.alloc (.cells cur e)).shape? w.heap.size = some (e, cur.size) := by
            have : (w.drew.alloc (.cells cur e)).heap[w.heap.size]? = some (.cells cur e) := heap_alloc_new w.drew _
            unfold World.shape?
            rw [this]
          refine ⟨.slice (some ⟨w.heap.size, 0, none⟩) str.size cap, w1, ⟨w.heap.size, 0, 1, cur.size⟩, ?_, ⟨?_, ?_, rfl, rfl, rfl⟩, rfl, fun τ id hle hid => ⟨?_, ?_⟩⟩
          · have hst : (Conv.stringToBytes e str).run P w = .ok (.slice (some ⟨w.heap.size, 0, none⟩) str.size cap) w1 := by
              have h2 : (newRow e cur).run P w.drew = .ok ⟨w.heap.size, 0, none⟩ (w.drew.alloc (.cells cur e)) := rfl
              have h3 : (markStringish ⟨w.heap.size, 0, none⟩).run P (w.drew.alloc (.cells cur e)) = .ok () w1 := by
                simp only [markStringish, Sem.run_bind, run_shape, Result.andThen_ok, hsh]
                rfl
              have h4 : (choose (.appendCap str.size 0 e)).run P w = .ok cap w.drew := by simp [run_choose, Question.forced, cap]
              simp only [Conv.stringToBytes, Sem.run_bind, h4, Result.andThen_ok]
              have h5 : (str.data.map fun b => Value.int .u8 b.toNat) ++ Array.replicate (cap - str.size) (.int .u8 0) = cur := rfl
              rw [h5, h2]
              simp only [Result.andThen_ok, h3, Sem.run_pure]
            simp only [execOp, Sem.run_bind, convert, run_underlying hs, run_underlying hd, Result.andThen_ok, hc2, run_underlying hue, hst, Sem.run_pure]
          · rw [hw1]; simp
          · intro k hk
            rw [hw1]
            simp only [Array.getElem?_modify]
            rw [if_neg (by omega), Array.getElem?_push, if_neg (by omega)]
          · rw [hl, ← size_eq]
            refine .slice 0 _ _ _ hid ?_
            by_cases hq : str.size = cap
            · exact .inl hq
            · exact .inr ⟨by omega, by simp; omega⟩
          · refine ⟨cur, e, _, hblk, by rw [hl]; simp [cur, bytesOf], fun i a b ha hb => ?_, h1, rfl, fun _ => ⟨fun o ho hh => by simp at hh; omega, rfl, Nat.zero_mod _⟩⟩
            simp only [Nat.zero_add] at hb
            obtain ⟨x, hg, hcx⟩ := hcr.get ha
            have hi : i < str.data.size := by have := (List.getElem?_eq_some_iff.1 hg).1; simpa [bytesOf] using this
            have : cur[i]? = some (.int .u8 x.toNat) := by
              simp only [cur]
              rw [Array.getElem?_append_left (by simpa using hi)]
              simp [bytesOf] at hg
              simp [hg]
            rw [this] at hb
            cases hb
            exact hcx.vrel
      · cases hc
    · split at hc <;> cases hc; cases hm
    · rw [Option.bind_eq_some_iff] at hc; obtain ⟨_, _, hc⟩ := hc; split at hc <;> cases hc; cases hm
    · cases hc
  | makeMap t r =>
    simp only [compOp] at hc
    split at hc
    · rename_i hr
      have hr' : r = none := by simpa using hr
      subst hr'
      cases hc
      refine ⟨fun id => .map (some id), .map [] 0, ⟨rfl, fun w => ?_⟩, fun B => rfl⟩
      exact ⟨.map (some w.heap.size), w.alloc (.map #[] 0), ⟨w.heap.size, 0, 0, 0⟩, by simp [execOp, Instr.makeMap], OneMore.alloc _ _, rfl, fun τ id hle hid => ⟨.map hid, #[], heap_alloc_new w _, rfl, fun i a b h => by simp at h⟩⟩
    · cases hc
  | makeSlice t l c =>
    simp only [compOp] at hc
    split at hc
    case h_2 => cases hc
    rename_i e hu
    simp only [Option.bind_eq_some_iff, Option.map_eq_some_iff] at hc
    obtain ⟨i, hi, z, hz, rfl⟩ := hc
    have hl := hρ l (by simp [Op.operands])
    have hcc := hρ c (by simp [Op.operands])
    simp only [evalOp] at h
    split at h
    · rename_i kl l0 kc c0 hla hca
      split at h
      · rename_i hb
        obtain ⟨b1, b2, b3, b4⟩ := hb
        rw [hla] at hl
        rw [hca] at hcc
        have hl' := hl.int_inv
        have hc' := hcc.int_inv
        refine ⟨fun id => .slice (some ⟨id, 0, none⟩) l0.toNat c0.toNat, .cells false e (zeros z c0.toNat), ⟨rfl, fun w => ?_⟩, fun B => by simp only [evalOp, hla, hca]; rw [if_pos ⟨b1, b2, b3, b4⟩]⟩
        obtain ⟨zv, zi, hi', hz', hzr, hzc, _, hzz, hsz⟩ := run_zero (P := P) (σ := σ) hz w
        rw [hi] at hi'
        cases hi'
        have hrun := run_make (P := P) w t e i zv hu hi hz' kl kc l0 c0 b1 b2 (by omega) b4
        refine ⟨.slice (some ⟨w.heap.size, 0, none⟩) l0.toNat c0.toNat, w.alloc (.cells (madeCells zv.cells (c0.toNat * i.size)) e), ⟨w.heap.size, 0, i.size, (madeCells zv.cells (c0.toNat * i.size)).size⟩, ?_, OneMore.alloc _ _, rfl, fun τ id hle hid => ⟨.slice 0 _ _ _ hid (.inl rfl), cells_made (by simp [sizeA, hi]) ?_ hle⟩⟩
        · simp [execOp, hl', hc', hrun]
        · have : (madeCells zv.cells (c0.toNat * i.size)).toList = zeros z c0.toNat := by
            rw [← hzc]
            exact range_zeros zv c0.toNat _ (by rw [hsz])
          rw [this]
          exact zeros_rel hzz _
      · cases h
    · cases h
  | range t y =>
    simp only [compOp] at hc
    split at hc
    · rename_i hu
      cases hc
      have hy := hρ y (by simp [Op.operands])
      simp only [evalOp, Option.map_eq_some_iff] at h
      obtain ⟨s, hs, he⟩ := h
      obtain ⟨_, h2⟩ := strV_rel hy hs
      refine ⟨fun id => .pointer (some ⟨id, 0, none⟩), .iter s 0, ⟨rfl, fun w => ?_⟩, fun B => by simp only [evalOp, hs, Option.map_some]⟩
      exact ⟨.pointer (some ⟨w.heap.size, 0, none⟩), w.alloc (.stringIter s 0), ⟨w.heap.size, 0, 0, 0⟩, by simp [execOp, Instr.range, run_underlying hu, h2], OneMore.alloc _ _, rfl, fun τ id hle hid => ⟨.ptr 0 hid, rfl, heap_alloc_new w _⟩⟩
    · cases hc
  | move y => simp only [compOp, Option.some.injEq] at hc; subst hc; cases hm
  | assign y => simp only [compOp, Option.some.injEq] at hc; subst hc; cases hm
  | pick c a b => simp only [compOp, Option.some.injEq] at hc; subst hc; cases hm
  | build t ps =>
    simp only [compOp, Option.bind_eq_some_iff] at hc
    obtain ⟨_, _, hc⟩ := hc
    split at hc <;> first | (cases hc; done) | (rw [Option.map_eq_some_iff] at hc; obtain ⟨_, _, rfl⟩ := hc; cases hm)
  | load t a => simp only [compOp, Option.bind_eq_some_iff, Option.map_eq_some_iff] at hc; obtain ⟨_, _, _, _, rfl⟩ := hc; cases hm
  | nilCheck y => simp only [compOp, Option.some.injEq] at hc; subst hc; cases hm
  | binOp op xt x y yt => simp only [compOp, Option.bind_eq_some_iff] at hc; obtain ⟨_, _, hc⟩ := hc; rcases compBin_kind hc with rfl | ⟨_, _, ⟨_, rfl⟩ | ⟨_, rfl⟩⟩ | ⟨_, _, _, ⟨_, rfl⟩ | ⟨_, rfl⟩⟩ <;> cases hm
  | typeAssert x xt t ok =>
    simp only [compOp] at hc
    cases ok with
    | false => cases hc
    | true =>
      simp only [cond_true, Option.bind_eq_some_iff] at hc
      obtain ⟨z, _, hc⟩ := hc
      cases hb : (cellsL z).all flat1 with
      | false => rw [hb] at hc; cases hc
      | true => rw [hb] at hc; simp only [cond_true, Option.map_eq_some_iff] at hc; obtain ⟨d, _, hc⟩ := hc; split at hc <;> (subst hc; cases hm)
  | unOp op xt x => simp only [compOp, Option.some.injEq] at hc; subst hc; cases hm
  | makeInterface t x => simp only [compOp] at hc; split at hc <;> cases hc; cases hm
  | makeFunc fn first cap => simp only [compOp] at hc; cases hc; cases hm
  | slice t x lo hi mx =>
    simp only [compOp] at hc
    split at hc
    · split at hc <;> cases hc; cases hm
    · cases hb : (mx.isSome && hi.isNone) <;> rw [hb] at hc
      · simp only [cond_false, Option.map_eq_some_iff] at hc; obtain ⟨_, _, rfl⟩ := hc; cases hm
      · cases hc
    · cases hb : (mx.isSome && hi.isNone) <;> rw [hb] at hc
      · simp only [cond_false, Option.map_eq_some_iff] at hc; obtain ⟨_, _, rfl⟩ := hc; cases hm
      · cases hc
    · cases hc
  | fieldAddr s x f =>
    simp only [compOp] at hc
    split at hc
    · simp only [Option.bind_eq_some_iff] at hc
      obtain ⟨_, _, _, _, hc⟩ := hc
      split at hc <;> cases hc; cases hm
    · cases hc
  | field t x f =>
    simp only [compOp] at hc
    split at hc
    · simp only [Option.bind_eq_some_iff, Option.map_eq_some_iff] at hc
      obtain ⟨_, _, _, _, _, _, rfl⟩ := hc; cases hm
    · cases hc
  | indexAddr t x i =>
    simp only [compOp] at hc
    split at hc <;> first | (cases hc; done) | (rw [Option.map_eq_some_iff] at hc; obtain ⟨_, _, rfl⟩ := hc; cases hm)
  | index t x i =>
    simp only [compOp] at hc
    split at hc
    · simp only [Option.bind_eq_some_iff, Option.map_eq_some_iff] at hc
      obtain ⟨_, _, _, _, rfl⟩ := hc; cases hm
    · cases hc; cases hm
    · cases hc
  | lookup t m k ok =>
    simp only [compOp] at hc
    split at hc
    · simp only [Option.bind_eq_some_iff] at hc
      obtain ⟨d, _, z, _, hc⟩ := hc
      cases hb : (cellsL z).all flat1 <;> rw [hb] at hc <;> cases hc; cases hm
    · cases hc
  | extract x i => simp only [compOp, Option.some.injEq] at hc; subst hc; cases hm
  | store t a x => simp only [compOp, Option.map_eq_some_iff] at hc; obtain ⟨_, _, rfl⟩ := hc; cases hm
  | mapUpdate t m k x =>
    simp only [compOp] at hc
    split at hc
    · simp only [Option.map_eq_some_iff] at hc; obtain ⟨d, _, rfl⟩ := hc; cases hm
    · cases hc
  | insert t m k x =>
    simp only [compOp] at hc
    split at hc
    · simp only [Option.map_eq_some_iff] at hc; obtain ⟨d, _, rfl⟩ := hc; cases hm
    · cases hc
  | next x b => simp only [compOp] at hc; cases b <;> cases hc; cases hm
  | call c =>
    obtain ⟨callee, args, argTypes⟩ := c
    simp only [compOp, compCall] at hc
    cases callee with
    | invoke r m => simp only [compCall, Option.some.injEq] at hc; subst hc; cases hm
    | value f =>
      cases f with
      | func f =>
        simp only at hc
        split at hc
        · split at hc
          · cases hc; cases hm
          · split at hc
            · split at hc <;> cases hc; cases hm
            · cases hc
        · cases hc
      | tmp t => simp only [Option.some.injEq] at hc; subst hc; cases hm
      | _ => cases hc
    | builtin b =>
      simp only [compBuiltin] at hc
      cases b with
      | len =>
        simp only at hc
        split at hc
        · split at hc <;> first | (cases hc; cases hm; done) | skip
          · split at hc <;> cases hc; cases hm
          · cases hc
        · cases hc
      | append =>
        simp only at hc
        split at hc
        · split at hc <;> first | (cases hc; done) | (simp only [Option.bind_eq_some_iff, Option.map_eq_some_iff] at hc; obtain ⟨_, _, _, _, rfl⟩ := hc; cases hm)
        · cases hc
      | copy =>
        simp only at hc
        split at hc
        · split at hc <;> first | (cases hc; done) | (simp only [Option.map_eq_some_iff] at hc; obtain ⟨_, _, rfl⟩ := hc; cases hm)
        · cases hc
      | clear =>
        simp only at hc
        split at hc
        · split at hc <;> first | (cases hc; done) | (simp only [Option.map_eq_some_iff] at hc; obtain ⟨_, _, rfl⟩ := hc; cases hm)
        · cases hc
      | delete =>
        simp only at hc
        split at hc
        · split at hc <;> first | (cases hc; done) | (simp only [Option.map_eq_some_iff] at hc; obtain ⟨_, _, rfl⟩ := hc; cases hm)
        · cases hc
      | min => cases hc; cases hm
      | max => cases hc; cases hm
      | _ => cases hc
  | _ => simp [compOp] at hc
end
end Go.Ab
