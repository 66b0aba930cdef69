/- The operations that make a block of their own. -/
/- The operations that write. -/
/- The operations that write, all of them. -/
/- What is told of operations: it is so. -/
/- Operations one behind the other; calls. -/
/- What early operations hang on. -/
import Derived.Test.YthlpiipobcomfaaGreatDoorAcOps
import Derived.Laws.LoneSync
set_option linter.all false
set_option linter.unusedSectionVars false
set_option linter.unusedVariables false
set_option linter.unusedSimpArgs false
namespace Go.Ab
open Go Go.RowKit
variable [Unk] [Kn] [KnOk]
section
variable {P : Program} {σ : Sg}

def make : XOp → Bool
  | .alloc .. | .box .. | .buildSlice .. | .toBytes .. | .makeMap | .makeSlice .. | .rangeStr _ => true
  | _ => false

/-- A world with one block more. -/
structure OneMore (w w' : World) : Prop where
  size : w'.heap.size = w.heap.size + 1
  old : ∀ k, k < w.heap.size → w'.heap[k]? = w.heap[k]?
  os : w'.os = w.os
  tape : w'.tape = w.tape
  output : w'.output = w.output
theorem OneMore.alloc (w : World) (o : Obj) : OneMore w (w.alloc o) := ⟨by simp, fun k hk => Below.heap_alloc w o k hk, rfl, rfl, rfl⟩

structure Makes (P : Program) (σ : Sg) (s : Sem Next) (mk : Nat → Value) (ob : AObj) : Prop where
  own : ob.own = true
  run : ∀ w : World, ∃ v' w' p, s.run P w = .ok (.value v') w' ∧ OneMore w w' ∧ p.b = w.heap.size ∧ ∀ τ id, σ.le τ → τ id = some p → VRel τ (mk id) v' ∧ ORel P τ w' p ob

theorem cells_made {w : World} {cur : Array Value} {c : List Value} {e : TypeId} {n : Nat} (hn : sizeA P e = some n) (hl : LRel σ c cur.toList) {τ : Sg} (hle : σ.le τ) : ORel P τ (w.alloc (.cells cur e)) ⟨w.heap.size, 0, n, cur.size⟩ (.cells false e c) :=
  ⟨cur, e, (0, 0), heap_alloc_new w _, by have := hl.len; simp at this; simp [this], fun i v v' ha hb => ((hl.mono hle).get i v v' ha (by simpa using hb)), hn, rfl, fun _ => ⟨fun o _ h => by simp at h, rfl, Nat.zero_mod _⟩⟩

theorem zeros_length (z : List Value) (n : Nat) : (zeros z n).length = n * z.length := by
  induction n with
  | zero => simp [zeros]
  | succ n ih => simp only [zeros, List.length_append, ih, Nat.succ_mul]; omega
theorem zeros_get (z : List Value) : ∀ (n i : Nat), i < n * z.length → (zeros z n)[i]? = z[i % z.length]? := by
  intro n
  induction n with
  | zero => intro i h; simp at h
  | succ n ih =>
    intro i h
    simp only [zeros]
    by_cases hi : i < z.length
    · rw [List.getElem?_append_left hi, Nat.mod_eq_of_lt hi]
    · rw [List.getElem?_append_right (by omega), ih _ (by rw [Nat.succ_mul] at h; omega)]
      congr 1
      conv => rhs; rw [show i = (i - z.length) + z.length by omega]
      rw [Nat.add_mod_right]
/-- The model's own way to write so many zero values. -/
theorem range_zeros (z : Value) (n m : Nat) (hm : m = n * z.cells.size) : ((Array.range m).map (z.cells[· % z.cells.size]!)).toList = zeros z.cells.toList n := by
  subst hm
  by_cases h0 : z.cells.size = 0
  · have : z.cells.toList = [] := List.eq_nil_of_length_eq_zero (by simpa using h0)
    rw [this, h0]
    have hz : zeros ([] : List Value) n = [] := List.eq_nil_of_length_eq_zero (by rw [zeros_length]; simp)
    rw [hz]
    simp
  · apply List.ext_getElem?
    intro i
    by_cases hi : i < n * z.cells.size
    · rw [zeros_get z.cells.toList n i (by simpa using hi)]
      have hlt : i % z.cells.size < z.cells.size := Nat.mod_lt _ (by omega)
      simp [Array.toList_map, hi, hlt]
    · rw [List.getElem?_eq_none (by simp; omega), List.getElem?_eq_none (by rw [zeros_length]; simp; omega)]

theorem zeros_rel {z : List Value} (h : LRel σ z z) (n : Nat) : LRel σ (zeros z n) (zeros z n) := by
  induction n with
  | zero => exact .nil
  | succ n ih => exact h.append ih
theorem make_sound0 {o : Oper} {x : XOp} (hc : compOp P o = some x) (hm : make x = true) {ρA ρC : Operand → Value} (hρ : ∀ y ∈ o.op.operands, VRel σ (ρA y) (ρC y)) {A : H} {v : Value} {A' : H}
    (h : evalOp0 x ρA A = some (v, A')) : ∃ mk ob, Makes P σ (execOp ρC o) mk ob ∧ ∀ B, evalOp0 x ρA B = some (mk B.next, B.push ob) := by
  obtain ⟨dst, op, type, pos, after, guard⟩ := o
  cases op with
  | alloc e =>
    simp only [compOp, Option.map_eq_some_iff] at hc
    obtain ⟨z, hz, rfl⟩ := hc
    refine ⟨fun id => .pointer (some ⟨id, 0, none⟩), .cells false e z, ⟨rfl, fun w => ?_⟩, fun B => rfl⟩
    obtain ⟨zv, zi, hi, _, hzr, hzc, _, hzz, _⟩ := run_zero (P := P) (σ := σ) hz w
    have hn : sizeA P e = some zi.size := by simp [sizeA, hi]
    refine ⟨.pointer (some ⟨w.heap.size, 0, none⟩), w.alloc (.cells zv.cells e), ⟨w.heap.size, 0, zi.size, zv.cells.size⟩, ?_, OneMore.alloc _ _, rfl, fun τ id hle hid => ⟨.ptr 0 hid, cells_made hn (by rw [hzc]; exact hzz) hle⟩⟩
    simp [execOp, Instr.alloc, hzr, newVar, newRow]
  | box e y =>
    simp only [compOp, Option.map_eq_some_iff] at hc
    obtain ⟨n, hn, rfl⟩ := hc
    have hy := hρ y (by simp [Op.operands])
    refine ⟨fun id => .pointer (some ⟨id, 0, none⟩), .cells false e (cellsL (ρA y)), ⟨rfl, fun w => ?_⟩, fun B => rfl⟩
    refine ⟨.pointer (some ⟨w.heap.size, 0, none⟩), w.alloc (.cells (ρC y).cells e), ⟨w.heap.size, 0, n, (ρC y).cells.size⟩, ?_, OneMore.alloc _ _, rfl, fun τ id hle hid => ⟨.ptr 0 hid, cells_made hn (cells_rel hy) hle⟩⟩
    simp [execOp, Instr.box, newVar, newRow]
  | buildSlice t n ps =>
    simp only [compOp] at hc
    split at hc
    case h_2 => cases hc
    rename_i e hu
    simp only [Option.bind_eq_some_iff, Option.map_eq_some_iff] at hc
    obtain ⟨s, hs, qs, hq, z, hz, rfl⟩ := hc
    simp only [evalOp0, Option.map_eq_some_iff] at h
    obtain ⟨r, hr, he⟩ := h
    have hop : ∀ p ∈ ps.toList, VRel σ (ρA p.2) (ρC p.2) := fun p hp => hρ p.2 (by simp only [Op.operands]; exact List.mem_toArray.2 (List.mem_map.2 ⟨p, hp, rfl⟩))
    refine ⟨fun id => .slice (some ⟨id, 0, none⟩) n n, .cells false e r, ⟨rfl, fun w => ?_⟩, fun B => by simp only [evalOp0, hr, Option.map_some]⟩
    simp only [compParts, hu, Option.bind_eq_some_iff] at hq
    obtain ⟨s', hs', hq⟩ := hq
    rw [hs] at hs'
    cases hs'
    obtain ⟨hlen, hget⟩ := parts_get hq
    obtain ⟨za, hza0, hza, hzl⟩ : ∃ za : Array Value, (n * s = 0 → za = #[]) ∧ (n * s ≠ 0 → ∃ zv, (zeroValue e).run P w = .ok zv w ∧ zv.cells = za) ∧ LRel σ z ((Array.range (n * s)).map (za[· % za.size]!)).toList := by
      split at hz
      · rename_i h0
        cases hz
        refine ⟨#[], fun _ => rfl, fun h => absurd h0 h, ?_⟩
        rw [h0]
        simp
        exact .nil
      · rename_i h0
        split at hz
        · cases hz
        rw [Option.map_eq_some_iff] at hz
        obtain ⟨z1, hz1, rfl⟩ := hz
        obtain ⟨zv, zi, hi, _, hzr, hzc, _, hzz, hsz⟩ := run_zero (P := P) (σ := σ) hz1 w
        refine ⟨zv.cells, fun h => absurd h h0, fun _ => ⟨zv, hzr, rfl⟩, ?_⟩
        have hsi : s = zi.size := by simpa [sizeA, hi] using hs.symm
        rw [range_zeros zv n (n * s) (by rw [hsz, hsi]), hzc]
        exact zeros_rel hzz n
    have hlim : ¬ (n * s > 2 ^ 24) := by
      split at hz
      · omega
      · split at hz
        · cases hz
        · omega
    obtain ⟨rc, hrc, hrr⟩ := fill_rel (fun i => some (i * s, s)) ps.toList qs z _ r ρA ρC hlen (fun i p q hp hq' => ⟨(hget i p q hp hq').1, (hget i p q hp hq').2, hop p (List.mem_of_getElem? hp)⟩) hzl hr
    refine ⟨.slice (some ⟨w.heap.size, 0, none⟩) n n, w.alloc (.cells rc e), ⟨w.heap.size, 0, s, rc.size⟩, ?_, OneMore.alloc _ _, rfl, fun τ id hle hid => ⟨.slice 0 n n n hid (.inl rfl), cells_made hs hrr hle⟩⟩
    by_cases h0 : n * s = 0
    · have := hza0 h0
      subst this
      simp only [execOp, Instr.buildSlice, Sem.run_bind, run_underlying hu, Result.andThen_ok, run_size hs, if_neg hlim, if_pos h0, Array.toList_map, hrc, Sem.run_pure, newRow, run_newObj]
      rfl
    · obtain ⟨zv, hzr, hzv⟩ := hza h0
      subst hzv
      simp only [execOp, Instr.buildSlice, Sem.run_bind, run_underlying hu, Result.andThen_ok, run_size hs, if_neg hlim, if_neg h0, hzr, Array.toList_map, hrc, Sem.run_pure, newRow, run_newObj]
      rfl
  | convert s d y =>
    have hx := hρ y (by simp [Op.operands])
    simp only [compOp] at hc
    split at hc
    · cases hc; cases hm
    · cases hc; cases hm
    · rename_i e hs hd
      split at hc
      · rename_i hue
        cases hb : (sizeA P e == some 1) with
        | false => rw [hb] at hc; cases hc
        | true =>
          rw [hb] at hc
          simp only [cond_true, Option.some.injEq] at hc
          subst hc
          have h1 : sizeA P e = some 1 := by simpa using hb
          simp only [evalOp0, Option.map_eq_some_iff] at h
          obtain ⟨l0, hstr, he⟩ := h
          obtain ⟨str, hc2, hcr⟩ := charsOf_rel hx hstr
          have hl := hcr.len
          refine ⟨fun id => .slice (some ⟨id, 0, none⟩) l0.length l0.length, .cells false e l0, ⟨rfl, fun w => ?_⟩, fun B => by simp only [evalOp0, hstr, Option.map_some]⟩
          let cap := (Question.appendCap str.size 0 e).cut (w.tape w.drawn (.appendCap str.size 0 e))
          have hcap : str.size ≤ cap := by simp [cap, Question.cut]
          let cur : Array Value := (str.data.map fun b => Value.int .u8 b.toNat) ++ Array.replicate (cap - str.size) (.int .u8 0)
          have hcs : cur.size = cap := by simp [cur]; omega
          let w1 : World := (w.drew.alloc (.cells cur e)).freeze { block := w.heap.size, off := cur.size } 1
          have hw1 : w1.heap = (w.heap.push (.cells cur e)).modify w.heap.size fun
              | .cells c elem (lo, hi) => .cells c elem (if lo == hi then (cur.size, cur.size + 1) else (min lo cur.size, max hi (cur.size + 1)))
              | o => o := rfl
          have hblk : w1.heap[w.heap.size]? = some (.cells cur e (cur.size, cur.size + 1)) := by
            rw [hw1, Array.getElem?_modify, if_pos rfl, Array.getElem?_push, if_pos rfl]
            rfl
          have hsh : (w.drew.alloc (.cells cur e)).shape? w.heap.size = some (e, cur.size) := by
            have : (w.drew.alloc (.cells cur e)).heap[w.heap.size]? = some (.cells cur e) := heap_alloc_new w.drew _
            unfold World.shape?
            rw [this]
          refine ⟨.slice (some ⟨w.heap.size, 0, none⟩) str.size cap, w1, ⟨w.heap.size, 0, 1, cur.size⟩, ?_, ⟨?_, ?_, rfl, rfl, rfl⟩, rfl, fun τ id hle hid => ⟨?_, ?_⟩⟩
          · have hst : (Conv.stringToBytes e str).run P w = .ok (.slice (some ⟨w.heap.size, 0, none⟩) str.size cap) w1 := by
              have h2 : (newRow e cur).run P w.drew = .ok ⟨w.heap.size, 0, none⟩ (w.drew.alloc (.cells cur e)) := rfl
              have h3 : (markStringish ⟨w.heap.size, 0, none⟩).run P (w.drew.alloc (.cells cur e)) = .ok () w1 := by
                simp only [markStringish, Sem.run_bind, run_shape, Result.andThen_ok, hsh]
                rfl
              have h4 : (choose (.appendCap str.size 0 e)).run P w = .ok cap w.drew := by simp [run_choose, Question.forced, cap]
              simp only [Conv.stringToBytes, Sem.run_bind, h4, Result.andThen_ok]
              have h5 : (str.data.map fun b => Value.int .u8 b.toNat) ++ Array.replicate (cap - str.size) (.int .u8 0) = cur := rfl
              rw [h5, h2]
              simp only [Result.andThen_ok, h3, Sem.run_pure]
            simp only [execOp, Sem.run_bind, convert, run_underlying hs, run_underlying hd, Result.andThen_ok, hc2, run_underlying hue, hst, Sem.run_pure]
          · rw [hw1]; simp
          · intro k hk
            rw [hw1]
            simp only [Array.getElem?_modify]
            rw [if_neg (by omega), Array.getElem?_push, if_neg (by omega)]
          · rw [hl, ← size_eq]
            refine .slice 0 _ _ _ hid ?_
            by_cases hq : str.size = cap
            · exact .inl hq
            · exact .inr ⟨by omega, by simp; omega⟩
          · refine ⟨cur, e, _, hblk, by rw [hl]; simp [cur, bytesOf], fun i a b ha hb => ?_, h1, rfl, fun _ => ⟨fun o ho hh => by simp at hh; omega, rfl, Nat.zero_mod _⟩⟩
            simp only [Nat.zero_add] at hb
            obtain ⟨x, hg, hcx⟩ := hcr.get ha
            have hi : i < str.data.size := by have := (List.getElem?_eq_some_iff.1 hg).1; simpa [bytesOf] using this
            have : cur[i]? = some (.int .u8 x.toNat) := by
              simp only [cur]
              rw [Array.getElem?_append_left (by simpa using hi)]
              simp [bytesOf] at hg
              simp [hg]
            rw [this] at hb
            cases hb
            exact hcx.vrel
      · cases hc
    · split at hc <;> cases hc; cases hm
    · rw [Option.bind_eq_some_iff] at hc; obtain ⟨_, _, hc⟩ := hc; split at hc <;> cases hc; cases hm
    · cases hc
  | makeMap t r =>
    simp only [compOp] at hc
    split at hc
    · rename_i hr
      have hr' : r = none := by simpa using hr
      subst hr'
      cases hc
      refine ⟨fun id => .map (some id), .map [] 0, ⟨rfl, fun w => ?_⟩, fun B => rfl⟩
      exact ⟨.map (some w.heap.size), w.alloc (.map #[] 0), ⟨w.heap.size, 0, 0, 0⟩, by simp [execOp, Instr.makeMap], OneMore.alloc _ _, rfl, fun τ id hle hid => ⟨.map hid, #[], heap_alloc_new w _, rfl, fun i a b h => by simp at h⟩⟩
    · cases hc
  | makeSlice t l c =>
    simp only [compOp] at hc
    split at hc
    case h_2 => cases hc
    rename_i e hu
    simp only [Option.bind_eq_some_iff, Option.map_eq_some_iff] at hc
    obtain ⟨i, hi, z, hz, rfl⟩ := hc
    have hl := hρ l (by simp [Op.operands])
    have hcc := hρ c (by simp [Op.operands])
    simp only [evalOp0] at h
    split at h
    · rename_i kl l0 kc c0 hla hca
      split at h
      · rename_i hb
        obtain ⟨b1, b2, b3, b4⟩ := hb
        rw [hla] at hl
        rw [hca] at hcc
        have hl' := hl.int_inv
        have hc' := hcc.int_inv
        refine ⟨fun id => .slice (some ⟨id, 0, none⟩) l0.toNat c0.toNat, .cells false e (zeros z c0.toNat), ⟨rfl, fun w => ?_⟩, fun B => by simp only [evalOp0, hla, hca]; rw [if_pos ⟨b1, b2, b3, b4⟩]⟩
        obtain ⟨zv, zi, hi', hz', hzr, hzc, _, hzz, hsz⟩ := run_zero (P := P) (σ := σ) hz w
        rw [hi] at hi'
        cases hi'
        have hrun := run_make (P := P) w t e i zv hu hi hz' kl kc l0 c0 b1 b2 (by omega) b4
        refine ⟨.slice (some ⟨w.heap.size, 0, none⟩) l0.toNat c0.toNat, w.alloc (.cells (madeCells zv.cells (c0.toNat * i.size)) e), ⟨w.heap.size, 0, i.size, (madeCells zv.cells (c0.toNat * i.size)).size⟩, ?_, OneMore.alloc _ _, rfl, fun τ id hle hid => ⟨.slice 0 _ _ _ hid (.inl rfl), cells_made (by simp [sizeA, hi]) ?_ hle⟩⟩
        · simp [execOp, hl', hc', hrun]
        · have : (madeCells zv.cells (c0.toNat * i.size)).toList = zeros z c0.toNat := by
            rw [← hzc]
            exact range_zeros zv c0.toNat _ (by rw [hsz])
          rw [this]
          exact zeros_rel hzz _
      · cases h
    · cases h
  | range t y =>
    simp only [compOp] at hc
    split at hc
    · rename_i hu
      cases hc
      have hy := hρ y (by simp [Op.operands])
      simp only [evalOp0, Option.map_eq_some_iff] at h
      obtain ⟨s, hs, he⟩ := h
      obtain ⟨_, h2⟩ := strV_rel hy hs
      refine ⟨fun id => .pointer (some ⟨id, 0, none⟩), .iter s 0, ⟨rfl, fun w => ?_⟩, fun B => by simp only [evalOp0, hs, Option.map_some]⟩
      exact ⟨.pointer (some ⟨w.heap.size, 0, none⟩), w.alloc (.stringIter s 0), ⟨w.heap.size, 0, 0, 0⟩, by simp [execOp, Instr.range, run_underlying hu, h2], OneMore.alloc _ _, rfl, fun τ id hle hid => ⟨.ptr 0 hid, rfl, heap_alloc_new w _⟩⟩
    · cases hc
  | move y => simp only [compOp, Option.some.injEq] at hc; subst hc; cases hm
  | assign y => simp only [compOp, Option.some.injEq] at hc; subst hc; cases hm
  | pick c a b => simp only [compOp, Option.some.injEq] at hc; subst hc; cases hm
  | build t ps =>
    simp only [compOp, Option.bind_eq_some_iff] at hc
    obtain ⟨_, _, hc⟩ := hc
    split at hc <;> first | (cases hc; done) | (rw [Option.map_eq_some_iff] at hc; obtain ⟨_, _, rfl⟩ := hc; cases hm)
  | load t a => simp only [compOp, Option.bind_eq_some_iff, Option.map_eq_some_iff] at hc; obtain ⟨_, _, _, _, rfl⟩ := hc; cases hm
  | nilCheck y => simp only [compOp, Option.some.injEq] at hc; subst hc; cases hm
  | binOp op xt x y yt => simp only [compOp, Option.bind_eq_some_iff] at hc; obtain ⟨_, _, hc⟩ := hc; rcases compBin_kind hc with rfl | ⟨_, _, ⟨_, rfl⟩ | ⟨_, rfl⟩⟩ | ⟨_, _, _, ⟨_, rfl⟩ | ⟨_, rfl⟩⟩ <;> cases hm
  | typeAssert x xt t ok =>
    simp only [compOp] at hc
    cases ok with
    | false => cases hc
    | true =>
      simp only [cond_true, Option.bind_eq_some_iff] at hc
      obtain ⟨z, _, hc⟩ := hc
      cases hb : (cellsL z).all flat1 with
      | false => rw [hb] at hc; cases hc
      | true => rw [hb] at hc; simp only [cond_true, Option.map_eq_some_iff] at hc; obtain ⟨d, _, hc⟩ := hc; split at hc <;> (subst hc; cases hm)
  | unOp op xt x => simp only [compOp, Option.some.injEq] at hc; subst hc; cases hm
  | makeInterface t x => simp only [compOp] at hc; split at hc <;> cases hc; cases hm
  | makeFunc fn first cap => simp only [compOp] at hc; cases hc; cases hm
  | slice t x lo hi mx =>
    simp only [compOp] at hc
    split at hc
    · split at hc <;> cases hc; cases hm
    · cases hb : (mx.isSome && hi.isNone) <;> rw [hb] at hc
      · simp only [cond_false, Option.map_eq_some_iff] at hc; obtain ⟨_, _, rfl⟩ := hc; cases hm
      · cases hc
    · cases hb : (mx.isSome && hi.isNone) <;> rw [hb] at hc
      · simp only [cond_false, Option.map_eq_some_iff] at hc; obtain ⟨_, _, rfl⟩ := hc; cases hm
      · cases hc
    · cases hc
  | fieldAddr s x f =>
    simp only [compOp] at hc
    split at hc
    · simp only [Option.bind_eq_some_iff] at hc
      obtain ⟨_, _, _, _, hc⟩ := hc
      split at hc <;> cases hc; cases hm
    · cases hc
  | field t x f =>
    simp only [compOp] at hc
    split at hc
    · simp only [Option.bind_eq_some_iff, Option.map_eq_some_iff] at hc
      obtain ⟨_, _, _, _, _, _, rfl⟩ := hc; cases hm
    · cases hc
  | indexAddr t x i =>
    simp only [compOp] at hc
    split at hc <;> first | (cases hc; done) | (rw [Option.map_eq_some_iff] at hc; obtain ⟨_, _, rfl⟩ := hc; cases hm)
  | index t x i =>
    simp only [compOp] at hc
    split at hc
    · simp only [Option.bind_eq_some_iff, Option.map_eq_some_iff] at hc
      obtain ⟨_, _, _, _, rfl⟩ := hc; cases hm
    · cases hc; cases hm
    · cases hc
  | lookup t m k ok =>
    simp only [compOp] at hc
    split at hc
    · simp only [Option.bind_eq_some_iff] at hc
      obtain ⟨d, _, z, _, hc⟩ := hc
      cases hb : (cellsL z).all flat1 <;> rw [hb] at hc <;> cases hc; cases hm
    · cases hc
  | extract x i => simp only [compOp, Option.some.injEq] at hc; subst hc; cases hm
  | store t a x => simp only [compOp, Option.map_eq_some_iff] at hc; obtain ⟨_, _, rfl⟩ := hc; cases hm
  | mapUpdate t m k x =>
    simp only [compOp] at hc
    split at hc
    · simp only [Option.map_eq_some_iff] at hc; obtain ⟨d, _, rfl⟩ := hc; cases hm
    · cases hc
  | insert t m k x =>
    simp only [compOp] at hc
    split at hc
    · simp only [Option.map_eq_some_iff] at hc; obtain ⟨d, _, rfl⟩ := hc; cases hm
    · cases hc
  | next x b => simp only [compOp] at hc; cases b <;> cases hc; cases hm
  | call c =>
    obtain ⟨callee, args, argTypes⟩ := c
    simp only [compOp, compCall] at hc
    cases callee with
    | invoke r m => simp only [compCall, Option.some.injEq] at hc; subst hc; cases hm
    | value f =>
      cases f with
      | func f =>
        simp only at hc
        split at hc
        · split at hc
          · cases hc; cases hm
          · split at hc
            · split at hc <;> cases hc; cases hm
            · cases hc
        · cases hc
      | tmp t => simp only [Option.some.injEq] at hc; subst hc; cases hm
      | _ => cases hc
    | builtin b =>
      simp only [compBuiltin] at hc
      cases b with
      | len =>
        simp only at hc
        split at hc
        · split at hc <;> first | (cases hc; cases hm; done) | skip
          · split at hc <;> cases hc; cases hm
          · cases hc
        · cases hc
      | append =>
        simp only at hc
        split at hc
        · split at hc <;> first | (cases hc; done) | (simp only [Option.bind_eq_some_iff, Option.map_eq_some_iff] at hc; obtain ⟨_, _, _, _, rfl⟩ := hc; cases hm)
        · cases hc
      | copy =>
        simp only at hc
        split at hc
        · split at hc <;> first | (cases hc; done) | (simp only [Option.map_eq_some_iff] at hc; obtain ⟨_, _, rfl⟩ := hc; cases hm)
        · cases hc
      | clear =>
        simp only at hc
        split at hc
        · split at hc <;> first | (cases hc; done) | (simp only [Option.map_eq_some_iff] at hc; obtain ⟨_, _, rfl⟩ := hc; cases hm)
        · cases hc
      | delete =>
        simp only at hc
        split at hc
        · split at hc <;> first | (cases hc; done) | (simp only [Option.map_eq_some_iff] at hc; obtain ⟨_, _, rfl⟩ := hc; cases hm)
        · cases hc
      | min => cases hc; cases hm
      | max => cases hc; cases hm
      | _ => cases hc
  | _ => simp [compOp] at hc
end
end Go.Ab
namespace Go.Ab
open Go Go.RowKit
variable [Unk] [Kn] [KnOk]
section
variable {P : Program} {σ : Sg} {A : H} {w : World}

theorem oneCell_rel {v v' : Value} (h : VRel σ v v') (h1 : oneCell v = true) : v'.oneCell' = true := by
  cases h with
  | any v' h hb => cases v' <;> first | rfl | (cases h; done)
  | unk i => have := Unk.one i; cases hv : Unk.val i <;> first | rfl | (rw [hv] at this; cases this)
  | _ => first | rfl | (simp [oneCell] at h1; done)
theorem setCells_heap (b : Nat) (e : TypeId) (fz : Nat × Nat) : ∀ (vs : List Value) (o : Nat) (cur : Array Value) (w : World), w.heap[b]? = some (.cells cur e fz) → o + vs.length ≤ cur.size →
    (∃ cur' : Array Value, (w.setCells b o vs).heap[b]? = some (.cells cur' e fz) ∧ cur'.toList = cur.toList.take o ++ vs ++ cur.toList.drop (o + vs.length)) ∧ (∀ k, k ≠ b → (w.setCells b o vs).heap[k]? = w.heap[k]?) ∧
    (w.setCells b o vs).heap.size = w.heap.size ∧ (w.setCells b o vs).os = w.os ∧ (w.setCells b o vs).tape = w.tape ∧ (w.setCells b o vs).output = w.output := by
  intro vs
  induction vs with
  | nil => intro o cur w h _; exact ⟨⟨cur, h, by simp⟩, fun k _ => rfl, rfl, rfl, rfl, rfl⟩
  | cons v vs ih =>
    intro o cur w h hl
    simp only [List.length_cons] at hl
    have hb : (w.setCell ⟨b, o, none⟩ v).heap[b]? = some (.cells (cur.setIfInBounds o v) e fz) := by
      simp [World.setCell, Array.getElem?_modify, h]
    obtain ⟨⟨cur', h1, h2⟩, h3, h4, h5, h6, h7⟩ := ih (o + 1) (cur.setIfInBounds o v) (w.setCell ⟨b, o, none⟩ v) hb (by simp; omega)
    refine ⟨⟨cur', h1, ?_⟩, fun k hk => (h3 k hk).trans ?_, h4.trans (by simp [World.setCell]), h5, h6, h7⟩
    · rw [h2]
      simp only [Array.toList_setIfInBounds]
      have e1 : (cur.toList.set o v).take (o + 1) = cur.toList.take o ++ [v] := by
        rw [List.take_add_one, List.take_set_of_le (Nat.le_refl _), List.getElem?_set_self (by simp; omega)]
        rfl
      have e2 : (cur.toList.set o v).drop (o + 1 + vs.length) = cur.toList.drop (o + (vs.length + 1)) := by
        rw [List.drop_set_of_lt (by omega)]; congr 1; omega
      rw [e1, e2]
      simp
    · simp [World.setCell, Array.getElem?_modify]
      intro e; exact absurd e.symm hk

/-- Cells are written into a block of one's own. -/
theorem store_rel (hr : Rel P σ A w) {id off : Nat} {p : Pl} {vs vs' : List Value} {A' : H} (hs : σ id = some p) (h : storeA A ⟨id, off, none⟩ vs = some A') (hv : LRel σ vs vs') :
    ∃ w', (storeCells ⟨p.b, p.sh + off, none⟩ vs').run P w = .ok () w' ∧ Rel P σ A' w' ∧ Fr σ A w σ A' w' := by
  unfold storeA at h
  simp only at h
  cases hg : A.get id with
  | none => simp [hg] at h
  | some o =>
    cases o with
    | cells ro e c =>
      cases ro with
      | true => simp [hg] at h
      | false =>
        simp only [hg] at h
        cases hone : vs.all oneCell with
        | false => rw [hone] at h; cases h
        | true =>
          rw [hone] at h
          simp only [cond_true, Option.map_eq_some_iff] at h
          obtain ⟨c', hc', rfl⟩ := h
          obtain ⟨cur, e', fz, h1, h2, h3, h4, h5, h6⟩ := hr.obj id _ p hg hs
          have hun := (h6 rfl).1
          have hee := (h6 rfl).2
          unfold over at hc'
          cases hb : Nat.ble (off + vs.length) c.length with
          | false => rw [hb] at hc'; cases hc'
          | true =>
            rw [hb] at hc'
            cases hc'
            have hle := Nat.le_of_ble_eq_true hb
            have hlen := hv.len
            have hrun := run_storeCells_cells (P := P) p.b (p.sh + off) vs' 0 w
              (fun j hj => by
                have : p.sh + off + j < cur.size := by omega
                simp [World.cell?, h1, this])
              (fun j hj => by
                have : p.sh + off + j < cur.size := by omega
                have := hun _ this
                simp only [World.frozen?, h1, Nat.add_zero]
                simpa using this)
              (fun v hv' => by
                obtain ⟨i, hi, rfl⟩ := List.mem_iff_getElem.1 hv'
                have hi' : i < vs.length := by omega
                exact oneCell_rel (hv.get i _ _ (List.getElem?_eq_getElem hi') (List.getElem?_eq_getElem hi)) (by rw [List.all_eq_true] at hone; exact hone _ (List.getElem_mem hi')))
            obtain ⟨⟨cur', k1, k2⟩, k3, k4, k5, k6, k7⟩ := setCells_heap p.b e' fz vs' (p.sh + off) cur w h1 (by omega)
            have hsz : cur'.size = cur.size := by
              have := congrArg List.length k2
              simp at this
              omega
            refine ⟨w.setCells p.b (p.sh + off) vs', by simpa using hrun, Rel.change hr hg hs rfl rfl k4 k3 ?_, Fr.change hr hg hs rfl k4 k3 k5 k6 k7⟩
            refine ⟨cur', e', fz, k1, by simp [hsz]; omega, fun i v v' ha hb' => ?_, h4, by rw [hsz]; exact h5, fun _ => ⟨by rw [hsz]; exact hun, hee.1, hee.2⟩⟩
            rw [← Array.getElem?_toList, k2] at hb'
            by_cases c1 : i < off
            · rw [List.append_assoc, List.getElem?_append_left (by simp; omega), List.getElem?_take, if_pos c1] at ha
              rw [List.append_assoc, List.getElem?_append_left (by simp; omega), List.getElem?_take, if_pos (by omega), Array.getElem?_toList] at hb'
              exact h3 i v v' ha hb'
            · by_cases c2 : i < off + vs.length
              · rw [List.append_assoc, List.getElem?_append_right (by simp; omega), List.getElem?_append_left (by simp; omega)] at ha
                rw [List.append_assoc, List.getElem?_append_right (by simp; omega), List.getElem?_append_left (by simp; omega)] at hb'
                refine hv.get _ v v' ha ?_
                rw [← hb']
                congr 1
                simp
                omega
              · rw [List.getElem?_append_right (by simp; omega), List.getElem?_drop] at ha
                rw [List.getElem?_append_right (by simp; omega), List.getElem?_drop, Array.getElem?_toList] at hb'
                have q1 : off + vs.length + (i - (c.take off ++ vs).length) = i := by simp; omega
                have q2 : p.sh + off + vs'.length + (p.sh + i - (cur.toList.take (p.sh + off) ++ vs').length) = p.sh + i := by simp; omega
                rw [q1] at ha
                rw [q2] at hb'
                exact h3 i v v' ha hb'
    | map es c => simp [hg] at h
    | iter s q => simp [hg] at h

/-- What is appended or copied. -/
theorem source_rel (hr : Rel P σ A w) {size n k : Nat} {x x' : Value} {new : List Value} (hx : VRel σ x x') (hn : lenV x = some n) (hk : k ≤ n) (h : sourceA A size k x = some new) :
    (Builtin.lenOf x').run P w = .ok n w ∧ new.length = k * size ∧ ∃ new', LRel σ new new' ∧ ∀ w1 : World, (∀ a, w1.cell? a = w.cell? a) → (Builtin.firstCells size k x').run P w1 = .ok new'.toArray w1 := by
  cases hx with
  | string s =>
    simp only [lenV, Option.some.injEq] at hn
    simp only [sourceA] at h
    subst hn
    cases hb : (Nat.beq size 1 && Nat.ble k (bytesOf s).length) with
    | false => rw [hb] at h; cases h
    | true =>
    rw [hb] at h
    cases h
    rw [Bool.and_eq_true] at hb
    have h1 := Nat.eq_of_beq_eq_true hb.1
    refine ⟨by simp [Builtin.lenOf, size_eq], by rw [h1]; simp; omega, ((bytesOf s).take k).map byteV, LRel.map _ _ _ fun x _ => .int _ _, fun w1 _ => ?_⟩
    simp only [Builtin.firstCells, Sem.run_pure]
    congr 1
    apply Array.ext'
    simp [bytesOf, byteV, ByteArray.data_extract, List.extract_eq_take_drop]
    rfl
  | rope l m s hs =>
    simp only [lenV, Option.some.injEq] at hn
    simp only [sourceA] at h
    subst hn
    cases hb : (Nat.beq size 1 && Nat.ble k l) with
    | false => rw [hb] at h; cases h
    | true =>
    rw [hb] at h
    cases h
    rw [Bool.and_eq_true] at hb
    have h1 := Nat.eq_of_beq_eq_true hb.1
    have hl := hs.len
    rw [decR_len] at hl
    refine ⟨by simp [Builtin.lenOf, size_eq, hl], by rw [h1]; simp [decR_len]; omega, ((bytesOf s).take k).map byteV, (hs.take k).lrel, fun w1 _ => ?_⟩
    simp only [Builtin.firstCells, Sem.run_pure]
    congr 1
    apply Array.ext'
    simp [bytesOf, byteV, ByteArray.data_extract, List.extract_eq_take_drop]
    rfl
  | sliceNil l c =>
    simp only [lenV, Option.some.injEq] at hn
    simp only [sourceA] at h
    subst hn
    cases hb : Nat.beq k 0 with
    | false => rw [hb] at h; cases h
    | true =>
    rw [hb] at h
    cases h
    have := Nat.eq_of_beq_eq_true hb
    exact ⟨by simp [Builtin.lenOf], by simp [this], [], .nil, fun w1 _ => by simp [Builtin.firstCells]⟩
  | @slice id p off l c c' hs hcc =>
    simp only [lenV, Option.some.injEq] at hn
    simp only [sourceA] at h
    subst hn
    obtain ⟨l', h1, h2, h3⟩ := load_rel hr hs h
    refine ⟨by simp [Builtin.lenOf], by rw [h1.len, h2], l', h1, fun w1 hw1 => ?_⟩
    simp only [Builtin.firstCells]
    exact run_loadCells_of h2 fun j v' hj => by rw [hw1]; exact h3 j v' hj
  | sliceEnd off b o hs =>
    simp only [lenV, Option.some.injEq] at hn
    subst hn
    have : k = 0 := by omega
    subst this
    simp only [sourceA, Nat.zero_mul] at h
    obtain ⟨l', h1, h2, h3⟩ := load_rel hr hs h
    have : l' = [] := List.eq_nil_of_length_eq_zero h2
    subst this
    exact ⟨by simp [Builtin.lenOf], by rw [h1.len]; simp, [], h1, fun w1 _ => by simp [Builtin.firstCells, loadCells, loadCellsFrom]⟩
  | _ => simp [lenV] at hn

/-- A block's cells, and others behind them, stand somewhere: the old block is given up. -/
theorem Rel.move {w' : World} {id : Nat} {o : AObj} {p : Pl} {e : TypeId} {c : List Value} (h : Rel P σ A w) (ha : A.get id = some o) (hs : σ id = some p) (hown : o.own = true) {q : Pl} (hq : q.b = p.b)
    (hw : w'.heap.size = w.heap.size) (hold : ∀ k, k ≠ p.b → w'.heap[k]? = w.heap[k]?) (ho : ORel P (σ.add A.next q) w' q (.cells false e c)) : Rel P (σ.add A.next q) ((A.drop id).push (.cells false e c)) w' := by
  have hn := (h.dom A.next (Nat.le_refl _)).2
  have hl := Sg.le_add q hn
  refine ⟨fun g hg => ?_, fun i x r hx hr => ?_, fun i j r s x y hij hx hy hr hs' hox => ?_, fun i r hr => ?_, fun i hi => ?_⟩
  · obtain ⟨r, h1, h2⟩ := h.glob g hg
    exact ⟨r, hl _ _ h1, h2⟩
  · rw [H.get_push, H.next_drop] at hx
    by_cases e1 : i = A.next
    · subst e1
      rw [if_pos rfl] at hx
      rw [Sg.add_same] at hr
      cases hx; cases hr
      exact ho
    · rw [if_neg e1, H.get_drop] at hx
      rw [Sg.add_other q e1] at hr
      by_cases e2 : i = id
      · rw [if_pos e2] at hx; cases hx
      · rw [if_neg e2] at hx
        exact (h.obj i x r hx hr).keep hl (hold _ fun e3 => h.inj id i p r o x (fun e4 => e2 e4.symm) ha hx hs hr hown e3.symm)
  · rw [H.get_push, H.next_drop] at hx hy
    by_cases e1 : i = A.next
    · subst e1
      have e2 : j ≠ A.next := fun e2 => hij e2.symm
      rw [if_neg e2, H.get_drop] at hy
      rw [Sg.add_same] at hr
      rw [Sg.add_other q e2] at hs'
      cases hr
      by_cases e3 : j = id
      · rw [if_pos e3] at hy; cases hy
      · rw [if_neg e3] at hy
        rw [hq]
        exact h.inj id j p s o y (fun e4 => e3 e4.symm) ha hy hs hs' hown
    · rw [if_neg e1, H.get_drop] at hx
      rw [Sg.add_other q e1] at hr
      by_cases e2 : i = id
      · rw [if_pos e2] at hx; cases hx
      · rw [if_neg e2] at hx
        by_cases e3 : j = A.next
        · subst e3
          rw [Sg.add_same] at hs'
          cases hs'
          rw [hq]
          exact h.inj i id r p x o e2 hx ha hr hs hox
        · rw [if_neg e3, H.get_drop] at hy
          rw [Sg.add_other q e3] at hs'
          by_cases e4 : j = id
          · rw [if_pos e4] at hy; cases hy
          · rw [if_neg e4] at hy
            exact h.inj i j r s x y hij hx hy hr hs' hox
  · rw [hw]
    by_cases e1 : i = A.next
    · subst e1; rw [Sg.add_same] at hr; cases hr; rw [hq]; exact h.lt id p hs
    · rw [Sg.add_other q e1] at hr; exact h.lt i r hr
  · rw [H.next_push, H.next_drop] at hi
    have := h.dom i (by omega)
    rw [H.get_push, H.next_drop, if_neg (by omega), H.get_drop, Sg.add_other q (by omega)]
    by_cases e2 : i = id
    · rw [if_pos e2]; exact ⟨rfl, this.2⟩
    · rw [if_neg e2]; exact this
theorem Fr.move {w' : World} {id : Nat} {o : AObj} {p : Pl} {e : TypeId} {c : List Value} (h : Rel P σ A w) (ha : A.get id = some o) (hs : σ id = some p) (hown : o.own = true) {q : Pl} (hq : q.b = p.b)
    (hw : w'.heap.size = w.heap.size) (hold : ∀ k, k ≠ p.b → w'.heap[k]? = w.heap[k]?) (h1 : w'.os = w.os) (h2 : w'.tape = w.tape) (h3 : w'.output = w.output) : Fr σ A w (σ.add A.next q) ((A.drop id).push (.cells false e c)) w' := by
  have hn := (h.dom A.next (Nat.le_refl _)).2
  refine ⟨Sg.le_add q hn, h1, h2, h3, by omega, fun b _ hb => hold b (fun e1 => hb ⟨id, p, o, hs, e1.symm, ha, hown⟩), fun b hb => ?_, by rw [H.next_push, H.next_drop]; omega, fun i hi hs' => ?_⟩
  · obtain ⟨i, r, x, hr, hrb, hg, hx⟩ := hb
    rw [H.get_push, H.next_drop] at hg
    by_cases e1 : i = A.next
    · subst e1
      rw [Sg.add_same] at hr
      cases hr
      exact .inl ⟨id, p, o, hs, by rw [← hrb, hq], ha, hown⟩
    · rw [if_neg e1, H.get_drop] at hg
      rw [Sg.add_other q e1] at hr
      by_cases e2 : i = id
      · rw [if_pos e2] at hg; cases hg
      · rw [if_neg e2] at hg; exact .inl ⟨i, r, x, hr, hrb, hg, hx⟩
  · rw [Sg.add_other q (by omega), H.get_push, H.next_drop, if_neg (by omega), H.get_drop, if_neg (by intro e2; subst e2; rw [hs] at hs'; cases hs')]
    exact ⟨hs', rfl⟩
theorem Fr.push_drop {σ' : Sg} {A' : H} {w' : World} {id : Nat} {p : Pl} (hs : σ id = some p) (h : Fr σ (A.drop id) w σ' A' w') : Fr σ A w σ' A' w' := by
  refine ⟨h.ext, h.os, h.tape, h.output, h.size, fun b hb hn => h.frame b hb (fun ⟨i, r, x, hr, hrb, hg, hx⟩ => hn ?_), fun b hb => ?_, h.next, fun i hi hs' => ?_⟩
  · rw [H.get_drop] at hg
    split at hg
    · cases hg
    · exact ⟨i, r, x, hr, hrb, hg, hx⟩
  · rcases h.owned b hb with ⟨i, r, x, hr, hrb, hg, hx⟩ | h1
    · rw [H.get_drop] at hg
      split at hg
      · cases hg
      · exact .inl ⟨i, r, x, hr, hrb, hg, hx⟩
    · exact .inr h1
  · obtain ⟨h1, h2⟩ := h.unm i hi hs'
    refine ⟨h1, ?_⟩
    rw [h2, H.get_drop, if_neg (by intro e; subst e; rw [hs] at hs'; cases hs')]

/-- What a heavy operation comes to. -/
structure Does (P : Program) (σ : Sg) (A : H) (w : World) (s : Sem Next) (v : Value) (A' : H) : Prop where
  out : ∃ n v' w' σ', s.run P w = .ok n w' ∧ (n = .value v' ∨ (n = .skip ∧ v' = undef)) ∧ VRel σ' v v' ∧ Rel P σ' A' w' ∧ Fr σ A w σ' A' w'

/-- A slice grows into new memory. -/
theorem grown_rel (hr : Rel P σ A w) {e : TypeId} {i : TypeInfo} {z : Value} (hi : P.info? e = some i) (hz : i.zero = some z) {old new old' new' : List Value} (ho : LRel σ old old') (hn : LRel σ new new') (need cap : Nat) (hcap : need ≤ cap)
    (hl : (old ++ new).length = need * i.size) (hzs : z.cells.size = i.size) : ∃ q : Pl, q.b = w.heap.size ∧
    Rel P (σ.add A.next q) (A.push (.cells false e (old ++ new))) (w.drew.alloc (.cells (old'.toArray ++ new'.toArray ++ Builtin.zeroCells z.cells (cap - need)) e)) ∧
    Fr σ A w (σ.add A.next q) (A.push (.cells false e (old ++ new))) (w.drew.alloc (.cells (old'.toArray ++ new'.toArray ++ Builtin.zeroCells z.cells (cap - need)) e)) ∧
    VRel (σ.add A.next q) (.slice (some ⟨A.next, 0, none⟩) need need) (.slice (some ⟨w.heap.size, 0, none⟩) need cap) := by
  have hlen := (ho.append hn).len
  have hcs : (old'.toArray ++ new'.toArray ++ Builtin.zeroCells z.cells (cap - need)).size = cap * i.size := by
    simp only [List.length_append] at hl hlen
    simp only [Array.size_append, List.size_toArray, size_zeroCells, hzs]
    have : cap * i.size = need * i.size + (cap - need) * i.size := by rw [← Nat.add_mul]; congr 1; omega
    omega
  refine ⟨⟨w.heap.size, 0, i.size, cap * i.size⟩, rfl, Rel.place hr.drew (by simp) (fun k hk => Below.heap_alloc w.drew _ k hk) rfl ?_ rfl, Fr.of_drew (Fr.place hr.drew (by simp) (fun k hk => Below.heap_alloc w.drew _ k hk) rfl rfl rfl rfl), ?_⟩
  · refine ⟨_, e, (0, 0), heap_alloc_new w.drew _, ?_, fun j v v' ha hb => ?_, by simp [hi], hcs.symm, fun _ => ⟨fun o _ h => by simp at h, rfl, Nat.zero_mod _⟩⟩
    · rw [hcs, hl]; simp; exact Nat.mul_le_mul_right _ hcap
    · have hj : j < (old ++ new).length := (List.getElem?_eq_some_iff.1 ha).1
      refine ((ho.append hn).get j v v' ha ?_).mono (Sg.le_add _ ((hr.dom _ (Nat.le_refl _)).2))
      rw [← hb]
      simp only [Nat.zero_add]
      have ht : (old'.toArray ++ new'.toArray ++ Builtin.zeroCells z.cells (cap - need)).toList = (old' ++ new') ++ (Builtin.zeroCells z.cells (cap - need)).toList := by simp
      rw [← Array.getElem?_toList, ht]
      exact (List.getElem?_append_left (by omega)).symm
  · have := @VRel.slice _ (σ.add A.next ⟨w.heap.size, 0, i.size, cap * i.size⟩) A.next ⟨w.heap.size, 0, i.size, cap * i.size⟩ 0 need need cap (Sg.add_same _ _ _) (by
      by_cases hc : need = cap
      · exact .inl hc
      · exact .inr ⟨by omega, by simp⟩)
    simpa using this

theorem elem_info {e : TypeId} {n : Nat} (h : (P.info? e).map (·.size) = some n) : ∃ i, P.info? e = some i ∧ i.size = n := by
  cases hi : P.info? e with
  | none => simp [hi] at h
  | some i => simp [hi] at h; exact ⟨i, rfl, h⟩

theorem run_grows {t u ty e : TypeId} {i : TypeInfo} {z : Value} (ht : P.underlying t = some (.slice e)) (hu : (∃ e', P.underlying u = some (.slice e')) ∨ P.underlying u = some .string) (hi : P.info? e = some i) (hz : i.zero = some z)
    {base : Option Addr} {sLen c n : Nat} {x : Value} {old new : List Value} (hlen : ∀ w : World, (Builtin.lenOf x).run P w = .ok n w) (ho : (Builtin.firstCells i.size sLen (.slice base sLen c)).run P w.drew = .ok old.toArray w.drew)
    (hn : (Builtin.firstCells i.size n x).run P w.drew = .ok new.toArray w.drew) (hg : c < sLen + n) (h63 : sLen + n ≤ 9223372036854775807) (hb : (sLen + n) * i.bytes ≤ 140737488355328) :
    (Builtin.append_ #[t, u] ty #[.slice base sLen c, x]).run P w = .ok (.slice (some ⟨w.heap.size, 0, none⟩) (sLen + n) (grownCap w (sLen + n) c e))
      (w.drew.alloc (.cells (old.toArray ++ new.toArray ++ Builtin.zeroCells z.cells (grownCap w (sLen + n) c e - (sLen + n))) e)) := by
  have h1 : ¬ (sLen + n ≤ c) := by omega
  have h2 : ¬ (9223372036854775807 < ((sLen : Int) + (n : Int))) := by omega
  have h3 : ¬ (281474976710656 < Builtin.nextslicecap (sLen + n) c * i.bytes) := by have := growslice_fits (old := c) hg hb; omega
  rcases hu with ⟨e', hu⟩ | hu
  all_goals
    simp [Builtin.append_, run_underlying ht, run_underlying hu, sizeOf, typeInfo, zeroValue, hi, hz, hlen, h1, h2, h3, Question.forced, ho, hn, newRow, grownCap]
    congr 2
    apply Array.ext'
    simp [List.append_assoc]
theorem run_inplace {t u ty e : TypeId} {i : TypeInfo} (ht : P.underlying t = some (.slice e)) (hu : (∃ e', P.underlying u = some (.slice e')) ∨ P.underlying u = some .string) (hi : P.info? e = some i)
    {base : Option Addr} {sLen c n : Nat} {x : Value} {new : List Value} {w' : World} (hlen : (Builtin.lenOf x).run P w = .ok n w) (hn : (Builtin.firstCells i.size n x).run P w = .ok new.toArray w) (hg : sLen + n ≤ c)
    (hst : (∀ a, base = some a → (storeCells (a.add (sLen * i.size)) new).run P w = .ok () w') ∧ (base = none → w' = w)) :
    (Builtin.append_ #[t, u] ty #[.slice base sLen c, x]).run P w = .ok (.slice base (sLen + n) c) w' := by
  rcases hu with ⟨e', hu⟩ | hu
  all_goals
    cases base with
    | none =>
      have := hst.2 rfl
      subst this
      simp [Builtin.append_, run_underlying ht, run_underlying hu, sizeOf, typeInfo, hi, hlen, hg, hn]
    | some a =>
      have := hst.1 a rfl
      simp [Builtin.append_, run_underlying ht, run_underlying hu, sizeOf, typeInfo, hi, hlen, hg, hn, this]

theorem append_rel (hr : Rel P σ A w) {t u ty e : TypeId} {i : TypeInfo} {z : List Value} (ht : P.underlying t = some (.slice e)) (hu : (∃ e', P.underlying u = some (.slice e')) ∨ P.underlying u = some .string) (hi : P.info? e = some i)
    (hz : zeroA P e = some z) {s s' x x' v : Value} {A' : H} (hs : VRel σ s s') (hx : VRel σ x x') (h : appendA A e i.size i.bytes s x = some (v, A')) :
    ∃ v' w' σ', (Builtin.append_ #[t, u] ty #[s', x']).run P w = .ok v' w' ∧ VRel σ' v v' ∧ Rel P σ' A' w' ∧ Fr σ A w σ' A' w' := by
  obtain ⟨zv, zi, hi', hz', hzr, hzc, _, hzz, hzsz⟩ := run_zero (P := P) (σ := σ) hz w
  rw [hi] at hi'
  cases hi'
  have hsz : sizeA P e = some i.size := by simp [sizeA, hi]
  have hzeros : ∀ w1 : World, ((do pure ((← underlying u) matches .int _) : Sem Bool)).run P w1 = .ok false w1 := by
    intro w1
    rcases hu with ⟨e', hu⟩ | hu <;> simp [run_underlying hu]
  unfold appendA at h
  split at h
  case h_2 => cases h
  rename_i base sLen sCap
  simp only [Option.bind_eq_some_iff] at h
  obtain ⟨n, hn, new, hnew, h⟩ := h
  obtain ⟨hlen, hnewl, new', hnr, hfirst⟩ := source_rel (P := P) hr hx hn (Nat.le_refl n) hnew
  have hlenw : ∀ w1 : World, (Builtin.lenOf x').run P w1 = .ok n w1 := by
    intro w1
    cases hx <;> simp only [lenV, Option.some.injEq] at hn <;> (try (cases hn; done)) <;> subst hn <;> first | (simp [Builtin.lenOf, size_eq]; done) | (rename_i hs; have hl := hs.len; rw [decR_len] at hl; simp [Builtin.lenOf, size_eq, hl])
  cases hle : Nat.ble (sLen + n) sCap with
  | true =>
    have hle' := Nat.le_of_ble_eq_true hle
    rw [hle] at h
    simp only [cond_true] at h
    cases hs with
    | sliceNil =>
      simp only [Option.some.injEq, Prod.mk.injEq] at h
      obtain ⟨rfl, rfl⟩ := h
      exact ⟨_, w, σ, run_inplace ht hu hi hlen (hfirst w fun _ => rfl) hle' ⟨(fun a ha => by cases ha), fun _ => rfl⟩, .sliceNil _ _, hr, Fr.refl _ _ _⟩
    | @slice id p off _ _ c' hs' hcc =>
      simp only [Option.map_eq_some_iff] at h
      obtain ⟨A1, hA1, he⟩ := h
      cases he
      rw [Addr.add_none] at hA1
      obtain ⟨w', h1, h2, h3⟩ := store_rel (P := P) hr hs' hA1 hnr
      have hcc' : sCap ≤ c' := by rcases hcc with h | ⟨h, _⟩ <;> omega
      refine ⟨_, w', σ, run_inplace ht hu hi hlen (hfirst w fun _ => rfl) (by omega) ⟨fun a ha => ?_, fun ha => by cases ha⟩, .slice off _ _ _ hs' hcc, h2, h3⟩
      cases ha
      rw [Addr.add_none, Nat.add_assoc]
      exact h1
    | @sliceEnd id p off b o hs' =>
      simp only [Option.map_eq_some_iff] at h
      obtain ⟨A1, hA1, he⟩ := h
      cases he
      have hn0 : n = 0 := by omega
      subst hn0
      rw [Addr.add_none] at hA1
      obtain ⟨w', h1, h2, h3⟩ := store_rel (P := P) hr hs' hA1 hnr
      have hnl : new.length = 0 := by rw [hnewl]; simp
      have hw : w' = w := by
        have : new' = [] := List.eq_nil_of_length_eq_zero (by rw [← hnr.len]; exact hnl)
        subst this
        simp [storeCells] at h1
        exact h1.symm
      subst hw
      refine ⟨_, w', σ, run_inplace (w' := w') ht hu hi hlen (hfirst w' fun _ => rfl) (by omega) ⟨fun a ha => ?_, fun ha => by cases ha⟩, .sliceEnd off b o hs', h2, h3⟩
      have : new' = [] := List.eq_nil_of_length_eq_zero (by rw [← hnr.len]; exact hnl)
      subst this
      rfl
  | false =>
    have hgt : sCap < sLen + n := by
      rcases Nat.lt_or_ge sCap (sLen + n) with h1 | h1
      · exact h1
      · rw [Nat.ble_eq_true_of_le h1] at hle; cases hle
    rw [hle] at h
    simp only [cond_false] at h
    cases hb : (Nat.ble ((sLen + n) * i.bytes) 140737488355328 && Nat.ble (sLen + n) 9223372036854775807 && new.all oneCell) with
    | false => rw [hb] at h; cases h
    | true =>
      rw [hb] at h
      simp only [cond_true] at h
      rw [Bool.and_eq_true, Bool.and_eq_true] at hb
      obtain ⟨⟨hb1, hb2⟩, hone⟩ := hb
      have hb1 := Nat.le_of_ble_eq_true hb1
      have hb2 := Nat.le_of_ble_eq_true hb2
      cases hs with
      | sliceNil =>
        simp only at h
        cases hb3 : (Nat.beq sLen 0 && Nat.beq sCap 0) with
        | false => rw [hb3] at h; cases h
        | true =>
          rw [hb3] at h
          simp only [cond_true, Option.some.injEq, Prod.mk.injEq] at h
          obtain ⟨rfl, rfl⟩ := h
          rw [Bool.and_eq_true] at hb3
          have e1 := Nat.eq_of_beq_eq_true hb3.1
          have e2 := Nat.eq_of_beq_eq_true hb3.2
          subst e1; subst e2
          obtain ⟨q, _, k1, k2, k3⟩ := grown_rel hr hi hz' (LRel.nil) hnr (0 + n) (grownCap w (0 + n) 0 e) (grownCap_ge _ _ _ _) (by simp [hnewl]) hzsz
          have hrun := run_grows (P := P) (w := w) (ty := ty) (base := none) (old := []) ht hu hi hz' hlenw (by simp [Builtin.firstCells]) (hfirst w.drew fun _ => rfl) hgt (by omega) hb1
          simp only [Nat.zero_add, List.nil_append] at k1 k2 k3 hrun
          exact ⟨_, _, _, hrun, k3, k1, k2⟩
      | @slice id p off _ _ c' hs' hcc =>
        simp only at h
        cases hg : A.get id with
        | none => simp [hg] at h
        | some o =>
          cases o with
          | cells ro e0 c0 =>
            cases ro with
            | true => simp [hg] at h
            | false =>
              simp only [hg] at h
              cases hbe : (Nat.beq e0 e && Nat.beq (off % i.size) 0) with
              | false => rw [hbe] at h; cases h
              | true =>
                have hbe2 := hbe
                rw [Bool.and_eq_true] at hbe2
                have hee := Nat.eq_of_beq_eq_true hbe2.1
                have hof := Nat.eq_of_beq_eq_true hbe2.2
                subst hee
                rw [hbe] at h
                simp only [cond_true, Option.map_eq_some_iff] at h
                obtain ⟨old, hold, he⟩ := h
                cases he
                obtain ⟨old', k1, k2, k3⟩ := load_rel hr hs' hold
                have hol : old.length = sLen * i.size := by rw [k1.len, k2]
                obtain ⟨cur, e', fz, q1, q2, q3, q4, q5, q6⟩ := hr.obj id _ p hg hs'
                have hesz : p.esz = i.size := by rw [hi] at q4; simpa using q4.symm
                by_cases hroom : sLen + n ≤ c'
                · -- there is room that the interpreter does not know of
                  have hh : p.sh + off + c' * p.esz ≤ p.tot := by rcases hcc with h1 | ⟨_, h1⟩ <;> omega
                  have hun := (q6 rfl).1
                  have hee := (q6 rfl).2
                  have hnl : new'.length = n * i.size := by rw [← hnr.len, hnewl]
                  have hbnd : p.sh + off + sLen * i.size + new'.length ≤ cur.size := by
                    rw [hnl, ← q5]
                    have : sLen * i.size + n * i.size = (sLen + n) * i.size := by rw [Nat.add_mul]
                    have h2 : (sLen + n) * i.size ≤ c' * i.size := Nat.mul_le_mul_right _ hroom
                    rw [hesz] at hh
                    omega
                  have hrun := run_storeCells_cells (P := P) p.b (p.sh + off + sLen * i.size) new' 0 w
                    (fun j hj => by
                      have : p.sh + off + sLen * i.size + j < cur.size := by omega
                      simp [World.cell?, q1, this])
                    (fun j hj => by
                      have h1 : p.sh + off + sLen * i.size + j < cur.size := by omega
                      have := hun _ h1
                      simp only [World.frozen?, q1, Nat.add_zero]
                      simpa using this)
                    (fun v hv' => by
                      obtain ⟨j, hj, rfl⟩ := List.mem_iff_getElem.1 hv'
                      have hj' : j < new.length := by rw [hnr.len]; exact hj
                      exact oneCell_rel (hnr.get j _ _ (List.getElem?_eq_getElem hj') (List.getElem?_eq_getElem hj)) (by rw [List.all_eq_true] at hone; exact hone _ (List.getElem_mem hj')))
                  obtain ⟨⟨cur', m1, m2⟩, m3, m4, m5, m6, m7⟩ := setCells_heap p.b e' fz new' (p.sh + off + sLen * i.size) cur w q1 hbnd
                  have hcs : cur'.size = cur.size := by
                    have := congrArg List.length m2
                    simp at this
                    omega
                  let q : Pl := ⟨p.b, p.sh + off, p.esz, p.tot⟩
                  refine ⟨.slice (some ⟨p.b, p.sh + off, none⟩) (sLen + n) c', w.setCells p.b (p.sh + off + sLen * i.size) new', σ.add A.next q, run_inplace ht hu hi hlen (hfirst w fun _ => rfl) hroom ⟨fun a ha => ?_, fun ha => by cases ha⟩, ?_, Rel.move hr hg hs' rfl rfl m4 m3 ?_, Fr.move hr hg hs' rfl rfl m4 m3 m5 m6 m7⟩
                  · cases ha
                    rw [Addr.add_none]
                    simpa using hrun
                  · have := @VRel.slice _ (σ.add A.next q) A.next q 0 (sLen + n) (sLen + n) c' (Sg.add_same _ _ _) (by
                      by_cases hq : sLen + n = c'
                      · exact .inl hq
                      · exact .inr ⟨by omega, by simpa [q] using hh⟩)
                    simpa [q] using this
                  · refine ⟨cur', e', fz, m1, ?_, fun j v v' ha hb' => ?_, by simpa [q] using q4, by rw [hcs]; exact q5, fun _ => ⟨by rw [hcs]; exact hun, hee.1, by have h0 := hee.2; simp only [q]; rw [hesz] at h0 ⊢; rw [Nat.add_mod, h0, hof]; simp⟩⟩
                    · rw [List.length_append, hol, hnewl, hcs]
                      simp only [q]
                      omega
                    · simp only [q] at hb'
                      rw [← Array.getElem?_toList, m2] at hb'
                      have hl := Sg.le_add (σ := σ) q ((hr.dom _ (Nat.le_refl _)).2)
                      refine VRel.mono hl ?_
                      by_cases c1 : j < old.length
                      · rw [List.getElem?_append_left c1] at ha
                        rw [List.append_assoc, List.getElem?_append_left (by simp; omega), List.getElem?_take, if_pos (by omega), Array.getElem?_toList] at hb'
                        have hj' : j < old'.length := by rw [← k1.len]; exact c1
                        have := k3 j _ (List.getElem?_eq_getElem hj')
                        rw [Addr.add_none] at this
                        simp only [World.cell?, q1, Option.isSome_none, Bool.false_eq_true, if_false] at this
                        rw [this] at hb'
                        cases hb'
                        exact k1.get j _ _ ha (List.getElem?_eq_getElem hj')
                      · rw [List.getElem?_append_right (by omega)] at ha
                        have hjn : j - old.length < new.length := (List.getElem?_eq_some_iff.1 ha).1
                        rw [List.append_assoc, List.getElem?_append_right (by simp; omega), List.getElem?_append_left (by simp; rw [← hnr.len]; omega)] at hb'
                        refine hnr.get _ _ _ ha ?_
                        rw [← hb']
                        congr 1
                        simp
                        omega
                · -- it grows
                  obtain ⟨q, _, g1, g2, g3⟩ := grown_rel (A := A.drop id) (hr.drop id) hi hz' k1 hnr (sLen + n) (grownCap w (sLen + n) c' e0) (grownCap_ge _ _ _ _) (by rw [List.length_append, hol, hnewl, Nat.add_mul]) hzsz
                  have hrun := run_grows (P := P) (w := w) (ty := ty) (base := some ⟨p.b, p.sh + off, none⟩) (c := c') ht hu hi hz' hlenw (by
                    simp only [Builtin.firstCells]
                    exact run_loadCells_of (w := w.drew) k2 fun j v' hj => k3 j v' hj) (hfirst w.drew fun _ => rfl) (by omega) (by omega) hb1
                  exact ⟨_, _, _, hrun, g3, g1, Fr.push_drop hs' g2⟩
          | _ => simp [hg] at h
      | @sliceEnd id p off b o hs' =>
        simp only at h
        cases hg : A.get id with
        | none => simp [hg] at h
        | some ob =>
          cases ob with
          | cells ro e0 c0 =>
            cases ro with
            | true => simp [hg] at h
            | false =>
              simp only [hg] at h
              cases hbe : (Nat.beq e0 e && Nat.beq (off % i.size) 0) with
              | false => rw [hbe] at h; cases h
              | true =>
                rw [hbe] at h
                simp only [cond_true, Option.map_eq_some_iff] at h
                obtain ⟨old, hold, he⟩ := h
                cases he
                obtain ⟨old', k1, k2, k3⟩ := load_rel hr hs' hold
                have : old' = [] := List.eq_nil_of_length_eq_zero (by rw [k2]; exact Nat.zero_mul _)
                subst this
                obtain ⟨q, _, g1, g2, g3⟩ := grown_rel (A := A.drop id) (hr.drop id) hi hz' k1 hnr (0 + n) (grownCap w (0 + n) 0 e) (grownCap_ge _ _ _ _) (by have := k1.len; rw [List.length_append, hnewl, this]; simp) hzsz
                have hrun := run_grows (P := P) (w := w) (ty := ty) (base := some ⟨b, o, none⟩) (c := 0) (old := []) ht hu hi hz' hlenw (by simp [Builtin.firstCells, loadCells, loadCellsFrom]) (hfirst w.drew fun _ => rfl) (by omega) (by omega) hb1
                exact ⟨_, _, _, hrun, g3, g1, Fr.push_drop hs' g2⟩
          | _ => simp [hg] at h
end
end Go.Ab
namespace Go.Ab
open Go Go.RowKit
variable [Unk] [Kn] [KnOk]

def ExtFn : XExt → Func → Prop
  | .add k, fn => Extern.find fn = some (Extern.Atomic.update (Op.intArith .add) k true)
  | .load k, fn => Extern.find fn = some (Extern.Atomic.loadT (.int k))
  | .store, fn => Extern.find fn = some Extern.Atomic.storeT
  | .cas k, fn => Extern.find fn = some (Extern.Atomic.casT (.int k))
  | .mark0, fn => ∃ m : Mark, Extern.find fn = some (fun _ => do mark m; pure Extern.Race.none_)
  | .mark1, fn => ∃ m : Addr → Mark, Extern.find fn = some (Extern.Race.marked m)
/-- What the soundness asks of the functions without a body. -/
structure Ext (P : Program) : Prop where
  ext : ∀ (f : FuncId) (fn : Func) (kd : XExt), P.funcs[f]? = some fn → fn.body = none → extKind fn.name = some kd → (fn.name == "runtime.NumGoroutine") = false ∧ Extern.findNext fn = none ∧ ExtFn kd fn

section
variable {P : Program} {σ : Sg} {A : H} {w : World}

def heavy : XOp → Bool
  | .store .. | .append .. | .copy .. | .clear .. | .mapPut .. | .mapDel .. | .ext .. | .nextStr _ => true
  | _ => false

theorem set_obj {id : Nat} {o o' : AObj} {p : Pl} {ob : Obj} (hr : Rel P σ A w) (ha : A.get id = some o) (hs : σ id = some p) (hown : o.own = true) (hown' : o'.own = true)
    (hob : ORel P σ { w with heap := w.heap.setIfInBounds p.b ob } p o') : Rel P σ (A.set id o') { w with heap := w.heap.setIfInBounds p.b ob } ∧ Fr σ A w σ (A.set id o') { w with heap := w.heap.setIfInBounds p.b ob } :=
  ⟨Rel.change hr ha hs hown hown' (by simp) (fun k hk => by simp [Array.getElem?_setIfInBounds]; intro h; exact absurd h.symm hk) hob,
   Fr.change hr ha hs hown (by simp) (fun k hk => by simp [Array.getElem?_setIfInBounds]; intro h; exact absurd h.symm hk) rfl rfl rfl⟩

theorem setE_get : ∀ (es : List MapEntry) (i : Nat) (v : Value) (j : Nat), (setE es i v)[j]? = (es[j]?).map fun e => if j = i then { e with val := v } else e := by
  intro es
  induction es with
  | nil => intro i v j; simp [setE]
  | cons e es ih =>
    intro i v j
    cases i with
    | zero => cases j <;> simp [setE]
    | succ i => cases j <;> simp [setE, ih]
theorem setE_length : ∀ (es : List MapEntry) (i : Nat) (v : Value), (setE es i v).length = es.length := by
  intro es
  induction es with
  | nil => intro i v; rfl
  | cons e es ih => intro i v; cases i <;> simp [setE, ih]

/-- A map's block written anew. -/
theorem map_set {id : Nat} {p : Pl} {es : List MapEntry} {c : Nat} {es' : Array MapEntry} (hr : Rel P σ A w) (hg : A.get id = some (.map es c)) (hs : σ id = some p) (hh : w.heap[p.b]? = some (.map es' c)) {esN : List MapEntry} {cN : Nat} {esN' : Array MapEntry} (her : ERel σ esN esN'.toList) :
    ∃ w', (setObj p.b (.map esN' cN)).run P w = .ok () w' ∧ Rel P σ (A.set id (.map esN cN)) w' ∧ Fr σ A w σ (A.set id (.map esN cN)) w' := by
  have hlt' := hr.lt id p hs
  obtain ⟨k1, k2⟩ := set_obj (ob := .map esN' cN) (o' := .map esN cN) hr hg hs rfl rfl ⟨esN', by simp [Array.getElem?_setIfInBounds, hlt'], her⟩
  exact ⟨_, by simp [setObj, Sem.run, hh], k1, k2⟩

theorem ERel.push {es : List MapEntry} {es' : Array MapEntry} (h : ERel σ es es'.toList) {k v k' v' : Value} (hk : VRel σ k k') (hv : VRel σ v v') (c : Nat) : ERel σ (es ++ [{ key := k, val := v, born := c }]) (es'.push { key := k', val := v', born := c }).toList := by
  refine ⟨by simp [h.len], fun i a b ha hb' => ?_⟩
  rw [Array.toList_push] at hb'
  by_cases hi : i < es.length
  · rw [List.getElem?_append_left hi] at ha
    rw [List.getElem?_append_left (by rw [← h.len]; exact hi)] at hb'
    exact h.get i a b ha hb'
  · rw [List.getElem?_append_right (by omega)] at ha
    rw [List.getElem?_append_right (by rw [← h.len]; omega), ← h.len] at hb'
    cases hj : i - es.length with
    | zero => rw [hj] at ha hb'; simp at ha hb'; subst ha; subst hb'; exact ⟨rfl, hk, hv⟩
    | succ n => rw [hj] at ha; simp at ha
theorem ERel.modify {es : List MapEntry} {es' : Array MapEntry} (h : ERel σ es es'.toList) {i : Nat} {v k' v' : Value} (hk : VRel σ (keyAt es i) k') (hv : VRel σ v v') : ERel σ (setE es i v) (es'.modify i fun e => { e with key := k', val := v' }).toList := by
  have hl := h.len
  simp only [Array.length_toList] at hl
  refine ⟨by simp [setE_length, hl], fun j a b ha hb => ?_⟩
  rw [setE_get, Option.map_eq_some_iff] at ha
  obtain ⟨e, he, rfl⟩ := ha
  simp only [Array.getElem?_toList, Array.getElem?_modify] at hb
  by_cases hj : j = i
  · subst hj
    rw [if_pos rfl] at hb
    rw [if_pos rfl]
    rw [Option.map_eq_some_iff] at hb
    obtain ⟨e', he', rfl⟩ := hb
    obtain ⟨h1, h2, h3⟩ := h.get j e e' he (by simpa using he')
    simp only [keyAt, he] at hk
    exact ⟨h1, hk, hv⟩
  · rw [if_neg (fun e => hj e.symm)] at hb
    rw [if_neg hj]
    exact h.get j e b he (by simpa using hb)
theorem ERel.erase {es : List MapEntry} {es' : Array MapEntry} (h : ERel σ es es'.toList) (i : Nat) : ERel σ (es.eraseIdx i) (es'.eraseIdxIfInBounds i).toList := by
  have ht : (es'.eraseIdxIfInBounds i).toList = es'.toList.eraseIdx i := by
    unfold Array.eraseIdxIfInBounds
    split
    · simp
    · rename_i hn
      rw [List.eraseIdx_of_length_le (by simpa using hn)]
  rw [ht]
  refine ⟨by simp [List.length_eraseIdx, h.len], fun j a b ha hb => ?_⟩
  rw [List.getElem?_eraseIdx] at ha hb
  split at ha
  · rename_i hji
    rw [if_pos hji] at hb
    exact h.get j a b ha hb
  · rename_i hji
    rw [if_neg hji] at hb
    exact h.get (j + 1) a b ha hb

theorem stays_run {k old new : Value} (ho : VRel σ k old) (hn : VRel σ k new) (w : World) : ∃ r w', (Instr.keyThatStays old new).run P w = .ok r w' ∧ VRel σ k r ∧ (w' = w ∨ w' = w.drew) := by
  unfold Instr.keyThatStays
  cases hb : Instr.sameBits 10000 old new with
  | true => exact ⟨new, w, by simp, hn, .inl rfl⟩
  | false =>
    refine ⟨if (Question.extern "map.whichKeyStays" 2).cut (w.tape w.drawn (.extern "map.whichKeyStays" 2)) = 0 then new else old, w.drew, ?_, ?_, .inr rfl⟩
    · simp [run_choose, Question.forced]
    · split
      · exact hn
      · exact ho

theorem mapPut_sound {o : Oper} {t : TypeId} {m k y : Operand} {x : XOp} (hc : (match P.underlying t with | some (.map kt _) => (keyKind P kt).map fun d => XOp.mapPut d m k y | _ => none) = some x) {ρA ρC : Operand → Value}
    (hρ : ∀ z ∈ (#[m, k, y] : Array Operand), VRel σ (ρA z) (ρC z)) (hr : Rel P σ A w) {v : Value} {A' : H} (h : evalOp0 x ρA A = some (v, A'))
    (ho : execOp ρC o = (do Instr.mapUpdate t (ρC m) (ρC k) (ρC y); pure .skip)) : Does P σ A w (execOp ρC o) v A' := by
  split at hc
  case h_2 => cases hc
  rename_i kt e hu
  rw [Option.map_eq_some_iff] at hc
  obtain ⟨d, hd, rfl⟩ := hc
  have hm := hρ m (by simp)
  have hk := hρ k (by simp)
  have hy := hρ y (by simp)
  simp only [evalOp0] at h
  rw [ho]
  revert h
  revert hm
  generalize ρA m = m1; generalize hcm : ρC m = m2
  intro hm h
  cases hm with
  | @map id p hs =>
    simp only at h
    cases hg : A.get id with
    | none => simp [hg] at h
    | some ob =>
      cases ob with
      | map es c =>
        simp only [hg] at h
        obtain ⟨es', h1, her⟩ := hr.obj id _ p hg hs
        have hgo : (getObj p.b).run P w = .ok (.map es' c) w := by simp [getObj, Sem.run, h1]
        split at h
        · rename_i hf
          simp only [Option.some.injEq, Prod.mk.injEq] at h
          obtain ⟨rfl, rfl⟩ := h
          obtain ⟨hko, f', hfk, hfv⟩ := findK_rel hd hk hf her w
          have hck := kind_check hd hk hko false w
          have hf0 : f' = none := by
            rcases hfv with ⟨_, h2⟩ | ⟨v, i, v', h2, _⟩
            · exact h2
            · cases h2
          subst hf0
          obtain ⟨w', t1, t2, t3⟩ := map_set (cN := c + 1) hr hg hs h1 (her.push hk hy c)
          refine ⟨.skip, undef, w', σ, ?_, .inr ⟨rfl, rfl⟩, .tuple #[] #[] rfl (fun i v v' h => by simp at h), t2, t3⟩
          simp only [Instr.mapUpdate, Sem.run_bind, run_underlying hu, Result.andThen_ok, hgo, hck, hfk, t1, Sem.run_pure]
        · rename_i i v0 hf
          cases hsv : sameV (keyAt es i) (ρA k) with
          | false => rw [hsv] at h; cases h
          | true =>
            rw [hsv] at h
            simp only [cond_true, Option.some.injEq, Prod.mk.injEq] at h
            obtain ⟨rfl, rfl⟩ := h
            obtain ⟨hko, f', hfk, hfv⟩ := findK_rel hd hk hf her w
            have hck := kind_check hd hk hko false w
            obtain ⟨v1, rfl⟩ : ∃ v1, f' = some (i, v1) := by
              rcases hfv with ⟨h2, _⟩ | ⟨v, i', v', h2, h3, _⟩
              · cases h2
              · cases h2; exact ⟨v', h3⟩
            have hke := sameV_eq hsv
            have hkn : VRel σ (keyAt es i) (ρC k) := by rw [hke]; exact hk
            have hko' : VRel σ (keyAt es i) (((es'[i]?).map (·.key)).getD (ρC k)) := by
              cases he : es'[i]? with
              | none => exact hkn
              | some e' =>
                have hl : i < es.length := by rw [her.len]; simpa using (Array.getElem?_eq_some_iff.1 he).1
                obtain ⟨_, h2, _⟩ := her.get i es[i] e' (List.getElem?_eq_getElem hl) (by simpa using he)
                simp only [keyAt, List.getElem?_eq_getElem hl, Option.map_some, Option.getD_some]
                exact h2
            obtain ⟨r, w1, s1, s2, s3⟩ := stays_run (P := P) hko' hkn w
            have key : ∃ w', (setObj p.b (.map (es'.modify i fun e => { e with key := r, val := ρC y }) c)).run P w1 = .ok () w' ∧ Rel P σ (A.set id (.map (setE es i (ρA y)) c)) w' ∧ Fr σ A w σ (A.set id (.map (setE es i (ρA y)) c)) w' := by
              rcases s3 with rfl | rfl
              · exact map_set hr hg hs h1 (her.modify s2 hy)
              · obtain ⟨w', t1, t2, t3⟩ := map_set (cN := c) hr.drew hg hs h1 (her.modify s2 hy)
                exact ⟨w', t1, t2, Fr.of_drew t3⟩
            obtain ⟨w', t1, t2, t3⟩ := key
            refine ⟨.skip, undef, w', σ, ?_, .inr ⟨rfl, rfl⟩, .tuple #[] #[] rfl (fun i v v' h => by simp at h), t2, t3⟩
            simp only [Instr.mapUpdate, Sem.run_bind, run_underlying hu, Result.andThen_ok, hgo, hck, hfk, s1, t1, Sem.run_pure]
        · cases h
      | _ => simp [hg] at h
  | _ => simp at h

theorem cell_int {id : Nat} {p : Pl} {off : Nat} {k : IntKind} {n : Int} (hr : Rel P σ A w) (hs : σ id = some p) (h : intAt A ⟨id, off, none⟩ = some (k, n)) : w.cell? ⟨p.b, p.sh + off, none⟩ = some (.int k n) := by
  unfold intAt at h
  split at h
  · rename_i k' n' hl
    cases h
    obtain ⟨l', h1, h2, h3⟩ := load_rel hr hs hl
    obtain ⟨u', r', rfl, hu, _⟩ := h1.cons_inv
    have := hu.int_inv
    subst this
    have hcell := h3 0 _ rfl
    rw [Addr.add_none, Nat.add_zero] at hcell
    exact hcell
  · cases h
theorem cell_put {id : Nat} {p : Pl} {off : Nat} {k : IntKind} {n : Int} {u : Value} {A1 : H} (hr : Rel P σ A w) (hs : σ id = some p) (hA1 : storeA A ⟨id, off, none⟩ [.int k n] = some A1) (hcell : w.cell? ⟨p.b, p.sh + off, none⟩ = some u) :
    w.frozen? ⟨p.b, p.sh + off, none⟩ = false ∧ Rel P σ A1 (w.setCell ⟨p.b, p.sh + off, none⟩ (.int k n)) ∧ Fr σ A w σ A1 (w.setCell ⟨p.b, p.sh + off, none⟩ (.int k n)) := by
  obtain ⟨w', s1, s2, s3⟩ := store_rel (P := P) hr hs hA1 (LRel.cons (.int k n) .nil)
  have hfz : w.frozen? ⟨p.b, p.sh + off, none⟩ = false := by
    unfold storeA at hA1
    simp only at hA1
    cases hg : A.get id with
    | none => simp [hg] at hA1
    | some ob =>
      cases ob with
      | cells ro e c0 =>
        cases ro with
        | true => simp [hg] at hA1
        | false =>
          obtain ⟨cur, e', fz, q1, q2, q3, q4, q5, q6⟩ := hr.obj id _ p hg hs
          have hun := (q6 rfl).1
          have hlt : p.sh + off < cur.size := by
            simp [World.cell?, q1] at hcell
            exact (Array.getElem?_eq_some_iff.1 hcell).1
          have := hun _ hlt
          simp only [World.frozen?, q1]
          simpa using this
      | _ => simp [hg] at hA1
  have hw : w' = w.setCell ⟨p.b, p.sh + off, none⟩ (.int k n) := by
    have hst : (store ⟨p.b, p.sh + off, none⟩ (.int k n)).run P w = .ok () (w.setCell ⟨p.b, p.sh + off, none⟩ (.int k n)) := by
      rw [run_store P w _ _ _ rfl]; simp [hcell, hfz]
    simp only [storeCells, Sem.run_bind, Addr.add_none, Nat.add_zero, hst, Result.andThen_ok, Sem.run_pure] at s1
    exact (Result.ok.inj s1).2.symm
  subst hw
  exact ⟨hfz, s2, s3⟩

theorem two_inv {l : List Value} {a b : Value} (h : LRel σ [a, b] l) : ∃ a' b', l = [a', b'] ∧ VRel σ a a' ∧ VRel σ b b' := by
  obtain ⟨a', r, rfl, ha, hr⟩ := h.cons_inv
  obtain ⟨b', r', rfl, hb, hr'⟩ := hr.cons_inv
  have : r' = [] := List.eq_nil_of_length_eq_zero (by have := hr'.len; simpa using this.symm)
  subst this
  exact ⟨a', b', rfl, ha, hb⟩
theorem one_inv {l : List Value} {a : Value} (h : LRel σ [a] l) : ∃ a', l = [a'] ∧ VRel σ a a' := by
  obtain ⟨a', r, rfl, ha, hr⟩ := h.cons_inv
  have : r = [] := List.eq_nil_of_length_eq_zero (by have := hr.len; simpa using this.symm)
  subst this
  exact ⟨a', rfl, ha⟩
theorem ptr_inv {a : Addr} {v : Value} (h : VRel σ (.pointer (some a)) v) : a.spot = none ∧ ∃ p, σ a.block = some p ∧ v = .pointer (some ⟨p.b, p.sh + a.off, none⟩) := by
  cases h with
  | @ptr id p off hs => exact ⟨rfl, p, hs, rfl⟩

/-- A function without a body: the interpreter's answer is the model's. -/
theorem ext_sound (hx : Ext P) {f : FuncId} {fn : Func} {kd : XExt} (hf : P.funcs[f]? = some fn) (hb : fn.body = none) (hk : extKind fn.name = some kd) {as : List Value} {asc : Array Value} (hl : LRel σ as asc.toList) (hr : Rel P σ A w) {v : Value} {A' : H} (h : extA kd as A = some (v, A')) :
    ∃ v' w', (callFunc f asc).run P w = .ok (.value v') w' ∧ VRel σ v v' ∧ Rel P σ A' w' ∧ Fr σ A w σ A' w' := by
  obtain ⟨hname, hn, he⟩ := hx.ext f fn kd hf hb hk
  have hb' : fn.body.isNone = true := by simp [hb]
  unfold extA at h
  split at h
  · rename_i k p j y
    obtain ⟨a', b', hl', ha, hy⟩ := two_inv hl
    obtain ⟨hsp, q, hs, rfl⟩ := ptr_inv ha
    have := hy.int_inv
    subst this
    obtain rfl : asc = #[.pointer (some ⟨q.b, q.sh + p.off, none⟩), .int j y] := by apply Array.ext'; simpa using hl'
    obtain ⟨blk, off, spot⟩ := p
    simp only at hsp
    subst hsp
    split at h
    · rename_i i n hi
      split at h
      · rename_i hc
        obtain ⟨rfl, rfl⟩ := hc
        rw [Option.map_eq_some_iff] at h
        obtain ⟨A1, hA1, he1⟩ := h
        cases he1
        have hcell := cell_int hr hs hi
        obtain ⟨hz, s2, s3⟩ := cell_put hr hs hA1 hcell
        exact ⟨_, _, run_call_add hf hname hb' hn _ he hcell hz (by simp [Op.intArith]), .int _ _, s2, s3⟩
      · cases h
    · cases h
  · rename_i k p
    obtain ⟨a', hl', ha⟩ := one_inv hl
    obtain ⟨hsp, q, hs, rfl⟩ := ptr_inv ha
    obtain rfl : asc = #[.pointer (some ⟨q.b, q.sh + p.off, none⟩)] := by apply Array.ext'; simpa using hl'
    obtain ⟨blk, off, spot⟩ := p
    simp only at hsp
    subst hsp
    split at h
    · rename_i i n hi
      split at h
      · rename_i hc
        subst hc
        cases h
        exact ⟨_, _, run_call_load hf hname hb' hn _ he (cell_int hr hs hi), .int _ _, hr, Fr.refl _ _ _⟩
      · cases h
    · cases h
  · rename_i p j y
    obtain ⟨a', b', hl', ha, hy⟩ := two_inv hl
    obtain ⟨hsp, q, hs, rfl⟩ := ptr_inv ha
    have := hy.int_inv
    subst this
    obtain rfl : asc = #[.pointer (some ⟨q.b, q.sh + p.off, none⟩), .int j y] := by apply Array.ext'; simpa using hl'
    obtain ⟨blk, off, spot⟩ := p
    simp only at hsp
    subst hsp
    split at h
    · rename_i i hi
      rw [Option.map_eq_some_iff] at h
      obtain ⟨A1, hA1, he1⟩ := h
      cases he1
      obtain ⟨i, n⟩ := i
      have hcell := cell_int hr hs hi
      obtain ⟨hz, s2, s3⟩ := cell_put hr hs hA1 hcell
      exact ⟨_, _, run_call_store hf hname hb' hn he hcell hz, .tuple #[] #[] rfl (fun i v v' h => by simp at h), s2, s3⟩
    · cases h
  · rename_i k p j o l y
    obtain ⟨a', r, hl', ha, hr2⟩ := hl.cons_inv
    obtain ⟨b', c', hl2, ho, hy⟩ := two_inv hr2
    subst hl2
    obtain ⟨hsp, q, hs, rfl⟩ := ptr_inv ha
    have := ho.int_inv
    subst this
    have := hy.int_inv
    subst this
    obtain rfl : asc = #[.pointer (some ⟨q.b, q.sh + p.off, none⟩), .int j o, .int l y] := by apply Array.ext'; simpa using hl'
    obtain ⟨blk, off, spot⟩ := p
    simp only at hsp
    subst hsp
    split at h
    · rename_i i n hi
      split at h
      · rename_i hc
        obtain ⟨rfl, rfl, rfl, rfl⟩ := hc
        rw [Option.map_eq_some_iff] at h
        obtain ⟨A1, hA1, he1⟩ := h
        cases he1
        have hcell := cell_int hr hs hi
        obtain ⟨hz, s2, s3⟩ := cell_put hr hs hA1 hcell
        exact ⟨_, _, run_call_cas_hit hf hname hb' hn _ he hcell hz, .bool _, s2, s3⟩
      · cases h
    · cases h
  · cases h
    have hl' : asc.toList = [] := List.eq_nil_of_length_eq_zero (by have := hl.len; simpa using this.symm)
    obtain rfl : asc = #[] := by apply Array.ext'; simpa using hl'
    obtain ⟨m, hm⟩ := he
    exact ⟨_, _, run_call_mark0 hf hname hb' hn m hm w, .tuple #[] #[] rfl (fun i v v' h => by simp at h), hr, Fr.refl _ _ _⟩
  · rename_i p
    cases h
    obtain ⟨a', hl', ha⟩ := one_inv hl
    obtain ⟨hsp, q, hs, rfl⟩ := ptr_inv ha
    obtain rfl : asc = #[.pointer (some ⟨q.b, q.sh + p.off, none⟩)] := by apply Array.ext'; simpa using hl'
    obtain ⟨m, hm⟩ := he
    exact ⟨_, _, run_call_marked hf hname hb' hn m hm _ w, .tuple #[] #[] rfl (fun i v v' h => by simp at h), hr, Fr.refl _ _ _⟩
  · cases h

theorem heavy_call (hx : Ext P) {c : Call} {dst : Option Tmp} {type : TypeId} {pos : String} {after : Array Edge} {guard : Option (Nat × Bool)} {x : XOp} (hc : compOp P ⟨dst, .call c, type, pos, after, guard⟩ = some x) (hh : heavy x = true) {ρA ρC : Operand → Value}
    (hρ : ∀ y ∈ (Op.call c).operands, VRel σ (ρA y) (ρC y)) (hfun : ∀ f, ρC (.func f) = .func (.func f) #[] #[]) (hr : Rel P σ A w) {v : Value} {A' : H} (h : evalOp0 x ρA A = some (v, A')) : Does P σ A w (execOp ρC ⟨dst, .call c, type, pos, after, guard⟩) v A' := by
  obtain ⟨callee, args, argTypes⟩ := c
  simp only [compOp, compCall] at hc
  have hargs : ∀ y ∈ args.toList, VRel σ (ρA y) (ρC y) := fun y hy => hρ y (by simp only [Op.operands, Call.operands]; exact Array.mem_append.2 (.inr (Array.mem_toList_iff.1 hy)))
  cases callee with
  | invoke r m => simp only [compCall, Option.some.injEq] at hc; subst hc; cases hh
  | value f =>
    cases f with
    | func f =>
      simp only at hc
      split at hc
      · rename_i fn hfn
        split at hc
        · cases hc; cases hh
        · split at hc
          · rename_i hbn
            split at hc
            · rename_i kd hkd
              cases hc
              simp only [evalOp0] at h
              have hbody : fn.body = none := by simpa using hbn
              obtain ⟨v', w', hrun, hv, s2, s3⟩ := ext_sound (P := P) hx hfn hbody hkd (asc := args.map ρC) (by rw [Array.toList_map]; exact LRel.map _ _ _ hargs) hr h
              refine ⟨.value v', _, _, σ, ?_, .inl rfl, hv, s2, s3⟩
              simp [execOp, resolve, hfun, Deferred.ofValue, invoke, hrun]
            · cases hc
          · cases hc
      · cases hc
    | tmp t => simp only [Option.some.injEq] at hc; subst hc; cases hh
    | _ => cases hc
  | builtin b =>
    have hexec : ∀ s : Sem Value, (∀ cs, builtin b argTypes type cs (args.map ρC) = (do pure (.value (← s)) : Sem Next)) → ∀ v' w', s.run P w = .ok v' w' → (execOp ρC ⟨dst, .call ⟨.builtin b, args, argTypes⟩, type, pos, after, guard⟩).run P w = .ok (.value v') w' := by
      intro s hs v' w' hr
      simp only [execOp, resolve, Sem.run_bind, Sem.run_pure, Result.andThen_ok, invoke, hs, hr]
    simp only [compBuiltin] at hc
    cases b with
    | len =>
      simp only at hc
      split at hc
      · split at hc <;> first | (cases hc; cases hh; done) | skip
        · split at hc <;> cases hc; cases hh
        · cases hc
      · cases hc
    | append =>
      simp only at hc
      split at hc
      case h_2 => cases hc
      rename_i t u s0 x0 h0 h1 hx0
      have hav : args = #[s0, x0] := by apply Array.ext'; simpa using hx0
      subst hav
      have hat : ∀ y, (Builtin.append_ argTypes type y) = Builtin.append_ #[t, u] type y := fun y => by simp [Builtin.append_, h0, h1]
      have main : ∀ {e : TypeId}, P.underlying t = some (.slice e) → ((∃ e', P.underlying u = some (.slice e')) ∨ P.underlying u = some .string) → ((P.info? e).bind fun i => (zeroA P e).map fun _ => XOp.append e i.size i.bytes s0 x0) = some x → Does P σ A w (execOp ρC ⟨dst, .call ⟨.builtin .append, #[s0, x0], argTypes⟩, type, pos, after, guard⟩) v A' := by
        intro e ht hu hc
        simp only [Option.bind_eq_some_iff, Option.map_eq_some_iff] at hc
        obtain ⟨i, hi, z, hz, rfl⟩ := hc
        simp only [evalOp0] at h
        obtain ⟨v', w', σ', k1, k2, k3, k4⟩ := append_rel (P := P) (ty := type) hr ht hu hi hz (hargs s0 (by simp)) (hargs x0 (by simp)) h
        exact ⟨.value v', v', w', σ', hexec (Builtin.append_ #[t, u] type #[ρC s0, ρC x0]) (fun cs => by simp [builtin, hat]) _ _ k1, .inl rfl, k2, k3, k4⟩
      split at hc
      · rename_i ht hu; exact main ht (.inl ⟨_, hu⟩) hc
      · rename_i ht hu; exact main ht (.inr hu) hc
      · cases hc
    | copy =>
      simp only at hc
      split at hc
      case h_2 => cases hc
      rename_i t s0 x0 h0 hx0
      have hav : args = #[s0, x0] := by apply Array.ext'; simpa using hx0
      subst hav
      split at hc
      case h_2 => cases hc
      rename_i e ht
      rw [Option.map_eq_some_iff] at hc
      obtain ⟨n, hn, rfl⟩ := hc
      simp only [evalOp0] at h
      have hs := hargs s0 (by simp)
      have hx := hargs x0 (by simp)
      have hex := hexec (Builtin.copy_ argTypes type #[ρC s0, ρC x0]) (fun cs => by simp [builtin])
      revert h
      revert hs
      generalize ρA s0 = s1; generalize hcs : ρC s0 = s2
      rw [hcs] at hex
      intro hs h
      have common : ∀ {base base' : Option Addr} {dLen c c' : Nat} {k : Nat} {new : List Value}, s2 = .slice base' dLen c' → lenV (ρA x0) = some k → sourceA A n (Nat.min k dLen) (ρA x0) = some new → ∃ new' : List Value, LRel σ new new' ∧ new.length = Nat.min k dLen * n ∧
          ∀ w', ((∀ a, base' = some a → (storeCells a new').run P w = .ok () w') ∧ (base' = none → w' = w)) → (Builtin.copy_ argTypes type #[s2, ρC x0]).run P w = .ok (.int .i64 (Nat.min k dLen : Nat)) w' := by
        intro base base' dLen c c' k new hs2 hk hnew
        obtain ⟨k1, k2, new', k3, k4⟩ := source_rel (P := P) hr hx hk (Nat.min_le_left k dLen) hnew
        refine ⟨new', k3, k2, fun w' hw => ?_⟩
        have k5 := k4 w fun _ => rfl
        subst hs2
        cases base' with
        | none => have := hw.2 rfl; subst this; simp [Builtin.copy_, h0, run_underlying ht, k1, run_size hn, k5, goInt]
        | some a => have := hw.1 a rfl; simp [Builtin.copy_, h0, run_underlying ht, k1, run_size hn, k5, this, goInt]
      cases hs with
      | sliceNil l c =>
        simp only [Option.bind_eq_some_iff] at h
        obtain ⟨k, hk, new, hnew, h⟩ := h
        simp only [Option.some.injEq, Prod.mk.injEq] at h
        obtain ⟨rfl, rfl⟩ := h
        obtain ⟨new', c1, c2, c3⟩ := common (base := none) (c := c) rfl hk hnew
        exact ⟨.value _, _, w, σ, hex _ _ (c3 w ⟨(fun a ha => by cases ha), fun _ => rfl⟩), .inl rfl, .int _ _, hr, Fr.refl _ _ _⟩
      | @slice id p off l c c' hs' hcc =>
        simp only [Option.bind_eq_some_iff, Option.map_eq_some_iff] at h
        obtain ⟨k, hk, new, hnew, A1, hA1, he⟩ := h
        cases he
        obtain ⟨new', c1, c2, c3⟩ := common (base := none) (c := c) rfl hk hnew
        obtain ⟨w', t1, t2, t3⟩ := store_rel (P := P) hr hs' hA1 c1
        exact ⟨.value _, _, w', σ, hex _ _ (c3 w' ⟨(fun a ha => by cases ha; exact t1), (fun ha => by cases ha)⟩), .inl rfl, .int _ _, t2, t3⟩
      | @sliceEnd id p off b o hs' =>
        simp only [Option.bind_eq_some_iff, Option.map_eq_some_iff] at h
        obtain ⟨k, hk, new, hnew, A1, hA1, he⟩ := h
        cases he
        obtain ⟨new', c1, c2, c3⟩ := common (base := none) (c := 0) rfl hk hnew
        obtain ⟨w', t1, t2, t3⟩ := store_rel (P := P) hr hs' hA1 c1
        have hnl : new' = [] := List.eq_nil_of_length_eq_zero (by rw [← c1.len, c2]; simp)
        subst hnl
        have hw : w' = w := by simp [storeCells] at t1; exact t1.symm
        subst hw
        exact ⟨.value _, _, w', σ, hex _ _ (c3 w' ⟨(fun a ha => by cases ha; rfl), (fun ha => by cases ha)⟩), .inl rfl, .int _ _, t2, t3⟩
      | _ => simp at h
    | clear =>
      simp only at hc
      split at hc
      case h_2 => cases hc
      rename_i t x0 h0 hx0
      have hav : args = #[x0] := by apply Array.ext'; simpa using hx0
      subst hav
      split at hc
      case h_2 => cases hc
      rename_i e ht
      rw [Option.map_eq_some_iff] at hc
      obtain ⟨z, hz, rfl⟩ := hc
      simp only [evalOp0] at h
      have hs := hargs x0 (by simp)
      have hex := hexec (Builtin.clear_ argTypes type #[ρC x0]) (fun cs => by simp [builtin])
      obtain ⟨zv, zi, hi', hz', hzr, hzc, _, hzz, hzsz⟩ := run_zero (P := P) (σ := σ) hz w
      revert h
      revert hs
      generalize ρA x0 = s1; generalize hcs : ρC x0 = s2
      rw [hcs] at hex
      intro hs h
      have hu : VRel σ (.tuple #[]) (.tuple #[]) := .tuple #[] #[] rfl (fun i v v' h => by simp at h)
      cases hs with
      | sliceNil l c =>
        simp only [Option.some.injEq, Prod.mk.injEq] at h
        obtain ⟨rfl, rfl⟩ := h
        exact ⟨.value (.tuple #[]), _, w, σ, hex _ _ (by simp [Builtin.clear_, h0, run_underlying ht]), .inl rfl, hu, hr, Fr.refl _ _ _⟩
      | @slice id p off l c c' hs' hcc =>
        simp only at h
        cases hl0 : Nat.beq l 0 with
        | true =>
          rw [hl0] at h
          simp only [cond_true, Option.some.injEq, Prod.mk.injEq] at h
          obtain ⟨rfl, rfl⟩ := h
          have := Nat.eq_of_beq_eq_true hl0
          subst this
          exact ⟨.value (.tuple #[]), _, w, σ, hex _ _ (by simp [Builtin.clear_, h0, run_underlying ht]), .inl rfl, hu, hr, Fr.refl _ _ _⟩
        | false =>
          rw [hl0] at h
          simp only [cond_false, Option.map_eq_some_iff] at h
          obtain ⟨A1, hA1, he⟩ := h
          cases he
          obtain ⟨w', t1, t2, t3⟩ := store_rel (P := P) hr hs' hA1 (zeros_rel hzz l)
          have hl1 := Nat.ne_of_beq_eq_false hl0
          obtain ⟨m, rfl⟩ : ∃ m, l = m + 1 := ⟨l - 1, by omega⟩
          have hzl : (Builtin.zeroCells zv.cells (m + 1)).toList = zeros z (m + 1) := by rw [← hzc]; exact range_zeros zv (m + 1) _ rfl
          refine ⟨.value (.tuple #[]), _, w', σ, hex _ _ ?_, .inl rfl, hu, t2, t3⟩
          simp [Builtin.clear_, h0, run_underlying ht, hzr, hzl, t1]
      | @sliceEnd id p off b o hs' =>
        simp only at h
        have : (Nat.beq 0 0) = true := rfl
        rw [this] at h
        simp only [cond_true, Option.some.injEq, Prod.mk.injEq] at h
        obtain ⟨rfl, rfl⟩ := h
        exact ⟨.value (.tuple #[]), _, w, σ, hex _ _ (by simp [Builtin.clear_, h0, run_underlying ht]), .inl rfl, hu, hr, Fr.refl _ _ _⟩
      | _ => simp at h
    | delete =>
      simp only at hc
      split at hc
      case h_2 => cases hc
      rename_i t m k h0 hx0
      have hav : args = #[m, k] := by apply Array.ext'; simpa using hx0
      subst hav
      split at hc
      case h_2 => cases hc
      rename_i kt e ht
      rw [Option.map_eq_some_iff] at hc
      obtain ⟨d, hd, rfl⟩ := hc
      simp only [evalOp0] at h
      have hm := hargs m (by simp)
      have hk := hargs k (by simp)
      have hex := hexec (Builtin.delete_ argTypes type #[ρC m, ρC k]) (fun cs => by simp [builtin])
      have hu : VRel σ (.tuple #[]) (.tuple #[]) := .tuple #[] #[] rfl (fun i v v' h => by simp at h)
      revert h
      revert hm
      generalize ρA m = m1; generalize hcm : ρC m = m2
      rw [hcm] at hex
      intro hm h
      cases hm with
      | mapNil =>
        simp only at h
        cases hko : kindOk d (ρA k) with
        | false => rw [hko] at h; cases h
        | true =>
          rw [hko] at h
          simp only [cond_true, Option.some.injEq, Prod.mk.injEq] at h
          obtain ⟨rfl, rfl⟩ := h
          have hck := kind_check hd hk hko true w
          exact ⟨.value (.tuple #[]), _, w, σ, hex _ _ (by simp [Builtin.delete_, h0, run_underlying ht, hck]), .inl rfl, hu, hr, Fr.refl _ _ _⟩
      | @map id p hs =>
        simp only at h
        cases hg : A.get id with
        | none => simp [hg] at h
        | some ob =>
          cases ob with
          | map es c =>
            simp only [hg] at h
            obtain ⟨es', h1, her⟩ := hr.obj id _ p hg hs
            have hgo : (getObj p.b).run P w = .ok (.map es' c) w := by simp [getObj, Sem.run, h1]
            split at h
            · rename_i hf
              simp only [Option.some.injEq, Prod.mk.injEq] at h
              obtain ⟨rfl, rfl⟩ := h
              obtain ⟨hko, f', hfk, hfv⟩ := findK_rel hd hk hf her w
              have hck := kind_check hd hk hko es'.isEmpty w
              have hf0 : f' = none := by
                rcases hfv with ⟨_, h2⟩ | ⟨v, i, v', h2, _⟩
                · exact h2
                · cases h2
              subst hf0
              obtain ⟨w', t1, t2, t3⟩ := map_set (cN := c) hr hg hs h1 her
              exact ⟨.value (.tuple #[]), _, w', σ, hex _ _ (by simp only [Builtin.delete_, h0, List.getElem?_toArray, List.getElem?_cons_zero, List.getElem?_cons_succ, Sem.run_bind, run_underlying ht, Result.andThen_ok, hgo, hck, hfk, t1, Sem.run_pure]), .inl rfl, hu, t2, t3⟩
            · rename_i i v0 hf
              simp only [Option.some.injEq, Prod.mk.injEq] at h
              obtain ⟨rfl, rfl⟩ := h
              obtain ⟨hko, f', hfk, hfv⟩ := findK_rel hd hk hf her w
              have hck := kind_check hd hk hko es'.isEmpty w
              obtain ⟨v1, rfl⟩ : ∃ v1, f' = some (i, v1) := by
                rcases hfv with ⟨h2, _⟩ | ⟨v, i', v', h2, h3, _⟩
                · cases h2
                · cases h2; exact ⟨v', h3⟩
              obtain ⟨w', t1, t2, t3⟩ := map_set (cN := c) hr hg hs h1 (her.erase i)
              exact ⟨.value (.tuple #[]), _, w', σ, hex _ _ (by simp only [Builtin.delete_, h0, List.getElem?_toArray, List.getElem?_cons_zero, List.getElem?_cons_succ, Sem.run_bind, run_underlying ht, Result.andThen_ok, hgo, hck, hfk, t1, Sem.run_pure]), .inl rfl, hu, t2, t3⟩
            · cases h
          | _ => simp [hg] at h
      | _ => simp at h
    | min => cases hc; cases hh
    | max => cases hc; cases hh
    | _ => cases hc

theorem heavy_sound0 (hx : Ext P) {o : Oper} {x : XOp} (hc : compOp P o = some x) (hh : heavy x = true) {ρA ρC : Operand → Value} (hρ : ∀ y ∈ o.op.operands, VRel σ (ρA y) (ρC y)) (hfun : ∀ f, ρC (.func f) = .func (.func f) #[] #[]) (hr : Rel P σ A w) {v : Value} {A' : H}
    (h : evalOp0 x ρA A = some (v, A')) : Does P σ A w (execOp ρC o) v A' := by
  obtain ⟨dst, op, type, pos, after, guard⟩ := o
  cases op with
  | store t a y =>
    simp only [compOp, Option.map_eq_some_iff] at hc
    obtain ⟨n, hn, rfl⟩ := hc
    have ha := hρ a (by simp [Op.operands])
    have hy := hρ y (by simp [Op.operands])
    simp only [evalOp0] at h
    revert h
    revert ha
    generalize ρA a = a1; generalize hca : ρC a = a2
    intro ha h
    cases ha with
    | @ptr id p off hs =>
      simp only at h
      have hcl := cells_rel hy
      cases hb : Nat.beq (cellsL (ρA y)).length n with
      | false => rw [hb] at h; cases h
      | true =>
        rw [hb] at h
        simp only [cond_true, Option.map_eq_some_iff] at h
        obtain ⟨A1, hA1, he⟩ := h
        cases he
        have hn' := Nat.eq_of_beq_eq_true hb
        obtain ⟨w', h1, h2, h3⟩ := store_rel (P := P) hr hs hA1 hcl
        have hsz : (ρC y).cells.size = n := by rw [← Array.length_toList, ← hcl.len, hn']
        refine ⟨.skip, undef, w', σ, ?_, .inr ⟨rfl, rfl⟩, .tuple #[] #[] rfl (fun i v v' h => by simp at h), h2, h3⟩
        simp [execOp, hca, Instr.storeAt, Instr.sureAddr, storeVar, run_size hn, hsz, h1]
    | _ => simp at h
  | mapUpdate t m k y => exact mapPut_sound hc (fun y hy => hρ y hy) hr h rfl
  | insert t m k y => exact mapPut_sound hc (fun y hy => hρ y hy) hr h rfl
  | next y b =>
    simp only [compOp] at hc
    cases b with
    | false => cases hc
    | true =>
      cases hc
      have hy := hρ y (by simp [Op.operands])
      simp only [evalOp0] at h
      revert hy h
      generalize ρA y = a1; generalize hca : ρC y = a2
      intro hy h
      cases hy with
      | @ptr id p off hs =>
        cases off with
        | succ n => simp at h
        | zero =>
        simp only at h
        cases hg : A.get id with
        | none => simp [hg] at h
        | some ob =>
          cases ob with
          | iter s q =>
            simp only [hg] at h
            obtain ⟨h0, h1⟩ := hr.obj id _ p hg hs
            have hgo : (getObj p.b).run P w = .ok (.stringIter s q) w := by simp [getObj, Sem.run, h1]
            split at h
            · rename_i hlt
              simp only [Option.some.injEq, Prod.mk.injEq] at h
              obtain ⟨rfl, rfl⟩ := h
              have hset : (setObj p.b (.stringIter s (q + (Utf8.decode s q).2))).run P w = .ok () { w with heap := w.heap.setIfInBounds p.b (.stringIter s (q + (Utf8.decode s q).2)) } := by simp [setObj, Sem.run, h1]
              have hlt' := hr.lt id p hs
              obtain ⟨k1, k2⟩ := set_obj (ob := .stringIter s (q + (Utf8.decode s q).2)) (o' := .iter s (q + (Utf8.decode s q).2)) hr hg hs rfl rfl ⟨h0, by simp [Array.getElem?_setIfInBounds, hlt']⟩
              refine ⟨.value (.tuple #[.bool true, .int .i64 q, .int .i32 (Utf8.decode s q).1]), _, _, σ, ?_, .inl rfl, .tuple _ _ rfl (LRel.cons (.bool _) (LRel.cons (.int _ _) (LRel.cons (.int _ _) .nil))).get, k1, k2⟩
              simp [execOp, hca, Instr.next, h0, hgo, hlt, hset, goInt]
            · rename_i hlt
              simp only [Option.some.injEq, Prod.mk.injEq] at h
              obtain ⟨rfl, rfl⟩ := h
              refine ⟨.value (.tuple #[.bool false]), _, w, σ, ?_, .inl rfl, .tuple _ _ rfl (LRel.cons (.bool _) .nil).get, hr, Fr.refl _ _ _⟩
              simp [execOp, hca, Instr.next, h0, hgo, hlt]
          | _ => simp [hg] at h
      | _ => simp at h
  | call c => exact heavy_call hx hc hh (fun y hy => hρ y hy) hfun hr h
  | move y => simp only [compOp, Option.some.injEq] at hc; subst hc; cases hh
  | assign y => simp only [compOp, Option.some.injEq] at hc; subst hc; cases hh
  | pick c a b => simp only [compOp, Option.some.injEq] at hc; subst hc; cases hh
  | build t ps =>
    simp only [compOp, Option.bind_eq_some_iff] at hc
    obtain ⟨_, _, hc⟩ := hc
    split at hc <;> first | (cases hc; done) | (rw [Option.map_eq_some_iff] at hc; obtain ⟨_, _, rfl⟩ := hc; cases hh)
  | load t a => simp only [compOp, Option.bind_eq_some_iff, Option.map_eq_some_iff] at hc; obtain ⟨_, _, _, _, rfl⟩ := hc; cases hh
  | nilCheck y => simp only [compOp, Option.some.injEq] at hc; subst hc; cases hh
  | binOp op xt x y yt => simp only [compOp, Option.bind_eq_some_iff] at hc; obtain ⟨_, _, hc⟩ := hc; rcases compBin_kind hc with rfl | ⟨_, _, ⟨_, rfl⟩ | ⟨_, rfl⟩⟩ | ⟨_, _, _, ⟨_, rfl⟩ | ⟨_, rfl⟩⟩ <;> cases hh
  | typeAssert x xt t ok =>
    simp only [compOp] at hc
    cases ok with
    | false => cases hc
    | true =>
      simp only [cond_true, Option.bind_eq_some_iff] at hc
      obtain ⟨z, _, hc⟩ := hc
      cases hb : (cellsL z).all flat1 with
      | false => rw [hb] at hc; cases hc
      | true => rw [hb] at hc; simp only [cond_true, Option.map_eq_some_iff] at hc; obtain ⟨d, _, hc⟩ := hc; split at hc <;> (subst hc; cases hh)
  | unOp op xt x => simp only [compOp, Option.some.injEq] at hc; subst hc; cases hh
  | convert s d x =>
    simp only [compOp] at hc
    split at hc
    · cases hc; cases hh
    · cases hc; cases hh
    · rename_i e _ _
      split at hc
      · cases hb : (sizeA P e == some 1) <;> rw [hb] at hc <;> cases hc; cases hh
      · cases hc
    · split at hc <;> cases hc; cases hh
    · rw [Option.bind_eq_some_iff] at hc; obtain ⟨_, _, hc⟩ := hc; split at hc <;> cases hc; cases hh
    · cases hc
  | makeInterface t x => simp only [compOp] at hc; split at hc <;> cases hc; cases hh
  | makeFunc fn first cap => simp only [compOp] at hc; cases hc; cases hh
  | slice t x lo hi mx =>
    simp only [compOp] at hc
    split at hc
    · split at hc <;> cases hc; cases hh
    · cases hb : (mx.isSome && hi.isNone) <;> rw [hb] at hc
      · simp only [cond_false, Option.map_eq_some_iff] at hc; obtain ⟨_, _, rfl⟩ := hc; cases hh
      · cases hc
    · cases hb : (mx.isSome && hi.isNone) <;> rw [hb] at hc
      · simp only [cond_false, Option.map_eq_some_iff] at hc; obtain ⟨_, _, rfl⟩ := hc; cases hh
      · cases hc
    · cases hc
  | fieldAddr s x f =>
    simp only [compOp] at hc
    split at hc
    · simp only [Option.bind_eq_some_iff] at hc
      obtain ⟨_, _, _, _, hc⟩ := hc
      split at hc <;> cases hc; cases hh
    · cases hc
  | field t x f =>
    simp only [compOp] at hc
    split at hc
    · simp only [Option.bind_eq_some_iff, Option.map_eq_some_iff] at hc
      obtain ⟨_, _, _, _, _, _, rfl⟩ := hc; cases hh
    · cases hc
  | indexAddr t x i =>
    simp only [compOp] at hc
    split at hc <;> first | (cases hc; done) | (rw [Option.map_eq_some_iff] at hc; obtain ⟨_, _, rfl⟩ := hc; cases hh)
  | index t x i =>
    simp only [compOp] at hc
    split at hc
    · simp only [Option.bind_eq_some_iff, Option.map_eq_some_iff] at hc
      obtain ⟨_, _, _, _, rfl⟩ := hc; cases hh
    · cases hc; cases hh
    · cases hc
  | lookup t m k ok =>
    simp only [compOp] at hc
    split at hc
    · simp only [Option.bind_eq_some_iff] at hc
      obtain ⟨d, _, z, _, hc⟩ := hc
      cases hb : (cellsL z).all flat1 <;> rw [hb] at hc <;> cases hc; cases hh
    · cases hc
  | extract x i => simp only [compOp, Option.some.injEq] at hc; subst hc; cases hh
  | makeMap t r => simp only [compOp] at hc; split at hc <;> cases hc; cases hh
  | alloc e => simp only [compOp, Option.map_eq_some_iff] at hc; obtain ⟨z, _, rfl⟩ := hc; cases hh
  | box e y => simp only [compOp, Option.map_eq_some_iff] at hc; obtain ⟨_, _, rfl⟩ := hc; cases hh
  | buildSlice t n ps =>
    simp only [compOp] at hc
    split at hc
    · simp only [Option.bind_eq_some_iff, Option.map_eq_some_iff] at hc; obtain ⟨_, _, _, _, _, _, rfl⟩ := hc; cases hh
    · cases hc
  | makeSlice t l c =>
    simp only [compOp] at hc
    split at hc
    · simp only [Option.bind_eq_some_iff, Option.map_eq_some_iff] at hc; obtain ⟨_, _, _, _, rfl⟩ := hc; cases hh
    · cases hc
  | range t x => simp only [compOp] at hc; split at hc <;> cases hc; cases hh
  | _ => simp [compOp] at hc
end
end Go.Ab
namespace Go.Ab
open Go Go.RowKit
variable [Unk] [Kn] [KnOk]
variable {P : Program} {σ : Sg} {A : H} {w : World}
theorem plain_flat {v : Value} (h : plainV v = true) : Flat v := by cases v <;> first | (cases h; done) | constructor
theorem keyT_light {x : XOp} {k : TKey} {xs : List Operand} (h : keyT x = some (k, xs)) : light x = true := by
  cases x <;> first | rfl | cases h
theorem evalOp_some {x : XOp} {ρ : Operand → Value} {A : H} {r : Value × H} (h : evalOp0 x ρ A = some r) : evalOp x ρ A = some r := by
  unfold evalOp; rw [h]
theorem evalOp_inv {x : XOp} {ρ : Operand → Value} {A A' : H} {v : Value} (h : evalOp x ρ A = some (v, A')) : evalOp0 x ρ A = some (v, A') ∨ (evalOp0 x ρ A = none ∧ A' = A ∧ ∃ k xs, keyT x = some (k, xs) ∧ Kn.told k (xs.map ρ) = some v) := by
  unfold evalOp at h
  split at h
  · rename_i r hr; cases h; exact .inl hr
  · rename_i h0
    rw [Option.map_eq_some_iff] at h
    obtain ⟨v1, h1, h2⟩ := h
    cases h2
    refine .inr ⟨h0, rfl, ?_⟩
    unfold toldOp at h1
    split at h1
    · rename_i k xs hk; exact ⟨k, xs, hk, h1⟩
    · cases h1
theorem evalOp_told {x : XOp} {ρ : Operand → Value} {A : H} {v : Value} {k : TKey} {xs : List Operand} (h0 : evalOp0 x ρ A = none) (hk : keyT x = some (k, xs)) (h : Kn.told k (xs.map ρ) = some v) : evalOp x ρ A = some (v, A) := by
  unfold evalOp
  rw [h0]
  simp only [toldOp, hk, h, Option.map_some]
theorem int_plain {v : Value} {n : Int} {k : IntKind} (h : v = .int k n) : intV v = some n := by subst h; rfl
/-- Of known values an operation comes to what is told. -/
theorem evalOp_ans {x : XOp} {k : TKey} {xs : List Operand} {ρ : Operand → Value} {v : Value} (hk : keyT x = some (k, xs)) (h : ansOf k (xs.map ρ) = some v) : evalOp0 x ρ A = some (v, A) := by
  cases x <;> first | (cases hk; done) | skip
  case bin op d x y =>
    cases hk
    simp only [List.map_cons, List.map_nil] at h
    simp only [evalOp0]
    revert h
    generalize ρ x = a; generalize ρ y = b
    intro h
    have e : binA op d a b = some v := by
      cases a <;> cases b <;> first | (cases op <;> cases h; done) | skip
      · cases op <;> exact h
      · cases op <;> first | exact h | (cases h; done)
    rw [e]; rfl
  case toInt kd x =>
    cases hk
    simp only [List.map_cons, List.map_nil] at h
    simp only [evalOp0]
    revert h
    generalize ρ x = a
    intro h
    cases a <;> first | (cases h; done) | skip
    cases h; rfl
  case index arr x i =>
    cases arr with
    | some q => cases hk
    | none =>
      cases hk
      simp only [List.map_cons, List.map_nil] at h
      simp only [evalOp0]
      revert h
      generalize ρ x = a; generalize ρ i = b
      intro h
      cases a <;> cases b <;> first | (cases h; done) | skip
      simp only [ansOf] at h
      simp only [intV]
      split at h
      · rename_i h0
        rw [if_pos h0]
        rw [Option.map_eq_some_iff] at h ⊢
        obtain ⟨c, hc, rfl⟩ := h
        exact ⟨_, hc, rfl⟩
      · cases h
  case sliceStr x lo hi =>
    cases hk
    simp only [evalOp0]
    cases lo <;> cases hi <;> simp only [List.map_cons, List.map_nil, Option.isSome_none, Option.isSome_some, Option.toList_none, Option.toList_some, List.append_nil, List.nil_append, List.cons_append] at h ⊢ <;> revert h <;> generalize ρ x = a <;> intro h <;> cases a <;> first | (cases h; done) | skip
    all_goals
      simp only [ansOf, subA, Option.bind_eq_some_iff, Option.map_eq_some_iff] at h
      obtain ⟨q, hq, r, hr, rfl⟩ := h
      simp only [Option.map_none, Option.map_some, hq, hr, Option.bind_some]
  case lenStr x =>
    cases hk
    simp only [List.map_cons, List.map_nil] at h
    simp only [evalOp0]
    revert h
    generalize ρ x = a
    intro h
    cases a <;> first | (cases h; done) | skip
    cases h; rfl
  case minmax mx xs =>
    cases hk
    simp only [evalOp0]
    revert h
    generalize xs.map ρ = l
    intro h
    cases l with
    | nil => cases h
    | cons a r =>
      cases a <;> first | (cases h; done) | skip
      simp only [ansOf, Option.map_eq_some_iff] at h
      obtain ⟨n, hn, rfl⟩ := h
      simp only [hn, Option.map_some]
def resV : Value → Bool
  | .int _ _ | .string _ | .bool _ => true
  | _ => false
theorem res_same {v v' : Value} (h : resV v = true) (hv : VRel σ v v') : v' = v := by
  cases v <;> first | (cases h; done) | (cases hv; rfl)
theorem intA_res {op : BinOp} {k : IntKind} {a b : Int} {v : Value} (h : intA op k a b = some v) : resV v = true := by
  cases op <;> simp only [intA, bitsA, cmpA] at h <;> (try split at h) <;> cases h <;> rfl
theorem strA_res {op : BinOp} {a b : ByteArray} {v : Value} (h : strA op a b = some v) : resV v = true := by
  cases op <;> simp only [strA] at h <;> (try (cases hb : Nat.ble ((bytesOf a).length + (bytesOf b).length) 9223372036854775807 <;> rw [hb] at h)) <;> cases h <;> rfl
theorem shiftA_res {l : Bool} {k : IntKind} {a b : Int} {v : Value} (h : shiftA l k a b = some v) : resV v = true := by
  unfold shiftA at h
  split at h
  · cases h
  · cases l <;> cases h <;> rfl
theorem subA_res {s : ByteArray} {lo hi : Option Value} {v : Value} (h : subA s lo hi = some v) : resV v = true := by
  simp only [subA, Option.bind_eq_some_iff, Option.map_eq_some_iff] at h
  obtain ⟨_, _, _, _, rfl⟩ := h
  rfl
theorem ansOf_res {k : TKey} {l : List Value} {v : Value} (h : ansOf k l = some v) : resV v = true := by
  unfold ansOf at h
  split at h
  · exact shiftA_res h
  · exact shiftA_res h
  · split at h
    · exact intA_res h
    · cases h
  · exact strA_res h
  · cases h; rfl
  · exact subA_res h
  · exact subA_res h
  · exact subA_res h
  · exact subA_res h
  · cases h; rfl
  · split at h
    · rw [Option.map_eq_some_iff] at h; obtain ⟨_, _, rfl⟩ := h; rfl
    · cases h
  · rw [Option.map_eq_some_iff] at h; obtain ⟨_, _, rfl⟩ := h; rfl
  · cases h
theorem keyT_operands {o : Oper} {x : XOp} (hc : compOp P o = some x) {k : TKey} {xs : List Operand} (hk : keyT x = some (k, xs)) : ∀ y ∈ xs, y ∈ o.op.operands := by
  obtain ⟨dst, op, type, pos, after, guard⟩ := o
  cases op with
  | call c =>
    obtain ⟨callee, args, argTypes⟩ := c
    have hin : ∀ y ∈ args.toList, y ∈ (Op.call ⟨callee, args, argTypes⟩).operands := fun y hy => by
      simp only [Op.operands, Call.operands]; exact Array.mem_append.2 (.inr (Array.mem_toList_iff.1 hy))
    simp only [compOp, compCall] at hc
    cases callee with
    | invoke r m => simp only [Option.some.injEq] at hc; subst hc; cases hk
    | value f =>
      cases f with
      | func f =>
        simp only at hc
        split at hc
        · split at hc
          · cases hc; cases hk
          · split at hc
            · split at hc <;> cases hc; cases hk
            · cases hc
        · cases hc
      | tmp t => simp only [Option.some.injEq] at hc; subst hc; cases hk
      | _ => cases hc
    | builtin b =>
      simp only [compBuiltin] at hc
      cases b with
      | len =>
        simp only at hc
        split at hc
        case h_2 => cases hc
        rename_i t x0 h0 hx0
        split at hc
        · cases hc; cases hk; intro y hy; refine hin y ?_; rw [hx0]; exact hy
        · cases hc; cases hk
        · cases hc; cases hk
        · split at hc <;> cases hc; cases hk
        · cases hc
      | append =>
        simp only at hc
        split at hc
        · split at hc
          all_goals first | (cases hc; done) | (simp only [Option.bind_eq_some_iff, Option.map_eq_some_iff] at hc; obtain ⟨_, _, _, _, rfl⟩ := hc; cases hk)
        · cases hc
      | copy =>
        simp only at hc
        split at hc
        · split at hc
          all_goals first | (cases hc; done) | (simp only [Option.map_eq_some_iff] at hc; obtain ⟨_, _, rfl⟩ := hc; cases hk)
        · cases hc
      | clear =>
        simp only at hc
        split at hc
        · split at hc
          all_goals first | (cases hc; done) | (simp only [Option.map_eq_some_iff] at hc; obtain ⟨_, _, rfl⟩ := hc; cases hk)
        · cases hc
      | delete =>
        simp only at hc
        split at hc
        · split at hc
          all_goals first | (cases hc; done) | (simp only [Option.map_eq_some_iff] at hc; obtain ⟨_, _, rfl⟩ := hc; cases hk)
        · cases hc
      | min => cases hc; cases hk; exact hin
      | max => cases hc; cases hk; exact hin
      | _ => cases hc
  | move y => simp only [compOp, Option.some.injEq] at hc; subst hc; cases hk
  | assign y => simp only [compOp, Option.some.injEq] at hc; subst hc; cases hk
  | pick c a b => simp only [compOp, Option.some.injEq] at hc; subst hc; cases hk
  | build t ps =>
    simp only [compOp, Option.bind_eq_some_iff] at hc
    obtain ⟨_, _, hc⟩ := hc
    split at hc <;> first | (cases hc; done) | (rw [Option.map_eq_some_iff] at hc; obtain ⟨_, _, rfl⟩ := hc; cases hk)
  | load t a => simp only [compOp, Option.bind_eq_some_iff, Option.map_eq_some_iff] at hc; obtain ⟨_, _, _, _, rfl⟩ := hc; cases hk
  | nilCheck y => simp only [compOp, Option.some.injEq] at hc; subst hc; cases hk
  | typeAssert x xt t ok =>
    simp only [compOp] at hc
    cases ok with
    | false => cases hc
    | true =>
      simp only [cond_true, Option.bind_eq_some_iff] at hc
      obtain ⟨z, _, hc⟩ := hc
      cases hb : (cellsL z).all flat1 with
      | false => rw [hb] at hc; cases hc
      | true => rw [hb] at hc; simp only [cond_true, Option.map_eq_some_iff] at hc; obtain ⟨d, _, hc⟩ := hc; split at hc <;> (subst hc; cases hk)
  | unOp op xt x => simp only [compOp, Option.some.injEq] at hc; subst hc; cases hk
  | makeInterface t x => simp only [compOp] at hc; split at hc <;> cases hc; cases hk
  | makeFunc fn first cap => simp only [compOp] at hc; cases hc; cases hk
  | fieldAddr s x f =>
    simp only [compOp] at hc
    split at hc
    · simp only [Option.bind_eq_some_iff] at hc
      obtain ⟨_, _, _, _, hc⟩ := hc
      split at hc <;> cases hc; cases hk
    · cases hc
  | field t x f =>
    simp only [compOp] at hc
    split at hc
    · simp only [Option.bind_eq_some_iff, Option.map_eq_some_iff] at hc
      obtain ⟨_, _, _, _, _, _, rfl⟩ := hc; cases hk
    · cases hc
  | indexAddr t x i =>
    simp only [compOp] at hc
    split at hc <;> first | (cases hc; done) | (rw [Option.map_eq_some_iff] at hc; obtain ⟨_, _, rfl⟩ := hc; cases hk)
  | lookup t m k ok =>
    simp only [compOp] at hc
    split at hc
    · simp only [Option.bind_eq_some_iff] at hc
      obtain ⟨d, _, z, _, hc⟩ := hc
      cases hb : (cellsL z).all flat1 <;> rw [hb] at hc <;> cases hc; cases hk
    · cases hc
  | extract x i => simp only [compOp, Option.some.injEq] at hc; subst hc; cases hk
  | makeMap t r => simp only [compOp] at hc; split at hc <;> cases hc; cases hk
  | alloc e => simp only [compOp, Option.map_eq_some_iff] at hc; obtain ⟨z, _, rfl⟩ := hc; cases hk
  | box e y => simp only [compOp, Option.map_eq_some_iff] at hc; obtain ⟨_, _, rfl⟩ := hc; cases hk
  | buildSlice t n ps =>
    simp only [compOp] at hc
    split at hc
    · simp only [Option.bind_eq_some_iff, Option.map_eq_some_iff] at hc; obtain ⟨_, _, _, _, _, _, rfl⟩ := hc; cases hk
    · cases hc
  | makeSlice t l c =>
    simp only [compOp] at hc
    split at hc
    · simp only [Option.bind_eq_some_iff, Option.map_eq_some_iff] at hc; obtain ⟨_, _, _, _, rfl⟩ := hc; cases hk
    · cases hc
  | range t x => simp only [compOp] at hc; split at hc <;> cases hc; cases hk
  | store t a x => simp only [compOp, Option.map_eq_some_iff] at hc; obtain ⟨z, _, rfl⟩ := hc; cases hk
  | mapUpdate t m k x =>
    simp only [compOp] at hc
    split at hc
    · simp only [Option.map_eq_some_iff] at hc; obtain ⟨d, _, rfl⟩ := hc; cases hk
    · cases hc
  | insert t m k x =>
    simp only [compOp] at hc
    split at hc
    · simp only [Option.map_eq_some_iff] at hc; obtain ⟨d, _, rfl⟩ := hc; cases hk
    · cases hc
  | next x b => simp only [compOp] at hc; cases b <;> cases hc; cases hk
  | binOp op xt x y yt =>
    simp only [compOp, Option.bind_eq_some_iff] at hc
    obtain ⟨d, _, hc⟩ := hc
    unfold compBin at hc
    split at hc
    · cases hb : isNilC y <;> rw [hb] at hc <;> cases hc; cases hk
    · cases hb : isNilC y <;> rw [hb] at hc <;> cases hc; cases hk
    · split at hc
      · cases hb : P.eqGuardType P.depth xt <;> rw [hb] at hc <;> cases hc; cases hk
      · cases hc
    · split at hc
      · cases hb : P.eqGuardType P.depth xt <;> rw [hb] at hc <;> cases hc; cases hk
      · cases hc
    · cases hc; cases hk; intro y hy; simpa [Op.operands] using hy
  | convert s d x =>
    simp only [compOp] at hc
    split at hc
    · cases hc; cases hk; intro y hy; simpa [Op.operands] using hy
    · cases hc; cases hk
    · rename_i e _ _
      split at hc
      · cases hb : (sizeA P e == some 1) <;> rw [hb] at hc <;> cases hc; cases hk
      · cases hc
    · split at hc <;> cases hc; cases hk
    · rw [Option.bind_eq_some_iff] at hc; obtain ⟨_, _, hc⟩ := hc; split at hc <;> cases hc; cases hk
    · cases hc
  | index t x i =>
    simp only [compOp] at hc
    split at hc
    · simp only [Option.bind_eq_some_iff, Option.map_eq_some_iff] at hc
      obtain ⟨_, _, _, _, rfl⟩ := hc; cases hk
    · cases hc; cases hk; intro y hy; simpa [Op.operands] using hy
    · cases hc
  | slice t x lo hi mx =>
    simp only [compOp] at hc
    split at hc
    · split at hc <;> cases hc; cases hk; intro y hy; cases lo <;> cases hi <;> simp_all [Op.operands]
    · cases hb : (mx.isSome && hi.isNone) <;> rw [hb] at hc
      · simp only [cond_false, Option.map_eq_some_iff] at hc; obtain ⟨_, _, rfl⟩ := hc; cases hk
      · cases hc
    · cases hb : (mx.isSome && hi.isNone) <;> rw [hb] at hc
      · simp only [cond_false, Option.map_eq_some_iff] at hc; obtain ⟨_, _, rfl⟩ := hc; cases hk
      · cases hc
    · cases hc
  | _ => simp [compOp] at hc
open Classical in
theorem told_sound {o : Oper} {x : XOp} (hc : compOp P o = some x) {ρA ρC : Operand → Value} (hρ : ∀ y ∈ o.op.operands, VRel σ (ρA y) (ρC y)) (hr : Rel P σ A w) {v : Value} {k : TKey} {xs : List Operand} (hk : keyT x = some (k, xs)) (h : Kn.told k (xs.map ρA) = some v) : YieldsTo P σ w (execOp ρC o) v := by
  have hops := keyT_operands hc hk
  obtain ⟨hp, v0, h0, h1⟩ := KnOk.told _ _ _ h σ (xs.map ρC) (LRel.map _ _ _ fun y hy => hρ y (hops y hy))
  have he : evalOp0 x (fun y => if y ∈ xs then ρC y else ρA y) A = some (v0, A) := evalOp_ans hk (by
    rw [show xs.map (fun y => if y ∈ xs then ρC y else ρA y) = xs.map ρC from List.map_congr_left fun y hy => if_pos hy]; exact h0)
  obtain ⟨_, v1, k1, k2⟩ := light_sound0 hc (keyT_light hk) (ρA := fun y => if y ∈ xs then ρC y else ρA y) (fun y hy => by
    show VRel σ (if y ∈ xs then ρC y else ρA y) (ρC y)
    split
    · rename_i hm; exact (plain_flat (hp _ (List.mem_map.2 ⟨y, hm, rfl⟩))).vrel
    · exact hρ y hy) hr he
  have e := res_same (ansOf_res h0) k2
  subst e
  exact ⟨_, k1, h1⟩
/-! ### The operations, with what is told -/
theorem light_sound {o : Oper} {x : XOp} (hc : compOp P o = some x) (hl : light x = true) {ρA ρC : Operand → Value} (hρ : ∀ y ∈ o.op.operands, VRel σ (ρA y) (ρC y)) (hr : Rel P σ A w) {v : Value} {A' : H}
    (h : evalOp x ρA A = some (v, A')) : A' = A ∧ YieldsTo P σ w (execOp ρC o) v := by
  rcases evalOp_inv h with h | ⟨_, rfl, k, xs, hk, ht⟩
  · exact light_sound0 hc hl hρ hr h
  · exact ⟨rfl, told_sound hc hρ hr hk ht⟩
theorem evalOp_make {x : XOp} (hm : light x = false) {ρ : Operand → Value} {A : H} : evalOp x ρ A = evalOp0 x ρ A := by
  unfold evalOp
  cases h : evalOp0 x ρ A with
  | some r => rfl
  | none =>
    simp only [toldOp]
    cases hk : keyT x with
    | none => rfl
    | some q => obtain ⟨k, xs⟩ := q; rw [keyT_light hk] at hm; cases hm
theorem make_light {x : XOp} (hm : make x = true) : light x = false := by cases x <;> first | rfl | cases hm
theorem heavy_light {x : XOp} (hm : heavy x = true) : light x = false := by cases x <;> first | rfl | cases hm
theorem make_sound {o : Oper} {x : XOp} (hc : compOp P o = some x) (hm : make x = true) {ρA ρC : Operand → Value} (hρ : ∀ y ∈ o.op.operands, VRel σ (ρA y) (ρC y)) {A : H} {v : Value} {A' : H}
    (h : evalOp x ρA A = some (v, A')) : ∃ mk ob, Makes P σ (execOp ρC o) mk ob ∧ ∀ B, evalOp x ρA B = some (mk B.next, B.push ob) := by
  rw [evalOp_make (make_light hm)] at h
  obtain ⟨mk, ob, h1, h2⟩ := make_sound0 hc hm hρ h
  exact ⟨mk, ob, h1, fun B => evalOp_some (h2 B)⟩
theorem heavy_sound (hx : Ext P) {o : Oper} {x : XOp} (hc : compOp P o = some x) (hh : heavy x = true) {ρA ρC : Operand → Value} (hρ : ∀ y ∈ o.op.operands, VRel σ (ρA y) (ρC y)) (hfun : ∀ f, ρC (.func f) = .func (.func f) #[] #[]) (hr : Rel P σ A w) {v : Value} {A' : H}
    (h : evalOp x ρA A = some (v, A')) : Does P σ A w (execOp ρC o) v A' := by
  rw [evalOp_make (heavy_light hh)] at h
  exact heavy_sound0 hx hc hh hρ hfun hr h
end Go.Ab
namespace Go.Ab
open Go Go.RowKit
variable [Unk] [Kn] [KnOk]
section
variable {P : Program}

theorem blt_lt {a b : Nat} (h : Nat.blt a b = true) : a < b := Nat.le_of_ble_eq_true h
/-- What a call of a function comes to. -/
def CPost (P : Program) (σ : Sg) (A : H) (w : World) (r : Value) (A' : H) : Ending → World → Prop := fun e w' => ∃ rc σ', e = .returned rc ∧ VRel σ' r rc ∧ Rel P σ' A' w' ∧ Fr σ A w σ' A' w'
/-- A function that can be entered. -/
def Enters (P : Program) (f : FuncId) : Prop := ∃ fn, P.funcs[f]? = some fn ∧ fn.body.isSome = true ∧ fn.name ≠ "runtime.NumGoroutine"
structure CallOk (P : Program) (call : Caller) : Prop where
  enters : ∀ f args A r A', call f args A = some (r, A') → Enters P f
  calls : ∀ f args A r A', call f args A = some (r, A') → ∀ σ w argsc, Rel P σ A w → LRel σ args argsc → Calls P f argsc.toArray w (CPost P σ A w r A')

structure TRel (σ : Sg) (n : Nat) (t : Tm) (a : Act) : Prop where
  size : a.tmps.size = n
  rel : ∀ i, i < n → VRel σ (val t (.tmp i)) (a.eval (.tmp i))

theorem TRel.mono {σ τ : Sg} {n : Nat} {t : Tm} {a : Act} (hl : σ.le τ) (h : TRel σ n t a) : TRel τ n t a := ⟨h.size, fun i hi => (h.rel i hi).mono hl⟩
theorem val_setT (t : Tm) (d : Option Tmp) (v : Value) (i : Nat) : val (setT t d v) (.tmp i) = if d = some i then v else val t (.tmp i) := by
  cases d with
  | none => simp [setT]
  | some d =>
    simp only [setT, val, Tr.get_put]
    by_cases e : i = d
    · subst e; simp
    · rw [if_neg e, if_neg (by intro h; cases h; exact e rfl)]
theorem eval_put (a : Act) (d : Option Tmp) (v : Value) (i : Nat) (hd : ∀ x, d = some x → x < a.tmps.size) : (a.put d v).eval (.tmp i) = if d = some i then v else a.eval (.tmp i) := by
  cases d with
  | none => simp [Act.put]
  | some d =>
    have := hd d rfl
    simp only [Act.put, Act.eval]
    by_cases e : d = i
    · subst e; simp [this]
    · rw [if_neg (by intro h; cases h; exact e rfl)]
      simp [Array.getElem?_setIfInBounds_ne e]
theorem TRel.put {σ : Sg} {n : Nat} {t : Tm} {a : Act} {d : Option Tmp} {v v' : Value} (h : TRel σ n t a) (hd : okDst n d = true) (hv : VRel σ v v') : TRel σ n (setT t d v) (a.put d v') := by
  have hb : ∀ x, d = some x → x < a.tmps.size := fun x hx => by subst hx; rw [h.size]; exact blt_lt hd
  refine ⟨by cases d <;> simp [Act.put, h.size], fun i hi => ?_⟩
  rw [val_setT, eval_put a d v' i hb]
  split
  · exact hv
  · exact h.rel i hi
theorem undef_rel {σ : Sg} : VRel σ (.tuple #[]) undef := .tuple #[] #[] rfl (fun i v v' h => by simp at h)

theorem operand_rel {σ : Sg} {A : H} {w : World} {n : Nat} {t : Tm} {a : Act} {x : Operand} (hr : Rel P σ A w) (hx : okOperand P n x = true) (h : ∀ i, x = .tmp i → VRel σ (val t (.tmp i)) (a.eval (.tmp i))) : VRel σ (val t x) (a.eval x) := by
  cases x with
  | tmp i => exact h i rfl
  | const v => exact (flat_cells hx).vrel
  | global g =>
    have hg : g < P.globals.size := blt_lt hx
    obtain ⟨p, h1, h2, h3⟩ := hr.glob g hg
    have := VRel.ptr (σ := σ) 0 h1
    rw [h2, h3] at this
    exact this
  | func f => exact .func _ _ _ _ _ rfl rfl (fun i v v' h => by simp at h) (fun i v v' h => by simp at h)
theorem TRel.operand {σ : Sg} {A : H} {w : World} {n : Nat} {t : Tm} {a : Act} {x : Operand} (hr : Rel P σ A w) (hx : okOperand P n x = true) (h : TRel σ n t a) : VRel σ (val t x) (a.eval x) :=
  operand_rel hr hx fun i e => by subst e; exact h.rel i (blt_lt hx)

/-- A well-made operation. -/
structure Made (P : Program) (nt : Nat) (ops : Array Oper) (o : Oper) (x : XOper) : Prop where
  op : compOp P o = some x.op
  dst : x.dst = o.dst
  guard : compGuard ops o.guard = some x.guard
  operands : ∀ y ∈ o.op.operands, okOperand P nt y = true
  okd : okDst nt o.dst = true
  okg : ∀ d w, x.guard = some (d, w) → d < nt
theorem compOper_made {nt : Nat} {ops : Array Oper} {o : Oper} : Made P nt ops o (compOper P nt ops o) ∨ ∃ s, (compOper P nt ops o).op = .bad s ∧ (compOper P nt ops o).guard = none := by
  unfold compOper
  split
  · rename_i x g hx hg
    cases hb : (o.op.operands.toList.all (okOperand P nt) && okDst nt o.dst && okDst nt (g.map (·.1))) with
    | false => exact .inr ⟨_, rfl, rfl⟩
    | true =>
      rw [Bool.and_eq_true, Bool.and_eq_true] at hb
      obtain ⟨⟨h1, h2⟩, h3⟩ := hb
      refine .inl ⟨hx, rfl, hg, fun y hy => ?_, h2, fun d w e => ?_⟩
      · rw [List.all_eq_true] at h1
        exact h1 y (by simpa using hy)
      · simp only [cond_true] at e
        subst e
        exact blt_lt h3
  · exact .inr ⟨_, rfl, rfl⟩
theorem evalOne_bad {call : Caller} {x : XOper} {s : String} {t : Tm} {A : H} (h : x.op = .bad s) (hg : x.guard = none) : evalOne call x t A = none := by
  simp [evalOne, hg, wantedA, h, runOp, evalOp, evalOp0, toldOp, keyT]

theorem wanted_eq {nt : Nat} {ops : Array Oper} {o : Oper} {x : XOper} (hm : Made P nt ops o x) {σ : Sg} {t : Tm} {a : Act} (hsz : a.tmps.size = nt) (h : ∀ d w, x.guard = some (d, w) → VRel σ (val t (.tmp d)) (a.eval (.tmp d))) :
    Region.wanted o (yielded ops a.tmps) = wantedA t x.guard := by
  have hg := hm.guard
  unfold Region.wanted
  cases ho : o.guard with
  | none =>
    rw [ho] at hg
    simp only [compGuard, Option.some.injEq] at hg
    rw [← hg]
    rfl
  | some jw =>
    obtain ⟨j, wv⟩ := jw
    rw [ho] at hg
    simp only [compGuard, Option.map_eq_some_iff] at hg
    obtain ⟨d, hd, hgx⟩ := hg
    have hlt := hm.okg d wv hgx.symm
    have hv := h d wv hgx.symm
    rw [← hgx]
    simp only [wantedA, yielded, hd, Option.bind_some]
    have he : a.tmps[d]? = some (a.eval (.tmp d)) := by
      simp [Act.eval, hsz, hlt]
    rw [he]
    generalize a.eval (.tmp d) = v' at hv
    generalize val t (.tmp d) = v at hv
    cases hv
    case unk i =>
      have hn := Unk.nob i
      cases hu : Unk.val i <;> first | (exact absurd hu (hn _)) | simp
    case any h hb => cases v' <;> first | (exact absurd rfl (hb _)) | simp
    all_goals simp

theorem comp_kind {o : Oper} {x : XOp} (hc : compOp P o = some x) : (∃ c, o.op = .call c) ∨ light x = true ∨ make x = true ∨ heavy x = true := by
  obtain ⟨dst, op, type, pos, after, guard⟩ := o
  cases op with
  | call c => exact .inl ⟨c, rfl⟩
  | move y => simp only [compOp, Option.some.injEq] at hc; subst hc; exact .inr (.inl rfl)
  | assign y => simp only [compOp, Option.some.injEq] at hc; subst hc; exact .inr (.inl rfl)
  | pick c a b => simp only [compOp, Option.some.injEq] at hc; subst hc; exact .inr (.inl rfl)
  | build t ps =>
    simp only [compOp, Option.bind_eq_some_iff] at hc
    obtain ⟨_, _, hc⟩ := hc
    split at hc <;> first | (cases hc; done) | (rw [Option.map_eq_some_iff] at hc; obtain ⟨_, _, rfl⟩ := hc; exact .inr (.inl rfl))
  | load t a => simp only [compOp, Option.bind_eq_some_iff, Option.map_eq_some_iff] at hc; obtain ⟨_, _, _, _, rfl⟩ := hc; exact .inr (.inl rfl)
  | nilCheck y => simp only [compOp, Option.some.injEq] at hc; subst hc; exact .inr (.inl rfl)
  | binOp op xt x y yt => simp only [compOp, Option.bind_eq_some_iff] at hc; obtain ⟨_, _, hc⟩ := hc; exact .inr (.inl (compBin_light hc))
  | typeAssert x xt t ok =>
    simp only [compOp] at hc
    cases ok with
    | false => cases hc
    | true =>
      simp only [cond_true, Option.bind_eq_some_iff] at hc
      obtain ⟨z, _, hc⟩ := hc
      cases hb : (cellsL z).all flat1 with
      | false => rw [hb] at hc; cases hc
      | true => rw [hb] at hc; simp only [cond_true, Option.map_eq_some_iff] at hc; obtain ⟨d, _, hc⟩ := hc; split at hc <;> (subst hc; exact .inr (.inl rfl))
  | unOp op xt x => simp only [compOp, Option.some.injEq] at hc; subst hc; exact .inr (.inl rfl)
  | convert s d x =>
    simp only [compOp] at hc
    split at hc
    · cases hc; exact .inr (.inl rfl)
    · cases hc; exact .inr (.inl rfl)
    · rename_i e _ _
      split at hc
      · cases hb : (sizeA P e == some 1) <;> rw [hb] at hc <;> cases hc; exact .inr (.inr (.inl rfl))
      · cases hc
    · split at hc <;> cases hc; exact .inr (.inl rfl)
    · rw [Option.bind_eq_some_iff] at hc; obtain ⟨_, _, hc⟩ := hc; split at hc <;> cases hc; exact .inr (.inl rfl)
    · cases hc
  | makeInterface t x => simp only [compOp] at hc; split at hc <;> cases hc; exact .inr (.inl rfl)
  | makeFunc fn first cap => simp only [compOp] at hc; cases hc; exact .inr (.inl rfl)
  | slice t x lo hi mx =>
    simp only [compOp] at hc
    split at hc
    · split at hc <;> cases hc; exact .inr (.inl rfl)
    · cases hb : (mx.isSome && hi.isNone) <;> rw [hb] at hc
      · simp only [cond_false, Option.map_eq_some_iff] at hc; obtain ⟨_, _, rfl⟩ := hc; exact .inr (.inl rfl)
      · cases hc
    · cases hb : (mx.isSome && hi.isNone) <;> rw [hb] at hc
      · simp only [cond_false, Option.map_eq_some_iff] at hc; obtain ⟨_, _, rfl⟩ := hc; exact .inr (.inl rfl)
      · cases hc
    · cases hc
  | fieldAddr s x f =>
    simp only [compOp] at hc
    split at hc
    · simp only [Option.bind_eq_some_iff] at hc
      obtain ⟨_, _, _, _, hc⟩ := hc
      split at hc <;> cases hc; exact .inr (.inl rfl)
    · cases hc
  | field t x f =>
    simp only [compOp] at hc
    split at hc
    · simp only [Option.bind_eq_some_iff, Option.map_eq_some_iff] at hc
      obtain ⟨_, _, _, _, _, _, rfl⟩ := hc; exact .inr (.inl rfl)
    · cases hc
  | indexAddr t x i =>
    simp only [compOp] at hc
    split at hc <;> first | (cases hc; done) | (rw [Option.map_eq_some_iff] at hc; obtain ⟨_, _, rfl⟩ := hc; exact .inr (.inl rfl))
  | index t x i =>
    simp only [compOp] at hc
    split at hc
    · simp only [Option.bind_eq_some_iff, Option.map_eq_some_iff] at hc
      obtain ⟨_, _, _, _, rfl⟩ := hc; exact .inr (.inl rfl)
    · cases hc; exact .inr (.inl rfl)
    · cases hc
  | lookup t m k ok =>
    simp only [compOp] at hc
    split at hc
    · simp only [Option.bind_eq_some_iff] at hc
      obtain ⟨d, _, z, _, hc⟩ := hc
      cases hb : (cellsL z).all flat1 <;> rw [hb] at hc <;> cases hc; exact .inr (.inl rfl)
    · cases hc
  | extract x i => simp only [compOp, Option.some.injEq] at hc; subst hc; exact .inr (.inl rfl)
  | makeMap t r => simp only [compOp] at hc; split at hc <;> cases hc; exact .inr (.inr (.inl rfl))
  | alloc e => simp only [compOp, Option.map_eq_some_iff] at hc; obtain ⟨z, _, rfl⟩ := hc; exact .inr (.inr (.inl rfl))
  | box e y => simp only [compOp, Option.map_eq_some_iff] at hc; obtain ⟨_, _, rfl⟩ := hc; exact .inr (.inr (.inl rfl))
  | buildSlice t n ps =>
    simp only [compOp] at hc
    split at hc
    · simp only [Option.bind_eq_some_iff, Option.map_eq_some_iff] at hc; obtain ⟨_, _, _, _, _, _, rfl⟩ := hc; exact .inr (.inr (.inl rfl))
    · cases hc
  | makeSlice t l c =>
    simp only [compOp] at hc
    split at hc
    · simp only [Option.bind_eq_some_iff, Option.map_eq_some_iff] at hc; obtain ⟨_, _, _, _, rfl⟩ := hc; exact .inr (.inr (.inl rfl))
    · cases hc
  | range t x => simp only [compOp] at hc; split at hc <;> cases hc; exact .inr (.inr (.inl rfl))
  | store t a x => simp only [compOp, Option.map_eq_some_iff] at hc; obtain ⟨z, _, rfl⟩ := hc; exact .inr (.inr (.inr rfl))
  | mapUpdate t m k x =>
    simp only [compOp] at hc
    split at hc
    · simp only [Option.map_eq_some_iff] at hc; obtain ⟨d, _, rfl⟩ := hc; exact .inr (.inr (.inr rfl))
    · cases hc
  | insert t m k x =>
    simp only [compOp] at hc
    split at hc
    · simp only [Option.map_eq_some_iff] at hc; obtain ⟨d, _, rfl⟩ := hc; exact .inr (.inr (.inr rfl))
    · cases hc
  | next x b => simp only [compOp] at hc; cases b <;> cases hc; exact .inr (.inr (.inr rfl))
  | _ => simp [compOp] at hc

/-- What an operation comes to, a call too: the interpreter's answer, in whatever goes on from it. -/
theorem run_method {t : TypeId} {name : String} {f : FuncId} (h : methodOf P name t = some f) (v : Value) (w : World) : (method (P.types.size + Made.depth) t v name).run P w = .ok (f, v) w := by
  have hd : P.types.size + Made.depth = (P.types.size + Made.depth - 1) + 1 := by have : 0 < Made.depth := by decide
                                                                                  omega
  unfold methodOf at h
  rw [Option.bind_eq_some_iff] at h
  obtain ⟨i, hi, h⟩ := h
  rw [Option.bind_eq_some_iff] at h
  obtain ⟨m, hm, h⟩ := h
  rw [hd]
  split at h
  · rename_i f' e hp hf hu
    cases h
    simp [method, typeInfo, hi, hm, hp, follow, hf, receiverAt, run_underlying hu, Place.get]
  · rename_i f' fs hp hf hu
    cases h
    simp [method, typeInfo, hi, hm, hp, follow, hf, receiverAt, run_underlying hu, Place.get]
  · rename_i f' k hp hf hu
    cases h
    simp [method, typeInfo, hi, hm, hp, follow, hf, receiverAt, run_underlying hu, Place.get]
  · cases h
theorem runOp_sound (hx : Ext P) {call : Caller} (hcall : CallOk P call) {o : Oper} {x : XOp} (hc : compOp P o = some x) {σ : Sg} {t : Tm} {a : Act} {A : H} {w : World} (hr : Rel P σ A w) (hρ : ∀ y ∈ o.op.operands, VRel σ (val t y) (a.eval y))
    {v : Value} {A' : H} (h : runOp call x t A = some (v, A')) {K : Act → World → Prop} {Q : Exit → Act → World → Prop}
    (hk : ∀ v' w' σ', VRel σ' v v' → Rel P σ' A' w' → Fr σ A w σ' A' w' → K (a.put o.dst v') w') : o.wp P a w K Q := by
  have plain : ∀ {x : XOp}, (light x = true ∨ make x = true ∨ heavy x = true) → runOp call x t A = evalOp x (val t) A := by
    intro x h
    cases x <;> first | rfl | (simp [light, make, heavy] at h)
  have noncall : (light x = true ∨ make x = true ∨ heavy x = true) → o.wp P a w K Q := by
    intro hkind
    rw [plain hkind] at h
    rcases hkind with hl | hm | hh
    · obtain ⟨rfl, v', h1, h2⟩ := light_sound hc hl hρ hr h
      unfold Oper.wp
      rw [h1]
      exact hk v' w σ h2 hr (Fr.refl _ _ _)
    · obtain ⟨mk, ob, h1, h2⟩ := make_sound hc hm hρ h
      have h3 := h2 A
      rw [h] at h3
      cases h3
      obtain ⟨v', w', p, k1, k2, k3, k4⟩ := h1.run w
      have hn := (hr.dom A.next (Nat.le_refl _)).2
      obtain ⟨k5, k6⟩ := k4 (σ.add A.next p) A.next (Sg.le_add p hn) (Sg.add_same _ _ _)
      unfold Oper.wp
      rw [k1]
      exact hk v' w' _ k5 (Rel.place hr k2.size k2.old k3 k6 h1.own) (Fr.place hr k2.size k2.old k2.os k2.tape k2.output k3)
    · obtain ⟨n, v', w', σ', k1, k2, k3, k4, k5⟩ := (heavy_sound hx hc hh hρ (fun f => rfl) hr h).out
      unfold Oper.wp
      rw [k1]
      rcases k2 with rfl | ⟨rfl, rfl⟩
      · exact hk v' w' σ' k3 k4 k5
      · exact hk undef w' σ' k3 k4 k5
  rcases comp_kind hc with ⟨c, hcc⟩ | hkind
  · obtain ⟨dst, op, type, pos, after, guard⟩ := o
    simp only at hcc
    subst hcc
    obtain ⟨callee, args, argTypes⟩ := c
    have hargs : ∀ y ∈ args.toList, VRel σ (val t y) (a.eval y) := fun y hy => hρ y (by simp only [Op.operands, Call.operands]; exact Array.mem_append.2 (.inr (Array.mem_toList_iff.1 hy)))
    have hla : LRel σ (args.toList.map (val t)) (args.toList.map a.eval) := LRel.map _ _ _ hargs
    have enter : ∀ {f : FuncId} {as : List Value} {asc : List Value}, call f as A = some (v, A') → LRel σ as asc → (execOp a.eval ⟨dst, .call ⟨callee, args, argTypes⟩, type, pos, after, guard⟩).run P w = (callFunc f asc.toArray).run P w → (⟨dst, .call ⟨callee, args, argTypes⟩, type, pos, after, guard⟩ : Oper).wp P a w K Q := by
      intro f as asc hca hls hrun
      obtain ⟨fn, hf, hb, hname⟩ := hcall.enters _ _ _ _ _ hca
      have hcf : (callFunc f asc.toArray).run P w = .ok (.enter f asc.toArray) w := by
        obtain ⟨bd, hbd⟩ := Option.isSome_iff_exists.1 hb
        simp [callFunc, hf, hname, hbd]
      unfold Oper.wp
      rw [hrun, hcf]
      simp only [Oper.upon]
      refine (hcall.calls _ _ _ _ _ hca σ w asc hr hls).mono fun e w' he => ?_
      obtain ⟨rc, σ', rfl, k1, k2, k3⟩ := he
      exact hk rc w' σ' k1 k2 k3
    simp only [compOp, compCall] at hc
    cases callee with
    | invoke r m =>
      simp only [Option.some.injEq] at hc
      subst hc
      simp only [runOp] at h
      have hrv := hρ r (by simp [Op.operands, Call.operands])
      split at h
      · rename_i f asl hfa
        revert hfa
        revert hrv
        generalize hv1 : val t r = v1; generalize hv2 : a.eval r = v2
        intro hrv hfa
        cases hrv with
        | iface ty hv =>
          simp only [calleeM, Option.map_eq_some_iff, Prod.mk.injEq] at hfa
          obtain ⟨f', hf', rfl, rfl⟩ := hfa
          refine enter h (LRel.cons hv hla) ?_
          have e1 : (execOp a.eval ⟨dst, .call ⟨.invoke r m, args, argTypes⟩, type, pos, after, guard⟩) = (do let d ← (pure { target := .fn (.method m) #[], args := #[a.eval r] ++ args.map a.eval } : Sem Deferred); invoke d.target d.args) := rfl
          rw [e1, hv2]
          simp only [Sem.run_bind, Sem.run_pure, Result.andThen_ok, invoke]
          have hex : ∀ (x : Value) (l : Array Value), (#[x] ++ l).extract 1 (#[x] ++ l).size = l := fun x l => by apply Array.ext'; simp
          have h0 : ∀ (x : Value) (l : Array Value), (#[x] ++ l)[0]? = some x := fun x l => by rw [Array.getElem?_append_left (Nat.zero_lt_succ 0)]; rfl
          rw [h0]
          simp only [hex, callMethod, Sem.run_bind, run_program, Result.andThen_ok, run_method hf']
          congr 2
          apply Array.ext'
          simp
        | _ => simp [calleeM] at hfa
      · cases h
    | value f =>
      cases f with
      | func f =>
        simp only at hc
        split at hc
        · split at hc
          · cases hc
            simp only [runOp] at h
            exact enter h hla (by
              have e1 : (execOp a.eval ⟨dst, .call ⟨.value (.func f), args, argTypes⟩, type, pos, after, guard⟩) = (do let d ← (pure { target := .fn (.func f) #[], args := #[] ++ args.map a.eval } : Sem Deferred); invoke d.target d.args) := rfl
              rw [e1]
              simp only [Sem.run_bind, Sem.run_pure, Result.andThen_ok, invoke]
              congr 2
              apply Array.ext'
              simp)
          · split at hc
            · split at hc <;> cases hc
              exact noncall (.inr (.inr rfl))
            · cases hc
        · cases hc
      | tmp s =>
        simp only [Option.some.injEq] at hc
        subst hc
        simp only [runOp] at h
        have hfv := hρ (.tmp s) (by simp [Op.operands, Call.operands])
        split at h
        · rename_i f as hfa
          revert hfa
          revert hfv
          generalize hv1 : val t (.tmp s) = v1; generalize hv2 : a.eval (.tmp s) = v2
          intro hfv hfa
          cases hfv with
          | func fn as' bs' cs ds l1 l2 h1 h2 =>
            cases fn with
            | func f' =>
              simp only [calleeA, Option.some.injEq, Prod.mk.injEq] at hfa
              obtain ⟨rfl, rfl⟩ := hfa
              refine enter h (((⟨by simpa using l1, h1⟩ : LRel σ as'.toList bs'.toList).append hla).append (⟨by simpa using l2, h2⟩ : LRel σ cs.toList ds.toList)) ?_
              have e1 : (execOp a.eval ⟨dst, .call ⟨.value (.tmp s), args, argTypes⟩, type, pos, after, guard⟩) = (do let d ← Deferred.ofValue (a.eval (.tmp s)) (args.map a.eval); invoke d.target d.args) := rfl
              rw [e1, hv2]
              simp only [Deferred.ofValue, Sem.run_bind, Sem.run_pure, Result.andThen_ok, invoke]
              congr 2
              apply Array.ext'
              simp
            | _ => simp [calleeA] at hfa
          | _ => simp [calleeA] at hfa
        · cases h
      | _ => cases hc
    | builtin b =>
      refine noncall ?_
      simp only [compBuiltin] at hc
      cases b with
      | len =>
        simp only at hc
        split at hc
        · split at hc <;> first | (cases hc; exact .inl rfl) | (cases hc; done) | skip
          split at hc <;> cases hc; exact .inl rfl
        · cases hc
      | append =>
        simp only at hc
        split at hc
        · split at hc <;> first | (cases hc; done) | (simp only [Option.bind_eq_some_iff, Option.map_eq_some_iff] at hc; obtain ⟨_, _, _, _, rfl⟩ := hc; exact .inr (.inr rfl))
        · cases hc
      | copy =>
        simp only at hc
        split at hc
        · split at hc <;> first | (cases hc; done) | (simp only [Option.map_eq_some_iff] at hc; obtain ⟨_, _, rfl⟩ := hc; exact .inr (.inr rfl))
        · cases hc
      | delete =>
        simp only at hc
        split at hc
        · split at hc <;> first | (cases hc; done) | (simp only [Option.map_eq_some_iff] at hc; obtain ⟨_, _, rfl⟩ := hc; exact .inr (.inr rfl))
        · cases hc
      | clear =>
        simp only at hc
        split at hc
        · split at hc <;> first | (cases hc; done) | (simp only [Option.map_eq_some_iff] at hc; obtain ⟨_, _, rfl⟩ := hc; exact .inr (.inr rfl))
        · cases hc
      | min => cases hc; exact .inl rfl
      | max => cases hc; exact .inl rfl
      | _ => cases hc
  · exact noncall hkind
end
end Go.Ab
namespace Go.Ab
open Go Go.RowKit
variable [Unk] [Kn] [KnOk]

theorem early_iff (x : XOp) : early x = (light x || make x) := by cases x <;> rfl
theorem early_not_heavy {x : XOp} (h : heavy x = true) : early x = false := by cases x <;> first | rfl | cases h

theorem light_same0 {x : XOp} (hl : light x = true) {ρ : Operand → Value} {A A' : H} {v : Value} (h : evalOp0 x ρ A = some (v, A')) : A' = A := by
  cases x <;> first | cases hl | skip
  all_goals simp only [evalOp0] at h
  case move => cases h; rfl
  case pick => rw [Option.map_eq_some_iff] at h; obtain ⟨_, _, h⟩ := h; cases h; rfl
  case build => rw [Option.map_eq_some_iff] at h; obtain ⟨_, _, h⟩ := h; cases h; rfl
  case load => split at h <;> first | (cases h; done) | (simp only [Option.bind_eq_some_iff, Option.map_eq_some_iff] at h; obtain ⟨_, _, _, _, h⟩ := h; cases h; rfl)
  case nilCheck => split at h <;> cases h; rfl
  case bin => rw [Option.map_eq_some_iff] at h; obtain ⟨_, _, h⟩ := h; cases h; rfl
  case un => rw [Option.map_eq_some_iff] at h; obtain ⟨_, _, h⟩ := h; cases h; rfl
  case toInt k x =>
    generalize ρ x = a at h
    cases a with
    | chan r => cases r with
      | some i =>
        simp only at h
        cases hk : (isKey i && decide (k = IntKind.u64)) with
        | false => rw [hk] at h; cases h
        | true => rw [hk] at h; cases h; rfl
      | none => simp [intV] at h
    | int kk n => simp only [intV, Option.map_some] at h; cases h; rfl
    | complex kk c n => cases kk with
      | f32 => simp only at h; rw [Option.map_eq_some_iff] at h; obtain ⟨_, _, h⟩ := h; cases h; rfl
      | f64 => simp [intV] at h
    | _ => simp [intV] at h
  case toUnsafe => split at h <;> first | (cases h; done) | (cases h; rfl) | (rw [Option.map_eq_some_iff] at h; obtain ⟨_, _, h⟩ := h; cases h; rfl)
  case assert => split at h <;> first | (cases h; done) | (cases h; rfl) | (split at h <;> (cases h; rfl))
  case isNil => split at h <;> first | (cases h; done) | (cases h; rfl)
  case eqS => rw [Option.map_eq_some_iff] at h; obtain ⟨_, _, h⟩ := h; cases h; rfl
  case same => rw [Option.map_eq_some_iff] at h; obtain ⟨_, _, h⟩ := h; cases h; rfl
  case ofBytes =>
    split at h
    · cases h; rfl
    · simp only [Option.bind_eq_some_iff, Option.map_eq_some_iff] at h; obtain ⟨_, _, _, _, h⟩ := h; cases h; rfl
    · cases h
  case fieldAddr => split at h <;> cases h; rfl
  case indexAddr => split at h <;> first | (cases h; done) | (split at h <;> cases h; rfl)
  case field => split at h <;> first | (cases h; done) | (simp only [Option.bind_eq_some_iff, Option.map_eq_some_iff] at h; obtain ⟨_, _, _, _, h⟩ := h; cases h; rfl)
  case index =>
    split at h
    · split at h
      · simp only [Option.bind_eq_some_iff, Option.map_eq_some_iff] at h; obtain ⟨_, _, _, _, h⟩ := h; cases h; rfl
      · cases h
    · split at h
      · simp only [Option.map_eq_some_iff] at h; obtain ⟨_, _, h⟩ := h; cases h; rfl
      · cases h
    · split at h
      · cases h; rfl
      · cases h
    · cases h
  case sliceStr =>
    split at h
    · simp only [Option.bind_eq_some_iff, Option.map_eq_some_iff] at h; obtain ⟨_, _, _, _, h⟩ := h; cases h; rfl
    · simp only [Option.bind_eq_some_iff, Option.map_eq_some_iff] at h; obtain ⟨_, _, _, _, _, _, h⟩ := h; cases h; rfl
    · cases h
  case slice => simp only [Option.bind_eq_some_iff, Option.map_eq_some_iff] at h; obtain ⟨_, _, _, _, _, _, _, _, h⟩ := h; cases h; rfl
  case extract => split at h <;> first | (cases h; done) | (rw [Option.map_eq_some_iff] at h; obtain ⟨_, _, h⟩ := h; cases h; rfl)
  case makeIface => cases h; rfl
  case makeFunc => cases h; rfl
  case lookup => simp only [Option.bind_eq_some_iff, Option.map_eq_some_iff] at h; obtain ⟨_, _, _, _, h⟩ := h; cases h; rfl
  case len => split at h <;> cases h <;> rfl
  case lenStr => split at h <;> first | (cases h; done) | (cases h; rfl) | (rw [Option.map_eq_some_iff] at h; obtain ⟨_, _, h⟩ := h; cases h; rfl)
  case minmax => split at h <;> first | (cases h; done) | (rw [Option.map_eq_some_iff] at h; obtain ⟨_, _, h⟩ := h; cases h; rfl)

theorem loadA_ext {A B : H} (he : ∀ i o, A.get i = some o → B.get i = some o) {a : Addr} {n : Nat} {l : List Value} (h : loadA A a n = some l) : loadA B a n = some l := by
  unfold loadA at h ⊢
  cases hg : A.get a.block with
  | none => simp [hg] at h
  | some o => rw [he _ _ hg]; rw [hg] at h; exact h

theorem head_ext {A B : H} (hof : ∀ e a, ofElem A e a = true → ofElem B e a = true) {e : TypeId} {arr : Option Nat} {v : Value} {r : Option Addr × Nat × Nat} (h : sliceHead A e arr v = some r) : sliceHead B e arr v = some r := by
  cases arr with
  | some n => cases v <;> first | exact h | (rename_i p; cases p <;> exact h)
  | none =>
    cases v with
    | slice a n c =>
      simp only [sliceHead] at h ⊢
      cases hb : (ofElem A e a && Nat.ble n c) with
      | false => rw [hb] at h; cases h
      | true =>
        rw [hb] at h
        rw [Bool.and_eq_true] at hb
        rw [show (ofElem B e a && Nat.ble n c) = true from by rw [Bool.and_eq_true]; exact ⟨hof _ _ hb.1, hb.2⟩]
        exact h
    | _ => simp [sliceHead] at h
/-- The same in a heap that holds no less. -/
theorem light_ext0 {x : XOp} (hl : light x = true) {ρ : Operand → Value} {A B A' : H} {v : Value} (he : ∀ i o, A.get i = some o → B.get i = some o) (h : evalOp0 x ρ A = some (v, A')) : evalOp0 x ρ B = some (v, B) := by
  cases x <;> first | cases hl | skip
  all_goals simp only [evalOp0] at h ⊢
  case move => cases h; rfl
  case pick => rw [Option.map_eq_some_iff] at h ⊢; obtain ⟨t, ht, h⟩ := h; cases h; exact ⟨t, ht, rfl⟩
  case build => rw [Option.map_eq_some_iff] at h ⊢; obtain ⟨t, ht, h⟩ := h; cases h; exact ⟨t, ht, rfl⟩
  case load =>
    split at h
    · simp only [Option.bind_eq_some_iff, Option.map_eq_some_iff] at h ⊢
      obtain ⟨l, hl, u, hu, h⟩ := h
      cases h
      exact ⟨l, loadA_ext he hl, _, hu, rfl⟩
    · cases h
  case nilCheck => split at h <;> cases h; rfl
  case bin => rw [Option.map_eq_some_iff] at h ⊢; obtain ⟨t, ht, h⟩ := h; cases h; exact ⟨_, ht, rfl⟩
  case un => rw [Option.map_eq_some_iff] at h ⊢; obtain ⟨t, ht, h⟩ := h; cases h; exact ⟨_, ht, rfl⟩
  case toInt k x =>
    generalize ρ x = a at h ⊢
    cases a with
    | chan r => cases r with
      | some i =>
        simp only at h ⊢
        cases hk : (isKey i && decide (k = IntKind.u64)) with
        | false => rw [hk] at h; cases h
        | true => rw [hk] at h; cases h; rfl
      | none => simp [intV] at h
    | int kk n => simp only [intV, Option.map_some] at h ⊢; cases h; rfl
    | complex kk c n => cases kk with
      | f32 => simp only at h ⊢; rw [Option.map_eq_some_iff] at h ⊢; obtain ⟨t, ht, h⟩ := h; cases h; exact ⟨_, ht, rfl⟩
      | f64 => simp [intV] at h
    | _ => simp [intV] at h
  case toUnsafe =>
    split at h
    · cases h; rfl
    · rw [Option.map_eq_some_iff] at h ⊢; obtain ⟨t, ht, h⟩ := h; cases h; exact ⟨_, loadA_ext he ht, rfl⟩
    · cases h
  case assert => split at h <;> first | (cases h; done) | (cases h; rfl) | (split at h <;> (cases h; rename_i e; first | rw [if_pos e] | rw [if_neg e]))
  case isNil => split at h <;> first | (cases h; done) | (cases h; rfl)
  case eqS => rw [Option.map_eq_some_iff] at h ⊢; obtain ⟨t, ht, h⟩ := h; cases h; exact ⟨_, ht, rfl⟩
  case same => rw [Option.map_eq_some_iff] at h ⊢; obtain ⟨t, ht, h⟩ := h; cases h; exact ⟨_, ht, rfl⟩
  case ofBytes =>
    split at h
    · cases h; rfl
    · simp only [Option.bind_eq_some_iff, Option.map_eq_some_iff] at h ⊢
      obtain ⟨l, hl, u, hu, h⟩ := h
      cases h
      exact ⟨l, loadA_ext he hl, _, hu, rfl⟩
    · cases h
  case fieldAddr => split at h <;> cases h; rfl
  case indexAddr =>
    split at h
    · split at h <;> cases h; rename_i hc; rw [if_pos hc]
    · split at h <;> cases h; rename_i hc; rw [if_pos hc]
    · cases h
  case field =>
    split at h
    · simp only [Option.bind_eq_some_iff, Option.map_eq_some_iff] at h ⊢; obtain ⟨l, hl, u, hu, h⟩ := h; cases h; exact ⟨l, hl, _, hu, rfl⟩
    · cases h
  case index =>
    split at h
    · split at h
      · rename_i hc
        rw [if_pos hc]
        simp only [Option.bind_eq_some_iff, Option.map_eq_some_iff] at h ⊢; obtain ⟨l, hl, u, hu, h⟩ := h; cases h; exact ⟨l, hl, _, hu, rfl⟩
      · cases h
    · split at h
      · rename_i hc
        rw [if_pos hc]
        simp only [Option.map_eq_some_iff] at h ⊢; obtain ⟨u, hu, h⟩ := h; cases h; exact ⟨_, hu, rfl⟩
      · cases h
    · split at h
      · rename_i hc
        rw [if_pos hc]
        cases h; rfl
      · cases h
    · cases h
  case sliceStr =>
    split at h
    · simp only [Option.bind_eq_some_iff, Option.map_eq_some_iff] at h ⊢; obtain ⟨l, hl, u, hu, h⟩ := h; cases h; exact ⟨l, hl, _, hu, rfl⟩
    · simp only [Option.bind_eq_some_iff, Option.map_eq_some_iff] at h ⊢; obtain ⟨l, hl, u, hu, v0, hv0, h⟩ := h; cases h; exact ⟨l, hl, u, hu, _, hv0, rfl⟩
    · cases h
  case slice =>
    simp only [Option.bind_eq_some_iff, Option.map_eq_some_iff] at h ⊢
    obtain ⟨hd, h1, m, h2, k, h3, l, h4, h⟩ := h
    cases h
    refine ⟨hd, ?_, m, h2, k, h3, l, h4, rfl⟩
    have hof : ∀ e a, ofElem A e a = true → ofElem B e a = true := by
      intro e a ho
      unfold ofElem at ho ⊢
      cases a with
      | none => rfl
      | some ad =>
        simp only at ho ⊢
        cases hg : A.get ad.block with
        | none => rw [hg] at ho; cases ho
        | some o => rw [he _ _ hg]; rw [hg] at ho; exact ho
    exact head_ext hof h1
  case extract =>
    split at h
    · rw [Option.map_eq_some_iff] at h ⊢; obtain ⟨u, hu, h⟩ := h; cases h; exact ⟨_, hu, rfl⟩
    · cases h
  case makeIface => cases h; rfl
  case makeFunc => cases h; rfl
  case lookup =>
    simp only [Option.bind_eq_some_iff, Option.map_eq_some_iff] at h ⊢
    obtain ⟨es, h1, f, h2, h⟩ := h
    cases h
    refine ⟨es, ?_, f, h2, rfl⟩
    unfold entriesA at h1 ⊢
    split at h1
    · exact h1
    · rename_i r _
      cases hg : A.get r with
      | none => rw [hg] at h1; cases h1
      | some o => simp only [he _ _ hg]; rw [hg] at h1; exact h1
    · cases h1
  case len => split at h <;> cases h <;> rfl
  case lenStr => split at h <;> first | (cases h; done) | (cases h; rfl) | (rw [Option.map_eq_some_iff] at h ⊢; obtain ⟨t, ht, h⟩ := h; cases h; exact ⟨_, ht, rfl⟩)
  case minmax =>
    split at h
    · rw [Option.map_eq_some_iff] at h ⊢; obtain ⟨t, ht, h⟩ := h; cases h; exact ⟨_, ht, rfl⟩
    · cases h

/-- What reads no heap answers the same in every heap. -/
theorem light_free0 {x : XOp} (hl : light x = true) (hk : looks x = false) {ρ : Operand → Value} {A A' : H} {v : Value} (B : H) (h : evalOp0 x ρ A = some (v, A')) : evalOp0 x ρ B = some (v, B) := by
  have key : ∀ C : H, evalOp0 x ρ A = some (v, A') → ∀ D : H, (evalOp0 x ρ D = (evalOp0 x ρ A).map fun r => (r.1, D)) := by
    intro C h D
    have hs := light_same0 hl h
    cases x <;> first | (cases hl; done) | (cases hk; done) | skip
    all_goals simp only [evalOp0]
    all_goals first
      | rfl
      | (simp only [Option.map_map, Function.comp_def]; done)
      | skip
    all_goals (repeat' split) <;> first | rfl | (simp only [Option.map_map, Function.comp_def, Option.map_none, Option.map_some, Option.map_bind]; done) | skip
    all_goals (rename_i i _; cases (isKey i && decide (_ = IntKind.u64)) <;> rfl)
  rw [key A h B, h]
  rfl

theorem make_same0 {x : XOp} (hm : make x = true) {ρ : Operand → Value} {A A' : H} {v : Value} (h : evalOp0 x ρ A = some (v, A')) : ∃ (mk : Nat → Value) (ob : AObj), v = mk A.next ∧ A' = A.push ob ∧ ob.own = true ∧ ∀ B, evalOp0 x ρ B = some (mk B.next, B.push ob) := by
  cases x <;> first | cases hm | skip
  all_goals simp only [evalOp0] at h ⊢
  case alloc e z => cases h; exact ⟨fun id => .pointer (some ⟨id, 0, none⟩), _, rfl, rfl, rfl, fun B => rfl⟩
  case box e x => cases h; exact ⟨fun id => .pointer (some ⟨id, 0, none⟩), _, rfl, rfl, rfl, fun B => rfl⟩
  case buildSlice e n z ps => rw [Option.map_eq_some_iff] at h; obtain ⟨r, hr, h⟩ := h; cases h; exact ⟨fun id => .slice (some ⟨id, 0, none⟩) n n, _, rfl, rfl, rfl, fun B => by rw [hr]; rfl⟩
  case toBytes e x => rw [Option.map_eq_some_iff] at h; obtain ⟨r, hr, h⟩ := h; cases h; exact ⟨fun id => .slice (some ⟨id, 0, none⟩) r.length r.length, _, rfl, rfl, rfl, fun B => by rw [hr]; rfl⟩
  case makeMap => cases h; exact ⟨fun id => .map (some id), _, rfl, rfl, rfl, fun B => rfl⟩
  case makeSlice e b s z l c =>
    split at h
    · split at h
      · rename_i hc
        cases h
        exact ⟨fun id => .slice (some ⟨id, 0, none⟩) _ _, _, rfl, rfl, rfl, fun B => by rw [if_pos hc]⟩
      · cases h
    · cases h
  case rangeStr x => rw [Option.map_eq_some_iff] at h; obtain ⟨r, hr, h⟩ := h; cases h; exact ⟨fun id => .pointer (some ⟨id, 0, none⟩), _, rfl, rfl, rfl, fun B => by rw [hr]; rfl⟩

/-! ### The same, with what is told -/
theorem keyT_looks {x : XOp} {k : TKey} {xs : List Operand} (h : keyT x = some (k, xs)) : looks x = false := by
  cases x <;> first | rfl | cases h
theorem light_same {x : XOp} (hl : light x = true) {ρ : Operand → Value} {A A' : H} {v : Value} (h : evalOp x ρ A = some (v, A')) : A' = A := by
  rcases evalOp_inv h with h | ⟨_, rfl, _⟩
  · exact light_same0 hl h
  · rfl
theorem none_free {x : XOp} {k : TKey} {xs : List Operand} (hk : keyT x = some (k, xs)) {ρ : Operand → Value} {A : H} (B : H) (h : evalOp0 x ρ A = none) : evalOp0 x ρ B = none := by
  cases hb : evalOp0 x ρ B with
  | none => rfl
  | some r =>
    obtain ⟨v, B'⟩ := r
    have := light_free0 (keyT_light hk) (keyT_looks hk) A hb
    rw [h] at this
    cases this
theorem light_ext {x : XOp} (hl : light x = true) {ρ : Operand → Value} {A B A' : H} {v : Value} (he : ∀ i o, A.get i = some o → B.get i = some o) (h : evalOp x ρ A = some (v, A')) : evalOp x ρ B = some (v, B) := by
  rcases evalOp_inv h with h | ⟨h0, rfl, k, xs, hk, ht⟩
  · exact evalOp_some (light_ext0 hl he h)
  · exact evalOp_told (none_free hk B h0) hk ht
theorem light_free {x : XOp} (hl : light x = true) (hk : looks x = false) {ρ : Operand → Value} {A A' : H} {v : Value} (B : H) (h : evalOp x ρ A = some (v, A')) : evalOp x ρ B = some (v, B) := by
  rcases evalOp_inv h with h | ⟨h0, rfl, k, xs, hk, ht⟩
  · exact evalOp_some (light_free0 hl hk B h)
  · exact evalOp_told (none_free hk B h0) hk ht
theorem make_same {x : XOp} (hm : make x = true) {ρ : Operand → Value} {A A' : H} {v : Value} (h : evalOp x ρ A = some (v, A')) : ∃ (mk : Nat → Value) (ob : AObj), v = mk A.next ∧ A' = A.push ob ∧ ob.own = true ∧ ∀ B, evalOp x ρ B = some (mk B.next, B.push ob) := by
  rw [evalOp_make (make_light hm)] at h
  obtain ⟨mk, ob, h1, h2, h3, h4⟩ := make_same0 hm h
  exact ⟨mk, ob, h1, h2, h3, fun B => evalOp_some (h4 B)⟩
end Go.Ab
