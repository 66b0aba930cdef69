/- Functions whose answers are told: strings.Repeat, strings.Builder's copyCheck and String: what they do to the abstract heap. -/
import Derived.Test.YthlpiipobcomfaaGreatDoorAcFun
import Derived.Test.YthlpiipobcomfaaGreatDoorAcK
import Derived.Shelf.Strings.Repeat
set_option linter.all false
set_option linter.unusedSectionVars false
set_option linter.unusedVariables false
set_option linter.unusedSimpArgs false
namespace Go.Ab
open Go Go.RowKit Go.Shelf Go.Proofs
variable [Unk] [Kn] [KnOk]
variable {P : Program} {ρ : Ren}

/-! ### strings.Repeat -/
theorem rep_eq (l : List UInt8) : ∀ n, rep l n = Lib.repeatL l n := by
  intro n
  induction n with
  | zero => rfl
  | succ n ih => simp [rep, Lib.repeatL, ih]
theorem repeat_ok (L : Lays.n105 P ρ) (X : Builder.Extra P ρ) {call : Caller} {args : List Value} {A : H} {r : Value} {A' : H} (h : repeatA call args A = some (r, A')) {σ : Sg} {w : World} {argsc : List Value} (hr : Rel P σ A w) (hl : LRel σ args argsc) :
    Calls P (ρ.f 105) argsc.toArray w (CPost P σ A w r A') := by
  unfold repeatA at h
  split at h
  · rename_i s c
    split at h
    · rename_i hc
      obtain ⟨h0, h1, h2⟩ := hc
      simp only [Option.some.injEq, Prod.mk.injEq] at h
      obtain ⟨rfl, rfl⟩ := h
      obtain ⟨v1, r1, rfl, hv1, hl⟩ := hl.cons_inv
      obtain ⟨v2, r2, rfl, hv2, hl⟩ := hl.cons_inv
      have : r2 = [] := List.eq_nil_of_length_eq_zero (by have := hl.len; simpa using this.symm)
      subst this
      cases hv1; cases hv2
      have hcn : ((c.toNat : Nat) : Int) = c := by omega
      have hh := Any.strings_Repeat L X s c.toNat w (by omega) (by rw [Lib.size_eq]; exact h2)
      rw [hcn] at hh
      refine hh.mono fun e w' he => ?_
      refine CPost.flat hr (.string _) ?_ he.2
      rw [he.1, rep_eq]
      rfl
    · cases h
  · cases h

/-! ### strings.Builder: copyCheck -/
set_option maxHeartbeats 1000000 in
set_option maxRecDepth 100000 in
theorem copyCheck_used_at (L : Lays.n240 P ρ) (X : Builder.X72 P ρ) (b o : Nat) (w : World) (h0 : w.cell? ⟨b, o, none⟩ = some (.pointer (some ⟨b, o, none⟩))) :
    Calls P (ρ.f 240) #[.pointer (some ⟨b, o, none⟩)] w fun e w' => e = .returned (.tuple #[]) ∧ w' = w := by
  obtain ⟨j, hj, _⟩ := Option.map_eq_some_iff.1 X.sizeBuilder
  have mixed := L.mixed
  have t72 := L.t72; have a72 := L.a72; have z72 := L.z72; have v72 := L.v72; have u72 := run_underlying L.t72
  have t70 := L.t70; have a70 := L.a70; have z70 := L.z70; have v70 := L.v70; have u70 := run_underlying L.t70
  have t9 := L.t9; have a9 := L.a9; have z9 := L.z9; have v9 := L.v9; have u9 := run_underlying L.t9
  have t4 := L.t4; have a4 := L.a4; have z4 := L.z4; have v4 := L.v4; have u4 := run_underlying L.t4
  have t164 := L.t164; have a164 := L.a164; have z164 := L.z164; have v164 := L.v164; have u164 := run_underlying L.t164
  go_enter L.f240, Body.n240_ntmps ρ
  go_wp2
  rw [Lib.run_neq_ptr_same w _ L.t70 hj]
  go_wp2
  go_end0
  exact ⟨rfl, rfl⟩

set_option maxHeartbeats 1000000 in
set_option maxRecDepth 100000 in
theorem copyCheck_fresh_at (L : Lays.n240 P ρ) (X : Builder.X72 P ρ) (b o n : Nat) (w : World) (h0 : w.cell? ⟨b, o, none⟩ = some (.pointer none)) (hsh : w.shape? b = some ((ρ.t 72), n)) (ho : o < n)
    (hlies : liesAt P P.depth (ρ.t 72) (n / P.cellsOf (ρ.t 72)) o (ρ.t 72) 1 = true) (hfz : w.frozen? ⟨b, o, none⟩ = false) :
    Calls P (ρ.f 240) #[.pointer (some ⟨b, o, none⟩)] w fun e w' => e = .returned (.tuple #[]) ∧ w' = w.setCell ⟨b, o, none⟩ (.pointer (some ⟨b, o, none⟩)) := by
  obtain ⟨j, hj, hjs⟩ := Option.map_eq_some_iff.1 X.sizeBuilder
  have mixed := L.mixed
  have t72 := L.t72; have a72 := L.a72; have z72 := L.z72; have v72 := L.v72; have u72 := run_underlying L.t72
  have t70 := L.t70; have a70 := L.a70; have z70 := L.z70; have v70 := L.v70; have u70 := run_underlying L.t70
  have t9 := L.t9; have a9 := L.a9; have z9 := L.z9; have v9 := L.v9; have u9 := run_underlying L.t9
  have t4 := L.t4; have a4 := L.a4; have z4 := L.z4; have v4 := L.v4; have u4 := run_underlying L.t4
  have t164 := L.t164; have a164 := L.a164; have z164 := L.z164; have v164 := L.v164; have u164 := run_underlying L.t164
  go_enter L.f240, Body.n240_ntmps ρ
  go_wp2
  rw [Lib.run_to_unsafe w ⟨b, o, none⟩ L.t70 L.t164 hj (by rw [hjs]; decide) hsh ho]
  simp only [Result.andThen]
  rw [Oper.upon_value]
  go_wp2
  rw [run_callFunc_extern L.f276 (by kernel_rfl) (by kernel_rfl) (by kernel_rfl) (e := Extern.AbiNoEscape.same) (by kernel_rfl)]
  rw [Lib.run_noEscape]
  simp only [Result.andThen]
  rw [Oper.upon_value]
  go_wp2
  rw [Lib.run_from_unsafe w ⟨b, o, none⟩ L.t164 L.t70 hj hsh hlies]
  simp only [Result.andThen]
  rw [Oper.upon_value]
  go_wp2
  go_end0
  exact ⟨rfl, rfl⟩

/-- In a row of variables one lies at each of its places. -/
theorem liesAt_self {T : TypeId} (count off : Nat) (hs : P.cellsOf T ≠ 0) (h0 : off % P.cellsOf T = 0) (h1 : off / P.cellsOf T + 1 ≤ count) : liesAt P P.depth T count off T 1 = true := by
  have hd : P.depth = (2 * (P.types.size + Made.depth) + 1) + 1 := rfl
  rw [hd]
  simp only [liesAt, Bool.or_eq_true]
  left
  rw [hd]
  simp [rowAt, hs, h0, h1, sameLayout]

theorem copyCheck_ok (L : Lays.n240 P ρ) (X : Builder.X72 P ρ) {call : Caller} {args : List Value} {A : H} {r : Value} {A' : H} (h : copyCheckA (ρ.t 72) call args A = some (r, A')) {σ : Sg} {w : World} {argsc : List Value} (hr : Rel P σ A w) (hl : LRel σ args argsc) :
    Calls P (ρ.f 240) argsc.toArray w (CPost P σ A w r A') := by
  unfold copyCheckA at h
  split at h
  case h_2 => cases h
  rename_i id off
  split at h
  case h_2 => cases h
  rename_i e c hg
  cases hb : (Nat.beq e (ρ.t 72) && Nat.beq (off % 2) 0 && Nat.ble (off + 2) c.length) with
  | false => rw [hb] at h; cases h
  | true =>
    rw [hb] at h
    simp only [cond_true] at h
    rw [Bool.and_eq_true, Bool.and_eq_true] at hb
    obtain ⟨⟨hb1, hb2⟩, hb3⟩ := hb
    have hb1 := Nat.eq_of_beq_eq_true hb1
    have hb2 := Nat.eq_of_beq_eq_true hb2
    have hb3 := Nat.le_of_ble_eq_true hb3
    subst hb1
    obtain ⟨v1, r1, rfl, hv1, hl⟩ := hl.cons_inv
    have : r1 = [] := List.eq_nil_of_length_eq_zero (by have := hl.len; simpa using this.symm)
    subst this
    generalize hvv : (Value.pointer (some ⟨id, off, none⟩)) = vv at hv1
    cases hv1 <;> first | (cases hvv; done) | skip
    rename_i id' p off' hs
    cases hvv
    obtain ⟨cur, e', fz, q1, q2, q3, q4, q5, q6⟩ := hr.obj id _ p hg hs
    obtain ⟨hun, he, hsh⟩ := q6 rfl
    subst he
    have hsize : p.esz = 2 := by
      have := X.sizeBuilder
      rw [q4] at this
      simpa using this
    have hcells : P.cellsOf (ρ.t 72) = 2 := by
      have := X.sizeBuilder
      obtain ⟨j, hj, hjs⟩ := Option.map_eq_some_iff.1 this
      simp [Program.cellsOf, hj, hjs]
    rw [hsize] at hsh
    split at h
    · rename_i hld
      rw [Option.map_eq_some_iff] at h
      obtain ⟨A1, hst, he⟩ := h
      cases he
      obtain ⟨l', k1, k2, k3⟩ := load_rel hr hs hld
      obtain ⟨v', r', rfl, hv', _⟩ := k1.cons_inv
      have hcell := k3 0 v' rfl
      rw [Addr.add_none, Nat.add_zero] at hcell
      cases hv'
      have hfz : w.frozen? ⟨p.b, p.sh + off, none⟩ = false := by
        have := hun (p.sh + off) (by omega)
        simp only [World.frozen?, q1]
        simpa using this
      have hlies : liesAt P P.depth (ρ.t 72) (cur.size / P.cellsOf (ρ.t 72)) (p.sh + off) (ρ.t 72) 1 = true := by
        refine liesAt_self _ _ (by rw [hcells]; decide) (by rw [hcells]; omega) ?_
        rw [hcells]
        omega
      have hcall := copyCheck_fresh_at L X p.b (p.sh + off) cur.size w hcell (by simp [World.shape?, q1]) (by omega) hlies hfz
      refine hcall.mono fun e w' he => ?_
      obtain ⟨rfl, rfl⟩ := he
      have hv2 : LRel σ [Value.pointer (some ⟨id, off, none⟩)] [Value.pointer (some ⟨p.b, p.sh + off, none⟩)] := LRel.cons (.ptr off hs) .nil
      obtain ⟨w2, s1, s2, s3⟩ := store_rel hr hs hst hv2
      have hw2 : w2 = w.setCell ⟨p.b, p.sh + off, none⟩ (.pointer (some ⟨p.b, p.sh + off, none⟩)) := by
        have hst' : (store ⟨p.b, p.sh + off, none⟩ (.pointer (some ⟨p.b, p.sh + off, none⟩))).run P w = .ok () (w.setCell ⟨p.b, p.sh + off, none⟩ (.pointer (some ⟨p.b, p.sh + off, none⟩))) := by
          rw [run_store P w _ _ _ rfl]; simp [hcell, hfz]
        simp only [storeCells, Sem.run_bind, Addr.add_none, Nat.add_zero, hst', Result.andThen_ok, Sem.run_pure] at s1
        exact (Result.ok.inj s1).2.symm
      subst hw2
      exact ⟨_, σ, rfl, undef_rel, s2, s3⟩
    · rename_i i o hld
      cases hq : (Nat.beq i id && Nat.beq o off) with
      | false => rw [hq] at h; cases h
      | true =>
        rw [hq] at h
        simp only [cond_true, Option.some.injEq, Prod.mk.injEq] at h
        obtain ⟨rfl, rfl⟩ := h
        rw [Bool.and_eq_true] at hq
        have h1 := Nat.eq_of_beq_eq_true hq.1
        have h2 := Nat.eq_of_beq_eq_true hq.2
        subst h1; subst h2
        obtain ⟨l', k1, k2, k3⟩ := load_rel hr hs hld
        obtain ⟨v', r', rfl, hv', _⟩ := k1.cons_inv
        have hcell := k3 0 v' rfl
        rw [Addr.add_none, Nat.add_zero] at hcell
        generalize hvv : (Value.pointer (some ⟨i, o, none⟩)) = vv at hv'
        cases hv' <;> first | (cases hvv; done) | skip
        rename_i id2 p2 off2 hs2
        cases hvv
        rw [hs] at hs2
        cases hs2
        refine (copyCheck_used_at L X p.b (p.sh + o) w hcell).mono fun e w' he => ?_
        obtain ⟨rfl, rfl⟩ := he
        exact ⟨_, σ, rfl, undef_rel, hr, Fr.refl _ _ _⟩
    · cases h

/-! ### strings.Builder: String -/
set_option maxHeartbeats 2000000 in
set_option maxRecDepth 100000 in
theorem String_nil_at (L : Lays.n169 P ρ) (X : Builder.Extra P ρ) (b o c : Nat) (w : World) (h1 : w.cell? ⟨b, o + 1, none⟩ = some (.slice none 0 c)) :
    Calls P (ρ.f 169) #[.pointer (some ⟨b, o, none⟩)] w fun e w' => e = .returned (.string ⟨#[]⟩) ∧ Below w.heap.size w w' := by
  have hUS := Any.unsafeString_none L X
  have c1 : w.drew.cell? ⟨b, o + 1, none⟩ = some (.slice none 0 c) := h1
  have hSD : (Builtin.unsafeSliceData_ #[(ρ.t 37)] (ρ.t 127) #[.slice none 0 c]).run P w.drew = .ok (.pointer none) w.drew := rfl
  have mixed := L.mixed
  have t72 := L.t72; have a72 := L.a72; have z72 := L.z72; have v72 := L.v72; have u72 := run_underlying L.t72
  have t70 := L.t70; have a70 := L.a70; have z70 := L.z70; have v70 := L.v70; have u70 := run_underlying L.t70
  have t37 := L.t37; have a37 := L.a37; have z37 := L.z37; have v37 := L.v37; have u37 := run_underlying L.t37
  have t127 := L.t127; have a127 := L.a127; have z127 := L.z127; have v127 := L.v127; have u127 := run_underlying L.t127
  have t3 := L.t3; have a3 := L.a3; have z3 := L.z3; have v3 := L.v3; have u3 := run_underlying L.t3
  have t9 := L.t9; have a9 := L.a9; have z9 := L.z9; have v9 := L.v9; have u9 := run_underlying L.t9
  have t5 := X.t5; have a5 := X.a5; have z5 := X.z5; have v5 := X.v5; have u5 := run_underlying X.t5
  go_enter L.f169, Body.n169_ntmps ρ
  go_wp2
  go_region_o
  all_goals (go_wp2; go_ret; exact ⟨rfl, Below.drew (Below.refl _ w)⟩)

set_option maxHeartbeats 2000000 in
set_option maxRecDepth 100000 in
theorem String_at (L : Lays.n169 P ρ) (X : Builder.Extra P ρ) (b o : Nat) (g : Addr) (n cap : Nat) (r : ByteArray) (w w1 : World) (hc : cap ≠ 0) (h1 : w.cell? ⟨b, o + 1, none⟩ = some (.slice (some g) n cap))
    (hUS : (Builtin.unsafeString_ #[(ρ.t 127), (ρ.t 3)] (ρ.t 9) #[.pointer (some g), .int .i64 n]).run P w.drew = .ok (.string r) w1) :
    Calls P (ρ.f 169) #[.pointer (some ⟨b, o, none⟩)] w fun e w' => e = .returned (.string r) ∧ w' = w1 := by
  have c1 : w.drew.cell? ⟨b, o + 1, none⟩ = some (.slice (some g) n cap) := h1
  have hSD : (Builtin.unsafeSliceData_ #[(ρ.t 37)] (ρ.t 127) #[.slice (some g) n cap]).run P w.drew = .ok (.pointer (some g)) w.drew :=
    Lib.run_unsafeSliceData_row _ _ _ _ _ _ hc
  clear hc
  have mixed := L.mixed
  have t72 := L.t72; have a72 := L.a72; have z72 := L.z72; have v72 := L.v72; have u72 := run_underlying L.t72
  have t70 := L.t70; have a70 := L.a70; have z70 := L.z70; have v70 := L.v70; have u70 := run_underlying L.t70
  have t37 := L.t37; have a37 := L.a37; have z37 := L.z37; have v37 := L.v37; have u37 := run_underlying L.t37
  have t127 := L.t127; have a127 := L.a127; have z127 := L.z127; have v127 := L.v127; have u127 := run_underlying L.t127
  have t3 := L.t3; have a3 := L.a3; have z3 := L.z3; have v3 := L.v3; have u3 := run_underlying L.t3
  have t9 := L.t9; have a9 := L.a9; have z9 := L.z9; have v9 := L.v9; have u9 := run_underlying L.t9
  have t5 := X.t5; have a5 := X.a5; have z5 := X.z5; have v5 := X.v5; have u5 := run_underlying X.t5
  go_enter L.f169, Body.n169_ntmps ρ
  go_wp2
  go_region_o
  all_goals (go_wp2; go_ret; exact ⟨rfl, rfl⟩)

/-- So many byte variables lie in a row of bytes, from anywhere on. -/
theorem liesAt_bytes_at {e : TypeId} (hc : P.cellsOf e = 1) (count off n : Nat) (hn : off + n ≤ count) : liesAt P P.depth e count off e n = true := by
  have hd : P.depth = (2 * (P.types.size + Made.depth) + 1) + 1 := rfl
  rw [hd]
  simp only [liesAt, Bool.or_eq_true]
  left
  rw [hd]
  simp [rowAt, hc, hn, sameLayout, Nat.mod_one]

theorem loadBytes_ints (w : World) : ∀ (ns : List Int) (a : Addr) (acc : ByteArray), (∀ j x, ns[j]? = some x → w.cell? (a.add j) = some (.int .u8 x)) →
    (loadBytes a acc ns.length).run P w = .ok ⟨acc.data ++ (ns.map fun n => n.toNat.toUInt8).toArray⟩ w
  | [], a, acc, _ => by simp [loadBytes]
  | x :: l, a, acc, h => by
    have h0 : w.cell? a = some (.int .u8 x) := by
      have := h 0 x rfl
      simpa [Addr.add] using this
    have ih := loadBytes_ints w l (a.add 1) (acc.push x.toNat.toUInt8) (fun j y hy => by
      have := h (j + 1) y (by simpa using hy)
      have e : (a.add 1).add j = a.add (j + 1) := by
        unfold Addr.add
        by_cases hj : j = 0
        · subst hj; simp
        · simp [hj]; omega
      rw [e]; exact this)
    simp only [List.length_cons, loadBytes, Sem.run_bind, run_load, h0, Result.andThen]
    rw [ih]
    congr 1
    apply ByteArray.ext
    simp [ByteArray.push]

theorem unsafeString_at (w : World) (pt it ty e : TypeId) (hp : P.underlying pt = some (.pointer e)) (hc : P.cellsOf e = 1) (g o cells : Nat) (hsh : w.shape? g = some (e, cells)) (ns : List Int) (h0 : ns ≠ []) (hn : o + ns.length ≤ cells) (h63 : ns.length ≤ 9223372036854775807)
    (hcell : ∀ j x, ns[j]? = some x → w.cell? ((⟨g, o, none⟩ : Addr).add j) = some (.int .u8 x)) :
    (Builtin.unsafeString_ #[pt, it] ty #[.pointer (some ⟨g, o, none⟩), .int .i64 ns.length]).run P w = .ok (.string ⟨(ns.map fun n => n.toNat.toUInt8).toArray⟩) (w.freeze ⟨g, o, none⟩ ns.length) := by
  have hl : ns.length ≠ 0 := by simpa using h0
  have hlb := loadBytes_ints (P := P) w ns ⟨g, o, none⟩ .empty hcell
  have hlies := liesAt_bytes_at (P := P) hc (cells / P.cellsOf e) o ns.length (by rw [hc]; simpa using hn)
  have h63' : ¬ (9223372036854775807 : Int) < (ns.length : Int) := by omega
  obtain ⟨x1, x2, x3, hdef⟩ : ∃ (x1 x2 : Sem PUnit) (x3 : Sem Value), Builtin.unsafeString_ #[pt, it] ty #[.pointer (some ⟨g, o, none⟩), .int .i64 ns.length] =
      (do
        let n ← asInt (.int .i64 ns.length)
        if n < 0 then x1
        if n > IntKind.i64.max then x2
        if n = 0 then pure (.string .empty)
        else if ← variablesAt ⟨g, o, none⟩ (← elemOf pt) n.toNat then do
          let s ← loadBytes ⟨g, o, none⟩ .empty n.toNat
          freeze ⟨g, o, none⟩ n.toNat
          pure (.string s)
        else x3) := ⟨_, _, _, rfl⟩
  rw [hdef]
  have hmax : IntKind.i64.max = 9223372036854775807 := rfl
  have hneg : ¬ (ns.length : Int) < 0 := by omega
  simp [asInt, asIntOf, hmax, h63', hneg, hl, variablesAt, hsh, elemOf, run_underlying hp, hlies, hlb]

/-- A block of one's own is frozen. -/
theorem Rel.froze {σ : Sg} {A : H} {w : World} {id : Nat} {e : TypeId} {c : List Value} {p : Pl} (h : Rel P σ A w) (ha : A.get id = some (.cells false e c)) (hs : σ id = some p) (o n : Nat) :
    Rel P σ (A.set id (.cells true e c)) (w.freeze ⟨p.b, o, none⟩ n) ∧ Fr σ A w σ (A.set id (.cells true e c)) (w.freeze ⟨p.b, o, none⟩ n) := by
  obtain ⟨cur, e', fz, q1, q2, q3, q4, q5, _⟩ := h.obj id _ p ha hs
  have hsz : (w.freeze ⟨p.b, o, none⟩ n).heap.size = w.heap.size := by unfold World.freeze; split <;> simp
  have hold : ∀ k, k ≠ p.b → (w.freeze ⟨p.b, o, none⟩ n).heap[k]? = w.heap[k]? := fun k hk => by
    unfold World.freeze
    split
    · rfl
    · simp only [Array.getElem?_modify]; rw [if_neg (fun e => hk e.symm)]
  have hnew : ∃ fz', (w.freeze ⟨p.b, o, none⟩ n).heap[p.b]? = some (.cells cur e' fz') := by
    unfold World.freeze
    split
    · exact ⟨fz, q1⟩
    · obtain ⟨lo, hi⟩ := fz
      exact ⟨if (lo == hi) = true then (o, o + n) else (min lo o, max hi (o + n)), by simp only [Array.getElem?_modify, if_true, q1, Option.map_some]⟩
  obtain ⟨fz', hnew⟩ := hnew
  have ho : ORel P σ (w.freeze ⟨p.b, o, none⟩ n) p (.cells true e c) := ⟨cur, e', fz', hnew, q2, q3, q4, q5, fun hh => by cases hh⟩
  have hos : (w.freeze ⟨p.b, o, none⟩ n).os = w.os ∧ (w.freeze ⟨p.b, o, none⟩ n).tape = w.tape ∧ (w.freeze ⟨p.b, o, none⟩ n).output = w.output := by unfold World.freeze; split <;> exact ⟨rfl, rfl, rfl⟩
  refine ⟨⟨h.glob, fun i x q hx hq => ?_, fun i j q r x y hij hx hy hq hr hox => ?_, fun i q hq => ?_, fun i hi => ?_⟩, ?_⟩
  · rw [H.get_set] at hx
    by_cases e : i = id
    · subst e; rw [if_pos rfl] at hx; rw [hs] at hq; cases hx; cases hq; exact ho
    · rw [if_neg e] at hx
      exact (h.obj i x q hx hq).keep (Sg.le_refl σ) (hold _ (fun e2 => h.inj id i p q _ x (fun e3 => e e3.symm) ha hx hs hq rfl e2.symm))
  · rw [H.get_set] at hx hy
    by_cases e1 : i = id
    · subst e1; rw [if_pos rfl] at hx; cases hx; cases hox
    · rw [if_neg e1] at hx
      by_cases e2 : j = id
      · subst e2; exact h.inj i j q r x _ hij hx ha hq hr hox
      · rw [if_neg e2] at hy; exact h.inj i j q r x y hij hx hy hq hr hox
  · rw [hsz]; exact h.lt i q hq
  · rw [H.next_set] at hi
    have := h.dom i hi
    rw [H.get_set, if_neg (by intro e; subst e; rw [ha] at this; exact absurd this.1 (by simp))]
    exact this
  · exact Fr.change h ha hs rfl hsz hold hos.1 hos.2.1 hos.2.2

theorem string_ok (L : Lays.n169 P ρ) (X : Builder.Extra P ρ) {call : Caller} {args : List Value} {A : H} {r : Value} {A' : H} (h : stringA (ρ.t 5) call args A = some (r, A')) {σ : Sg} {w : World} {argsc : List Value} (hr : Rel P σ A w) (hl : LRel σ args argsc) :
    Calls P (ρ.f 169) argsc.toArray w (CPost P σ A w r A') := by
  unfold stringA at h
  split at h
  case h_2 => cases h
  rename_i id off
  obtain ⟨v1, r1, rfl, hv1, hl⟩ := hl.cons_inv
  have : r1 = [] := List.eq_nil_of_length_eq_zero (by have := hl.len; simpa using this.symm)
  subst this
  generalize hvv : (Value.pointer (some ⟨id, off, none⟩)) = vv at hv1
  cases hv1 <;> first | (cases hvv; done) | skip
  rename_i id' p off' hs
  cases hvv
  split at h
  case h_3 => cases h
  · rename_i l c hld
    cases hb : Nat.beq l 0 with
    | false => rw [hb] at h; cases h
    | true =>
      rw [hb] at h
      simp only [cond_true, Option.some.injEq, Prod.mk.injEq] at h
      obtain ⟨rfl, rfl⟩ := h
      have := Nat.eq_of_beq_eq_true hb
      subst this
      obtain ⟨l', k1, k2, k3⟩ := load_rel hr hs hld
      obtain ⟨v', r', rfl, hv', _⟩ := k1.cons_inv
      have hcell := k3 0 v' rfl
      rw [Addr.add_none, Nat.add_zero] at hcell
      cases hv'
      refine (String_nil_at L X p.b (p.sh + off) c w hcell).mono fun e w' he => ?_
      exact CPost.flat hr (.string _) (by rw [he.1]; rfl) he.2
  · rename_i i o n c hld
    split at h
    case h_2 => cases h
    rename_i e cs hg
    cases hb : (Nat.beq e (ρ.t 5) && Nat.ble 1 n && Nat.ble n 9223372036854775807 && Nat.ble 1 c) with
    | false => rw [hb] at h; cases h
    | true =>
      rw [hb] at h
      simp only [cond_true, Option.bind_eq_some_iff, Option.map_eq_some_iff] at h
      obtain ⟨bl, hbl, v0, hbs, he⟩ := h
      cases he
      rw [Bool.and_eq_true, Bool.and_eq_true, Bool.and_eq_true] at hb
      obtain ⟨⟨⟨hb1, hb2⟩, hb3⟩, hb4⟩ := hb
      have hb1 := Nat.eq_of_beq_eq_true hb1
      have hb2 := Nat.le_of_ble_eq_true hb2
      have hb3 := Nat.le_of_ble_eq_true hb3
      have hb4 := Nat.le_of_ble_eq_true hb4
      subst hb1
      obtain ⟨l', k1, k2, k3⟩ := load_rel hr hs hld
      obtain ⟨v', r', rfl, hv', _⟩ := k1.cons_inv
      have hcell := k3 0 v' rfl
      rw [Addr.add_none, Nat.add_zero] at hcell
      generalize hvv : (Value.slice (some ⟨i, o, none⟩) n c) = vv at hv'
      cases hv' <;> first | (cases hvv; done) | skip
      · rename_i i' q o' n' cA cC hsq hcc
        cases hvv
        obtain ⟨l2, m1, m2, m3⟩ := load_rel hr hsq hbl
        obtain ⟨ns, bs, hns, hbn, hvs⟩ := mk_key hbs m1
        subst hns
        have hnl : ns.length = n := by simpa using m2
        obtain ⟨cur, e', fz, q1, q2, q3, q4, q5, q6⟩ := hr.obj i _ q hg hsq
        obtain ⟨hun, hee, _⟩ := q6 rfl
        subst hee
        have hfit : q.sh + o + n ≤ cur.size := by
          have hlast := m3 (n - 1) (Value.int .u8 (ns[n - 1]'(by omega))) (by simp [List.getElem?_eq_getElem (show n - 1 < ns.length by omega)])
          rw [Addr.add_none] at hlast
          simp [World.cell?, q1] at hlast
          have := (Array.getElem?_eq_some_iff.1 hlast).1
          omega
        have hUS := unsafeString_at (P := P) w.drew (ρ.t 127) (ρ.t 3) (ρ.t 9) (ρ.t 5) L.t127 X.cellsByte q.b (q.sh + o) cur.size (by
          have : w.drew.heap[q.b]? = some (.cells cur (ρ.t 5) fz) := q1
          simp [World.shape?, this]) ns (by intro h0; subst h0; simp at hnl; omega) (by omega) (by omega) (fun j x hx => m3 j _ (by simp [hx]))
        rw [hnl] at hUS
        have hcc0 : cC ≠ 0 := by
          rcases hcc with h1 | ⟨h1, _⟩ <;> omega
        refine (String_at L X p.b (p.sh + off) ⟨q.b, q.sh + o, none⟩ n cC _ w _ hcc0 hcell hUS).mono fun e w' he => ?_
        obtain ⟨rfl, rfl⟩ := he
        obtain ⟨z1, z2⟩ := Rel.froze (hr.drew) hg hsq (q.sh + o) n
        refine ⟨_, σ, rfl, ?_, z1, Fr.of_drew z2⟩
        have : (⟨(ns.map fun n => n.toNat.toUInt8).toArray⟩ : ByteArray) = ofBytes bs := by
          rw [← hbn]
          rfl
        rw [this]
        exact hvs
      · cases hvv; omega
end Go.Ab
