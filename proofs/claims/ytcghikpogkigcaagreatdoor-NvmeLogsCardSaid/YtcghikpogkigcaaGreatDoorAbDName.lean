/- What a host may be called: both walks. -/
/- What a host may be called: the table of letters. -/
/- What a host may be called: names.Name. -/
import Derived.Test.YtcghikpogkigcaaGreatDoorProg
import Derived.Test.YtcghikpogkigcaaGreatDoorAbMem
import Derived.WalkKit
import Derived.WalkLawsBesides
import Derived.Lib.Hide
import Derived.LoopTactic
import Derived.Test.YtcghikpogkigcaaGreatDoorAbDBase
import Derived.Deep.QuietTactic
import Derived.BigQuiet
set_option linter.all false
set_option linter.unusedSectionVars false
set_option linter.unusedVariables false
set_option linter.unusedSimpArgs false
namespace Go.Proofs.YtcghikpogkigcaaGreatDoor
open Go Go.Ab Go.Proofs Go.RowKit
set_option maxRecDepth 1000000
def letC (c : UInt8) : Bool := decide (97 ≤ (c.toNat : Int)) && decide ((c.toNat : Int) ≤ 122)
def digC (c : UInt8) : Bool := decide (48 ≤ (c.toNat : Int)) && decide ((c.toNat : Int) ≤ 57)
def okC (c : UInt8) : Bool := letC c || digC c || decide ((c.toNat : Int) = 46) || decide ((c.toNat : Int) = 45) || decide ((c.toNat : Int) = 58)
def nameB (s : ByteArray) : Bool := decide (1 ≤ s.size) && decide (s.size ≤ 64) && letC (s.data.toList.headD 0) && s.data.toList.all okC
set_option maxHeartbeats 1000000 in
theorem let_any (c : UInt8) (w : World) : Calls Tryz.prog 19 #[.int .u8 c.toNat] w fun e w' => e = .returned (.bool (letC c)) ∧ w' = w := by
  go_enter Tryz.func19, Tryz.ntmps19
  go_wp2
  all_goals (go_ret; exact ⟨by simp_all [letC] <;> omega, rfl⟩)
set_option maxHeartbeats 1000000 in
theorem dig_any (c : UInt8) (w : World) : Calls Tryz.prog 20 #[.int .u8 c.toNat] w fun e w' => e = .returned (.bool (digC c)) ∧ w' = w := by
  go_enter Tryz.func20, Tryz.ntmps20
  go_wp2
  all_goals (go_ret; exact ⟨by simp_all [digC] <;> omega, rfl⟩)
theorem take_snoc (s : ByteArray) (k : Nat) (h : k < s.size) : s.data.toList.take (k + 1) = s.data.toList.take k ++ [s[k]] := by
  rw [List.take_succ_eq_append_getElem (by simpa using h)]; rfl
theorem all_snoc (s : ByteArray) (k : Nat) (h : k < s.size) (h1 : (s.data.toList.take k).all okC = true) (h2 : okC s[k] = true) : (s.data.toList.take (k + 1)).all okC = true := by
  rw [take_snoc s k h, List.all_append, h1]; simp [h2]
theorem bad_all (s : ByteArray) (k : Nat) (h : k < s.size) (h2 : okC s[k] = false) : s.data.toList.all okC = false := by
  rw [List.all_eq_false]
  exact ⟨s[k], Array.getElem_mem_toList _, by simp [h2]⟩
theorem head_eq (s : ByteArray) (h : 0 < s.size) : s.data.toList.headD 0 = s[0] := by
  obtain ⟨⟨l⟩⟩ := s
  cases l with
  | nil => exact absurd h (Nat.lt_irrefl 0)
  | cons a l => rfl
theorem ret_b {a b : Bool} (h : a = b) : Ending.returned (.bool a) = .returned (.bool b) := by rw [h]
set_option maxHeartbeats 4000000 in
theorem ref_name (s : ByteArray) (w : World) (hs : s.size ≤ maxLen) : Calls Tryz.prog 6 #[.string s] w fun e w' => e = .returned (.bool (nameB s)) ∧ w' = w := by
  unfold maxLen at hs
  by_cases h0 : 0 < s.size
  · by_cases h1 : s.size ≤ 64
    · cases hl : letC s[0] with
      | false =>
        have HN : Hid (nameB s = false) := by unfold nameB Hid; rw [head_eq s h0, hl]; simp
        have HL := Lib.hid hl
        clear hl
        go_enter Tryz.func6, Tryz.ntmps6
        go_wp2_with (first | (go_at_call 19; refine (let_any _ _).mono ?_; rintro e w' ⟨rfl, rfl⟩; rw [HL.out]))
        go_ret
        exact ⟨ret_b HN.out.symm, rfl⟩
      | true =>
        have HN : Hid (nameB s = s.data.toList.all okC) := by unfold nameB Hid; rw [head_eq s h0, hl]; simp; omega
        have HL := Lib.hid hl
        clear hl
        go_enter Tryz.func6, Tryz.ntmps6
        go_wp2_with (first | (go_at_call 19; refine (let_any _ _).mono ?_; rintro e w' ⟨rfl, rfl⟩; rw [HL.out]))
        go_loop [3] (fun i => ∃ k : Nat, k ≤ s.size ∧ i = .int .i64 k ∧ (s.data.toList.take k).all okC = true) (fun i => s.size - (intOf i).toNat)
        case atStart => exact ⟨0, Nat.zero_le _, rfl, by simp⟩
        case round =>
          obtain ⟨k, hk, rfl, hall⟩ := hrel
          have HA := Lib.hid hall
          clear hall
          by_cases hlt : k < s.size
          · cases hc1 : letC s[k] <;> cases hc2 : digC s[k]
            all_goals
              have H1 := Lib.hid hc1
              have H2 := Lib.hid hc2
              clear hc1 hc2
              go_wp2_with (first | (go_at_call 19; refine (let_any _ _).mono ?_; rintro e w' ⟨rfl, rfl⟩; rw [H1.out]) | (go_at_call 20; refine (dig_any _ _).mono ?_; rintro e w' ⟨rfl, rfl⟩; rw [H2.out]))
            all_goals try simp only [bne_eq_false_iff_eq, bne_iff_ne, ne_eq, not_or, Bool.not_eq_false, Bool.not_eq_true, Bool.or_eq_true, Bool.or_eq_false_iff] at *
            all_goals first
              | (go_ret; exact ⟨ret_b (by rw [HN.out, bad_all s k hlt (by unfold okC; rw [H1.out, H2.out]; simp; omega)]), rfl⟩)
              | exact ⟨⟨k + 1, by omega, by go_num, all_snoc s k hlt HA.out (by unfold okC; rw [H1.out, H2.out]; simp; try omega)⟩, by simp [intOf]; omega⟩
          · go_wp2
            go_ret
            exact ⟨ret_b (by rw [HN.out]; have := HA.out; rwa [List.take_of_length_le (by simp; omega), eq_comm] at this), rfl⟩
    · have HN : Hid (nameB s = false) := by unfold nameB Hid; simp; omega
      go_enter Tryz.func6, Tryz.ntmps6
      go_wp2
      go_ret
      exact ⟨ret_b HN.out.symm, rfl⟩
  · have HN : Hid (nameB s = false) := by unfold nameB Hid; simp; omega
    go_enter Tryz.func6, Tryz.ntmps6
    go_wp2
    go_ret
    exact ⟨ret_b HN.out.symm, rfl⟩
end Go.Proofs.YtcghikpogkigcaaGreatDoor
namespace Go.Proofs.YtcghikpogkigcaaGreatDoor
open Go Go.Ab Go.Proofs Go.RowKit
set_option maxRecDepth 1000000
theorem rel_none [Unk] [Kn] [KnOk] {P : Program} {σ : Sg} {A : H} {w : World} {n : Nat} (hn : P.globals.size = n) (hr : Rel P σ A w) : Rel P (fun i => if i < n then σ i else none) (otabH (List.replicate n none)) w := by
  have hno : ∀ id o, (otabH (List.replicate n none)).get id ≠ some o := by
    intro id o ho
    rw [otabH_get, Option.map_eq_some_iff] at ho
    obtain ⟨x, hx, _⟩ := ho
    rw [List.getElem?_replicate] at hx
    split at hx <;> cases hx
  refine ⟨fun g hlt => ?_, fun id o p ho hs => absurd ho (hno _ _), fun i j p q o o' _ ho _ _ _ hown => absurd ho (hno _ _), fun id p hs => ?_, fun id hid => ?_⟩
  · obtain ⟨p, h1, h2, h3⟩ := hr.glob g hlt
    exact ⟨p, by simp only [if_pos (show g < n by omega)]; exact h1, h2, h3⟩
  · by_cases hlt : id < n
    · simp only [if_pos hlt] at hs; exact hr.lt id p hs
    · simp only [if_neg hlt] at hs; cases hs
  · unfold otabH at hid
    rw [otabGo_next] at hid
    simp only [Nat.zero_add, List.length_replicate] at hid
    refine ⟨?_, by simp only [if_neg (show ¬ id < n by omega)]⟩
    cases h : (otabH (List.replicate n none)).get id with
    | none => rfl
    | some o => exact absurd h (hno _ _)
def okN (i : Nat) : Bool := (Nat.ble 97 i && Nat.ble i 122) || (Nat.ble 48 i && Nat.ble i 57) || Nat.beq i 46 || Nat.beq i 45 || Nat.beq i 58
def tabFits : Nat → List Value → Bool
  | _, [] => true
  | i, .bool b :: l => (b == okN i) && tabFits (i + 1) l
  | _, _ => false
def objTab : AObj → Bool
  | .cells ro _ c => !ro && (Nat.beq c.length 256 && tabFits 0 c)
  | _ => false
def isTab : Option (Value × H) → Bool
  | some (.pointer (some ⟨id, 0, none⟩), A) => match A.get id with
    | some o => objTab o
    | none => false
  | _ => false
theorem tabFits_get : ∀ (l : List Value) (i j : Nat) (v : Value), tabFits i l = true → l[j]? = some v → v = .bool (okN (i + j))
  | [], i, j, v, _, h => by simp at h
  | x :: l, i, j, v, hf, h => by
    cases x <;> simp only [tabFits, Bool.false_eq_true] at hf
    rename_i b
    rw [Bool.and_eq_true] at hf
    cases j with
    | zero =>
      simp only [List.getElem?_cons_zero, Option.some.injEq] at h
      subst h
      have : b = okN i := by simpa using hf.1
      rw [this]; rfl
    | succ j =>
      have := tabFits_get l (i + 1) j v hf.2 (by simpa using h)
      rw [this, show i + 1 + j = i + (j + 1) by omega]
theorem isTab_some {r : Option (Value × H)} (h : isTab r = true) : ∃ id A e c, r = some (.pointer (some ⟨id, 0, none⟩), A) ∧ A.get id = some (.cells false e c) ∧ c.length = 256 ∧ ∀ (j : Nat) (v : Value), c[j]? = some v → v = Value.bool (okN j) := by
  unfold isTab at h
  split at h
  · rename_i id A
    cases hg : A.get id with
    | none => rw [hg] at h; cases h
    | some o =>
      rw [hg] at h
      cases o with
      | cells ro e c =>
        simp only [objTab, Bool.and_eq_true] at h
        cases ro with
        | true => cases h.1
        | false => exact ⟨id, A, e, c, rfl, hg, Nat.eq_of_beq_eq_true h.2.1, fun j v hj => by have := tabFits_get c 0 j v h.2.2 hj; rwa [Nat.zero_add] at this⟩
      | _ => cases h
  · cases h
section
variable [Unk] [Kn] [KnOk]
omit [Unk] [KnOk] in
theorem let_run : isTab (evalF code 3000 62 [] (otabH (List.replicate 9 none))) = true := by kernel_rfl
theorem globs : Tryz.prog.globals.size = 9 := by kernel_rfl
theorem let_walk {σ : Sg} {A : H} {w : World} (hr : Rel Tryz.prog σ A w) : Calls Tryz.prog 62 #[] w fun e w' => ∃ b o cur t fz, e = .returned (.pointer (some ⟨b, o, none⟩)) ∧ w'.heap[b]? = some (.cells cur t fz) ∧ (∀ j, j < 256 → cur[o + j]? = some (.bool (okN j))) ∧ Below w.heap.size w w' := by
  obtain ⟨id, A', e, c, hA, hg, hlen, hc⟩ := isTab_some let_run
  refine ((evalF_ok mixed ext code_body code_nat 3000).calls _ _ _ _ _ hA _ w [] (rel_none globs hr) .nil).mono fun ee w' hh => ?_
  obtain ⟨rc, σ', rfl, h2, h3, h4⟩ := hh
  cases h2 with
  | ptr off hp =>
    rename_i p
    obtain ⟨cur, e', fz, q1, q2, q3, q4, q5, q6⟩ := h3.obj _ _ _ hg hp
    refine ⟨p.b, p.sh + 0, cur, e', fz, rfl, q1, fun j hj => ?_, h4.os, h4.tape, h4.output, h4.size, fun k hk => h4.frame k hk fun ho => ?_⟩
    · have hlt : j < c.length := by omega
      have e1 := List.getElem?_eq_getElem hlt
      have hlt2 : p.sh + j < cur.size := by omega
      have e2 : cur[p.sh + j]? = some cur[p.sh + j] := Array.getElem?_eq_getElem hlt2
      have hv := q3 j _ _ e1 e2
      rw [hc j _ e1] at hv
      rw [show p.sh + 0 + j = p.sh + j by omega, e2]
      generalize cur[p.sh + j] = z at hv
      cases hv
      rfl
    · obtain ⟨id, p, o, _, _, hg, hown⟩ := ho
      rw [otabH_ro _ hg] at hown
      cases hown
end
end Go.Proofs.YtcghikpogkigcaaGreatDoor
namespace Go.Proofs.YtcghikpogkigcaaGreatDoor
open Go Go.Ab Go.Proofs Go.RowKit
set_option maxRecDepth 1000000
theorem okN_eq (c : UInt8) : okN c.toNat = okC c := by
  unfold okN okC letC digC
  rw [Bool.eq_iff_iff]
  simp [Nat.ble_eq]
  omega
theorem below_drewN2 {B : Nat} {a w : World} (h : Below B a w) (n : Nat) : Below B a (w.drewN n) := ⟨h.os, h.tape, h.output, h.size, h.block⟩
section
variable [Unk] [Kn] [KnOk]
set_option maxHeartbeats 4000000 in
theorem name_walk {σ : Sg} {A : H} {w : World} (hr : Rel Tryz.prog σ A w) (s : ByteArray) (hs : s.size ≤ maxLen) : Calls Tryz.prog 23 #[.string s] w fun e w' => e = .returned (.bool (nameB s)) ∧ Below w.heap.size w w' := by
  unfold maxLen at hs
  by_cases h0 : 0 < s.size
  · by_cases h1 : s.size ≤ 64
    · cases hl : letC s[0] with
      | false =>
        have HN : Hid (nameB s = false) := by unfold nameB Hid; rw [head_eq s h0, hl]; simp
        have HL : ¬ (97 ≤ (s[0].toNat : Int) ∧ (s[0].toNat : Int) ≤ 122) := by unfold letC at hl; simp at hl; omega
        clear hl
        go_enter Tryz.func23, Tryz.ntmps23
        by_cases h2 : 97 ≤ (s[0].toNat : Int)
        all_goals go_wp2_with (fail)
        all_goals (go_ret; exact ⟨ret_b HN.out.symm, Below.refl _ _⟩)
      | true =>
        have HN : Hid (nameB s = s.data.toList.all okC) := by unfold nameB Hid; rw [head_eq s h0, hl]; simp; omega
        have HL : 97 ≤ (s[0].toNat : Int) ∧ (s[0].toNat : Int) ≤ 122 := by unfold letC at hl; simp at hl; omega
        have hl1 := HL.1
        have hl2 := HL.2
        clear hl HL
        have HW : Hid (Calls Tryz.prog 62 #[] w fun e w' => ∃ b o cur t fz, e = .returned (.pointer (some ⟨b, o, none⟩)) ∧ w'.heap[b]? = some (.cells cur t fz) ∧ (∀ j, j < 256 → cur[o + j]? = some (.bool (okN j))) ∧ Below w.heap.size w w') := let_walk hr
        go_enter Tryz.func23, Tryz.ntmps23
        go_wp2_with (first | (go_at_call 62; refine HW.out.mono ?_; rintro e w' ⟨b, o, cur, t, fz, rfl, hb, hcur, hbel⟩; have HB := Lib.hid hb; have HC := Lib.hid hcur; have HE := Lib.hid hbel; clear hb hcur hbel))
        have HD : Hid (∀ j, j < 256 → w'.cell? ⟨b, o + j, none⟩ = some (.bool (okN j))) := fun j hj => by
          have h1 := HB.out
          have h2 := HC.out j hj
          unfold World.cell?
          simp only [h1]
          simpa using h2
        clear HB HC
        go_loopw [26] (fun i wr => ∃ k n : Nat, k ≤ s.size ∧ wr = w'.drewN n ∧ i = .int .i64 k ∧ (s.data.toList.take k).all okC = true) (fun i _ => s.size - (intOf i).toNat)
        case atStart => exact ⟨0, 0, Nat.zero_le _, rfl, rfl, by simp⟩
        case round =>
          obtain ⟨k, n, hk, rfl, rfl, hall⟩ := hrel
          have HA := Lib.hid hall
          clear hall
          by_cases hlt : k < s.size
          · have hc := HD.out s[k].toNat s[k].toNat_lt
            rw [okN_eq] at hc
            have h256 : (s[k].toNat : Int) < 256 := by have := s[k].toNat_lt; omega
            cases hk2 : okC s[k]
            all_goals
              rw [hk2] at hc
              have HK := Lib.hid hk2
              clear hk2
              go_wp2
              go_quiet (fail)
              go_wp2
            · go_ret
              exact ⟨ret_b (by rw [HN.out, bad_all s k hlt HK.out]), below_drewN2 (below_drewN2 HE.out _) _⟩
            · exact ⟨⟨k + 1, _, by omega, rfl, by go_num, all_snoc s k hlt HA.out HK.out⟩, by simp [intOf]; omega⟩
          · go_wp2
            go_ret
            exact ⟨ret_b (by rw [HN.out]; have := HA.out; rwa [List.take_of_length_le (by simp; omega), eq_comm] at this), below_drewN2 HE.out _⟩
    · have HN : Hid (nameB s = false) := by unfold nameB Hid; simp; omega
      go_enter Tryz.func23, Tryz.ntmps23
      go_wp2
      go_ret
      exact ⟨ret_b HN.out.symm, Below.refl _ _⟩
  · have HN : Hid (nameB s = false) := by unfold nameB Hid; simp; omega
    go_enter Tryz.func23, Tryz.ntmps23
    go_wp2
    go_ret
    exact ⟨ret_b HN.out.symm, Below.refl _ _⟩
end
end Go.Proofs.YtcghikpogkigcaaGreatDoor
