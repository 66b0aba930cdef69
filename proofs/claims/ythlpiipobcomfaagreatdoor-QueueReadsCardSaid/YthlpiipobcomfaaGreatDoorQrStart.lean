/- The queue when a read waits: what the interpreter knows of it, cell by cell. -/
/- A queue that was begun, fed with a read, asked for its tasks: run by the interpreter, state by state. -/
import Derived.Test.YthlpiipobcomfaaGreatDoorQrDone
set_option linter.all false
set_option linter.unusedSectionVars false
set_option linter.unusedVariables false
set_option linter.unusedSimpArgs false
namespace Go.Proofs.YthlpiipobcomfaaGreatDoor
open Go Go.Ab Go.Proofs Go.RowKit
set_option maxRecDepth 1000000
def cellsAt (A : H) (i : Nat) : Option (List Value) := match A.get i with
  | some (.cells false _ c) => some c
  | _ => none
def isT (A : H) (it : Nat) : Bool := match cellsAt A it with
  | some [.int .i64 1, _, _, _, .int .i64 9, _, .bool false, _] => true
  | _ => false
def isL (A : H) (il it : Nat) : Bool := match cellsAt A il with
  | some [.pointer (some ⟨i, 0, none⟩)] => Nat.beq i it
  | _ => false
def ids (A : H) (iq : Nat) : Option (Nat × Nat × Nat) := match cellsAt A iq with
  | some [_, _, .slice none 0 0, _, .bool false, .bool false, _, .int .i64 1, _, .int .i64 2, _, _, .slice (some ⟨iu, 0, none⟩) 1 cu, .slice (some ⟨iw, 0, none⟩) 1 cw, _, _] =>
    bif Nat.ble 1 cu && Nat.ble 1 cw then (match cellsAt A iw with
      | some [.pointer (some ⟨it, 0, none⟩)] => some (iu, iw, it)
      | _ => none) else none
  | _ => none
def qOk (A : H) (iq : Nat) : Bool := match ids A iq with
  | some (iu, iw, it) => isL A iu it && isL A iw it && isT A it && !Nat.beq iq iu && !Nat.beq iq iw && !Nat.beq iq it && !Nat.beq iw iu && !Nat.beq iw it && !Nat.beq iu it && Nat.ble 4 iq && Nat.ble 4 iu && Nat.ble 4 iw && (A.get 0).isSome && (A.get 1).isSome && (A.get 2).isSome && (A.get 3).isSome
  | none => false
section
variable [Unk] {σ : Ab.Sg} {A : H} {w : World}
theorem cellsAt_get {i : Nat} {c : List Value} (h : cellsAt A i = some c) : ∃ e, A.get i = some (.cells false e c) := by
  unfold cellsAt at h
  split at h
  · rename_i e c' hg; cases h; exact ⟨e, hg⟩
  · cases h
theorem rel_cell (hr : Rel Tryz.prog σ A w) {i : Nat} {c : List Value} {p : Pl} (h : cellsAt A i = some c) (hp : σ i = some p) (j : Nat) {v : Value} (hv : c[j]? = some v) :
    ∃ v', w.cell? ⟨p.b, p.sh + j, none⟩ = some v' ∧ VRel σ v v' ∧ w.frozen? ⟨p.b, p.sh + j, none⟩ = false := by
  obtain ⟨e, hg⟩ := cellsAt_get h
  obtain ⟨cur, e', fz, h1, h2, h3, _, _, h6⟩ := hr.obj i _ p hg hp
  have hj : j < c.length := (List.getElem?_eq_some_iff.1 hv).1
  have hlt : p.sh + j < cur.size := by omega
  have hc : cur[p.sh + j]? = some cur[p.sh + j] := Array.getElem?_eq_getElem hlt
  refine ⟨cur[p.sh + j], by simp [World.cell?, h1, hc], h3 j v _ hv hc, ?_⟩
  have hu := (h6 rfl).1 (p.sh + j) hlt
  simp only [World.frozen?, h1]
  simpa using hu
theorem own_of {i : Nat} {c : List Value} (h : cellsAt A i = some c) : ∃ o, A.get i = some o ∧ o.own = true := by
  obtain ⟨e, hg⟩ := cellsAt_get h
  exact ⟨_, hg, rfl⟩
theorem ne_of (hr : Rel Tryz.prog σ A w) {i j : Nat} {c d : List Value} {p q : Pl} (hi : cellsAt A i = some c) (hj : cellsAt A j = some d) (hp : σ i = some p) (hq : σ j = some q) (hn : (!Nat.beq i j) = true) : p.b ≠ q.b := by
  obtain ⟨o, h1, h2⟩ := own_of hi
  obtain ⟨o', h3, _⟩ := own_of hj
  exact hr.inj i j p q o o' (Nat.ne_of_beq_eq_false (by simpa using hn)) h1 h3 hp hq h2
theorem four_le (hr : Rel Tryz.prog σ A w) {i : Nat} {c : List Value} {p : Pl} (hi : cellsAt A i = some c) (hp : σ i = some p) (h4 : Nat.ble 4 i = true) (hg : ∀ g, g < 4 → (A.get g).isSome = true) : 4 ≤ p.b := by
  rcases Nat.lt_or_ge p.b 4 with h | h
  · exfalso
    obtain ⟨o, h1, h2⟩ := own_of hi
    obtain ⟨o', h3⟩ := Option.isSome_iff_exists.1 (hg p.b h)
    obtain ⟨q, k1, k2, _⟩ := hr.glob p.b (by rw [count]; exact h)
    have hle : 4 ≤ i := Nat.le_of_ble_eq_true h4
    exact hr.inj i p.b p q o o' (by omega) h1 h3 hp k1 h2 k2.symm
  · exact h
end
/-- What Done asks. -/
structure Wait (w : World) (bq oq bw ow cw bu ou cu bt ot : Nat) : Prop where
  hcw : 1 ≤ cw
  ne1 : bq ≠ bw
  ne2 : bq ≠ bu
  ne3 : bq ≠ bt
  ne4 : bw ≠ bu
  ne5 : bw ≠ bt
  ne6 : bu ≠ bt
  c13 : w.cell? ⟨bq, oq + 13, none⟩ = some (.slice (some ⟨bw, ow, none⟩) 1 cw)
  c12 : w.cell? ⟨bq, oq + 12, none⟩ = some (.slice (some ⟨bu, ou, none⟩) 1 cu)
  f13 : w.frozen? ⟨bq, oq + 13, none⟩ = false
  f12 : w.frozen? ⟨bq, oq + 12, none⟩ = false
  cbw : w.cell? ⟨bw, ow, none⟩ = some (.pointer (some ⟨bt, ot, none⟩))
  cbu : w.cell? ⟨bu, ou, none⟩ = some (.pointer (some ⟨bt, ot, none⟩))
  fbw : w.frozen? ⟨bw, ow, none⟩ = false
  fbu : w.frozen? ⟨bu, ou, none⟩ = false
  t0 : w.cell? ⟨bt, ot, none⟩ = some (.int .i64 1)
  t4 : w.cell? ⟨bt, ot + 4, none⟩ = some (.int .i64 9)
  t6 : w.cell? ⟨bt, ot + 6, none⟩ = some (.bool false)
  q2 : w.cell? ⟨bq, oq + 2, none⟩ = some (.slice none 0 0)
  q4 : w.cell? ⟨bq, oq + 4, none⟩ = some (.bool false)
  q5 : w.cell? ⟨bq, oq + 5, none⟩ = some (.bool false)
  q7 : w.cell? ⟨bq, oq + 7, none⟩ = some (.int .i64 1)
  q9 : w.cell? ⟨bq, oq + 9, none⟩ = some (.int .i64 2)
  qf : w.frozen? ⟨bq, oq + 2, none⟩ = false
  h4 : 4 ≤ bq
  h5 : 4 ≤ bw
  h6 : 4 ≤ bu
theorem wait_of [Unk] {σ : Ab.Sg} {A : H} {w : World} (hr : Rel Tryz.prog σ A w) {iq : Nat} {pq : Pl} (hp : σ iq = some pq) (h : qOk A iq = true) :
    ∃ bw ow cw bu ou cu bt ot, Wait w pq.b pq.sh bw ow cw bu ou cu bt ot ∧ Owned σ A pq.b ∧ Owned σ A bw ∧ Owned σ A bu := by
  unfold qOk at h
  split at h
  · rename_i iu iw it hids
    simp only [Bool.and_eq_true] at h
    obtain ⟨⟨⟨⟨⟨⟨⟨⟨⟨⟨⟨⟨⟨⟨⟨hLu, hLw⟩, hT⟩, n1⟩, n2⟩, n3⟩, n4⟩, n5⟩, n6⟩, m1⟩, m2⟩, m3⟩, g0⟩, g1⟩, g2⟩, g3⟩ := h
    have hg : ∀ g, g < 4 → (A.get g).isSome = true := fun g hg => by
      match g, hg with
      | 0, _ => exact g0
      | 1, _ => exact g1
      | 2, _ => exact g2
      | 3, _ => exact g3
    unfold ids at hids
    split at hids
    · rename_i a0 a1 a3 a6 a8 a10 a11 iu' cu iw' cw a14 a15 hcq
      cases hb : (Nat.ble 1 cu && Nat.ble 1 cw) with
      | false => rw [hb] at hids; cases hids
      | true =>
        rw [hb] at hids
        rw [Bool.and_eq_true] at hb
        simp only [cond_true] at hids
        split at hids
        · rename_i it' hcw
          cases hids
          unfold isL at hLu
          split at hLu
          · rename_i iy hcu
            have ey := Nat.eq_of_beq_eq_true hLu
            subst ey
            unfold isT at hT
            split at hT
            · rename_i b1 b2 b3 b5 b7 hct
              obtain ⟨x2, e2, r2, f2⟩ := rel_cell hr hcq hp 2 rfl
              obtain ⟨x4, e4, r4, _⟩ := rel_cell hr hcq hp 4 rfl
              obtain ⟨x5, e5, r5, _⟩ := rel_cell hr hcq hp 5 rfl
              obtain ⟨x7, e7, r7, _⟩ := rel_cell hr hcq hp 7 rfl
              obtain ⟨x9, e9, r9, _⟩ := rel_cell hr hcq hp 9 rfl
              obtain ⟨x12, e12, r12, f12⟩ := rel_cell hr hcq hp 12 rfl
              obtain ⟨x13, e13, r13, f13⟩ := rel_cell hr hcq hp 13 rfl
              cases r2; cases r4; cases r5; cases r7; cases r9
              cases r12 with
              | slice off l c c1 hu1 hu2 =>
                rename_i pu
                cases r13 with
                | slice off l c c2 hw1 hw2 =>
                  rename_i pw
                  obtain ⟨y, ey, ry, fy⟩ := rel_cell hr hcu hu1 0 rfl
                  obtain ⟨z, ez, rz, fz⟩ := rel_cell hr hcw hw1 0 rfl
                  cases ry with
                  | ptr off hy =>
                    rename_i pt
                    cases rz with
                    | ptr off hz =>
                      rename_i pt2
                      have et : pt = pt2 := Option.some.inj (hy.symm.trans hz)
                      subst et
                      obtain ⟨x0, k0, s0, _⟩ := rel_cell hr hct hy 0 rfl
                      obtain ⟨x4, k4, s4, _⟩ := rel_cell hr hct hy 4 rfl
                      obtain ⟨x6, k6, s6, _⟩ := rel_cell hr hct hy 6 rfl
                      cases s0; cases s4; cases s6
                      have hc2 : 1 ≤ c2 := by
                        have := Nat.le_of_ble_eq_true hb.2
                        rcases hw2 with h | h
                        · omega
                        · omega
                      refine ⟨pw.b, pw.sh, c2, pu.b, pu.sh, c1, pt.b, pt.sh, ⟨hc2, ne_of hr hcq hcw hp hw1 n2, ne_of hr hcq hcu hp hu1 n1, ne_of hr hcq hct hp hy n3, ne_of hr hcw hcu hw1 hu1 n4, ne_of hr hcw hct hw1 hy n5, ne_of hr hcu hct hu1 hy n6, e13, e12, f13, f12, ez, ey, fz, fy, k0, k4, k6, e2, e4, e5, e7, e9, f2,
                        four_le hr hcq hp m1 hg, four_le hr hcw hw1 m3 hg, four_le hr hcu hu1 m2 hg⟩, ?_, ?_, ?_⟩
                      · obtain ⟨o, h1, h2⟩ := own_of hcq; exact ⟨iq, pq, o, hp, rfl, h1, h2⟩
                      · obtain ⟨o, h1, h2⟩ := own_of hcw; exact ⟨_, pw, o, hw1, rfl, h1, h2⟩
                      · obtain ⟨o, h1, h2⟩ := own_of hcu; exact ⟨_, pu, o, hu1, rfl, h1, h2⟩
            · cases hT
          · cases hLu
        · cases hids
    · cases hids
  · cases h
end Go.Proofs.YthlpiipobcomfaaGreatDoor
namespace Go.Proofs.YthlpiipobcomfaaGreatDoor
open Go Go.Ab Go.Proofs Go.RowKit
set_option maxRecDepth 1000000
def sqe64 : ByteArray := ⟨#[2, 64, 9, 0, 1, 0, 0, 0, 0, 0, 0, 0, 0, 0, 0, 0, 0, 0, 0, 0, 0, 0, 0, 0, 0, 0, 0, 0, 0, 0, 0, 0, 0, 2, 0, 0, 0, 0, 0, 90, 0, 0, 0, 0, 0, 0, 0, 0, 0, 0, 0, 0, 0, 0, 0, 0, 0, 0, 0, 0, 0, 0, 0, 0]⟩
def cmd72 : ByteArray := ⟨#[4, 0, 72, 0, 72, 0, 0, 0]⟩ ++ sqe64
def tasksOk (va : Value) : Value → H → Bool := fun r A => match r, va with
  | .slice (some _) 1 _, .pointer (some ⟨iq, 0, none⟩) => qOk A iq
  | _, _ => false
section
variable [Kn]
noncomputable def kTasks (va : Value) (A : H) : Bool := kF code nats 3000 18 [va] A (tasksOk va)
noncomputable def kFeed (va : Value) (A : H) : Bool := kF code nats 3000 13 [va, .string cmd72] A (fun _ A2 => kTasks va A2)
end
theorem run12 : (letI : Kn := knNone; kF code nats 3000 12 [] (otabH tabs) (fun va A => (match va with | .pointer (some ⟨_, 0, none⟩) => true | _ => false) && kFeed va A)) = true := by kernel_rfl
/-- A state of the interpreter that stands in the world; what it owns is new since W0. -/
structure At (W0 : World) (k : Value → H → Bool) (v : Value) (w : World) : Prop where
  st : ∃ σ va A, @VRel (bitsI 0) σ va v ∧ @Rel (bitsI 0) Tryz.prog σ A w ∧ k va A = true ∧ ∀ b, Owned σ A b → W0.heap.size ≤ b
  below : Below W0.heap.size W0 w
theorem At.mono {W0 : World} {k : Value → H → Bool} {v : Value} {w w' : World} (h : At W0 k v w) (hb : Below w.heap.size w w') : At W0 k v w' := by
  obtain ⟨σ, va, A, h1, h2, h3, h4⟩ := h.st
  letI : Unk := bitsI 0
  letI : Kn := knNone
  haveI : KnOk := knNone_ok
  exact ⟨⟨σ, va, A, h1, (Rel.below h2 hb).1, h3, h4⟩, below_step h.below hb (Nat.le_refl _)⟩
theorem begun12 {w : World} (hL : Laid w) {W0 : World} (hb : Below W0.heap.size W0 w) : Calls Tryz.prog 12 #[] w fun e w' => ∃ b o, e = .returned (.pointer (some ⟨b, o, none⟩)) ∧ At W0 (@kFeed knNone) (.pointer (some ⟨b, o, none⟩)) w' := by
  letI : Kn := knNone
  letI : Unk := bitsI 0
  haveI : KnOk := knNone_ok
  obtain ⟨m, va, A, h1, h2⟩ := quick run12
  rw [Bool.and_eq_true] at h2
  refine ((evalF_ok mixed ext code_body code_nat m).calls _ _ _ _ _ h1 _ w [] (hL (bitsI 0) knNone knNone_ok) .nil).mono ?_
  rintro e w' ⟨rc, σ', rfl, k1, k2, k3⟩
  have ho : ∀ b, Owned (otabS Tryz.prog tabs) (otabH tabs) b → W0.heap.size ≤ b := fun b ho => by
    obtain ⟨id, p, o, _, _, hg, hown⟩ := ho
    rw [otabH_ro _ hg] at hown
    cases hown
  obtain ⟨q1, q2⟩ := below_fr hb ho k3
  have hp := h2.1
  split at hp
  · cases k1 with
    | ptr off hs => exact ⟨_, _, rfl, ⟨_, _, A, .ptr 0 hs, k2, h2.2, q2⟩, q1⟩
  · cases hp
theorem feed13 {W0 w : World} {v : Value} (h : At W0 (@kFeed knNone) v w) : Calls Tryz.prog 13 #[v, .string cmd72] w fun e w' => ∃ x, e = .returned x ∧ At W0 (@kTasks knNone) v w' := by
  letI : Kn := knNone
  letI : Unk := bitsI 0
  haveI : KnOk := knNone_ok
  obtain ⟨σ, va, A, h1, h2, h3, h4⟩ := h.st
  obtain ⟨m, r, A', e1, e2⟩ := quick h3
  refine ((evalF_ok mixed ext code_body code_nat m).calls _ _ _ _ _ e1 σ w [v, .string cmd72] h2 (.cons h1 (.cons (.string _) .nil))).mono ?_
  rintro e w' ⟨rc, σ', rfl, k1, k2, k3⟩
  obtain ⟨q1, q2⟩ := below_fr h.below h4 k3
  exact ⟨rc, rfl, ⟨σ', va, A', h1.mono k3.ext, k2, e2, q2⟩, q1⟩
theorem tasks18 {W0 w : World} {bq oq : Nat} (h : At W0 (@kTasks knNone) (.pointer (some ⟨bq, oq, none⟩)) w) : Calls Tryz.prog 18 #[.pointer (some ⟨bq, oq, none⟩)] w fun e w' => ∃ a c, e = .returned (.slice a 1 c) ∧ Below W0.heap.size W0 w' ∧
    ∃ bw ow cw bu ou cu bt ot, Wait w' bq oq bw ow cw bu ou cu bt ot ∧ W0.heap.size ≤ bq ∧ W0.heap.size ≤ bw ∧ W0.heap.size ≤ bu := by
  letI : Kn := knNone
  letI : Unk := bitsI 0
  haveI : KnOk := knNone_ok
  obtain ⟨σ, va, A, h1, h2, h3, h4⟩ := h.st
  obtain ⟨m, r, A', e1, e2⟩ := quick h3
  refine ((evalF_ok mixed ext code_body code_nat m).calls _ _ _ _ _ e1 σ w [.pointer (some ⟨bq, oq, none⟩)] h2 (.cons h1 .nil)).mono ?_
  rintro e w' ⟨rc, σ', rfl, k1, k2, k3⟩
  obtain ⟨q1, q2⟩ := below_fr h.below h4 k3
  unfold tasksOk at e2
  split at e2
  · cases k1 with
    | slice off l c c' hs hc =>
      cases h1 with
      | ptr off hq =>
        obtain ⟨bw, ow, cw, bu, ou, cu, bt, ot, hw, o1, o2, o3⟩ := wait_of k2 (k3.ext _ _ hq) e2
        exact ⟨_, _, rfl, q1, bw, ow, cw, bu, ou, cu, bt, ot, hw, q2 _ o1, q2 _ o2, q2 _ o3⟩
  · cases e2
end Go.Proofs.YthlpiipobcomfaaGreatDoor
