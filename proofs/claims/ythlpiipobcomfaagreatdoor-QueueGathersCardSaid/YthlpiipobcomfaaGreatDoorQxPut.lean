/- Numbers as bytes: what the program's and the reference's PutLittle answer (told by the interpreter, of every number). -/
/- Numbers as bytes: the runs, and what they say. -/
/- Answers that the interpreter tells, of functions that read the program's tables. -/
import Derived.Test.YthlpiipobcomfaaGreatDoorQxBase
import Derived.Test.YthlpiipobcomfaaGreatDoorQxKit
import Derived.Test.YthlpiipobcomfaaGreatDoorAcMem
import Derived.Test.YthlpiipobcomfaaGreatDoorAcHoare
set_option linter.all false
set_option linter.unusedSectionVars false
set_option linter.unusedVariables false
set_option linter.unusedSimpArgs false
namespace Go.Proofs.YthlpiipobcomfaaGreatDoor
open Go Go.Ab Go.Proofs Go.RowKit
set_option maxRecDepth 1000000
/-- The program's tables lie in the world. -/
def Laid (w : World) : Prop := ∀ (I : Unk) (K : Kn), @KnOk K I → ∃ σ, @Rel I Tryz.prog σ (otabH tabs) w
theorem Laid.of {w w' : World} (h : Laid w) (hb : Below w.heap.size w w') : Laid w' := fun I K hk => by
  letI : Unk := I
  letI : Kn := K
  haveI : KnOk := hk
  obtain ⟨σ, hr⟩ := h I K hk
  exact ⟨σ, (Rel.below hr hb).1⟩
theorem tab_at [Unk] {σ : Ab.Sg} {w : World} (hr : Rel Tryz.prog σ (otabH tabs) w) {id : Nat} {o : AObj} {p : Pl} (ha : (otabH tabs).get id = some o) (hs : σ id = some p) : p.b < 4 := by
  letI : Kn := knNone
  haveI : KnOk := knNone_ok
  rw [otabH_get, Option.map_eq_some_iff] at ha
  obtain ⟨x, hx, rfl⟩ := ha
  rw [Option.join_eq_some_iff] at hx
  have hlt : id < tabs.length := (List.getElem?_eq_some_iff.1 hx).1
  have h4 : tabs.length = 4 := rfl
  obtain ⟨q, h1, h2, _⟩ := hr.glob id (by rw [count]; omega)
  rw [h1] at hs
  cases hs
  omega
theorem Laid.keep {w w' : World} (h : Laid w) (hs : w.heap.size ≤ w'.heap.size) (hb : ∀ k, k < 4 → w'.heap[k]? = w.heap[k]?) : Laid w' := fun I K hk => by
  letI : Unk := I
  letI : Kn := K
  haveI : KnOk := hk
  obtain ⟨σ, hr⟩ := h I K hk
  exact ⟨σ, hr.glob, fun id o p ha hs => (hr.obj id o p ha hs).keep (Sg.le_refl _) (hb p.b (tab_at hr ha hs)), hr.inj, fun id p hp => Nat.lt_of_lt_of_le (hr.lt id p hp) hs, hr.dom⟩
theorem laid_rel {I0 : Unk} {σ : Ab.Sg} {w : World} (hr : @Rel I0 Tryz.prog σ (otabH tabs) w) : Laid w := by
  obtain ⟨g1, g2, g3, g4, g5⟩ := hr
  intro I K hk
  refine ⟨σ, g1, fun id o p ha hs => ?_, g3, g4, g5⟩
  have h0 := g2 id o p ha hs
  rw [otabH_get, Option.map_eq_some_iff] at ha
  obtain ⟨x, hx, rfl⟩ := ha
  rw [Option.join_eq_some_iff] at hx
  obtain ⟨cur, e', fz, h1, h2, h3, h4, h5, h6⟩ := h0
  refine ⟨cur, e', fz, h1, h2, fun i v v' hv hc => ?_, h4, h5, h6⟩
  have hf := tabs_flat id x.1 x.2 hx v (List.mem_of_getElem? hv)
  have e := @flat1_same I0 knNone (@knNone_ok I0) σ v v' hf (h3 i v v' hv hc)
  subst e
  exact @Flat.vrel I σ _ (flat1_flat hf)
theorem Laid.drew {w : World} (h : Laid w) : Laid w.drew := h.of ((Below.refl _ _).drew)
theorem Laid.alloc {w : World} (h : Laid w) (o : Obj) : Laid (w.alloc o) := h.of ((Below.refl _ _).alloc (Nat.le_refl _) o)
/-- The bits of one number. -/
@[reducible] def bitsI (v : Nat) : Unk := unkOf (fun i => UInt8.ofNat i) (by decide) (fun _ => .nilIface) (fun _ => rfl) (fun _ _ h => by cases h) (fun i => v.testBit i) (fun _ => ⟨#[]⟩) (fun _ => by decide)
def bits16 : List Nat := ((List.range 16).map (· + 2)) ++ List.replicate 48 0
def num16 : Value := (mkV ⟨.u64, 1, 0, bits16⟩).getD .nilIface
theorem num16_eq : mkV ⟨.u64, 1, 0, bits16⟩ = some num16 := by
  have h : (mkV ⟨.u64, 1, 0, bits16⟩).isSome = true := by decide +kernel
  obtain ⟨v, hv⟩ := Option.isSome_iff_exists.1 h
  unfold num16
  rw [hv]; rfl
theorem bits_den (v lo n : Nat) (hv : lo + n ≤ 16) : denL (@Unk.bit (bitsI v)) ((List.range n).map (· + (2 + lo))) = v / 2 ^ lo % 2 ^ n := by
  apply Nat.eq_of_testBit_eq
  intro j
  rw [test_den, Nat.testBit_mod_two_pow, Nat.testBit_div_two_pow]
  by_cases hj : j < n
  · rw [List.getD_eq_getElem?_getD, List.getElem?_map, List.getElem?_range hj]
    show bitV _ (j + (2 + lo)) = _
    unfold bitV
    rw [if_neg (by omega), if_neg (by omega)]
    show unkBit (fun i => v.testBit i) _ (j + (2 + lo) - 2) = _
    unfold unkBit
    rw [if_neg (by omega), show j + (2 + lo) - 2 = j + lo by omega]
    simp [hj]
  · rw [List.getD_eq_getElem?_getD, List.getElem?_eq_none (by simp; omega)]
    simp [hj, bitV]
theorem denL_pad (bit : Nat → Bool) (k : Nat) : ∀ l : List Nat, denL bit (l ++ List.replicate k 0) = denL bit l
  | [] => by
    induction k with
    | zero => rfl
    | succ k ih =>
      show (bitV bit 0).toNat + 2 * denL bit ([] ++ List.replicate k 0) = 0
      rw [ih]; rfl
  | c :: l => by
    show (bitV bit c).toNat + 2 * denL bit (l ++ List.replicate k 0) = _
    rw [denL_pad bit k l]; rfl
theorem num16_rel (v : Nat) (hv : v < 65536) (σ : Ab.Sg) : @VRel (bitsI v) σ num16 (.int .u64 v) := by
  have hd : denL (@Unk.bit (bitsI v)) bits16 = v := by
    unfold bits16
    rw [denL_pad]
    have := bits_den v 0 16 (by omega)
    rw [show 2 + 0 = 2 from rfl] at this
    rw [this]
    simp; omega
  have h := (mkV_ok (bit := @Unk.bit (bitsI v)) num16_eq).1
  have e : fmDen (@Unk.bit (bitsI v)) ⟨.u64, 1, 0, bits16⟩ = v := by unfold fmDen; simp only [hd]; omega
  rw [e] at h
  rcases h with h | ⟨c, m, h, h1, h2⟩
  · rw [h]; exact @VRel.int (bitsI v) _ _ _
  · rw [h]
    have := @VRel.sym (bitsI v) σ c m
    rw [h1, ← h2] at this
    exact this
/-- The text that is expected: two bytes with unknown bits, and zeros. -/
def byte16 (lo : Nat) : Value := (mkV ⟨.u8, 1, 0, (List.range 8).map (· + (2 + lo))⟩).getD .nilIface
def want (k : Nat) : List Value := [byte16 0, byte16 8] ++ List.replicate (k - 2) (.int .u8 0)
def isPut (k : Nat) : Value → H → Bool
  | .complex .f64 l n, _ => Nat.beq l k && (match encR (want k) with | some m => Nat.beq n m | none => false)
  | _, _ => false
end Go.Proofs.YthlpiipobcomfaaGreatDoor
namespace Go.Proofs.YthlpiipobcomfaaGreatDoor
open Go Go.Ab Go.Proofs Go.RowKit
set_option maxRecDepth 1000000
theorem run91_4 : (letI : Kn := knNone; kF code nats 300 91 [num16, .int .i64 4] (otabH tabs) (isPut 4)) = true := by kernel_rfl
theorem run91_2 : (letI : Kn := knNone; kF code nats 300 91 [num16, .int .i64 2] (otabH tabs) (isPut 2)) = true := by kernel_rfl
theorem run57_4 : (letI : Kn := knNone; kF code nats 300 57 [num16, .int .i64 4] (otabH tabs) (isPut 4)) = true := by kernel_rfl
/-- n bytes, the lowest one first, of a number below 65536. -/
def leB (k v : Nat) : List UInt8 := [UInt8.ofNat v, UInt8.ofNat (v / 256)] ++ List.replicate (k - 2) 0
theorem byte_of {v lo : Nat} {b : UInt8} (hlo : lo + 8 ≤ 16) (h : @CharRel (bitsI v) (byte16 lo) b) (he : mkV ⟨.u8, 1, 0, (List.range 8).map (· + (2 + lo))⟩ = some (byte16 lo)) : b = UInt8.ofNat (v / 2 ^ lo) := by
  have h0 := (mkV_ok (bit := @Unk.bit (bitsI v)) he).1
  have e : fmDen (@Unk.bit (bitsI v)) ⟨.u8, 1, 0, (List.range 8).map (· + (2 + lo))⟩ = v / 2 ^ lo % 2 ^ 8 := by
    unfold fmDen
    simp only [bits_den v lo 8 hlo]
    omega
  rw [e] at h0
  clear he e
  generalize byte16 lo = B at h h0
  have key : b.toNat = v / 2 ^ lo % 2 ^ 8 := by
    rcases h with h | ⟨i, h, _⟩ | ⟨n, h, hn⟩
    · rcases h0 with h0 | ⟨c, m, h0, _⟩
      · rw [h] at h0
        unfold byteV at h0
        injection h0 with _ h0
        exact Int.ofNat.inj h0
      · rw [h] at h0; cases h0
    · rcases h0 with h0 | ⟨c, m, h0, _⟩
      · rw [h] at h0; cases h0
      · rw [h] at h0; cases h0
    · rcases h0 with h0 | ⟨c, m, h0, h1, h2⟩
      · rw [h] at h0; cases h0
      · rw [h] at h0
        injection h0 with _ ec em
        subst ec; subst em
        rw [h2, ← hn]
        show _ = symMul 12 * denL _ (symL 12 n) + symAdd 12
        have e1 : symMul 12 = 1 := by decide
        have e2 : symAdd 12 = 0 := by decide
        have e3 : symL 12 n = unB 8 n := rfl
        rw [e1, e2, e3]
        omega
  apply UInt8.toNat_inj.1
  rw [key, UInt8.toNat_ofNat']
theorem b0 : mkV ⟨.u8, 1, 0, (List.range 8).map (· + (2 + 0))⟩ = some (byte16 0) := by
  have h : (mkV ⟨.u8, 1, 0, (List.range 8).map (· + (2 + 0))⟩).isSome = true := by decide +kernel
  obtain ⟨v, hv⟩ := Option.isSome_iff_exists.1 h
  unfold byte16
  rw [hv]; rfl
theorem b8 : mkV ⟨.u8, 1, 0, (List.range 8).map (· + (2 + 8))⟩ = some (byte16 8) := by
  have h : (mkV ⟨.u8, 1, 0, (List.range 8).map (· + (2 + 8))⟩).isSome = true := by decide +kernel
  obtain ⟨v, hv⟩ := Option.isSome_iff_exists.1 h
  unfold byte16
  rw [hv]; rfl
theorem zero_of {v : Nat} {b : UInt8} (h : @CharRel (bitsI v) (.int .u8 0) b) : b = 0 := by
  rcases h with h | ⟨i, h, _⟩ | ⟨n, h, _⟩
  · unfold byteV at h
    injection h with _ h
    apply UInt8.toNat_inj.1
    exact (Int.ofNat.inj h).symm
  · cases h
  · cases h
theorem dec2 : (encR (want 2)).map (decR 2) = some (want 2) := by kernel_rfl
theorem dec4 : (encR (want 4)).map (decR 4) = some (want 4) := by kernel_rfl
theorem crel0 [Unk] {bs : List UInt8} (h : CRel [] bs) : bs = [] := by
  cases bs with
  | nil => rfl
  | cons x l => exact (h : False).elim
theorem crel1 [Unk] {a : Value} {es : List Value} {bs : List UInt8} (h : CRel (a :: es) bs) : ∃ x l, bs = x :: l ∧ CharRel a x ∧ CRel es l := by
  cases bs with
  | nil => exact (h : False).elim
  | cons x l => exact ⟨x, l, rfl, (h : CharRel a x ∧ CRel es l).1, (h : CharRel a x ∧ CRel es l).2⟩
theorem crel2 [Unk] {a b : Value} {bs : List UInt8} (h : CRel [a, b] bs) : ∃ x y, bs = [x, y] ∧ CharRel a x ∧ CharRel b y := by
  obtain ⟨x, l, rfl, c1, h⟩ := crel1 h
  obtain ⟨y, l, rfl, c2, h⟩ := crel1 h
  rw [crel0 h]
  exact ⟨x, y, rfl, c1, c2⟩
theorem crel4 [Unk] {a b c d : Value} {bs : List UInt8} (h : CRel [a, b, c, d] bs) : ∃ x y z t, bs = [x, y, z, t] ∧ CharRel a x ∧ CharRel b y ∧ CharRel c z ∧ CharRel d t := by
  obtain ⟨x, l, rfl, c1, h⟩ := crel1 h
  obtain ⟨y, l, rfl, c2, h⟩ := crel1 h
  obtain ⟨z, t, rfl, c3, c4⟩ := crel2 h
  exact ⟨x, y, z, t, rfl, c1, c2, c3, c4⟩
theorem want2 : want 2 = [byte16 0, byte16 8] := rfl
theorem want4 : want 4 = [byte16 0, byte16 8, .int .u8 0, .int .u8 0] := rfl

theorem isPut_some {v k : Nat} {r : Value} {A : H} (hk : k = 2 ∨ k = 4) (h : isPut k r A = true) {σ : Ab.Sg} {rc : Value} (hr : @VRel (bitsI v) σ r rc) : rc = .string ⟨⟨leB k v⟩⟩ := by
  unfold isPut at h
  split at h
  · rename_i _ l n
    rw [Bool.and_eq_true] at h
    obtain ⟨h1, h2⟩ := h
    have h1 := Nat.eq_of_beq_eq_true h1
    subst h1
    split at h2
    · rename_i m hm
      have h2 := Nat.eq_of_beq_eq_true h2
      subst h2
      have hd : decR l n = want l := by
        rcases hk with rfl | rfl
        · have := dec2; rw [hm] at this; exact Option.some.inj this
        · have := dec4; rw [hm] at this; exact Option.some.inj this
      cases hr with
      | rope _ _ s hc =>
        rw [hd] at hc
        obtain ⟨⟨bs⟩⟩ := s
        show Value.string ⟨⟨bs⟩⟩ = _
        have hc : @CRel (bitsI v) (want l) bs := hc
        rcases hk with rfl | rfl
        · rw [want2] at hc
          obtain ⟨x, y, rfl, c1, c2⟩ := @crel2 (bitsI v) _ _ _ hc
          rw [byte_of (by omega) c1 b0, byte_of (by omega) c2 b8]
          simp [leB]
        · rw [want4] at hc
          obtain ⟨x, y, z, t, rfl, c1, c2, c3, c4⟩ := @crel4 (bitsI v) _ _ _ _ _ hc
          rw [byte_of (by omega) c1 b0, byte_of (by omega) c2 b8, zero_of c3, zero_of c4]
          simp [leB, List.replicate]
    · cases h2
  · cases h
theorem put_of {f k : Nat} (hk : k = 2 ∨ k = 4) (hrun : (letI : Kn := knNone; kF code nats 300 f [num16, .int .i64 k] (otabH tabs) (isPut k)) = true) (v : Nat) (hv : v < 65536) {w : World} (hL : Laid w) :
    Calls Tryz.prog f #[.int .u64 v, .int .i64 k] w fun e w' => e = .returned (.string ⟨⟨leB k v⟩⟩) ∧ Below w.heap.size w w' := by
  letI : Kn := knNone
  letI : Unk := bitsI v
  haveI : KnOk := knNone_ok
  obtain ⟨m, r, A', h1, h2⟩ := quick hrun
  obtain ⟨σ0, hr⟩ := hL (bitsI v) knNone knNone_ok
  refine ((evalF_ok mixed ext code_body code_nat m).calls _ _ _ _ _ h1 _ w [.int .u64 v, .int .i64 k] hr (.cons (num16_rel v hv _) (.cons (.int _ _) .nil))).mono ?_
  rintro e w' ⟨rc, σ', rfl, k1, k2, k3⟩
  refine ⟨by rw [isPut_some hk h2 k1], k3.os, k3.tape, k3.output, k3.size, fun b hb => k3.frame b hb fun ho => ?_⟩
  obtain ⟨id, p, o, _, _, hg, hown⟩ := ho
  rw [otabH_ro _ hg] at hown
  cases hown
theorem put91_4 (v : Nat) (hv : v < 65536) {w : World} (hL : Laid w) : Calls Tryz.prog 91 #[.int .u64 v, .int .i64 4] w fun e w' => e = .returned (.string ⟨⟨leB 4 v⟩⟩) ∧ Below w.heap.size w w' := put_of (f := 91) (.inr rfl) run91_4 v hv hL
theorem put91_2 (v : Nat) (hv : v < 65536) {w : World} (hL : Laid w) : Calls Tryz.prog 91 #[.int .u64 v, .int .i64 2] w fun e w' => e = .returned (.string ⟨⟨leB 2 v⟩⟩) ∧ Below w.heap.size w w' := put_of (f := 91) (.inl rfl) run91_2 v hv hL
theorem put57_4 (v : Nat) (hv : v < 65536) {w : World} (hL : Laid w) : Calls Tryz.prog 57 #[.int .u64 v, .int .i64 4] w fun e w' => e = .returned (.string ⟨⟨leB 4 v⟩⟩) ∧ Below w.heap.size w w' := put_of (f := 57) (.inr rfl) run57_4 v hv hL
end Go.Proofs.YthlpiipobcomfaaGreatDoor
namespace Go.Proofs.YthlpiipobcomfaaGreatDoor
open Go Go.Ab Go.Proofs Go.RowKit
set_option maxRecDepth 1000000
theorem told_of {f : FuncId} {args argsc : List Value} {v : Value} (hv : Flat v) (hrun : (letI : Kn := knNone; kF code nats 3000 f args (otabH tabs) (fun r _ => eqx 3 r v)) = true)
    (ha : ∀ σ, @LRel (bitsI 0) σ args argsc) {w : World} (hL : Laid w) : Calls Tryz.prog f argsc.toArray w fun e w' => e = .returned v ∧ Below w.heap.size w w' := by
  letI : Kn := knNone
  letI : Unk := bitsI 0
  haveI : KnOk := knNone_ok
  obtain ⟨m, r, A', h1, h2⟩ := quick hrun
  have e := (eqx_eq 3 _ _ h2).1
  subst e
  obtain ⟨σ0, hr⟩ := hL (bitsI 0) knNone knNone_ok
  refine ((evalF_ok mixed ext code_body code_nat m).calls _ _ _ _ _ h1 _ w argsc hr (ha _)).mono ?_
  rintro e w' ⟨rc, σ', rfl, k1, k2, k3⟩
  refine ⟨by rw [flat_same hv k1], k3.os, k3.tape, k3.output, k3.size, fun b hb => k3.frame b hb fun ho => ?_⟩
  obtain ⟨id, p, o, _, _, hg, hown⟩ := ho
  rw [otabH_ro _ hg] at hown
  cases hown
theorem run71_7 : (letI : Kn := knNone; kF code nats 3000 71 [.int .i64 7] (otabH tabs) (fun r _ => eqx 3 r (.agg #[.int .i64 16, .int .i64 16384, .bool true]))) = true := by kernel_rfl
theorem form71_7 (w : World) (hL : Laid w) : Calls Tryz.prog 71 #[.int .i64 7] w fun e w' => e = .returned (.agg #[.int .i64 16, .int .i64 16384, .bool true]) ∧ Below w.heap.size w w' :=
  told_of (.agg _ (by intro v hv; simp at hv; rcases hv with rfl | rfl | rfl <;> constructor)) run71_7 (fun _ => @LRel.cons (bitsI 0) _ _ _ _ _ (@VRel.int (bitsI 0) _ _ _) (@LRel.nil (bitsI 0) _)) hL
end Go.Proofs.YthlpiipobcomfaaGreatDoor
