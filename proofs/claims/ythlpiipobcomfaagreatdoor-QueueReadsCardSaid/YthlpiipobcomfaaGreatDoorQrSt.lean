/- The end of a read that failed: its bytes, of every status. -/
/- The end of a read that failed: what the runs say. -/
/- The end of a read that failed: the contracts. -/
import Derived.Test.YthlpiipobcomfaaGreatDoorQrLaw
set_option linter.all false
set_option linter.unusedSectionVars false
set_option linter.unusedVariables false
set_option linter.unusedSimpArgs false
namespace Go.Proofs.YthlpiipobcomfaaGreatDoor
open Go Go.Ab Go.Proofs Go.RowKit
set_option maxRecDepth 1000000
def bits15 (w : Nat) : List Nat := ((List.range 15).map (· + 2)) ++ List.replicate (w - 15) 0
def numS : Value := (mkV ⟨.i64, 1, 0, bits15 64⟩).getD .nilIface
def cLo : Value := (mkV ⟨.u8, 1, 0, 0 :: (List.range 7).map (· + 2)⟩).getD .nilIface
def cHi : Value := (mkV ⟨.u8, 1, 0, (List.range 8).map (· + 9)⟩).getD .nilIface
def EH : List Value := ([0, 0, 0, 0, 0, 0, 0, 0, 2, 0, 1, 0, 9, 0] : List UInt8).map byteV ++ [cLo, cHi]
def EM : List Value := ([5, 0, 24, 0, 24, 0, 0, 0] : List UInt8).map byteV ++ EH
def vH : Value := (mkStr EH).getD .nilIface
def vM : Value := (mkStr EM).getD .nilIface
theorem s113 : (letI : Kn := knNone; kF code nats 3000 113 [.agg #[.int .u32 0, .int .u32 0, .int .i64 2, .int .i64 1, .int .i64 9, numS]] (otabH tabs) (fun r _ => eqx 3 r (.tuple #[vH, .int .i64 0]))) = true := by kernel_rfl
theorem s92 : (letI : Kn := knNone; kF code nats 3000 92 [.agg #[.int .i64 5, .int .i64 0, vH, .string ⟨#[]⟩], .bool false, .bool false] (otabH tabs) (fun r _ => eqx 3 r (.tuple #[vM, .int .i64 0]))) = true := by kernel_rfl
theorem s42 : (letI : Kn := knNone; kF code nats 3000 42 [vM, .bool false, .bool false] (otabH tabs) (fun r _ => eqx 3 r (.tuple #[.agg #[.int .i64 5, .int .i64 0, vH, .string ⟨#[]⟩, .int .i64 24], .int .i64 0]))) = true := by kernel_rfl
theorem s33 : (letI : Kn := knNone; kF code nats 3000 33 [vH] (otabH tabs) (fun r _ => eqx 3 r (.tuple #[.agg #[.int .u32 0, .int .u32 0, .int .i64 2, .int .i64 1, .int .i64 9, numS], .int .i64 0]))) = true := by kernel_rfl
end Go.Proofs.YthlpiipobcomfaaGreatDoor
namespace Go.Proofs.YthlpiipobcomfaaGreatDoor
open Go Go.Ab Go.Proofs Go.RowKit
set_option maxRecDepth 1000000
def headS (s : Nat) : ByteArray := ⟨⟨[0, 0, 0, 0, 0, 0, 0, 0, 2, 0, 1, 0, 9, 0] ++ [UInt8.ofNat (2 * s), UInt8.ofNat (2 * s / 256)]⟩⟩
def endS (s : Nat) : ByteArray := ⟨⟨[5, 0, 24, 0, 24, 0, 0, 0] ++ ([0, 0, 0, 0, 0, 0, 0, 0, 2, 0, 1, 0, 9, 0] ++ [UInt8.ofNat (2 * s), UInt8.ofNat (2 * s / 256)])⟩⟩
theorem mk_some {f : Fm} (h : (mkV f).isSome = true) : mkV f = some ((mkV f).getD .nilIface) := by
  obtain ⟨v, hv⟩ := Option.isSome_iff_exists.1 h
  rw [hv]; rfl
theorem numS_eq : mkV ⟨.i64, 1, 0, bits15 64⟩ = some numS := mk_some (by decide +kernel)
theorem cLo_eq : mkV ⟨.u8, 1, 0, 0 :: (List.range 7).map (· + 2)⟩ = some cLo := mk_some (by decide +kernel)
theorem cHi_eq : mkV ⟨.u8, 1, 0, (List.range 8).map (· + 9)⟩ = some cHi := mk_some (by decide +kernel)
section
variable (s : Nat) (hs : s < 32768)
include hs
theorem numS_stands : StandsI (@Unk.bit (bitsI s)) numS .i64 s := by
  have h := (mkV_ok (bit := @Unk.bit (bitsI s)) numS_eq).1
  have e : fmDen (@Unk.bit (bitsI s)) ⟨.i64, 1, 0, bits15 64⟩ = s := by
    unfold fmDen bits15
    simp only [denL_pad]
    have := bits_den s 0 15 (by omega)
    rw [show 2 + 0 = 2 from rfl] at this
    rw [this]
    simp; omega
  rw [e] at h
  exact h
theorem cLo_stands : StandsI (@Unk.bit (bitsI s)) cLo .u8 (2 * s % 256) := by
  have h := (mkV_ok (bit := @Unk.bit (bitsI s)) cLo_eq).1
  have e : fmDen (@Unk.bit (bitsI s)) ⟨.u8, 1, 0, 0 :: (List.range 7).map (· + 2)⟩ = 2 * s % 256 := by
    unfold fmDen
    have h1 : denL (@Unk.bit (bitsI s)) (0 :: (List.range 7).map (· + 2)) = 2 * denL (@Unk.bit (bitsI s)) ((List.range 7).map (· + 2)) := by
      show (bitV _ 0).toNat + 2 * _ = _
      rw [show (bitV (@Unk.bit (bitsI s)) 0).toNat = 0 from rfl, Nat.zero_add]
    have := bits_den s 0 7 (by omega)
    rw [show 2 + 0 = 2 from rfl] at this
    simp only [h1, this]
    simp; omega
  rw [e] at h
  exact h
theorem cHi_stands : StandsI (@Unk.bit (bitsI s)) cHi .u8 (2 * s / 256) := by
  have h := (mkV_ok (bit := @Unk.bit (bitsI s)) cHi_eq).1
  have e : fmDen (@Unk.bit (bitsI s)) ⟨.u8, 1, 0, (List.range 8).map (· + 9)⟩ = 2 * s / 256 := by
    unfold fmDen
    have := bits_den s 7 8 (by omega)
    rw [show 2 + 7 = 9 from rfl] at this
    simp only [this]
    simp; omega
  rw [e] at h
  exact h
end
theorem stands_inv [Unk] {σ : Ab.Sg} {v rc : Value} {k : IntKind} {n : Nat} (h : StandsI Unk.bit v k n) (hr : VRel σ v rc) : rc = .int k n := by
  rcases h with rfl | ⟨c, m, rfl, h1, h2⟩
  · cases hr; rfl
  · cases hr; rw [h1, ← h2]; rfl
theorem stands_rel [Unk] {σ : Ab.Sg} {v : Value} {k : IntKind} {n : Nat} (h : StandsI Unk.bit v k n) : VRel σ v (.int k n) := by
  rcases h with rfl | ⟨c, m, rfl, h1, h2⟩
  · exact .int _ _
  · have := VRel.sym (σ := σ) c m
    rw [h1, ← h2] at this
    exact this
theorem char_inv [Unk] {v : Value} {n : Nat} {b : UInt8} (hn : n < 256) (h : StandsI Unk.bit v .u8 n) (hb : CharRel v b) : b = UInt8.ofNat n := by
  have key : b.toNat = n := by
    rcases hb with hb | ⟨i, hb, _⟩ | ⟨m, hb, hm⟩
    · rcases h with h | ⟨c, m, h, _⟩
      · rw [hb] at h; unfold byteV at h; injection h with _ h; exact Int.ofNat.inj h
      · rw [hb] at h; cases h
    · rcases h with h | ⟨c, m, h, _⟩ <;> (rw [hb] at h; cases h)
    · rcases h with h | ⟨c, m', h, h1, h2⟩
      · rw [hb] at h; cases h
      · rw [hb] at h
        injection h with _ ec em
        subst ec; subst em
        rw [h2, ← hm]
        show _ = symMul 12 * denL _ (symL 12 m) + symAdd 12
        have e1 : symMul 12 = 1 := by decide
        have e2 : symAdd 12 = 0 := by decide
        have e3 : symL 12 m = unB 8 m := rfl
        rw [e1, e2, e3]
        omega
  apply UInt8.toNat_inj.1
  rw [key, UInt8.toNat_ofNat']
  omega
theorem char_rel [Unk] {v : Value} {n : Nat} (hn : n < 256) (h : StandsI Unk.bit v .u8 n) (hc : ∀ c m, v = .complex .f32 c m → c = 12) : CharRel v (UInt8.ofNat n) := by
  rcases h with rfl | ⟨c, m, rfl, h1, h2⟩
  · left; unfold byteV; rw [UInt8.toNat_ofNat']; congr 1; show Int.ofNat n = Int.ofNat _; congr 1; omega
  · right; right
    have := hc c m rfl
    subst this
    refine ⟨m, rfl, ?_⟩
    rw [UInt8.toNat_ofNat', h2]
    have e1 : symMul 12 = 1 := by decide
    have e2 : symAdd 12 = 0 := by decide
    have e3 : symL 12 m = unB 8 m := rfl
    rw [e1, e2, e3] at h2 ⊢
    omega
theorem byte_inv [Unk] {a b : UInt8} (h : CharRel (byteV a) b) : b = a := by
  rcases h with h | ⟨i, h, _⟩ | ⟨m, h, _⟩
  · unfold byteV at h; injection h with _ h
    apply UInt8.toNat_inj.1; exact (Int.ofNat.inj h).symm
  · cases h
  · cases h
theorem crel_map [Unk] {cs : List Value} : ∀ (l : List UInt8) {bs : List UInt8}, CRel (l.map byteV ++ cs) bs → ∃ bs', bs = l ++ bs' ∧ CRel cs bs'
  | [], bs, h => ⟨bs, rfl, h⟩
  | a :: l, bs, h => by
    obtain ⟨x, bs', rfl, c1, h⟩ := crel1 (h : CRel (byteV a :: (l.map byteV ++ cs)) bs)
    obtain ⟨b2, rfl, h2⟩ := crel_map l h
    rw [byte_inv c1]
    exact ⟨b2, rfl, h2⟩
theorem crel_of [Unk] {cs : List Value} {bs : List UInt8} (h : CRel cs bs) : ∀ l : List UInt8, CRel (l.map byteV ++ cs) (l ++ bs)
  | [] => h
  | a :: l => ⟨.inl rfl, crel_of h l⟩
theorem c12 : (match cLo with | .complex .f32 c _ => c == 12 | _ => true) = true ∧ (match cHi with | .complex .f32 c _ => c == 12 | _ => true) = true := by constructor <;> kernel_rfl
theorem lo12 : ∀ c m, cLo = .complex .f32 c m → c = 12 := fun c m h => by
  have := c12.1
  rw [h] at this
  simpa using this
theorem hi12 : ∀ c m, cHi = .complex .f32 c m → c = 12 := fun c m h => by
  have := c12.2
  rw [h] at this
  simpa using this
theorem two_inv {s : Nat} (hs : s < 32768) {bs : List UInt8} (h : @CRel (bitsI s) [cLo, cHi] bs) : bs = [UInt8.ofNat (2 * s), UInt8.ofNat (2 * s / 256)] := by
  obtain ⟨x, y, rfl, c1, c2⟩ := @crel2 (bitsI s) _ _ _ h
  rw [@char_inv (bitsI s) _ _ _ (by omega) (cLo_stands s hs) c1, @char_inv (bitsI s) _ _ _ (by omega) (cHi_stands s hs) c2]
  congr 1
  apply UInt8.toNat_inj.1
  rw [UInt8.toNat_ofNat', UInt8.toNat_ofNat']
  omega
theorem two_rel {s : Nat} (hs : s < 32768) : @CRel (bitsI s) [cLo, cHi] [UInt8.ofNat (2 * s), UInt8.ofNat (2 * s / 256)] := by
  have e : UInt8.ofNat (2 * s) = UInt8.ofNat (2 * s % 256) := by
    apply UInt8.toNat_inj.1
    rw [UInt8.toNat_ofNat', UInt8.toNat_ofNat']
    omega
  rw [e]
  exact ⟨@char_rel (bitsI s) _ _ (by omega) (cLo_stands s hs) lo12, @char_rel (bitsI s) _ _ (by omega) (cHi_stands s hs) hi12, trivial⟩
theorem decH : (encR EH).map (decR 16) = some EH := by kernel_rfl
theorem decM : (encR EM).map (decR 24) = some EM := by kernel_rfl
theorem vH_eq : ∃ N, vH = .complex .f64 16 N ∧ decR 16 N = EH := by
  have hb : bytesV EH = none := by kernel_rfl
  cases h : encR EH with
  | none => have := decH; rw [h] at this; cases this
  | some N =>
    have := decH; rw [h] at this
    refine ⟨N, ?_, Option.some.inj this⟩
    unfold vH mkStr
    rw [hb, h]
    rfl
theorem vM_eq : ∃ N, vM = .complex .f64 24 N ∧ decR 24 N = EM := by
  have hb : bytesV EM = none := by kernel_rfl
  cases h : encR EM with
  | none => have := decM; rw [h] at this; cases this
  | some N =>
    have := decM; rw [h] at this
    refine ⟨N, ?_, Option.some.inj this⟩
    unfold vM mkStr
    rw [hb, h]
    rfl
theorem vH_inv {s : Nat} (hs : s < 32768) {σ : Ab.Sg} {rc : Value} (h : @VRel (bitsI s) σ vH rc) : rc = .string (headS s) := by
  obtain ⟨N, e, hd⟩ := vH_eq
  rw [e] at h
  cases h with
  | rope _ _ t hc =>
    rw [hd] at hc
    obtain ⟨⟨bs⟩⟩ := t
    obtain ⟨b2, hb, h2⟩ := @crel_map (bitsI s) _ _ bs hc
    rw [two_inv hs h2] at hb
    rw [hb]; rfl
theorem vH_rel {s : Nat} (hs : s < 32768) (σ : Ab.Sg) : @VRel (bitsI s) σ vH (.string (headS s)) := by
  obtain ⟨N, e, hd⟩ := vH_eq
  rw [e]
  exact @VRel.rope (bitsI s) _ _ _ _ (by rw [hd]; exact @crel_of (bitsI s) _ _ (two_rel hs) _)
theorem vM_inv {s : Nat} (hs : s < 32768) {σ : Ab.Sg} {rc : Value} (h : @VRel (bitsI s) σ vM rc) : rc = .string (endS s) := by
  obtain ⟨N, e, hd⟩ := vM_eq
  rw [e] at h
  cases h with
  | rope _ _ t hc =>
    rw [hd] at hc
    obtain ⟨⟨bs⟩⟩ := t
    obtain ⟨b1, hb1, h1⟩ := @crel_map (bitsI s) _ _ bs hc
    obtain ⟨b2, hb, h2⟩ := @crel_map (bitsI s) _ _ b1 h1
    rw [two_inv hs h2] at hb
    rw [hb1, hb]; rfl
theorem vM_rel {s : Nat} (hs : s < 32768) (σ : Ab.Sg) : @VRel (bitsI s) σ vM (.string (endS s)) := by
  obtain ⟨N, e, hd⟩ := vM_eq
  rw [e]
  exact @VRel.rope (bitsI s) _ _ _ _ (by rw [hd]; exact @crel_of (bitsI s) _ _ (@crel_of (bitsI s) _ _ (two_rel hs) _) _)
end Go.Proofs.YthlpiipobcomfaaGreatDoor
namespace Go.Proofs.YthlpiipobcomfaaGreatDoor
open Go Go.Ab Go.Proofs Go.RowKit
set_option maxRecDepth 1000000
theorem told_sym {s : Nat} {f : FuncId} {args argsc : List Value} {v vc : Value} (hrun : (letI : Kn := knNone; kF code nats 3000 f args (otabH tabs) (fun r _ => eqx 3 r v)) = true)
    (ha : ∀ σ, @LRel (bitsI s) σ args argsc) (hv : ∀ σ rc, @VRel (bitsI s) σ v rc → rc = vc) {w : World} (hL : Laid w) : Calls Tryz.prog f argsc.toArray w fun e w' => e = .returned vc ∧ Below w.heap.size w w' := by
  letI : Kn := knNone
  letI : Unk := bitsI s
  haveI : KnOk := knNone_ok
  obtain ⟨m, r, A', h1, h2⟩ := quick hrun
  have e := (eqx_eq 3 _ _ h2).1
  subst e
  have hr := hL (bitsI s) knNone knNone_ok
  refine ((evalF_ok mixed ext code_body code_nat m).calls _ _ _ _ _ h1 _ w argsc hr (ha _)).mono ?_
  rintro e w' ⟨rc, σ', rfl, k1, k2, k3⟩
  refine ⟨by rw [hv _ _ k1], k3.os, k3.tape, k3.output, k3.size, fun b hb => k3.frame b hb fun ho => ?_⟩
  obtain ⟨id, p, o, _, _, hg, hown⟩ := ho
  rw [otabH_ro _ hg] at hown
  cases hown
theorem tup2_inv [Unk] {σ : Ab.Sg} {a b rc : Value} (h : VRel σ (.tuple #[a, b]) rc) : ∃ a' b', rc = .tuple #[a', b'] ∧ VRel σ a a' ∧ VRel σ b b' := by
  cases h with
  | tuple _ as' h1 h2 =>
    obtain ⟨l⟩ := as'
    simp only [List.size_toArray, List.length_cons, List.length_nil] at h1
    match l, h1 with
    | [x, y], _ => exact ⟨x, y, rfl, h2 0 _ x rfl rfl, h2 1 _ y rfl rfl⟩
theorem agg6_inv [Unk] {σ : Ab.Sg} {a b c d e f rc : Value} (h : VRel σ (.agg #[a, b, c, d, e, f]) rc) : ∃ a' b' c' d' e' f', rc = .agg #[a', b', c', d', e', f'] ∧ VRel σ a a' ∧ VRel σ b b' ∧ VRel σ c c' ∧ VRel σ d d' ∧ VRel σ e e' ∧ VRel σ f f' := by
  cases h with
  | agg _ as' h1 h2 =>
    obtain ⟨l⟩ := as'
    simp only [List.size_toArray, List.length_cons, List.length_nil] at h1
    match l, h1 with
    | [x0, x1, x2, x3, x4, x5], _ => exact ⟨x0, x1, x2, x3, x4, x5, rfl, h2 0 _ _ rfl rfl, h2 1 _ _ rfl rfl, h2 2 _ _ rfl rfl, h2 3 _ _ rfl rfl, h2 4 _ _ rfl rfl, h2 5 _ _ rfl rfl⟩
theorem agg5_inv [Unk] {σ : Ab.Sg} {a b c d e rc : Value} (h : VRel σ (.agg #[a, b, c, d, e]) rc) : ∃ a' b' c' d' e', rc = .agg #[a', b', c', d', e'] ∧ VRel σ a a' ∧ VRel σ b b' ∧ VRel σ c c' ∧ VRel σ d d' ∧ VRel σ e e' := by
  cases h with
  | agg _ as' h1 h2 =>
    obtain ⟨l⟩ := as'
    simp only [List.size_toArray, List.length_cons, List.length_nil] at h1
    match l, h1 with
    | [x0, x1, x2, x3, x4], _ => exact ⟨x0, x1, x2, x3, x4, rfl, h2 0 _ _ rfl rfl, h2 1 _ _ rfl rfl, h2 2 _ _ rfl rfl, h2 3 _ _ rfl rfl, h2 4 _ _ rfl rfl⟩
theorem agg_rel [Unk] {σ : Ab.Sg} : ∀ {l m : List Value}, LRel σ l m → VRel σ (.agg l.toArray) (.agg m.toArray) := fun {l m} h => .agg _ _ (by simpa using h.1) (by simpa using h.2)
section
variable {s : Nat} (hs : s < 32768) {w : World} (hL : Laid w)
include hs hL
theorem endS113 : Calls Tryz.prog 113 #[.agg #[.int .u32 0, .int .u32 0, .int .i64 2, .int .i64 1, .int .i64 9, .int .i64 s]] w fun e w' => e = .returned (.tuple #[.string (headS s), .int .i64 0]) ∧ Below w.heap.size w w' := by
  letI : Unk := bitsI s
  refine told_sym (s := s) (argsc := [.agg #[.int .u32 0, .int .u32 0, .int .i64 2, .int .i64 1, .int .i64 9, .int .i64 s]]) s113 (fun σ => .cons (agg_rel (.cons (.int _ _) (.cons (.int _ _) (.cons (.int _ _) (.cons (.int _ _) (.cons (.int _ _) (.cons (stands_rel (numS_stands s hs)) .nil))))))) .nil) (fun σ rc h => ?_) hL
  obtain ⟨a, b, rfl, h1, h2⟩ := tup2_inv h
  rw [vH_inv hs h1]
  cases h2; rfl
theorem putS92 : Calls Tryz.prog 92 #[.agg #[.int .i64 5, .int .i64 0, .string (headS s), .string ⟨#[]⟩], .bool false, .bool false] w fun e w' => e = .returned (.tuple #[.string (endS s), .int .i64 0]) ∧ Below w.heap.size w w' := by
  letI : Unk := bitsI s
  refine told_sym (s := s) (argsc := [.agg #[.int .i64 5, .int .i64 0, .string (headS s), .string ⟨#[]⟩], .bool false, .bool false]) s92 (fun σ => .cons (agg_rel (.cons (.int _ _) (.cons (.int _ _) (.cons (vH_rel hs σ) (.cons (.string _) .nil))))) (.cons (.bool _) (.cons (.bool _) .nil))) (fun σ rc h => ?_) hL
  obtain ⟨a, b, rfl, h1, h2⟩ := tup2_inv h
  rw [vM_inv hs h1]
  cases h2; rfl
theorem getS42 : Calls Tryz.prog 42 #[.string (endS s), .bool false, .bool false] w fun e w' => e = .returned (.tuple #[.agg #[.int .i64 5, .int .i64 0, .string (headS s), .string ⟨#[]⟩, .int .i64 24], .int .i64 0]) ∧ Below w.heap.size w w' := by
  letI : Unk := bitsI s
  refine told_sym (s := s) (argsc := [.string (endS s), .bool false, .bool false]) s42 (fun σ => .cons (vM_rel hs σ) (.cons (.bool _) (.cons (.bool _) .nil))) (fun σ rc h => ?_) hL
  obtain ⟨a, b, rfl, h1, h2⟩ := tup2_inv h
  obtain ⟨x0, x1, x2, x3, x4, rfl, k0, k1, k2, k3, k4⟩ := agg5_inv h1
  rw [vH_inv hs k2]
  cases h2; cases k0; cases k1; cases k3; cases k4; rfl
theorem endedS33 : Calls Tryz.prog 33 #[.string (headS s)] w fun e w' => e = .returned (.tuple #[.agg #[.int .u32 0, .int .u32 0, .int .i64 2, .int .i64 1, .int .i64 9, .int .i64 s], .int .i64 0]) ∧ Below w.heap.size w w' := by
  letI : Unk := bitsI s
  refine told_sym (s := s) (argsc := [.string (headS s)]) s33 (fun σ => .cons (vH_rel hs σ) .nil) (fun σ rc h => ?_) hL
  obtain ⟨a, b, rfl, h1, h2⟩ := tup2_inv h
  obtain ⟨x0, x1, x2, x3, x4, x5, rfl, k0, k1, k2, k3, k4, k5⟩ := agg6_inv h1
  rw [stands_inv (numS_stands s hs) k5]
  cases h2; cases k0; cases k1; cases k2; cases k3; cases k4; rfl
end
end Go.Proofs.YthlpiipobcomfaaGreatDoor
