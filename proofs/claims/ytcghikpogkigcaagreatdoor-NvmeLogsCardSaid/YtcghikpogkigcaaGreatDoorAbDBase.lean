/-
  DERIVED: THE SHELF's CONTRACTS AT THIS DUMP, IN PLAIN WORDS (tools/lay-plain.mjs out of 'TryzLay1.lean', which tools/lay-shelf.mjs wrote): THE SAME DECLARATIONS UNDER THE SAME NAMES: 'import', 'namespace', 'open', 'def', 'theorem' AND NOTHING ELSE: no command of the shelf's: FOR A HAND-IN. Each laying: the table of numbers ('.._ren') and one theorem, a field a fact of the dump's own or the kernel's comparison; each contract: ONE APPLICATION.
-/
/- (*sync.Once).doSlow: what it does, told by what the lock, the flag and the function do. -/
/- The seat's program as the interpreter sees it: its tables, the functions whose answers are told, and what its soundness asks of it. -/
import Derived.Shelf.Strings.Builder1
import Derived.Shelf.Strings.Builder2
import Derived.Shelf.Strings.BuilderF
import Derived.Shelf.Strings.Prefix
import Derived.Shelf.Bits.Mul64
import Derived.Shelf.Strings.Repeat
import Derived.Test.YtcghikpogkigcaaGreatDoorProg
import Derived.Test.YtcghikpogkigcaaGreatDoorAbNat
import Derived.WalkKit
import Derived.Test.YtcghikpogkigcaaGreatDoorRows
import Derived.Test.YtcghikpogkigcaaGreatDoorAbTab
import Derived.Test.YtcghikpogkigcaaGreatDoorAbK
import Derived.Test.YtcghikpogkigcaaGreatDoorAbMem
import Derived.KernelRfl
set_option linter.all false
set_option linter.unusedSectionVars false
set_option linter.unusedVariables false
set_option linter.unusedSimpArgs false
namespace Go.Proofs
open Go.Shelf
def Tryz.lays105_ren : Go.Shelf.Ren := ⟨fun | 105 => 135 | 212 => 162 | 99 => 163 | 165 => 164 | 166 => 138 | 170 => 165 | 169 => 142 | 263 => 194 | 264 => 195 | 206 => 196 | 240 => 172 | 241 => 197 | 276 => 202 | 277 => 220 | n => n, fun | 9 => 9 | 3 => 3 | 4 => 4 | 20 => 20 | 0 => 0 | 46 => 172 | 109 => 303 | 5 => 5 | 72 => 278 | 76 => 281 | 51 => 76 | 146 => 317 | 53 => 69 | 148 => 319 | 70 => 276 | 37 => 97 | 75 => 280 | 127 => 312 | 164 => 325 | 80 => 218 | n => n, fun | n => n⟩
theorem Tryz.lays105 : Go.Proofs.Lays.n105 Tryz.prog Tryz.lays105_ren := {
  mixed := by kernel_rfl
  f99 := Tryz.func163.trans (congrArg some (by kernel_rfl))
  f105 := Tryz.func135.trans (congrArg some (by kernel_rfl))
  f165 := Tryz.func164.trans (congrArg some (by kernel_rfl))
  f166 := Tryz.func138.trans (congrArg some (by kernel_rfl))
  f169 := Tryz.func142.trans (congrArg some (by kernel_rfl))
  f170 := Tryz.func165.trans (congrArg some (by kernel_rfl))
  f206 := Tryz.func196.trans (congrArg some (by kernel_rfl))
  f212 := Tryz.func162.trans (congrArg some (by kernel_rfl))
  f240 := Tryz.func172.trans (congrArg some (by kernel_rfl))
  f241 := Tryz.func197.trans (congrArg some (by kernel_rfl))
  f263 := Tryz.func194.trans (congrArg some (by kernel_rfl))
  f264 := Tryz.func195.trans (congrArg some (by kernel_rfl))
  f276 := Tryz.func202.trans (congrArg some (by kernel_rfl))
  f277 := Tryz.func220.trans (congrArg some (by kernel_rfl))
  t0 := Tryz.underlying0
  a0 := Tryz.isAgg0
  z0 := Tryz.sizeOf0
  v0 := Tryz.zeroValue0
  t3 := Tryz.underlying3
  a3 := Tryz.isAgg3
  z3 := Tryz.sizeOf3
  v3 := Tryz.zeroValue3
  t4 := Tryz.underlying4
  a4 := Tryz.isAgg4
  z4 := Tryz.sizeOf4
  v4 := Tryz.zeroValue4
  t5 := Tryz.underlying5
  a5 := Tryz.isAgg5
  z5 := Tryz.sizeOf5
  v5 := Tryz.zeroValue5
  t9 := Tryz.underlying9
  a9 := Tryz.isAgg9
  z9 := Tryz.sizeOf9
  v9 := Tryz.zeroValue9
  t20 := Tryz.underlying20
  a20 := Tryz.isAgg20
  z20 := Tryz.sizeOf20
  v20 := Tryz.zeroValue20
  t37 := Tryz.underlying97
  a37 := Tryz.isAgg97
  z37 := Tryz.sizeOf97
  v37 := Tryz.zeroValue97
  t46 := Tryz.underlying172
  a46 := Tryz.isAgg172
  z46 := Tryz.sizeOf172
  v46 := Tryz.zeroValue172
  t51 := Tryz.underlying76
  a51 := Tryz.isAgg76
  z51 := Tryz.sizeOf76
  v51 := Tryz.zeroValue76
  t53 := Tryz.underlying69
  a53 := Tryz.isAgg69
  z53 := Tryz.sizeOf69
  v53 := Tryz.zeroValue69
  t70 := Tryz.underlying276
  a70 := Tryz.isAgg276
  z70 := Tryz.sizeOf276
  v70 := Tryz.zeroValue276
  t72 := Tryz.underlying278
  a72 := Tryz.isAgg278
  z72 := Tryz.sizeOf278
  v72 := Tryz.zeroValue278
  t75 := Tryz.underlying280
  a75 := Tryz.isAgg280
  z75 := Tryz.sizeOf280
  v75 := Tryz.zeroValue280
  t76 := Tryz.underlying281
  a76 := Tryz.isAgg281
  z76 := Tryz.sizeOf281
  v76 := Tryz.zeroValue281
  t109 := Tryz.underlying303
  a109 := Tryz.isAgg303
  z109 := Tryz.sizeOf303
  v109 := Tryz.zeroValue303
  t127 := Tryz.underlying312
  a127 := Tryz.isAgg312
  z127 := Tryz.sizeOf312
  v127 := Tryz.zeroValue312
  t146 := Tryz.underlying317
  a146 := Tryz.isAgg317
  z146 := Tryz.sizeOf317
  v146 := Tryz.zeroValue317
  t148 := Tryz.underlying319
  a148 := Tryz.isAgg319
  z148 := Tryz.sizeOf319
  v148 := Tryz.zeroValue319
  t164 := Tryz.underlying325
  a164 := Tryz.isAgg325
  z164 := Tryz.sizeOf325
  v164 := Tryz.zeroValue325 }
theorem Tryz.Builder_Extra_105 : Builder.Extra Tryz.prog Tryz.lays105_ren := {
  sizeBuilder := by kernel_rfl
  liesBuilder := by kernel_rfl
  t5 := Tryz.underlying5
  a5 := Tryz.isAgg5
  z5 := Tryz.sizeOf5
  v5 := Tryz.zeroValue5
  infoByte := by kernel_rfl
  cellsByte := by kernel_rfl
  sizeByte := by kernel_rfl
  neB5 := by decide }
end Go.Proofs
namespace Go.Ab
open Go Go.RowKit Go.Proofs
variable [Unk] [Kn] [KnOk]

set_option maxRecDepth 100000 in
set_option maxHeartbeats 1600000 in
theorem once_ok {call : Caller} (hcall : CallOk Tryz.prog call) (hs : DOk Tryz.prog call 209) (hu : DOk Tryz.prog call 208) {args : List Value} {A : H} {r : Value} {A' : H} (h : onceA 207 178 209 208 call args A = some (r, A')) {σ : Sg} {w : World} {argsc : List Value} (hr : Rel Tryz.prog σ A w) (hl : LRel σ args argsc) :
    Calls Tryz.prog 179 argsc.toArray w (CPost Tryz.prog σ A w r A') := by
  unfold onceA at h
  split at h
  case h_2 => cases h
  rename_i id off f
  split at h
  case h_1 => cases h
  rename_i v1 A1 h1
  split at h
  case h_2 => cases h
  rename_i A2 h2
  split at h
  case h_1 => cases h
  rename_i g asl hca
  split at h
  case h_1 => cases h
  rename_i v3 A3 h3
  split at h
  case h_1 => cases h
  rename_i v4 A4 h4
  split at h
  case h_1 => cases h
  rename_i v5 A5 h5
  simp only [Option.some.injEq, Prod.mk.injEq] at h
  obtain ⟨rfl, rfl⟩ := h
  obtain ⟨x1, r1, rfl, hx1, hl⟩ := hl.cons_inv
  obtain ⟨x2, r2, rfl, hx2, hl⟩ := hl.cons_inv
  have : r2 = [] := List.eq_nil_of_length_eq_zero (by have := hl.len; simpa using this.symm)
  subst this
  generalize hvv : (Value.pointer (some ⟨id, off, none⟩)) = vv at hx1
  cases hx1 <;> first | (cases hvv; done) | skip
  rename_i id' p off' hsp
  cases hvv
  cases hx2 with
  | func fn as0 bs0 cs0 ds0 l1 l2 q1 q2 =>
    cases fn with
    | func g' =>
      simp only [calleeA, List.append_nil, Option.some.injEq, Prod.mk.injEq] at hca
      obtain ⟨rfl, rfl⟩ := hca
      have hptr : ∀ (τ : Sg) (d : Nat), σ.le τ → VRel τ (.pointer (some ⟨id, off + d, none⟩)) (.pointer (some ⟨p.b, p.sh + off + d, none⟩)) := fun τ d hle => by
        have := VRel.ptr (off + d) (hle _ _ hsp)
        rw [← Nat.add_assoc] at this
        exact this
      have hlock := hcall.calls _ _ _ _ _ h1 σ w [.pointer (some ⟨p.b, p.sh + off + 1, none⟩)] hr (.cons (hptr σ 1 (Sg.le_refl _)) .nil)
      go_enter_defers Tryz.func179, Tryz.ntmps179
      go_wp2_with (go_at_call 207; refine hlock.mono ?_; rintro e w1 ⟨rc, σ1, rfl, hv1, hr1, hf1⟩)
      have hload := hcall.calls _ _ _ _ _ h2 σ1 w1 [.pointer (some ⟨p.b, p.sh + off, none⟩)] hr1 (.cons (hptr σ1 0 hf1.ext) .nil)
      have hnot : ∀ (x : Bool) (w : World), (Op.unary .not (.bool x)).run Tryz.prog w = .ok (.bool (!x)) w := fun _ _ => rfl
      refine hload.mono ?_
      rintro e w2 ⟨rc2, σ2, rfl, hv2, hr2, hf2⟩
      cases hv2
      go_wp2
      obtain ⟨gn, hg, hgb, hgname⟩ := hcall.enters _ _ _ _ _ h3
      have hcf : (callFunc g' (bs0 ++ ds0)).run Tryz.prog w2 = .ok (.enter g' (bs0 ++ ds0)) w2 := by
        obtain ⟨bd, hbd⟩ := Option.isSome_iff_exists.1 hgb
        simp [callFunc, hg, hgname, hbd]
      rw [hcf]
      simp only [Oper.upon]
      have hle2 := Sg.le_trans hf1.ext hf2.ext
      have hg3 := hcall.calls _ _ _ _ _ h3 σ2 w2 (bs0.toList ++ ds0.toList) hr2 (((⟨by simpa using l1, q1⟩ : LRel σ as0.toList bs0.toList).append (⟨by simpa using l2, q2⟩ : LRel σ cs0.toList ds0.toList)).mono hle2)
      have harr : (bs0.toList ++ ds0.toList).toArray = bs0 ++ ds0 := by apply Array.ext'; simp
      rw [harr] at hg3
      refine hg3.mono ?_
      rintro e w3 ⟨rc3, σ3, rfl, hv3, hr3, hf3⟩
      go_wp2
      have hle3 := Sg.le_trans hle2 hf3.ext
      refine leaves_cons (f := 209) (args := #[.pointer (some ⟨p.b, p.sh + off, none⟩), .bool true]) (by simp) (by simp [go_sem]) ?_
      refine (hs _ _ _ _ h4 σ3 w3 [.pointer (some ⟨p.b, p.sh + off, none⟩), .bool true] hr3 (.cons (hptr σ3 0 hle3) (.cons (.bool true) .nil))).mono ?_
      rintro e u w4 ⟨rfl, rc4, σ4, rfl, hv4, hr4, hf4⟩
      refine leaves_cons (f := 208) (args := #[.pointer (some ⟨p.b, p.sh + off + 1, none⟩)]) (by simp [settle]) (by simp [go_sem]) ?_
      refine (hu _ _ _ _ h5 σ4 w4 [.pointer (some ⟨p.b, p.sh + off + 1, none⟩)] hr4 (.cons (hptr σ4 1 (Sg.le_trans hle3 hf4.ext)) .nil)).mono ?_
      rintro e u w5 ⟨rfl, rc5, σ5, rfl, hv5, hr5, hf5⟩
      exact ⟨.tuple #[], by simp [results, Tryz.results179], .tuple #[], σ5, rfl, undef_rel, hr5, (((hf1.trans hf2).trans hf3).trans hf4).trans hf5⟩
    | _ => simp [calleeA] at hca
  | _ => simp [calleeA] at hca
end Go.Ab
namespace Go.Proofs.YtcghikpogkigcaaGreatDoor
open Go Go.Ab Go.Proofs
set_option maxRecDepth 1000000
theorem mixed : Tryz.prog.follows .mixedOrders = true := by kernel_rfl
theorem ext : Ext Tryz.prog := ext_of (by kernel_rfl)

noncomputable def tyT : Tr TypeInfo := mkT 3000 Tryz.prog.types.toList
noncomputable def fnT : Tr Func := mkT 3000 Tryz.prog.funcs.toList
theorem tyT_eq : treeI Tryz.prog tyT = Tryz.prog.info? := treeI_eq (n := 3000) (by kernel_rfl) rfl
theorem fnT_eq : treeF Tryz.prog fnT = fun f => Tryz.prog.funcs[f]? := treeF_eq (n := 3000) (by kernel_rfl) rfl
noncomputable def comp (f : FuncId) : Option XFun := compFR Tryz.prog (treeI Tryz.prog tyT) (treeF Tryz.prog fnT) f
theorem comp_eq (f : FuncId) : comp f = compF Tryz.prog f := congrFun (compFR_eq tyT_eq fnT_eq) f
theorem ent_of {f : FuncId} {fn : Func} (h : Tryz.prog.funcs[f]? = some fn) (hb : fn.body.isSome = true) (hn : (fn.name == "runtime.NumGoroutine") = false) : Ab.Enters Tryz.prog f := ⟨fn, h, hb, by simpa using hn⟩
section
variable [Kn]
noncomputable def natOf (f : FuncId) : Option (Caller → List Value → H → Option (Value × H)) :=
  if f = 135 then some (repeatA) else if f = 172 then some (copyCheckA 278) else if f = 142 then some (stringA 5) else if f = 179 then some (onceA 207 178 209 208) else none
noncomputable def code (f : FuncId) : Option XFun := match natOf f with
  | some g => some (.nat g)
  | none => comp f
theorem code_body : CodeOf Tryz.prog code := fun f x h hn => by
  unfold code at h
  split at h
  · cases h; exact absurd rfl (hn _)
  · rw [← comp_eq]; exact h
theorem body209 : code 209 = some (.body (bodyOf (code 209))) := by kernel_rfl
theorem body208 : code 208 = some (.body (bodyOf (code 208))) := by kernel_rfl
theorem ent135 : Ab.Enters Tryz.prog 135 := ent_of Tryz.func135 (by kernel_rfl) (by kernel_rfl)
theorem ent172 : Ab.Enters Tryz.prog 172 := ent_of Tryz.func172 (by kernel_rfl) (by kernel_rfl)
theorem ent142 : Ab.Enters Tryz.prog 142 := ent_of Tryz.func142 (by kernel_rfl) (by kernel_rfl)
theorem ent179 : Ab.Enters Tryz.prog 179 := ent_of Tryz.func179 (by kernel_rfl) (by kernel_rfl)
theorem code_nat [Unk] [KnOk] : NatOk Tryz.prog code := fun f g h => by
  unfold code at h
  split at h
  · rename_i g2 hg
    cases h
    unfold natOf at hg
    by_cases e : f = 135
    · rw [if_pos e] at hg; subst e; cases hg; exact ⟨ent135, fun call hcall hD args A r A' h σ w argsc hr hl => repeat_ok (ρ := Tryz.lays105_ren) Tryz.lays105 Tryz.Builder_Extra_105 h hr hl⟩
    rw [if_neg e] at hg
    by_cases e : f = 172
    · rw [if_pos e] at hg; subst e; cases hg; exact ⟨ent172, fun call hcall hD args A r A' h σ w argsc hr hl => copyCheck_ok (ρ := Tryz.lays105_ren) { Tryz.lays105 with } Tryz.Builder_Extra_105.toX72 h hr hl⟩
    rw [if_neg e] at hg
    by_cases e : f = 142
    · rw [if_pos e] at hg; subst e; cases hg; exact ⟨ent142, fun call hcall hD args A r A' h σ w argsc hr hl => string_ok (ρ := Tryz.lays105_ren) { Tryz.lays105 with } Tryz.Builder_Extra_105 h hr hl⟩
    rw [if_neg e] at hg
    by_cases e : f = 179
    · rw [if_pos e] at hg; subst e; cases hg; exact ⟨ent179, fun call hcall hD args A r A' h σ w argsc hr hl => once_ok hcall (hD 209 (bodyOf (code 209)) body209) (hD 208 (bodyOf (code 208)) body208) h hr hl⟩
    rw [if_neg e] at hg
    cases hg
  · rw [comp_eq] at h; exact absurd h comp_no_nat
noncomputable def nats (f : FuncId) : Option KNat :=
  bif Nat.beq f 135 then some (plainK repeatA) else bif Nat.beq f 172 then some (plainK (copyCheckA 278)) else bif Nat.beq f 142 then some (plainK (stringA 5)) else bif Nat.beq f 179 then some (onceK 207 178 209 208) else none
theorem nat135 : code 135 = some (.nat (repeatA)) := rfl
theorem nat172 : code 172 = some (.nat (copyCheckA 278)) := rfl
theorem nat142 : code 142 = some (.nat (stringA 5)) := rfl
theorem nat179 : code 179 = some (.nat (onceA 207 178 209 208)) := rfl
theorem code_mono : NatMono code := fun f g h c c' hc args A r hr => by
  unfold code at h
  split at h
  · rename_i g2 hg
    cases h
    unfold natOf at hg
    by_cases e : f = 135
    · rw [if_pos e] at hg; cases hg; rw [repeatA_any c' c]; exact hr
    rw [if_neg e] at hg
    by_cases e : f = 172
    · rw [if_pos e] at hg; cases hg; rw [copyCheckA_any 278 c' c]; exact hr
    rw [if_neg e] at hg
    by_cases e : f = 142
    · rw [if_pos e] at hg; cases hg; rw [stringA_any 5 c' c]; exact hr
    rw [if_neg e] at hg
    by_cases e : f = 179
    · rw [if_pos e] at hg; cases hg; exact onceA_mono hc hr
    rw [if_neg e] at hg
    cases hg
  · rw [comp_eq] at h; exact absurd h comp_no_nat
theorem nats_ok : NatsOk code nats := fun f gk h => by
  unfold nats at h
  cases hb : Nat.beq f 135 with
  | true =>
    have e := Nat.eq_of_beq_eq_true hb; subst e
    rw [hb] at h; cases h
    exact ⟨_, nat135, fun c hc args A k hk => plainK_ok repeatA_any hk⟩
  | false =>
  rw [hb] at h; simp only [cond_false] at h
  cases hb : Nat.beq f 172 with
  | true =>
    have e := Nat.eq_of_beq_eq_true hb; subst e
    rw [hb] at h; cases h
    exact ⟨_, nat172, fun c hc args A k hk => plainK_ok (copyCheckA_any 278) hk⟩
  | false =>
  rw [hb] at h; simp only [cond_false] at h
  cases hb : Nat.beq f 142 with
  | true =>
    have e := Nat.eq_of_beq_eq_true hb; subst e
    rw [hb] at h; cases h
    exact ⟨_, nat142, fun c hc args A k hk => plainK_ok (stringA_any 5) hk⟩
  | false =>
  rw [hb] at h; simp only [cond_false] at h
  cases hb : Nat.beq f 179 with
  | true =>
    have e := Nat.eq_of_beq_eq_true hb; subst e
    rw [hb] at h; cases h
    exact ⟨_, nat179, fun c hc args A k hk => onceK_ok code_mono hc hk⟩
  | false =>
  rw [hb] at h; simp only [cond_false] at h
  cases h
theorem quick {n : Nat} {f : FuncId} {args : List Value} {A : H} {k : Value → H → Bool} (h : kF code nats n f args A k = true) : ∃ m v A', evalF code m f args A = some (v, A') ∧ k v A' = true := kF_ok code_mono nats_ok n f args A k h
end

noncomputable def tab0 : List Value := (tabV (HH := Unit) Rows.laid_headgate_nvme_whys).getD []
noncomputable def tab1 : List Value := (tabV (HH := Unit) Rows.laid_headgate_nvme_rows).getD []
noncomputable def tab2 : List Value := (tabV (HH := Unit) Rows.laid_headgate_nresv_actions).getD []
noncomputable def tab3 : List Value := (tabV (HH := Unit) Rows.laid_headgate_nresv_aptpls).getD []
noncomputable def tab4 : List Value := (tabV (HH := Unit) Rows.laid_headgate_sqe_endsOf).getD []
noncomputable def tab5 : List Value := (tabV (HH := Unit) Rows.laid_headgate_sqe_fieldsOf).getD []
noncomputable def tab6 : List Value := (tabV (HH := Unit) Rows.laid_headgate_access_lets).getD []
noncomputable def tab7 : List Value := (tabV (HH := Unit) Rows.laid_headgate_crc_steps).getD []
noncomputable def tabs : OTabs := [some (194, tab0), some (250, tab1), some (255, tab2), some (257, tab3), some (292, tab4), some (293, tab5), some (298, tab6), some (346, tab7), none]
theorem count : Tryz.prog.globals.size = 9 := by kernel_rfl
theorem g0 : Tryz.prog.globalNamed "headgate/nvme.whys" = some 0 := by kernel_rfl
theorem ty0 : (Tryz.prog.globals[0]?).map (·.type) = some 194 := by kernel_rfl
theorem ok0 : okTab Tryz.prog 194 = true := by kernel_rfl
theorem v0 : tabV (HH := Unit) Rows.laid_headgate_nvme_whys = some tab0 := by kernel_rfl
theorem i0 : ((Tryz.prog.info? 194).map (·.size)).isSome = true := by kernel_rfl
theorem fl0 : tab0.all flat1 = true := by kernel_rfl
theorem g1 : Tryz.prog.globalNamed "headgate/nvme.rows" = some 1 := by kernel_rfl
theorem ty1 : (Tryz.prog.globals[1]?).map (·.type) = some 250 := by kernel_rfl
theorem ok1 : okTab Tryz.prog 250 = true := by kernel_rfl
theorem v1 : tabV (HH := Unit) Rows.laid_headgate_nvme_rows = some tab1 := by kernel_rfl
theorem i1 : ((Tryz.prog.info? 250).map (·.size)).isSome = true := by kernel_rfl
theorem fl1 : tab1.all flat1 = true := by kernel_rfl
theorem g2 : Tryz.prog.globalNamed "headgate/nresv.actions" = some 2 := by kernel_rfl
theorem ty2 : (Tryz.prog.globals[2]?).map (·.type) = some 255 := by kernel_rfl
theorem ok2 : okTab Tryz.prog 255 = true := by kernel_rfl
theorem v2 : tabV (HH := Unit) Rows.laid_headgate_nresv_actions = some tab2 := by kernel_rfl
theorem i2 : ((Tryz.prog.info? 255).map (·.size)).isSome = true := by kernel_rfl
theorem fl2 : tab2.all flat1 = true := by kernel_rfl
theorem g3 : Tryz.prog.globalNamed "headgate/nresv.aptpls" = some 3 := by kernel_rfl
theorem ty3 : (Tryz.prog.globals[3]?).map (·.type) = some 257 := by kernel_rfl
theorem ok3 : okTab Tryz.prog 257 = true := by kernel_rfl
theorem v3 : tabV (HH := Unit) Rows.laid_headgate_nresv_aptpls = some tab3 := by kernel_rfl
theorem i3 : ((Tryz.prog.info? 257).map (·.size)).isSome = true := by kernel_rfl
theorem fl3 : tab3.all flat1 = true := by kernel_rfl
theorem g4 : Tryz.prog.globalNamed "headgate/sqe.endsOf" = some 4 := by kernel_rfl
theorem ty4 : (Tryz.prog.globals[4]?).map (·.type) = some 292 := by kernel_rfl
theorem ok4 : okTab Tryz.prog 292 = true := by kernel_rfl
theorem v4 : tabV (HH := Unit) Rows.laid_headgate_sqe_endsOf = some tab4 := by kernel_rfl
theorem i4 : ((Tryz.prog.info? 292).map (·.size)).isSome = true := by kernel_rfl
theorem fl4 : tab4.all flat1 = true := by kernel_rfl
theorem g5 : Tryz.prog.globalNamed "headgate/sqe.fieldsOf" = some 5 := by kernel_rfl
theorem ty5 : (Tryz.prog.globals[5]?).map (·.type) = some 293 := by kernel_rfl
theorem ok5 : okTab Tryz.prog 293 = true := by kernel_rfl
theorem v5 : tabV (HH := Unit) Rows.laid_headgate_sqe_fieldsOf = some tab5 := by kernel_rfl
theorem i5 : ((Tryz.prog.info? 293).map (·.size)).isSome = true := by kernel_rfl
theorem fl5 : tab5.all flat1 = true := by kernel_rfl
theorem g6 : Tryz.prog.globalNamed "headgate/access.lets" = some 6 := by kernel_rfl
theorem ty6 : (Tryz.prog.globals[6]?).map (·.type) = some 298 := by kernel_rfl
theorem ok6 : okTab Tryz.prog 298 = true := by kernel_rfl
theorem v6 : tabV (HH := Unit) Rows.laid_headgate_access_lets = some tab6 := by kernel_rfl
theorem i6 : ((Tryz.prog.info? 298).map (·.size)).isSome = true := by kernel_rfl
theorem fl6 : tab6.all flat1 = true := by kernel_rfl
theorem g7 : Tryz.prog.globalNamed "headgate/crc.steps" = some 7 := by kernel_rfl
theorem ty7 : (Tryz.prog.globals[7]?).map (·.type) = some 346 := by kernel_rfl
theorem ok7 : okTab Tryz.prog 346 = true := by kernel_rfl
theorem v7 : tabV (HH := Unit) Rows.laid_headgate_crc_steps = some tab7 := by kernel_rfl
theorem i7 : ((Tryz.prog.info? 346).map (·.size)).isSome = true := by kernel_rfl
theorem fl7 : tab7.all flat1 = true := by kernel_rfl
/-- What the row lists. -/
def laidAll : List (String × DataW Unit) := [("headgate/access.lets", Rows.laid_headgate_access_lets), ("headgate/crc.steps", Rows.laid_headgate_crc_steps), ("headgate/nresv.actions", Rows.laid_headgate_nresv_actions), ("headgate/nresv.aptpls", Rows.laid_headgate_nresv_aptpls), ("headgate/sqe.fieldsOf", Rows.laid_headgate_sqe_fieldsOf), ("headgate/sqe.endsOf", Rows.laid_headgate_sqe_endsOf), ("headgate/nvme.rows", Rows.laid_headgate_nvme_rows), ("headgate/nvme.whys", Rows.laid_headgate_nvme_whys)]
theorem size_of {W : World} (h : W.ShapedOpen Tryz.prog) {g : Nat} (hg : g < Tryz.prog.globals.size) (h0 : (((begin Tryz.prog (fun _ _ => 0) default).world.heap[g]?).bind Obj.row?).isSome = true) : g < W.heap.size := by
  obtain ⟨⟨z, t⟩, hz⟩ := Option.isSome_iff_exists.1 h0
  obtain ⟨cs, hc, _⟩ := h.1 g z t hg hz
  exact (Array.getElem?_eq_some_iff.1 hc).1
theorem row8 : (((begin Tryz.prog (fun _ _ => 0) default).world.heap[8]?).bind Obj.row?).isSome = true := by kernel_rfl
theorem tabs_flat (i : Nat) (t : TypeId) (c : List Value) (hi : tabs[i]? = some (some (t, c))) : ∀ v ∈ c, flat1 v = true := by
  match i, hi with
  | 0, hi => cases hi; exact List.all_eq_true.1 fl0
  | 1, hi => cases hi; exact List.all_eq_true.1 fl1
  | 2, hi => cases hi; exact List.all_eq_true.1 fl2
  | 3, hi => cases hi; exact List.all_eq_true.1 fl3
  | 4, hi => cases hi; exact List.all_eq_true.1 fl4
  | 5, hi => cases hi; exact List.all_eq_true.1 fl5
  | 6, hi => cases hi; exact List.all_eq_true.1 fl6
  | 7, hi => cases hi; exact List.all_eq_true.1 fl7
  | 8, hi => simp [tabs] at hi
  | n + 9, hi => simp [tabs] at hi
theorem rel [Unk] [Kn] [KnOk] {W : World} (h : laidMet Tryz.prog laidAll W) (hs : W.ShapedOpen Tryz.prog) : Rel Tryz.prog (otabS Tryz.prog tabs) (otabH tabs) W := by
  refine otab_rel (by rw [count]; rfl) (fun i t c hi => ?_) (fun i t c hi => ?_) h (fun g hg => ?_)
  · match i, hi with
    | 0, hi => cases hi; exact ⟨_, _, .tail _ (.tail _ (.tail _ (.tail _ (.tail _ (.tail _ (.tail _ (.head _))))))), g0, ty0, ok0, v0, i0⟩
    | 1, hi => cases hi; exact ⟨_, _, .tail _ (.tail _ (.tail _ (.tail _ (.tail _ (.tail _ (.head _)))))), g1, ty1, ok1, v1, i1⟩
    | 2, hi => cases hi; exact ⟨_, _, .tail _ (.tail _ (.head _)), g2, ty2, ok2, v2, i2⟩
    | 3, hi => cases hi; exact ⟨_, _, .tail _ (.tail _ (.tail _ (.head _))), g3, ty3, ok3, v3, i3⟩
    | 4, hi => cases hi; exact ⟨_, _, .tail _ (.tail _ (.tail _ (.tail _ (.tail _ (.head _))))), g4, ty4, ok4, v4, i4⟩
    | 5, hi => cases hi; exact ⟨_, _, .tail _ (.tail _ (.tail _ (.tail _ (.head _)))), g5, ty5, ok5, v5, i5⟩
    | 6, hi => cases hi; exact ⟨_, _, .head _, g6, ty6, ok6, v6, i6⟩
    | 7, hi => cases hi; exact ⟨_, _, .tail _ (.head _), g7, ty7, ok7, v7, i7⟩
    | 8, hi => simp [tabs] at hi
    | n + 9, hi => simp [tabs] at hi
  · exact tabs_flat i t c hi
  · match g, hg with
    | 0, hg => simp [tabs] at hg
    | 1, hg => simp [tabs] at hg
    | 2, hg => simp [tabs] at hg
    | 3, hg => simp [tabs] at hg
    | 4, hg => simp [tabs] at hg
    | 5, hg => simp [tabs] at hg
    | 6, hg => simp [tabs] at hg
    | 7, hg => simp [tabs] at hg
    | 8, _ => exact size_of hs (by rw [count]; decide) row8
    | n + 9, hg => simp [tabs] at hg
end Go.Proofs.YtcghikpogkigcaaGreatDoor
