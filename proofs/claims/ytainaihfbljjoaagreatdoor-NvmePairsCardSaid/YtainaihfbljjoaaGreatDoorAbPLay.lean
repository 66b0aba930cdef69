/-
  DERIVED: THE SHELF's CONTRACTS AT THIS DUMP, IN PLAIN WORDS (tools/lay-plain.mjs out of 'TryzLay1.lean', which tools/lay-shelf.mjs wrote): THE SAME DECLARATIONS UNDER THE SAME NAMES: 'import', 'namespace', 'open', 'def', 'theorem' AND NOTHING ELSE: no command of the shelf's: FOR A HAND-IN. Each laying: the table of numbers ('.._ren') and one theorem, a field a fact of the dump's own or the kernel's comparison; each contract: ONE APPLICATION.
-/
import Derived.Shelf.Strings.Builder1
import Derived.Shelf.Strings.Builder2
import Derived.Shelf.Strings.BuilderF
import Derived.Shelf.Strings.Prefix
import Derived.Shelf.Bits.Mul64
import Derived.Shelf.Strings.Repeat
import Derived.Test.YtainaihfbljjoaaGreatDoorProg
set_option linter.all false
set_option linter.unusedSectionVars false
set_option linter.unusedVariables false
set_option linter.unusedSimpArgs false
namespace Go.Proofs
open Go.Shelf
def Tryz.lays105_ren : Go.Shelf.Ren := ⟨fun | 105 => 113 | 212 => 140 | 99 => 141 | 165 => 142 | 166 => 116 | 170 => 143 | 169 => 120 | 263 => 176 | 264 => 177 | 206 => 178 | 240 => 150 | 241 => 179 | 276 => 184 | 277 => 203 | n => n, fun | 9 => 9 | 3 => 3 | 4 => 4 | 20 => 20 | 0 => 0 | 46 => 159 | 109 => 276 | 5 => 5 | 72 => 255 | 76 => 258 | 51 => 59 | 146 => 293 | 53 => 34 | 148 => 295 | 70 => 253 | 37 => 142 | 75 => 257 | 127 => 285 | 164 => 301 | 80 => 195 | n => n, fun | n => n⟩
theorem Tryz.lays105 : Go.Proofs.Lays.n105 Tryz.prog Tryz.lays105_ren := {
  mixed := by kernel_rfl
  f99 := Tryz.func141.trans (congrArg some (by kernel_rfl))
  f105 := Tryz.func113.trans (congrArg some (by kernel_rfl))
  f165 := Tryz.func142.trans (congrArg some (by kernel_rfl))
  f166 := Tryz.func116.trans (congrArg some (by kernel_rfl))
  f169 := Tryz.func120.trans (congrArg some (by kernel_rfl))
  f170 := Tryz.func143.trans (congrArg some (by kernel_rfl))
  f206 := Tryz.func178.trans (congrArg some (by kernel_rfl))
  f212 := Tryz.func140.trans (congrArg some (by kernel_rfl))
  f240 := Tryz.func150.trans (congrArg some (by kernel_rfl))
  f241 := Tryz.func179.trans (congrArg some (by kernel_rfl))
  f263 := Tryz.func176.trans (congrArg some (by kernel_rfl))
  f264 := Tryz.func177.trans (congrArg some (by kernel_rfl))
  f276 := Tryz.func184.trans (congrArg some (by kernel_rfl))
  f277 := Tryz.func203.trans (congrArg some (by kernel_rfl))
  t0 := Tryz.underlying0
  a0 := Tryz.isAgg0
  z0 := Tryz.sizeOf0
  v0 := Tryz.zeroValue0
  t3 := Tryz.underlying3
  a3 := Tryz.isAgg3
  z3 := Tryz.sizeOf3
  v3 := Tryz.zeroValue3
  t4 := Tryz.underlying4
  a4 := Tryz.isAgg4
  z4 := Tryz.sizeOf4
  v4 := Tryz.zeroValue4
  t5 := Tryz.underlying5
  a5 := Tryz.isAgg5
  z5 := Tryz.sizeOf5
  v5 := Tryz.zeroValue5
  t9 := Tryz.underlying9
  a9 := Tryz.isAgg9
  z9 := Tryz.sizeOf9
  v9 := Tryz.zeroValue9
  t20 := Tryz.underlying20
  a20 := Tryz.isAgg20
  z20 := Tryz.sizeOf20
  v20 := Tryz.zeroValue20
  t37 := Tryz.underlying142
  a37 := Tryz.isAgg142
  z37 := Tryz.sizeOf142
  v37 := Tryz.zeroValue142
  t46 := Tryz.underlying159
  a46 := Tryz.isAgg159
  z46 := Tryz.sizeOf159
  v46 := Tryz.zeroValue159
  t51 := Tryz.underlying59
  a51 := Tryz.isAgg59
  z51 := Tryz.sizeOf59
  v51 := Tryz.zeroValue59
  t53 := Tryz.underlying34
  a53 := Tryz.isAgg34
  z53 := Tryz.sizeOf34
  v53 := Tryz.zeroValue34
  t70 := Tryz.underlying253
  a70 := Tryz.isAgg253
  z70 := Tryz.sizeOf253
  v70 := Tryz.zeroValue253
  t72 := Tryz.underlying255
  a72 := Tryz.isAgg255
  z72 := Tryz.sizeOf255
  v72 := Tryz.zeroValue255
  t75 := Tryz.underlying257
  a75 := Tryz.isAgg257
  z75 := Tryz.sizeOf257
  v75 := Tryz.zeroValue257
  t76 := Tryz.underlying258
  a76 := Tryz.isAgg258
  z76 := Tryz.sizeOf258
  v76 := Tryz.zeroValue258
  t109 := Tryz.underlying276
  a109 := Tryz.isAgg276
  z109 := Tryz.sizeOf276
  v109 := Tryz.zeroValue276
  t127 := Tryz.underlying285
  a127 := Tryz.isAgg285
  z127 := Tryz.sizeOf285
  v127 := Tryz.zeroValue285
  t146 := Tryz.underlying293
  a146 := Tryz.isAgg293
  z146 := Tryz.sizeOf293
  v146 := Tryz.zeroValue293
  t148 := Tryz.underlying295
  a148 := Tryz.isAgg295
  z148 := Tryz.sizeOf295
  v148 := Tryz.zeroValue295
  t164 := Tryz.underlying301
  a164 := Tryz.isAgg301
  z164 := Tryz.sizeOf301
  v164 := Tryz.zeroValue301 }
theorem Tryz.Builder_Extra_105 : Builder.Extra Tryz.prog Tryz.lays105_ren := {
  sizeBuilder := by kernel_rfl
  liesBuilder := by kernel_rfl
  t5 := Tryz.underlying5
  a5 := Tryz.isAgg5
  z5 := Tryz.sizeOf5
  v5 := Tryz.zeroValue5
  infoByte := by kernel_rfl
  cellsByte := by kernel_rfl
  sizeByte := by kernel_rfl
  neB5 := by decide }
end Go.Proofs
