/-
  DERIVED: THE SHELF's CONTRACTS AT THIS DUMP, IN PLAIN WORDS (tools/lay-plain.mjs out of 'TryzLay.lean', which tools/lay-shelf.mjs wrote): THE SAME DECLARATIONS UNDER THE SAME NAMES: 'import', 'namespace', 'open', 'def', 'theorem' AND NOTHING ELSE: no command of the shelf's: FOR A HAND-IN. Each laying: the table of numbers ('.._ren') and one theorem, a field a fact of the dump's own or the kernel's comparison; each contract: ONE APPLICATION.
-/
import Derived.Shelf.Strings.Builder1
import Derived.Shelf.Strings.Builder2
import Derived.Shelf.Strings.BuilderF
import Derived.Shelf.Strings.Prefix
import Derived.Shelf.Bits.Mul64
import Derived.Shelf.Strings.Repeat
import Derived.Test.YtkhfbngimagllaaGreatDoorProg
namespace Go.Proofs
open Go.Shelf
def Tryz.lays105_ren : Go.Shelf.Ren := ⟨fun | 105 => 118 | 212 => 157 | 99 => 158 | 165 => 159 | 166 => 121 | 170 => 160 | 169 => 125 | 263 => 189 | 264 => 190 | 206 => 191 | 240 => 167 | 241 => 192 | 276 => 197 | 277 => 224 | n => n, fun | 9 => 9 | 3 => 3 | 4 => 4 | 20 => 20 | 0 => 0 | 46 => 85 | 109 => 279 | 5 => 5 | 72 => 260 | 76 => 263 | 51 => 45 | 146 => 310 | 53 => 41 | 148 => 312 | 70 => 258 | 37 => 81 | 75 => 262 | 127 => 289 | 164 => 318 | 80 => 232 | n => n, fun | n => n⟩
theorem Tryz.lays105 : Go.Proofs.Lays.n105 Tryz.prog Tryz.lays105_ren := {
  mixed := by kernel_rfl
  f99 := Tryz.func158.trans (congrArg some (by kernel_rfl))
  f105 := Tryz.func118.trans (congrArg some (by kernel_rfl))
  f165 := Tryz.func159.trans (congrArg some (by kernel_rfl))
  f166 := Tryz.func121.trans (congrArg some (by kernel_rfl))
  f169 := Tryz.func125.trans (congrArg some (by kernel_rfl))
  f170 := Tryz.func160.trans (congrArg some (by kernel_rfl))
  f206 := Tryz.func191.trans (congrArg some (by kernel_rfl))
  f212 := Tryz.func157.trans (congrArg some (by kernel_rfl))
  f240 := Tryz.func167.trans (congrArg some (by kernel_rfl))
  f241 := Tryz.func192.trans (congrArg some (by kernel_rfl))
  f263 := Tryz.func189.trans (congrArg some (by kernel_rfl))
  f264 := Tryz.func190.trans (congrArg some (by kernel_rfl))
  f276 := Tryz.func197.trans (congrArg some (by kernel_rfl))
  f277 := Tryz.func224.trans (congrArg some (by kernel_rfl))
  t0 := Tryz.underlying0
  a0 := Tryz.isAgg0
  z0 := Tryz.sizeOf0
  v0 := Tryz.zeroValue0
  t3 := Tryz.underlying3
  a3 := Tryz.isAgg3
  z3 := Tryz.sizeOf3
  v3 := Tryz.zeroValue3
  t4 := Tryz.underlying4
  a4 := Tryz.isAgg4
  z4 := Tryz.sizeOf4
  v4 := Tryz.zeroValue4
  t5 := Tryz.underlying5
  a5 := Tryz.isAgg5
  z5 := Tryz.sizeOf5
  v5 := Tryz.zeroValue5
  t9 := Tryz.underlying9
  a9 := Tryz.isAgg9
  z9 := Tryz.sizeOf9
  v9 := Tryz.zeroValue9
  t20 := Tryz.underlying20
  a20 := Tryz.isAgg20
  z20 := Tryz.sizeOf20
  v20 := Tryz.zeroValue20
  t37 := Tryz.underlying81
  a37 := Tryz.isAgg81
  z37 := Tryz.sizeOf81
  v37 := Tryz.zeroValue81
  t46 := Tryz.underlying85
  a46 := Tryz.isAgg85
  z46 := Tryz.sizeOf85
  v46 := Tryz.zeroValue85
  t51 := Tryz.underlying45
  a51 := Tryz.isAgg45
  z51 := Tryz.sizeOf45
  v51 := Tryz.zeroValue45
  t53 := Tryz.underlying41
  a53 := Tryz.isAgg41
  z53 := Tryz.sizeOf41
  v53 := Tryz.zeroValue41
  t70 := Tryz.underlying258
  a70 := Tryz.isAgg258
  z70 := Tryz.sizeOf258
  v70 := Tryz.zeroValue258
  t72 := Tryz.underlying260
  a72 := Tryz.isAgg260
  z72 := Tryz.sizeOf260
  v72 := Tryz.zeroValue260
  t75 := Tryz.underlying262
  a75 := Tryz.isAgg262
  z75 := Tryz.sizeOf262
  v75 := Tryz.zeroValue262
  t76 := Tryz.underlying263
  a76 := Tryz.isAgg263
  z76 := Tryz.sizeOf263
  v76 := Tryz.zeroValue263
  t109 := Tryz.underlying279
  a109 := Tryz.isAgg279
  z109 := Tryz.sizeOf279
  v109 := Tryz.zeroValue279
  t127 := Tryz.underlying289
  a127 := Tryz.isAgg289
  z127 := Tryz.sizeOf289
  v127 := Tryz.zeroValue289
  t146 := Tryz.underlying310
  a146 := Tryz.isAgg310
  z146 := Tryz.sizeOf310
  v146 := Tryz.zeroValue310
  t148 := Tryz.underlying312
  a148 := Tryz.isAgg312
  z148 := Tryz.sizeOf312
  v148 := Tryz.zeroValue312
  t164 := Tryz.underlying318
  a164 := Tryz.isAgg318
  z164 := Tryz.sizeOf318
  v164 := Tryz.zeroValue318 }
theorem Tryz.Builder_Extra_105 : Builder.Extra Tryz.prog Tryz.lays105_ren := {
  sizeBuilder := by kernel_rfl
  liesBuilder := by kernel_rfl
  t5 := Tryz.underlying5
  a5 := Tryz.isAgg5
  z5 := Tryz.sizeOf5
  v5 := Tryz.zeroValue5
  infoByte := by kernel_rfl
  cellsByte := by kernel_rfl
  sizeByte := by kernel_rfl
  neB5 := by decide }
end Go.Proofs
