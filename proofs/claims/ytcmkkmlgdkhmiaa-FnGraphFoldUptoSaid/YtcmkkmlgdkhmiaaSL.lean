/-
  DERIVED: THE SHELF's CONTRACTS AT THIS DUMP, IN PLAIN WORDS (tools/lay-plain.mjs out of 'YtcmkkmlgdkhmiaaSLsrc.lean', which tools/lay-shelf.mjs wrote): THE SAME DECLARATIONS UNDER THE SAME NAMES: 'import', 'namespace', 'open', 'def', 'theorem' AND NOTHING ELSE: no command of the shelf's: FOR A HAND-IN. Each laying: the table of numbers ('.._ren') and one theorem, a field a fact of the dump's own or the kernel's comparison; each contract: ONE APPLICATION.
-/
import Derived.Shelf.SortM.Plain
import Derived.Shelf.SortM.SortNone
import Derived.Shelf.SlSortCmp.NoneTotal
import Derived.Shelf.SlicesG.Cmp
import Derived.Ground.SlgmProg
import Derived.Ground.SlsfProg
import Derived.Ground.SlgcProg
import Derived.Test.YtcmkkmlgdkhmiaaProg
namespace Go.Proofs
open Go.Shelf
def Try.laySortInt_ren : Go.Shelf.Ren := ⟨fun | 5 => 94 | 8 => 136 | 7 => 135 | 19 => 160 | 20 => 161 | 10 => 151 | 11 => 152 | 12 => 153 | 13 => 154 | 14 => 155 | 15 => 156 | 16 => 157 | 17 => 158 | 18 => 159 | 30 => 169 | 31 => 170 | 32 => 171 | 33 => 172 | 34 => 173 | 35 => 166 | 40 => 187 | n => n, fun | 23 => 27 | 25 => 3 | 3 => 3 | 32 => 132 | 22 => 27 | 0 => 0 | 44 => 153 | 46 => 155 | 4 => 4 | 36 => 145 | 35 => 144 | 41 => 150 | 5 => 5 | 9 => 9 | 53 => 162 | 57 => 166 | 63 => 177 | 64 => 178 | n => n, fun | n => n⟩
def Try.laySortMv_ren : Go.Shelf.Ren := ⟨fun | 6 => 142 | 15 => 136 | 14 => 167 | 28 => 160 | 29 => 161 | 20 => 176 | 21 => 177 | 22 => 178 | 23 => 179 | 24 => 180 | 25 => 181 | 26 => 182 | 27 => 183 | 46 => 188 | 47 => 170 | 48 => 171 | 49 => 189 | 50 => 190 | 57 => 191 | n => n, fun | 22 => 63 | 24 => 65 | 25 => 102 | 3 => 3 | 39 => 132 | 0 => 0 | 53 => 153 | 55 => 155 | 4 => 4 | 46 => 145 | 45 => 144 | 50 => 150 | 5 => 5 | 9 => 9 | 66 => 162 | 70 => 166 | 76 => 177 | 77 => 178 | n => n, fun | n => n⟩
theorem Try.laySortMv : Go.Proofs.SlLaysF0.n6 Try.prog Try.laySortMv_ren := {
  mixed := by kernel_rfl
  f6 := ⟨Try.f142.name, by decide, Try.func142.trans (congrArg some (by kernel_rfl))⟩
  f14 := ⟨Try.f167.name, by decide, Try.func167.trans (congrArg some (by kernel_rfl))⟩
  f15 := Try.func136.trans (congrArg some (by kernel_rfl))
  f20 := ⟨Try.f176.name, by decide, Try.func176.trans (congrArg some (by kernel_rfl))⟩
  f21 := ⟨Try.f177.name, by decide, Try.func177.trans (congrArg some (by kernel_rfl))⟩
  f22 := ⟨Try.f178.name, by decide, Try.func178.trans (congrArg some (by kernel_rfl))⟩
  f23 := ⟨Try.f179.name, by decide, Try.func179.trans (congrArg some (by kernel_rfl))⟩
  f24 := ⟨Try.f180.name, by decide, Try.func180.trans (congrArg some (by kernel_rfl))⟩
  f25 := ⟨Try.f181.name, by decide, Try.func181.trans (congrArg some (by kernel_rfl))⟩
  f26 := ⟨Try.f182.name, by decide, Try.func182.trans (congrArg some (by kernel_rfl))⟩
  f27 := ⟨Try.f183.name, by decide, Try.func183.trans (congrArg some (by kernel_rfl))⟩
  f28 := Try.func160.trans (congrArg some (by kernel_rfl))
  f29 := Try.func161.trans (congrArg some (by kernel_rfl))
  f46 := ⟨Try.f188.name, by decide, Try.func188.trans (congrArg some (by kernel_rfl))⟩
  f47 := Try.func170.trans (congrArg some (by kernel_rfl))
  f48 := Try.func171.trans (congrArg some (by kernel_rfl))
  f49 := ⟨Try.f189.name, by decide, Try.func189.trans (congrArg some (by kernel_rfl))⟩
  f50 := ⟨Try.f190.name, by decide, Try.func190.trans (congrArg some (by kernel_rfl))⟩
  f57 := ⟨Try.f191.name, by decide, Try.func191.trans (congrArg some (by kernel_rfl))⟩
  t0 := Try.underlying0
  a0 := Try.isAgg0
  z0 := Try.sizeOf0
  v0 := Try.zeroValue0
  t3 := Try.underlying3
  a3 := Try.isAgg3
  z3 := Try.sizeOf3
  v3 := Try.zeroValue3
  t4 := Try.underlying4
  a4 := Try.isAgg4
  z4 := Try.sizeOf4
  v4 := Try.zeroValue4
  t5 := Try.underlying5
  a5 := Try.isAgg5
  z5 := Try.sizeOf5
  v5 := Try.zeroValue5
  t9 := Try.underlying9
  a9 := Try.isAgg9
  z9 := Try.sizeOf9
  v9 := Try.zeroValue9
  t22 := Try.underlying63
  a22 := Try.isAgg63
  z22 := Try.sizeOf63
  v22 := Try.zeroValue63
  t25 := Try.underlying102
  a25 := Try.isAgg102
  z25 := Try.sizeOf102
  v25 := Try.zeroValue102
  t39 := Try.underlying132
  a39 := Try.isAgg132
  z39 := Try.sizeOf132
  v39 := Try.zeroValue132
  t45 := Try.underlying144
  a45 := Try.isAgg144
  z45 := Try.sizeOf144
  v45 := Try.zeroValue144
  t46 := Try.underlying145
  a46 := Try.isAgg145
  z46 := Try.sizeOf145
  v46 := Try.zeroValue145
  t50 := Try.underlying150
  a50 := Try.isAgg150
  z50 := Try.sizeOf150
  v50 := Try.zeroValue150
  t53 := Try.underlying153
  a53 := Try.isAgg153
  z53 := Try.sizeOf153
  v53 := Try.zeroValue153
  t55 := Try.underlying155
  a55 := Try.isAgg155
  z55 := Try.sizeOf155
  v55 := Try.zeroValue155
  t66 := Try.underlying162
  a66 := Try.isAgg162
  z66 := Try.sizeOf162
  v66 := Try.zeroValue162
  t70 := Try.underlying166
  a70 := Try.isAgg166
  z70 := Try.sizeOf166
  v70 := Try.zeroValue166
  t76 := Try.underlying177
  a76 := Try.isAgg177
  z76 := Try.sizeOf177
  v76 := Try.zeroValue177
  t77 := Try.underlying178
  a77 := Try.isAgg178
  z77 := Try.sizeOf178
  v77 := Try.zeroValue178 }
def Try.layCmpInt_ren : Go.Shelf.Ren := ⟨fun | 5 => 141 | 7 => 166 | n => n, fun | 22 => 3 | 3 => 3 | 4 => 4 | n => n, fun | n => n⟩
theorem Try.layCmpInt : Go.Proofs.SlLaysC2.n5 Try.prog Try.layCmpInt_ren := {
  mixed := by kernel_rfl
  f5 := ⟨Try.f141.name, by decide, Try.func141.trans (congrArg some (by kernel_rfl))⟩
  f7 := ⟨Try.f166.name, by decide, Try.func166.trans (congrArg some (by kernel_rfl))⟩
  t3 := Try.underlying3
  a3 := Try.isAgg3
  z3 := Try.sizeOf3
  v3 := Try.zeroValue3
  t4 := Try.underlying4
  a4 := Try.isAgg4
  z4 := Try.sizeOf4
  v4 := Try.zeroValue4
  t22 := Try.underlying3
  a22 := Try.isAgg3
  z22 := Try.sizeOf3
  v22 := Try.zeroValue3 }
end Go.Proofs
