/-
  DERIVED: THE SHELF's CONTRACTS AT THIS DUMP, IN PLAIN WORDS (tools/lay-plain.mjs out of 'YtolfamfgoafhlaaShelg.lean', which tools/lay-shelf.mjs wrote): THE SAME DECLARATIONS UNDER THE SAME NAMES: 'import', 'namespace', 'open', 'def', 'theorem' AND NOTHING ELSE: no command of the shelf's: FOR A HAND-IN. Each laying: the table of numbers ('.._ren') and one theorem, a field a fact of the dump's own or the kernel's comparison; each contract: ONE APPLICATION.
-/
import Derived.Shelf.SlGeneric
import Derived.Shelf.SlSortCmp.WholeK
import Derived.Shelf.SlSortCmp.NoneTotal
import Derived.Ground.SlsfProg
import Derived.Test.YtolfamfgoafhlaaProg
namespace Go.Proofs
open Go.Shelf
def Try.sortF_ren : Go.Shelf.Ren := ⟨fun | 6 => 102 | 15 => 106 | 14 => 108 | 28 => 118 | 29 => 119 | 20 => 120 | 21 => 121 | 22 => 122 | 23 => 123 | 24 => 124 | 25 => 125 | 26 => 126 | 27 => 127 | 46 => 134 | 47 => 129 | 48 => 130 | 49 => 135 | 50 => 136 | 57 => 138 | n => n, fun | 22 => 31 | 24 => 72 | 25 => 150 | 3 => 3 | 39 => 159 | 0 => 0 | 53 => 170 | 55 => 172 | 4 => 4 | 46 => 164 | 45 => 163 | 50 => 108 | 5 => 5 | 9 => 9 | 66 => 178 | 70 => 182 | 76 => 186 | 77 => 187 | n => n, fun | n => n⟩
theorem Try.sortF : Go.Proofs.SlLaysF0.n6 Try.prog Try.sortF_ren := {
  mixed := by kernel_rfl
  f6 := ⟨Try.f102.name, by decide, Try.func102.trans (congrArg some (by kernel_rfl))⟩
  f14 := ⟨Try.f108.name, by decide, Try.func108.trans (congrArg some (by kernel_rfl))⟩
  f15 := Try.func106.trans (congrArg some (by kernel_rfl))
  f20 := ⟨Try.f120.name, by decide, Try.func120.trans (congrArg some (by kernel_rfl))⟩
  f21 := ⟨Try.f121.name, by decide, Try.func121.trans (congrArg some (by kernel_rfl))⟩
  f22 := ⟨Try.f122.name, by decide, Try.func122.trans (congrArg some (by kernel_rfl))⟩
  f23 := ⟨Try.f123.name, by decide, Try.func123.trans (congrArg some (by kernel_rfl))⟩
  f24 := ⟨Try.f124.name, by decide, Try.func124.trans (congrArg some (by kernel_rfl))⟩
  f25 := ⟨Try.f125.name, by decide, Try.func125.trans (congrArg some (by kernel_rfl))⟩
  f26 := ⟨Try.f126.name, by decide, Try.func126.trans (congrArg some (by kernel_rfl))⟩
  f27 := ⟨Try.f127.name, by decide, Try.func127.trans (congrArg some (by kernel_rfl))⟩
  f28 := Try.func118.trans (congrArg some (by kernel_rfl))
  f29 := Try.func119.trans (congrArg some (by kernel_rfl))
  f46 := ⟨Try.f134.name, by decide, Try.func134.trans (congrArg some (by kernel_rfl))⟩
  f47 := Try.func129.trans (congrArg some (by kernel_rfl))
  f48 := Try.func130.trans (congrArg some (by kernel_rfl))
  f49 := ⟨Try.f135.name, by decide, Try.func135.trans (congrArg some (by kernel_rfl))⟩
  f50 := ⟨Try.f136.name, by decide, Try.func136.trans (congrArg some (by kernel_rfl))⟩
  f57 := ⟨Try.f138.name, by decide, Try.func138.trans (congrArg some (by kernel_rfl))⟩
  t0 := Try.underlying0
  a0 := Try.isAgg0
  z0 := Try.sizeOf0
  v0 := Try.zeroValue0
  t3 := Try.underlying3
  a3 := Try.isAgg3
  z3 := Try.sizeOf3
  v3 := Try.zeroValue3
  t4 := Try.underlying4
  a4 := Try.isAgg4
  z4 := Try.sizeOf4
  v4 := Try.zeroValue4
  t5 := Try.underlying5
  a5 := Try.isAgg5
  z5 := Try.sizeOf5
  v5 := Try.zeroValue5
  t9 := Try.underlying9
  a9 := Try.isAgg9
  z9 := Try.sizeOf9
  v9 := Try.zeroValue9
  t22 := Try.underlying31
  a22 := Try.isAgg31
  z22 := Try.sizeOf31
  v22 := Try.zeroValue31
  t25 := Try.underlying150
  a25 := Try.isAgg150
  z25 := Try.sizeOf150
  v25 := Try.zeroValue150
  t39 := Try.underlying159
  a39 := Try.isAgg159
  z39 := Try.sizeOf159
  v39 := Try.zeroValue159
  t45 := Try.underlying163
  a45 := Try.isAgg163
  z45 := Try.sizeOf163
  v45 := Try.zeroValue163
  t46 := Try.underlying164
  a46 := Try.isAgg164
  z46 := Try.sizeOf164
  v46 := Try.zeroValue164
  t50 := Try.underlying108
  a50 := Try.isAgg108
  z50 := Try.sizeOf108
  v50 := Try.zeroValue108
  t53 := Try.underlying170
  a53 := Try.isAgg170
  z53 := Try.sizeOf170
  v53 := Try.zeroValue170
  t55 := Try.underlying172
  a55 := Try.isAgg172
  z55 := Try.sizeOf172
  v55 := Try.zeroValue172
  t66 := Try.underlying178
  a66 := Try.isAgg178
  z66 := Try.sizeOf178
  v66 := Try.zeroValue178
  t70 := Try.underlying182
  a70 := Try.isAgg182
  z70 := Try.sizeOf182
  v70 := Try.zeroValue182
  t76 := Try.underlying186
  a76 := Try.isAgg186
  z76 := Try.sizeOf186
  v76 := Try.zeroValue186
  t77 := Try.underlying187
  a77 := Try.isAgg187
  z77 := Try.sizeOf187
  v77 := Try.zeroValue187 }
end Go.Proofs
