/-
  DERIVED: THE SHELF's CONTRACTS AT THIS DUMP, IN PLAIN WORDS (tools/lay-plain.mjs out of 'TryShelf.lean', which tools/lay-shelf.mjs wrote): THE SAME DECLARATIONS UNDER THE SAME NAMES: 'import', 'namespace', 'open', 'def', 'theorem' AND NOTHING ELSE: no command of the shelf's: FOR A HAND-IN. Each laying: the table of numbers ('.._ren') and one theorem, a field a fact of the dump's own or the kernel's comparison; each contract: ONE APPLICATION.
-/
import Derived.Shelf.SlGeneric
import Derived.Shelf.SlSortCmp.NoneTotal
import Derived.Ground.SlsfProg
import Derived.Test.YtadlecnlgkhneaaProg
namespace Go.Proofs
open Go.Shelf
def Try.sortP_ren : Go.Shelf.Ren := ⟨fun | 6 => 56 | 15 => 69 | 14 => 68 | 28 => 81 | 29 => 82 | 20 => 73 | 21 => 74 | 22 => 75 | 23 => 76 | 24 => 77 | 25 => 78 | 26 => 79 | 27 => 80 | 46 => 84 | 47 => 85 | 48 => 86 | 49 => 87 | 50 => 88 | 57 => 89 | n => n, fun | 22 => 25 | 24 => 29 | 25 => 82 | 3 => 3 | 39 => 74 | 0 => 0 | 53 => 26 | 55 => 144 | 4 => 4 | 46 => 137 | 45 => 136 | 50 => 80 | 5 => 5 | 9 => 9 | 66 => 147 | 70 => 151 | 76 => 153 | 77 => 154 | n => n, fun | n => n⟩
theorem Try.sortP : Go.Proofs.SlLaysF0.n6 Try.prog Try.sortP_ren := {
  mixed := by kernel_rfl
  f6 := ⟨Try.f56.name, by decide, Try.func56.trans (congrArg some (by kernel_rfl))⟩
  f14 := ⟨Try.f68.name, by decide, Try.func68.trans (congrArg some (by kernel_rfl))⟩
  f15 := Try.func69.trans (congrArg some (by kernel_rfl))
  f20 := ⟨Try.f73.name, by decide, Try.func73.trans (congrArg some (by kernel_rfl))⟩
  f21 := ⟨Try.f74.name, by decide, Try.func74.trans (congrArg some (by kernel_rfl))⟩
  f22 := ⟨Try.f75.name, by decide, Try.func75.trans (congrArg some (by kernel_rfl))⟩
  f23 := ⟨Try.f76.name, by decide, Try.func76.trans (congrArg some (by kernel_rfl))⟩
  f24 := ⟨Try.f77.name, by decide, Try.func77.trans (congrArg some (by kernel_rfl))⟩
  f25 := ⟨Try.f78.name, by decide, Try.func78.trans (congrArg some (by kernel_rfl))⟩
  f26 := ⟨Try.f79.name, by decide, Try.func79.trans (congrArg some (by kernel_rfl))⟩
  f27 := ⟨Try.f80.name, by decide, Try.func80.trans (congrArg some (by kernel_rfl))⟩
  f28 := Try.func81.trans (congrArg some (by kernel_rfl))
  f29 := Try.func82.trans (congrArg some (by kernel_rfl))
  f46 := ⟨Try.f84.name, by decide, Try.func84.trans (congrArg some (by kernel_rfl))⟩
  f47 := Try.func85.trans (congrArg some (by kernel_rfl))
  f48 := Try.func86.trans (congrArg some (by kernel_rfl))
  f49 := ⟨Try.f87.name, by decide, Try.func87.trans (congrArg some (by kernel_rfl))⟩
  f50 := ⟨Try.f88.name, by decide, Try.func88.trans (congrArg some (by kernel_rfl))⟩
  f57 := ⟨Try.f89.name, by decide, Try.func89.trans (congrArg some (by kernel_rfl))⟩
  t0 := Try.underlying0
  a0 := Try.isAgg0
  z0 := Try.sizeOf0
  v0 := Try.zeroValue0
  t3 := Try.underlying3
  a3 := Try.isAgg3
  z3 := Try.sizeOf3
  v3 := Try.zeroValue3
  t4 := Try.underlying4
  a4 := Try.isAgg4
  z4 := Try.sizeOf4
  v4 := Try.zeroValue4
  t5 := Try.underlying5
  a5 := Try.isAgg5
  z5 := Try.sizeOf5
  v5 := Try.zeroValue5
  t9 := Try.underlying9
  a9 := Try.isAgg9
  z9 := Try.sizeOf9
  v9 := Try.zeroValue9
  t22 := Try.underlying25
  a22 := Try.isAgg25
  z22 := Try.sizeOf25
  v22 := Try.zeroValue25
  t25 := Try.underlying82
  a25 := Try.isAgg82
  z25 := Try.sizeOf82
  v25 := Try.zeroValue82
  t39 := Try.underlying74
  a39 := Try.isAgg74
  z39 := Try.sizeOf74
  v39 := Try.zeroValue74
  t45 := Try.underlying136
  a45 := Try.isAgg136
  z45 := Try.sizeOf136
  v45 := Try.zeroValue136
  t46 := Try.underlying137
  a46 := Try.isAgg137
  z46 := Try.sizeOf137
  v46 := Try.zeroValue137
  t50 := Try.underlying80
  a50 := Try.isAgg80
  z50 := Try.sizeOf80
  v50 := Try.zeroValue80
  t53 := Try.underlying26
  a53 := Try.isAgg26
  z53 := Try.sizeOf26
  v53 := Try.zeroValue26
  t55 := Try.underlying144
  a55 := Try.isAgg144
  z55 := Try.sizeOf144
  v55 := Try.zeroValue144
  t66 := Try.underlying147
  a66 := Try.isAgg147
  z66 := Try.sizeOf147
  v66 := Try.zeroValue147
  t70 := Try.underlying151
  a70 := Try.isAgg151
  z70 := Try.sizeOf151
  v70 := Try.zeroValue151
  t76 := Try.underlying153
  a76 := Try.isAgg153
  z76 := Try.sizeOf153
  v76 := Try.zeroValue153
  t77 := Try.underlying154
  a77 := Try.isAgg154
  z77 := Try.sizeOf154
  v77 := Try.zeroValue154 }
end Go.Proofs
