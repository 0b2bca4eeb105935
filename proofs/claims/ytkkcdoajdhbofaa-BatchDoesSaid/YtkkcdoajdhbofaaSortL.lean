/-
  slices.SortFunc of this program lies as the kit's contract asks: the table of numbers, and each body compared (printed by the kit's tool for laying a contract in plain words).
-/
import Derived.Shelf.SlSortCmp.NoneTotal
import Derived.Test.YtkkcdoajdhbofaaProg
namespace Go.Proofs.Ytkkcdoajdhbofaa
open Go.Shelf Go.Proofs
def sortIt_ren : Go.Shelf.Ren := ⟨fun | 6 => 34 | 15 => 37 | 14 => 36 | 28 => 49 | 29 => 50 | 20 => 41 | 21 => 42 | 22 => 43 | 23 => 44 | 24 => 45 | 25 => 46 | 26 => 47 | 27 => 48 | 46 => 53 | 47 => 54 | 48 => 55 | 49 => 56 | 50 => 57 | 57 => 58 | n => n, fun | 22 => 71 | 24 => 61 | 25 => 73 | 3 => 3 | 39 => 37 | 0 => 0 | 53 => 23 | 55 => 90 | 4 => 4 | 46 => 82 | 45 => 81 | 50 => 86 | 5 => 5 | 9 => 9 | 66 => 93 | 70 => 97 | 76 => 99 | 77 => 100 | n => n, fun | n => n⟩
theorem sortIt : Go.Proofs.SlLaysF0.n6 Try.prog sortIt_ren := {
  mixed := by kernel_rfl
  f6 := ⟨Try.f34.name, by decide, Try.func34.trans (congrArg some (by kernel_rfl))⟩
  f14 := ⟨Try.f36.name, by decide, Try.func36.trans (congrArg some (by kernel_rfl))⟩
  f15 := Try.func37.trans (congrArg some (by kernel_rfl))
  f20 := ⟨Try.f41.name, by decide, Try.func41.trans (congrArg some (by kernel_rfl))⟩
  f21 := ⟨Try.f42.name, by decide, Try.func42.trans (congrArg some (by kernel_rfl))⟩
  f22 := ⟨Try.f43.name, by decide, Try.func43.trans (congrArg some (by kernel_rfl))⟩
  f23 := ⟨Try.f44.name, by decide, Try.func44.trans (congrArg some (by kernel_rfl))⟩
  f24 := ⟨Try.f45.name, by decide, Try.func45.trans (congrArg some (by kernel_rfl))⟩
  f25 := ⟨Try.f46.name, by decide, Try.func46.trans (congrArg some (by kernel_rfl))⟩
  f26 := ⟨Try.f47.name, by decide, Try.func47.trans (congrArg some (by kernel_rfl))⟩
  f27 := ⟨Try.f48.name, by decide, Try.func48.trans (congrArg some (by kernel_rfl))⟩
  f28 := Try.func49.trans (congrArg some (by kernel_rfl))
  f29 := Try.func50.trans (congrArg some (by kernel_rfl))
  f46 := ⟨Try.f53.name, by decide, Try.func53.trans (congrArg some (by kernel_rfl))⟩
  f47 := Try.func54.trans (congrArg some (by kernel_rfl))
  f48 := Try.func55.trans (congrArg some (by kernel_rfl))
  f49 := ⟨Try.f56.name, by decide, Try.func56.trans (congrArg some (by kernel_rfl))⟩
  f50 := ⟨Try.f57.name, by decide, Try.func57.trans (congrArg some (by kernel_rfl))⟩
  f57 := ⟨Try.f58.name, by decide, Try.func58.trans (congrArg some (by kernel_rfl))⟩
  t0 := Try.underlying0
  a0 := Try.isAgg0
  z0 := Try.sizeOf0
  v0 := Try.zeroValue0
  t3 := Try.underlying3
  a3 := Try.isAgg3
  z3 := Try.sizeOf3
  v3 := Try.zeroValue3
  t4 := Try.underlying4
  a4 := Try.isAgg4
  z4 := Try.sizeOf4
  v4 := Try.zeroValue4
  t5 := Try.underlying5
  a5 := Try.isAgg5
  z5 := Try.sizeOf5
  v5 := Try.zeroValue5
  t9 := Try.underlying9
  a9 := Try.isAgg9
  z9 := Try.sizeOf9
  v9 := Try.zeroValue9
  t22 := Try.underlying71
  a22 := Try.isAgg71
  z22 := Try.sizeOf71
  v22 := Try.zeroValue71
  t25 := Try.underlying73
  a25 := Try.isAgg73
  z25 := Try.sizeOf73
  v25 := Try.zeroValue73
  t39 := Try.underlying37
  a39 := Try.isAgg37
  z39 := Try.sizeOf37
  v39 := Try.zeroValue37
  t45 := Try.underlying81
  a45 := Try.isAgg81
  z45 := Try.sizeOf81
  v45 := Try.zeroValue81
  t46 := Try.underlying82
  a46 := Try.isAgg82
  z46 := Try.sizeOf82
  v46 := Try.zeroValue82
  t50 := Try.underlying86
  a50 := Try.isAgg86
  z50 := Try.sizeOf86
  v50 := Try.zeroValue86
  t53 := Try.underlying23
  a53 := Try.isAgg23
  z53 := Try.sizeOf23
  v53 := Try.zeroValue23
  t55 := Try.underlying90
  a55 := Try.isAgg90
  z55 := Try.sizeOf90
  v55 := Try.zeroValue90
  t66 := Try.underlying93
  a66 := Try.isAgg93
  z66 := Try.sizeOf93
  v66 := Try.zeroValue93
  t70 := Try.underlying97
  a70 := Try.isAgg97
  z70 := Try.sizeOf97
  v70 := Try.zeroValue97
  t76 := Try.underlying99
  a76 := Try.isAgg99
  z76 := Try.sizeOf99
  v76 := Try.zeroValue99
  t77 := Try.underlying100
  a77 := Try.isAgg100
  z77 := Try.sizeOf100
  v77 := Try.zeroValue100 }
end Go.Proofs.Ytkkcdoajdhbofaa
