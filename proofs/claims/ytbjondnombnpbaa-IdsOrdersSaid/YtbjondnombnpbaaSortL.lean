/-
  slices.SortFunc of this program lies as the kit's contract asks: the table of numbers, and each body compared (printed by the kit's tool for laying a contract in plain words).
-/
import Derived.Shelf.SlSortCmp.NoneTotal
import Derived.Test.YtbjondnombnpbaaProg
namespace Go.Proofs.Ytbjondnombnpbaa
open Go.Shelf Go.Proofs
def sortIt_ren : Go.Shelf.Ren := ⟨fun | 6 => 35 | 15 => 45 | 14 => 44 | 28 => 57 | 29 => 58 | 20 => 49 | 21 => 50 | 22 => 51 | 23 => 52 | 24 => 53 | 25 => 54 | 26 => 55 | 27 => 56 | 46 => 60 | 47 => 61 | 48 => 62 | 49 => 63 | 50 => 64 | 57 => 65 | n => n, fun | 22 => 22 | 24 => 34 | 25 => 72 | 3 => 3 | 39 => 48 | 0 => 0 | 53 => 30 | 55 => 91 | 4 => 4 | 46 => 83 | 45 => 82 | 50 => 87 | 5 => 5 | 9 => 9 | 66 => 93 | 70 => 97 | 76 => 99 | 77 => 100 | n => n, fun | n => n⟩
theorem sortIt : Go.Proofs.SlLaysF0.n6 Try.prog sortIt_ren := {
  mixed := by kernel_rfl
  f6 := ⟨Try.f35.name, by decide, Try.func35.trans (congrArg some (by kernel_rfl))⟩
  f14 := ⟨Try.f44.name, by decide, Try.func44.trans (congrArg some (by kernel_rfl))⟩
  f15 := Try.func45.trans (congrArg some (by kernel_rfl))
  f20 := ⟨Try.f49.name, by decide, Try.func49.trans (congrArg some (by kernel_rfl))⟩
  f21 := ⟨Try.f50.name, by decide, Try.func50.trans (congrArg some (by kernel_rfl))⟩
  f22 := ⟨Try.f51.name, by decide, Try.func51.trans (congrArg some (by kernel_rfl))⟩
  f23 := ⟨Try.f52.name, by decide, Try.func52.trans (congrArg some (by kernel_rfl))⟩
  f24 := ⟨Try.f53.name, by decide, Try.func53.trans (congrArg some (by kernel_rfl))⟩
  f25 := ⟨Try.f54.name, by decide, Try.func54.trans (congrArg some (by kernel_rfl))⟩
  f26 := ⟨Try.f55.name, by decide, Try.func55.trans (congrArg some (by kernel_rfl))⟩
  f27 := ⟨Try.f56.name, by decide, Try.func56.trans (congrArg some (by kernel_rfl))⟩
  f28 := Try.func57.trans (congrArg some (by kernel_rfl))
  f29 := Try.func58.trans (congrArg some (by kernel_rfl))
  f46 := ⟨Try.f60.name, by decide, Try.func60.trans (congrArg some (by kernel_rfl))⟩
  f47 := Try.func61.trans (congrArg some (by kernel_rfl))
  f48 := Try.func62.trans (congrArg some (by kernel_rfl))
  f49 := ⟨Try.f63.name, by decide, Try.func63.trans (congrArg some (by kernel_rfl))⟩
  f50 := ⟨Try.f64.name, by decide, Try.func64.trans (congrArg some (by kernel_rfl))⟩
  f57 := ⟨Try.f65.name, by decide, Try.func65.trans (congrArg some (by kernel_rfl))⟩
  t0 := Try.underlying0
  a0 := Try.isAgg0
  z0 := Try.sizeOf0
  v0 := Try.zeroValue0
  t3 := Try.underlying3
  a3 := Try.isAgg3
  z3 := Try.sizeOf3
  v3 := Try.zeroValue3
  t4 := Try.underlying4
  a4 := Try.isAgg4
  z4 := Try.sizeOf4
  v4 := Try.zeroValue4
  t5 := Try.underlying5
  a5 := Try.isAgg5
  z5 := Try.sizeOf5
  v5 := Try.zeroValue5
  t9 := Try.underlying9
  a9 := Try.isAgg9
  z9 := Try.sizeOf9
  v9 := Try.zeroValue9
  t22 := Try.underlying22
  a22 := Try.isAgg22
  z22 := Try.sizeOf22
  v22 := Try.zeroValue22
  t25 := Try.underlying72
  a25 := Try.isAgg72
  z25 := Try.sizeOf72
  v25 := Try.zeroValue72
  t39 := Try.underlying48
  a39 := Try.isAgg48
  z39 := Try.sizeOf48
  v39 := Try.zeroValue48
  t45 := Try.underlying82
  a45 := Try.isAgg82
  z45 := Try.sizeOf82
  v45 := Try.zeroValue82
  t46 := Try.underlying83
  a46 := Try.isAgg83
  z46 := Try.sizeOf83
  v46 := Try.zeroValue83
  t50 := Try.underlying87
  a50 := Try.isAgg87
  z50 := Try.sizeOf87
  v50 := Try.zeroValue87
  t53 := Try.underlying30
  a53 := Try.isAgg30
  z53 := Try.sizeOf30
  v53 := Try.zeroValue30
  t55 := Try.underlying91
  a55 := Try.isAgg91
  z55 := Try.sizeOf91
  v55 := Try.zeroValue91
  t66 := Try.underlying93
  a66 := Try.isAgg93
  z66 := Try.sizeOf93
  v66 := Try.zeroValue93
  t70 := Try.underlying97
  a70 := Try.isAgg97
  z70 := Try.sizeOf97
  v70 := Try.zeroValue97
  t76 := Try.underlying99
  a76 := Try.isAgg99
  z76 := Try.sizeOf99
  v76 := Try.zeroValue99
  t77 := Try.underlying100
  a77 := Try.isAgg100
  z77 := Try.sizeOf100
  v77 := Try.zeroValue100 }
end Go.Proofs.Ytbjondnombnpbaa
