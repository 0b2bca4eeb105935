/-
  slices.SortFunc of this program lies as the kit's contract asks: the table of numbers, and each body compared (printed by the kit's tool for laying a contract in plain words).
-/
import Derived.Shelf.SlSortCmp.NoneTotal
import Derived.Test.YtokljdkeegdniaaProg
namespace Go.Proofs.Ytokljdkeegdniaa
open Go.Shelf Go.Proofs
def sortIt_ren : Go.Shelf.Ren := ⟨fun | 6 => 38 | 15 => 44 | 14 => 43 | 28 => 54 | 29 => 55 | 20 => 46 | 21 => 47 | 22 => 48 | 23 => 49 | 24 => 50 | 25 => 51 | 26 => 52 | 27 => 53 | 46 => 56 | 47 => 57 | 48 => 58 | 49 => 59 | 50 => 60 | 57 => 61 | n => n, fun | 22 => 28 | 24 => 36 | 25 => 93 | 3 => 3 | 39 => 55 | 0 => 0 | 53 => 22 | 55 => 108 | 4 => 4 | 46 => 100 | 45 => 99 | 50 => 104 | 5 => 5 | 9 => 9 | 66 => 109 | 70 => 113 | 76 => 115 | 77 => 116 | n => n, fun | n => n⟩
theorem sortIt : Go.Proofs.SlLaysF0.n6 Try.prog sortIt_ren := {
  mixed := by kernel_rfl
  f6 := ⟨Try.f38.name, by decide, Try.func38.trans (congrArg some (by kernel_rfl))⟩
  f14 := ⟨Try.f43.name, by decide, Try.func43.trans (congrArg some (by kernel_rfl))⟩
  f15 := Try.func44.trans (congrArg some (by kernel_rfl))
  f20 := ⟨Try.f46.name, by decide, Try.func46.trans (congrArg some (by kernel_rfl))⟩
  f21 := ⟨Try.f47.name, by decide, Try.func47.trans (congrArg some (by kernel_rfl))⟩
  f22 := ⟨Try.f48.name, by decide, Try.func48.trans (congrArg some (by kernel_rfl))⟩
  f23 := ⟨Try.f49.name, by decide, Try.func49.trans (congrArg some (by kernel_rfl))⟩
  f24 := ⟨Try.f50.name, by decide, Try.func50.trans (congrArg some (by kernel_rfl))⟩
  f25 := ⟨Try.f51.name, by decide, Try.func51.trans (congrArg some (by kernel_rfl))⟩
  f26 := ⟨Try.f52.name, by decide, Try.func52.trans (congrArg some (by kernel_rfl))⟩
  f27 := ⟨Try.f53.name, by decide, Try.func53.trans (congrArg some (by kernel_rfl))⟩
  f28 := Try.func54.trans (congrArg some (by kernel_rfl))
  f29 := Try.func55.trans (congrArg some (by kernel_rfl))
  f46 := ⟨Try.f56.name, by decide, Try.func56.trans (congrArg some (by kernel_rfl))⟩
  f47 := Try.func57.trans (congrArg some (by kernel_rfl))
  f48 := Try.func58.trans (congrArg some (by kernel_rfl))
  f49 := ⟨Try.f59.name, by decide, Try.func59.trans (congrArg some (by kernel_rfl))⟩
  f50 := ⟨Try.f60.name, by decide, Try.func60.trans (congrArg some (by kernel_rfl))⟩
  f57 := ⟨Try.f61.name, by decide, Try.func61.trans (congrArg some (by kernel_rfl))⟩
  t0 := Try.underlying0
  a0 := Try.isAgg0
  z0 := Try.sizeOf0
  v0 := Try.zeroValue0
  t3 := Try.underlying3
  a3 := Try.isAgg3
  z3 := Try.sizeOf3
  v3 := Try.zeroValue3
  t4 := Try.underlying4
  a4 := Try.isAgg4
  z4 := Try.sizeOf4
  v4 := Try.zeroValue4
  t5 := Try.underlying5
  a5 := Try.isAgg5
  z5 := Try.sizeOf5
  v5 := Try.zeroValue5
  t9 := Try.underlying9
  a9 := Try.isAgg9
  z9 := Try.sizeOf9
  v9 := Try.zeroValue9
  t22 := Try.underlying28
  a22 := Try.isAgg28
  z22 := Try.sizeOf28
  v22 := Try.zeroValue28
  t25 := Try.underlying93
  a25 := Try.isAgg93
  z25 := Try.sizeOf93
  v25 := Try.zeroValue93
  t39 := Try.underlying55
  a39 := Try.isAgg55
  z39 := Try.sizeOf55
  v39 := Try.zeroValue55
  t45 := Try.underlying99
  a45 := Try.isAgg99
  z45 := Try.sizeOf99
  v45 := Try.zeroValue99
  t46 := Try.underlying100
  a46 := Try.isAgg100
  z46 := Try.sizeOf100
  v46 := Try.zeroValue100
  t50 := Try.underlying104
  a50 := Try.isAgg104
  z50 := Try.sizeOf104
  v50 := Try.zeroValue104
  t53 := Try.underlying22
  a53 := Try.isAgg22
  z53 := Try.sizeOf22
  v53 := Try.zeroValue22
  t55 := Try.underlying108
  a55 := Try.isAgg108
  z55 := Try.sizeOf108
  v55 := Try.zeroValue108
  t66 := Try.underlying109
  a66 := Try.isAgg109
  z66 := Try.sizeOf109
  v66 := Try.zeroValue109
  t70 := Try.underlying113
  a70 := Try.isAgg113
  z70 := Try.sizeOf113
  v70 := Try.zeroValue113
  t76 := Try.underlying115
  a76 := Try.isAgg115
  z76 := Try.sizeOf115
  v76 := Try.zeroValue115
  t77 := Try.underlying116
  a77 := Try.isAgg116
  z77 := Try.sizeOf116
  v77 := Try.zeroValue116 }
end Go.Proofs.Ytokljdkeegdniaa
