/-
  slices.SortFunc over identities, laid at this dump (written by lay-plain.mjs).
-/
import Derived.Shelf.SlGeneric
import Derived.Shelf.SlLaysF0
import Derived.Ground.SlsfProg
import Derived.Test.YtfemaeacmnhdlaaProg
namespace Go.Proofs.Ytfemaeacmnhdlaa
open Go.Shelf
def sortIds_ren : Go.Shelf.Ren := ⟨fun | 6 => 85 | 15 => 106 | 14 => 108 | 28 => 125 | 29 => 126 | 20 => 127 | 21 => 128 | 22 => 129 | 23 => 130 | 24 => 131 | 25 => 132 | 26 => 133 | 27 => 134 | 46 => 150 | 47 => 146 | 48 => 147 | 49 => 151 | 50 => 152 | 57 => 158 | n => n, fun | 22 => 23 | 24 => 31 | 25 => 116 | 3 => 3 | 39 => 151 | 0 => 0 | 53 => 170 | 55 => 172 | 4 => 4 | 46 => 163 | 45 => 162 | 50 => 62 | 5 => 5 | 9 => 9 | 66 => 184 | 70 => 188 | 76 => 194 | 77 => 195 | n => n, fun | n => n⟩
theorem sortIds : Go.Proofs.SlLaysF0.n6 Try.prog sortIds_ren := {
  mixed := by kernel_rfl
  f6 := ⟨Try.f85.name, by decide, Try.func85.trans (congrArg some (by kernel_rfl))⟩
  f14 := ⟨Try.f108.name, by decide, Try.func108.trans (congrArg some (by kernel_rfl))⟩
  f15 := Try.func106.trans (congrArg some (by kernel_rfl))
  f20 := ⟨Try.f127.name, by decide, Try.func127.trans (congrArg some (by kernel_rfl))⟩
  f21 := ⟨Try.f128.name, by decide, Try.func128.trans (congrArg some (by kernel_rfl))⟩
  f22 := ⟨Try.f129.name, by decide, Try.func129.trans (congrArg some (by kernel_rfl))⟩
  f23 := ⟨Try.f130.name, by decide, Try.func130.trans (congrArg some (by kernel_rfl))⟩
  f24 := ⟨Try.f131.name, by decide, Try.func131.trans (congrArg some (by kernel_rfl))⟩
  f25 := ⟨Try.f132.name, by decide, Try.func132.trans (congrArg some (by kernel_rfl))⟩
  f26 := ⟨Try.f133.name, by decide, Try.func133.trans (congrArg some (by kernel_rfl))⟩
  f27 := ⟨Try.f134.name, by decide, Try.func134.trans (congrArg some (by kernel_rfl))⟩
  f28 := Try.func125.trans (congrArg some (by kernel_rfl))
  f29 := Try.func126.trans (congrArg some (by kernel_rfl))
  f46 := ⟨Try.f150.name, by decide, Try.func150.trans (congrArg some (by kernel_rfl))⟩
  f47 := Try.func146.trans (congrArg some (by kernel_rfl))
  f48 := Try.func147.trans (congrArg some (by kernel_rfl))
  f49 := ⟨Try.f151.name, by decide, Try.func151.trans (congrArg some (by kernel_rfl))⟩
  f50 := ⟨Try.f152.name, by decide, Try.func152.trans (congrArg some (by kernel_rfl))⟩
  f57 := ⟨Try.f158.name, by decide, Try.func158.trans (congrArg some (by kernel_rfl))⟩
  t0 := Try.underlying0
  a0 := Try.isAgg0
  z0 := Try.sizeOf0
  v0 := Try.zeroValue0
  t3 := Try.underlying3
  a3 := Try.isAgg3
  z3 := Try.sizeOf3
  v3 := Try.zeroValue3
  t4 := Try.underlying4
  a4 := Try.isAgg4
  z4 := Try.sizeOf4
  v4 := Try.zeroValue4
  t5 := Try.underlying5
  a5 := Try.isAgg5
  z5 := Try.sizeOf5
  v5 := Try.zeroValue5
  t9 := Try.underlying9
  a9 := Try.isAgg9
  z9 := Try.sizeOf9
  v9 := Try.zeroValue9
  t22 := Try.underlying23
  a22 := Try.isAgg23
  z22 := Try.sizeOf23
  v22 := Try.zeroValue23
  t25 := Try.underlying116
  a25 := Try.isAgg116
  z25 := Try.sizeOf116
  v25 := Try.zeroValue116
  t39 := Try.underlying151
  a39 := Try.isAgg151
  z39 := Try.sizeOf151
  v39 := Try.zeroValue151
  t45 := Try.underlying162
  a45 := Try.isAgg162
  z45 := Try.sizeOf162
  v45 := Try.zeroValue162
  t46 := Try.underlying163
  a46 := Try.isAgg163
  z46 := Try.sizeOf163
  v46 := Try.zeroValue163
  t50 := Try.underlying62
  a50 := Try.isAgg62
  z50 := Try.sizeOf62
  v50 := Try.zeroValue62
  t53 := Try.underlying170
  a53 := Try.isAgg170
  z53 := Try.sizeOf170
  v53 := Try.zeroValue170
  t55 := Try.underlying172
  a55 := Try.isAgg172
  z55 := Try.sizeOf172
  v55 := Try.zeroValue172
  t66 := Try.underlying184
  a66 := Try.isAgg184
  z66 := Try.sizeOf184
  v66 := Try.zeroValue184
  t70 := Try.underlying188
  a70 := Try.isAgg188
  z70 := Try.sizeOf188
  v70 := Try.zeroValue188
  t76 := Try.underlying194
  a76 := Try.isAgg194
  z76 := Try.sizeOf194
  v76 := Try.zeroValue194
  t77 := Try.underlying195
  a77 := Try.isAgg195
  z77 := Try.sizeOf195
  v77 := Try.zeroValue195 }
end Go.Proofs.Ytfemaeacmnhdlaa
