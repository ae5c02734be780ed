/-
 DERIVED: THE SHELF's CONTRACTS AT THIS DUMP, IN PLAIN WORDS (tools/lay-plain.mjs out of 'YtobdpbnadjkhiaaShelf.lean', which tools/lay-shelf.mjs wrote): THE SAME DECLARATIONS UNDER THE SAME NAMES: 'import', 'namespace', 'open', 'def', 'theorem' AND NOTHING ELSE: no command of the shelf's: FOR A HAND-IN. Each laying: the table of numbers ('.._ren') and one theorem, a field a fact of the dump's own or the kernel's comparison; each contract: ONE APPLICATION.
-/
import Derived.Test.YtobdpbnadjkhiaaProg
import Derived.Ground.SlgmProg
import Derived.Shelf.SlGeneric
import Derived.Shelf.SortM.Plain
import Derived.Shelf.SortM.SortNone
namespace Go.Proofs.Ytobdpbnadjkhiaa
open Go.Shelf
def laysSort_ren : Go.Shelf.Ren := ⟨fun | 5 => 72 | 8 => 78 | 7 => 77 | 19 => 89 | 20 => 90 | 10 => 80 | 11 => 81 | 12 => 82 | 13 => 83 | 14 => 84 | 15 => 85 | 16 => 86 | 17 => 87 | 18 => 88 | 30 => 91 | 31 => 92 | 32 => 93 | 33 => 94 | 34 => 95 | 35 => 96 | 40 => 97 | n => n, fun | 23 => 29 | 25 => 3 | 3 => 3 | 32 => 131 | 22 => 29 | 0 => 0 | 44 => 142 | 46 => 144 | 4 => 4 | 36 => 136 | 35 => 135 | 41 => 107 | 5 => 5 | 9 => 9 | 53 => 145 | 57 => 149 | 63 => 152 | 64 => 100 | n => n, fun | n => n⟩
theorem laysSort : Go.Proofs.SlLaysM.n5 Try.prog laysSort_ren := {
 mixed := by kernel_rfl
 f5 := ⟨Try.f72.name, by decide, Try.func72.trans (congrArg some (by kernel_rfl))⟩
 f7 := ⟨Try.f77.name, by decide, Try.func77.trans (congrArg some (by kernel_rfl))⟩
 f8 := Try.func78.trans (congrArg some (by kernel_rfl))
 f10 := ⟨Try.f80.name, by decide, Try.func80.trans (congrArg some (by kernel_rfl))⟩
 f11 := ⟨Try.f81.name, by decide, Try.func81.trans (congrArg some (by kernel_rfl))⟩
 f12 := ⟨Try.f82.name, by decide, Try.func82.trans (congrArg some (by kernel_rfl))⟩
 f13 := ⟨Try.f83.name, by decide, Try.func83.trans (congrArg some (by kernel_rfl))⟩
 f14 := ⟨Try.f84.name, by decide, Try.func84.trans (congrArg some (by kernel_rfl))⟩
 f15 := ⟨Try.f85.name, by decide, Try.func85.trans (congrArg some (by kernel_rfl))⟩
 f16 := ⟨Try.f86.name, by decide, Try.func86.trans (congrArg some (by kernel_rfl))⟩
 f17 := ⟨Try.f87.name, by decide, Try.func87.trans (congrArg some (by kernel_rfl))⟩
 f18 := ⟨Try.f88.name, by decide, Try.func88.trans (congrArg some (by kernel_rfl))⟩
 f19 := Try.func89.trans (congrArg some (by kernel_rfl))
 f20 := Try.func90.trans (congrArg some (by kernel_rfl))
 f30 := ⟨Try.f91.name, by decide, Try.func91.trans (congrArg some (by kernel_rfl))⟩
 f31 := Try.func92.trans (congrArg some (by kernel_rfl))
 f32 := Try.func93.trans (congrArg some (by kernel_rfl))
 f33 := ⟨Try.f94.name, by decide, Try.func94.trans (congrArg some (by kernel_rfl))⟩
 f34 := ⟨Try.f95.name, by decide, Try.func95.trans (congrArg some (by kernel_rfl))⟩
 f35 := ⟨Try.f96.name, by decide, Try.func96.trans (congrArg some (by kernel_rfl))⟩
 f40 := ⟨Try.f97.name, by decide, Try.func97.trans (congrArg some (by kernel_rfl))⟩
 t0 := Try.underlying0
 a0 := Try.isAgg0
 z0 := Try.sizeOf0
 v0 := Try.zeroValue0
 t3 := Try.underlying3
 a3 := Try.isAgg3
 z3 := Try.sizeOf3
 v3 := Try.zeroValue3
 t4 := Try.underlying4
 a4 := Try.isAgg4
 z4 := Try.sizeOf4
 v4 := Try.zeroValue4
 t5 := Try.underlying5
 a5 := Try.isAgg5
 z5 := Try.sizeOf5
 v5 := Try.zeroValue5
 t9 := Try.underlying9
 a9 := Try.isAgg9
 z9 := Try.sizeOf9
 v9 := Try.zeroValue9
 t22 := Try.underlying29
 a22 := Try.isAgg29
 z22 := Try.sizeOf29
 v22 := Try.zeroValue29
 t23 := Try.underlying29
 a23 := Try.isAgg29
 z23 := Try.sizeOf29
 v23 := Try.zeroValue29
 t25 := Try.underlying3
 a25 := Try.isAgg3
 z25 := Try.sizeOf3
 v25 := Try.zeroValue3
 t32 := Try.underlying131
 a32 := Try.isAgg131
 z32 := Try.sizeOf131
 v32 := Try.zeroValue131
 t35 := Try.underlying135
 a35 := Try.isAgg135
 z35 := Try.sizeOf135
 v35 := Try.zeroValue135
 t36 := Try.underlying136
 a36 := Try.isAgg136
 z36 := Try.sizeOf136
 v36 := Try.zeroValue136
 t41 := Try.underlying107
 a41 := Try.isAgg107
 z41 := Try.sizeOf107
 v41 := Try.zeroValue107
 t44 := Try.underlying142
 a44 := Try.isAgg142
 z44 := Try.sizeOf142
 v44 := Try.zeroValue142
 t46 := Try.underlying144
 a46 := Try.isAgg144
 z46 := Try.sizeOf144
 v46 := Try.zeroValue144
 t53 := Try.underlying145
 a53 := Try.isAgg145
 z53 := Try.sizeOf145
 v53 := Try.zeroValue145
 t57 := Try.underlying149
 a57 := Try.isAgg149
 z57 := Try.sizeOf149
 v57 := Try.zeroValue149
 t63 := Try.underlying152
 a63 := Try.isAgg152
 z63 := Try.sizeOf152
 v63 := Try.zeroValue152
 t64 := Try.underlying100
 a64 := Try.isAgg100
 z64 := Try.sizeOf100
 v64 := Try.zeroValue100 }
end Go.Proofs.Ytobdpbnadjkhiaa
