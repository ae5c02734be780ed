/- What the statements' arguments are, as they are read. Nothing is assumed. -/
import Derived.Test.YthdlfclkcdnenaaDoorRGt
import Derived.Test.YthdlfclkcdnenaaDoorRLj
namespace Go.Proofs.YthdlfclkcdnenaaDoor
open Go.RowKit Go.WG
set_option linter.unusedVariables false
set_option linter.unusedSimpArgs false
theorem rd5 : Rd Tryd.prog (Kd.int .u8) (fun x => (Lit.int .u8 x).wf = true) 5 := Rd.int Tryd.underlying5
def ok33 (x : List Int) : Prop := x.length = 32 ∧ ∀ y ∈ x, (Lit.int .u8 y).wf = true
theorem rd33 : Rd Tryd.prog (Kd.arrI 32 .u8) ok33 33 := Rd.arr Tryd.underlying33 Tryd.underlying5 (by kernel_rfl) (by kernel_rfl)
def ok31 (x : List (List Int)) : Prop := x.length * 32 ≤ reachBytes ∧ ∀ y ∈ x, ok33 y
theorem rd31 : Rd Tryd.prog (Kd.slice (Kd.arrI 32 .u8)) ok31 31 := Rd.slice (b := 32) Tryd.underlying31 (by kernel_rfl) (by kernel_rfl) (by decide) rd33
def ok28 (x : List Int) : Prop := x.length * 1 ≤ reachBytes ∧ ∀ y ∈ x, (Lit.int .u8 y).wf = true
theorem rd28 : Rd Tryd.prog (Kd.slice (Kd.int .u8)) ok28 28 := Rd.slice (b := 1) Tryd.underlying28 (by kernel_rfl) (by kernel_rfl) (by decide) rd5
end Go.Proofs.YthdlfclkcdnenaaDoor
