/- What the statements' arguments are, as they are read. Nothing is assumed. -/
import Derived.Test.YtnlpmnegjgjiiaaGreatDoorGt
import Derived.Test.YtnlpmnegjgjiiaaGreatDoorLj
namespace Go.Proofs.YtnlpmnegjgjiiaaGreatDoor
open Go.RowKit Go.WG
set_option linter.unusedVariables false
set_option linter.unusedSimpArgs false

theorem rd3 : Rd Tryz.prog (Kd.int .i64) (fun x => (Lit.int .i64 x).wf = true) 3 := Rd.int Tryz.underlying3
theorem rd5 : Rd Tryz.prog (Kd.int .u8) (fun x => (Lit.int .u8 x).wf = true) 5 := Rd.int Tryz.underlying5
def ok30 (x : List Int) : Prop := x.length * 1 ≤ reachBytes ∧ ∀ y ∈ x, (Lit.int .u8 y).wf = true
theorem rd30 : Rd Tryz.prog (Kd.slice (Kd.int .u8)) ok30 30 := Rd.slice (b := 1) Tryz.underlying30 (by kernel_rfl) (by kernel_rfl) (by decide) rd5
end Go.Proofs.YtnlpmnegjgjiiaaGreatDoor
