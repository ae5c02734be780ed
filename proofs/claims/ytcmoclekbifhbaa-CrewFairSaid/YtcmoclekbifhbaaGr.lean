/- What the statements' arguments are, as they are read. Nothing is assumed. -/
import Derived.Test.YtcmoclekbifhbaaGt
import Derived.Test.YtcmoclekbifhbaaLj
namespace Go.Proofs.Ytcmoclekbifhbaa
open Go.RowKit Go.WG
set_option linter.unusedVariables false
set_option linter.unusedSimpArgs false

theorem rd3 : Rd Try.prog (Kd.int .i64) (fun x => (Lit.int .i64 x).wf = true) 3 := Rd.int Try.underlying3
def ok22 (x : List Int) : Prop := x.length * 8 ≤ reachBytes ∧ ∀ y ∈ x, (Lit.int .i64 y).wf = true
theorem rd22 : Rd Try.prog (Kd.slice (Kd.int .i64)) ok22 22 := Rd.slice (b := 8) Try.underlying22 (by kernel_rfl) (by kernel_rfl) (by decide) rd3
theorem rd4 : Rd Try.prog Kd.bool (fun _ => True) 4 := Rd.bool Try.underlying4
def ok23 (x : List Bool) : Prop := x.length * 1 ≤ reachBytes ∧ ∀ y ∈ x, True
theorem rd23 : Rd Try.prog (Kd.slice Kd.bool) ok23 23 := Rd.slice (b := 1) Try.underlying23 (by kernel_rfl) (by kernel_rfl) (by decide) rd4
end Go.Proofs.Ytcmoclekbifhbaa
