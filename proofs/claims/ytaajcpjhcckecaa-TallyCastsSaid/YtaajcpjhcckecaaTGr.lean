/- What the statements' arguments are, as they are read. Nothing is assumed. -/
import Derived.Test.YtaajcpjhcckecaaTGt
import Derived.Test.YtaajcpjhcckecaaTLj
namespace Go.Proofs.Ytaajcpjhcckecaa
open Go.RowKit Go.WG
set_option linter.unusedVariables false
set_option linter.unusedSimpArgs false
theorem rd3 : Rd Try.prog (Kd.int .i64) (fun x => (Lit.int .i64 x).wf = true) 3 := Rd.int Try.underlying3
theorem rd5 : Rd Try.prog (Kd.int .u8) (fun x => (Lit.int .u8 x).wf = true) 5 := Rd.int Try.underlying5
def ok23 (x : List Int) : Prop := x.length * 1 ≤ reachBytes ∧ ∀ y ∈ x, (Lit.int .u8 y).wf = true
theorem rd23 : Rd Try.prog (Kd.slice (Kd.int .u8)) ok23 23 := Rd.slice (b := 1) Try.underlying23 (by kernel_rfl) (by kernel_rfl) (by decide) rd5
def ok37 (x : TCast) : Prop := (Lit.int .i64 x.Worker).wf = true ∧ ok23 x.Value
theorem rd37 : Rd Try.prog TCast.K ok37 37 := Rd.struct (fun x : TCast => (x.Worker, x.Value)) (fun x => ⟨x.1, x.2⟩) (fun _ => rfl) Try.underlying37 (by kernel_rfl) (RdP.cons rfl (by kernel_rfl) rd3 (by kernel_rfl) (RdP.one rfl (by kernel_rfl) rd23))
def ok26 (x : List TCast) : Prop := x.length * 32 ≤ reachBytes ∧ ∀ y ∈ x, ok37 y
theorem rd26 : Rd Try.prog (Kd.slice TCast.K) ok26 26 := Rd.slice (b := 32) Try.underlying26 (by kernel_rfl) (by kernel_rfl) (by decide) rd37
end Go.Proofs.Ytaajcpjhcckecaa
