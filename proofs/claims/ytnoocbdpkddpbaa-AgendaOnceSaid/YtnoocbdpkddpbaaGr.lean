/- What the statements' arguments are, as they are read. Nothing is assumed. -/
import Derived.Test.YtnoocbdpkddpbaaGt
import Derived.Test.YtnoocbdpkddpbaaLj
namespace Go.Proofs.Ytnoocbdpkddpbaa
open Go.RowKit Go.WG
set_option linter.unusedVariables false
set_option linter.unusedSimpArgs false

theorem rd3 : Rd Try.prog (Kd.int .i64) (fun x => (Lit.int .i64 x).wf = true) 3 := Rd.int Try.underlying3
def ok29 (x : TEntry) : Prop := (Lit.int .i64 x.At).wf = true ∧ (Lit.int .i64 x.ID).wf = true
theorem rd29 : Rd Try.prog TEntry.K ok29 29 := Rd.struct (fun x : TEntry => (x.At, x.ID)) (fun x => ⟨x.1, x.2⟩) (fun _ => rfl) Try.underlying29 (by kernel_rfl) (RdP.cons rfl (by kernel_rfl) rd3 (by kernel_rfl) (RdP.one rfl (by kernel_rfl) rd3))
def ok22 (x : List TEntry) : Prop := x.length * 16 ≤ reachBytes ∧ ∀ y ∈ x, ok29 y
theorem rd22 : Rd Try.prog (Kd.slice TEntry.K) ok22 22 := Rd.slice (b := 16) Try.underlying22 (by kernel_rfl) (by kernel_rfl) (by decide) rd29
def ok41 (x : TCall) : Prop := (Lit.int .i64 x.Kind).wf = true ∧ (Lit.int .i64 x.At).wf = true ∧ (Lit.int .i64 x.ID).wf = true
theorem rd41 : Rd Try.prog TCall.K ok41 41 := Rd.struct (fun x : TCall => (x.Kind, (x.At, x.ID))) (fun x => ⟨x.1, x.2.1, x.2.2⟩) (fun _ => rfl) Try.underlying41 (by kernel_rfl) (RdP.cons rfl (by kernel_rfl) rd3 (by kernel_rfl) (RdP.cons rfl (by kernel_rfl) rd3 (by kernel_rfl) (RdP.one rfl (by kernel_rfl) rd3)))
def ok36 (x : List TCall) : Prop := x.length * 24 ≤ reachBytes ∧ ∀ y ∈ x, ok41 y
theorem rd36 : Rd Try.prog (Kd.slice TCall.K) ok36 36 := Rd.slice (b := 24) Try.underlying36 (by kernel_rfl) (by kernel_rfl) (by decide) rd41
end Go.Proofs.Ytnoocbdpkddpbaa
