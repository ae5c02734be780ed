/- What the statements' arguments are, as they are read. Nothing is assumed. -/
import Derived.Test.YthdlfclkcdnenaaDoorTGt
import Derived.Test.YthdlfclkcdnenaaDoorTLj
namespace Go.Proofs.YthdlfclkcdnenaaDoor
open Go.RowKit Go.WG
set_option linter.unusedVariables false
set_option linter.unusedSimpArgs false
theorem rd5 : Rd Tryd.prog (Kd.int .u8) (fun x => (Lit.int .u8 x).wf = true) 5 := Rd.int Tryd.underlying5
def ok28 (x : List Int) : Prop := x.length * 1 ≤ reachBytes ∧ ∀ y ∈ x, (Lit.int .u8 y).wf = true
theorem rd28 : Rd Tryd.prog (Kd.slice (Kd.int .u8)) ok28 28 := Rd.slice (b := 1) Tryd.underlying28 (by kernel_rfl) (by kernel_rfl) (by decide) rd5
theorem rd3 : Rd Tryd.prog (Kd.int .i64) (fun x => (Lit.int .i64 x).wf = true) 3 := Rd.int Tryd.underlying3
def ok68 (x : TAsk) : Prop := (Lit.int .i64 x.Kind).wf = true ∧ (Lit.int .i64 x.I).wf = true ∧ (Lit.int .i64 x.N).wf = true ∧ ok28 x.Leaf
theorem rd68 : Rd Tryd.prog TAsk.K ok68 68 := Rd.struct (fun x : TAsk => (x.Kind, (x.I, (x.N, x.Leaf)))) (fun x => ⟨x.1, x.2.1, x.2.2.1, x.2.2.2⟩) (fun _ => rfl) Tryd.underlying68 (by kernel_rfl) (RdP.cons rfl (by kernel_rfl) rd3 (by kernel_rfl) (RdP.cons rfl (by kernel_rfl) rd3 (by kernel_rfl) (RdP.cons rfl (by kernel_rfl) rd3 (by kernel_rfl) (RdP.one rfl (by kernel_rfl) rd28))))
def ok63 (x : List TAsk) : Prop := x.length * 48 ≤ reachBytes ∧ ∀ y ∈ x, ok68 y
theorem rd63 : Rd Tryd.prog (Kd.slice TAsk.K) ok63 63 := Rd.slice (b := 48) Tryd.underlying63 (by kernel_rfl) (by kernel_rfl) (by decide) rd68
end Go.Proofs.YthdlfclkcdnenaaDoor
