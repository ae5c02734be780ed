/- What the statements' arguments are, as they are read. Nothing is assumed. -/
import Derived.Test.YtobdpbnadjkhiaaGreatTGt
import Derived.Test.YtobdpbnadjkhiaaGreatTLj
namespace Go.Proofs.YtobdpbnadjkhiaaGreat
open Go.RowKit Go.WG
set_option linter.unusedVariables false
set_option linter.unusedSimpArgs false
theorem rd3 : Rd Tryz.prog (Kd.int .i64) (fun x => (Lit.int .i64 x).wf = true) 3 := Rd.int Tryz.underlying3
theorem rd5 : Rd Tryz.prog (Kd.int .u8) (fun x => (Lit.int .u8 x).wf = true) 5 := Rd.int Tryz.underlying5
def ok23 (x : List Int) : Prop := x.length = 32 ∧ ∀ y ∈ x, (Lit.int .u8 y).wf = true
theorem rd23 : Rd Tryz.prog (Kd.arrI 32 .u8) ok23 23 := Rd.arr Tryz.underlying23 Tryz.underlying5 (by kernel_rfl) (by kernel_rfl)
def ok24 (x : List Int) : Prop := x.length * 1 ≤ reachBytes ∧ ∀ y ∈ x, (Lit.int .u8 y).wf = true
theorem rd24 : Rd Tryz.prog (Kd.slice (Kd.int .u8)) ok24 24 := Rd.slice (b := 1) Tryz.underlying24 (by kernel_rfl) (by kernel_rfl) (by decide) rd5
def ok26 (x : TRecord) : Prop := (Lit.int .i64 x.Kind).wf = true ∧ (Lit.int .i64 x.Epoch).wf = true ∧ ok23 x.Nonce ∧ ok24 x.Data ∧ (Lit.int .i64 x.Job).wf = true ∧ (Lit.int .i64 x.Time).wf = true ∧ (Lit.int .i64 x.By).wf = true
theorem rd26 : Rd Tryz.prog TRecord.K ok26 26 := Rd.struct (fun x : TRecord => (x.Kind, (x.Epoch, (x.Nonce, (x.Data, (x.Job, (x.Time, x.By))))))) (fun x => ⟨x.1, x.2.1, x.2.2.1, x.2.2.2.1, x.2.2.2.2.1, x.2.2.2.2.2.1, x.2.2.2.2.2.2⟩) (fun _ => rfl) Tryz.underlying26 (by kernel_rfl) (RdP.cons rfl (by kernel_rfl) rd3 (by kernel_rfl) (RdP.cons rfl (by kernel_rfl) rd3 (by kernel_rfl) (RdP.cons rfl (by kernel_rfl) rd23 (by kernel_rfl) (RdP.cons rfl (by kernel_rfl) rd24 (by kernel_rfl) (RdP.cons rfl (by kernel_rfl) rd3 (by kernel_rfl) (RdP.cons rfl (by kernel_rfl) rd3 (by kernel_rfl) (RdP.one rfl (by kernel_rfl) rd3)))))))
end Go.Proofs.YtobdpbnadjkhiaaGreat
