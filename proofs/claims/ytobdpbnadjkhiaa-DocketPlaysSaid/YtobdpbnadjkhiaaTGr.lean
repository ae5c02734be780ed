/- What the statements' arguments are, as they are read. Nothing is assumed. -/
import Derived.Test.YtobdpbnadjkhiaaTGt
import Derived.Test.YtobdpbnadjkhiaaTLj
namespace Go.Proofs.Ytobdpbnadjkhiaa
open Go.RowKit Go.WG
set_option linter.unusedVariables false
set_option linter.unusedSimpArgs false
set_option maxRecDepth 100000
set_option maxHeartbeats 4000000
theorem rd3 : Rd Try.prog (Kd.int .i64) (fun x => (Lit.int .i64 x).wf = true) 3 := Rd.int Try.underlying3
def ok23 (x : TConfig) : Prop := (Lit.int .i64 x.Faulty).wf = true ∧ (Lit.int .i64 x.Workers).wf = true ∧ (Lit.int .i64 x.Height).wf = true ∧ (Lit.int .i64 x.Bits).wf = true ∧ (Lit.int .i64 x.Jobs).wf = true ∧ (Lit.int .i64 x.Term).wf = true ∧ (Lit.int .i64 x.Heads).wf = true
theorem rd23 : Rd Try.prog TConfig.K ok23 23 := Rd.struct (fun x : TConfig => (x.Faulty, (x.Workers, (x.Height, (x.Bits, (x.Jobs, (x.Term, x.Heads))))))) (fun x => ⟨x.1, x.2.1, x.2.2.1, x.2.2.2.1, x.2.2.2.2.1, x.2.2.2.2.2.1, x.2.2.2.2.2.2⟩) (fun _ => rfl) Try.underlying23 (by kernel_rfl) (RdP.cons rfl (by kernel_rfl) rd3 (by kernel_rfl) (RdP.cons rfl (by kernel_rfl) rd3 (by kernel_rfl) (RdP.cons rfl (by kernel_rfl) rd3 (by kernel_rfl) (RdP.cons rfl (by kernel_rfl) rd3 (by kernel_rfl) (RdP.cons rfl (by kernel_rfl) rd3 (by kernel_rfl) (RdP.cons rfl (by kernel_rfl) rd3 (by kernel_rfl) (RdP.one rfl (by kernel_rfl) rd3)))))))
theorem rd5 : Rd Try.prog (Kd.int .u8) (fun x => (Lit.int .u8 x).wf = true) 5 := Rd.int Try.underlying5
def ok43 (x : List Int) : Prop := x.length = 32 ∧ ∀ y ∈ x, (Lit.int .u8 y).wf = true
theorem rd43 : Rd Try.prog (Kd.arrI 32 .u8) ok43 43 := Rd.arr Try.underlying43 Try.underlying5 (by kernel_rfl) (by kernel_rfl)
def ok44 (x : List Int) : Prop := x.length * 1 ≤ reachBytes ∧ ∀ y ∈ x, (Lit.int .u8 y).wf = true
theorem rd44 : Rd Try.prog (Kd.slice (Kd.int .u8)) ok44 44 := Rd.slice (b := 1) Try.underlying44 (by kernel_rfl) (by kernel_rfl) (by decide) rd5
def ok46 (x : TRecord) : Prop := (Lit.int .i64 x.Kind).wf = true ∧ (Lit.int .i64 x.Epoch).wf = true ∧ ok43 x.Nonce ∧ ok44 x.Data ∧ (Lit.int .i64 x.Job).wf = true ∧ (Lit.int .i64 x.Time).wf = true ∧ (Lit.int .i64 x.By).wf = true
theorem rd46 : Rd Try.prog TRecord.K ok46 46 := Rd.struct (fun x : TRecord => (x.Kind, (x.Epoch, (x.Nonce, (x.Data, (x.Job, (x.Time, x.By))))))) (fun x => ⟨x.1, x.2.1, x.2.2.1, x.2.2.2.1, x.2.2.2.2.1, x.2.2.2.2.2.1, x.2.2.2.2.2.2⟩) (fun _ => rfl) Try.underlying46 (by kernel_rfl) (RdP.cons rfl (by kernel_rfl) rd3 (by kernel_rfl) (RdP.cons rfl (by kernel_rfl) rd3 (by kernel_rfl) (RdP.cons rfl (by kernel_rfl) rd43 (by kernel_rfl) (RdP.cons rfl (by kernel_rfl) rd44 (by kernel_rfl) (RdP.cons rfl (by kernel_rfl) rd3 (by kernel_rfl) (RdP.cons rfl (by kernel_rfl) rd3 (by kernel_rfl) (RdP.one rfl (by kernel_rfl) rd3)))))))
def ok24 (x : List TRecord) : Prop := x.length * 96 ≤ reachBytes ∧ ∀ y ∈ x, ok46 y
theorem rd24 : Rd Try.prog (Kd.slice TRecord.K) ok24 24 := Rd.slice (b := 96) Try.underlying24 (by kernel_rfl) (by kernel_rfl) (by decide) rd46
end Go.Proofs.Ytobdpbnadjkhiaa
