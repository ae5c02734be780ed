/- The law ProofIncluded, as a plain function: true for every input. -/
import Derived.Test.YthdlfclkcdnenaaDoorSUq
import Derived.Test.YthdlfclkcdnenaaDoorSPIncluded
set_option linter.unusedSimpArgs false
set_option linter.unusedVariables false
namespace Go.Proofs.YthdlfclkcdnenaaDoor.Pure
open Go.WG Go.Proofs.YthdlfclkcdnenaaDoor
theorem ProofIncluded (a0 : List Int) (a1 a2 : Int) (a3 : List (List Int)) (a4 : List Int) (h0 : ok33 a0) (h1 : (Lit.int .i64 a1).wf = true) (h2 : (Lit.int .i64 a2).wf = true) (h3 : ok31 a3) (h4 : ok33 a4) : ∃ k, juratlaw08_ProofIncluded.f k a0 a1 a2 a3 a4 = some true := by
  have hE := okE h3
  have hA := okB33 h0
  have aw : Ev (fun k => (juratlaw08_awake.f k).bind fun r => some r) true := Ev.bind awake8_ev (Ev.pure _)
  have : Ev (fun k => juratlaw08_ProofIncluded.f k a0 a1 a2 a3 a4) true := by
    unfold juratlaw08_ProofIncluded.f
    by_cases hb : (a3.length : Int) > 80
    · exact Ev.iteT hb aw
    · refine Ev.iteF hb ?_
      simp only [own8_f _ a3 (by omega : a3.length ≤ 1000000), Option.bind_some]
      obtain ⟨r, hi, hi'⟩ := included_both a0 a1 a2 a3 a4 (wf64 h2).2 hE (by omega) hA.1 hA.2
      refine Ev.bind (a := true) ?_ (Ev.pure _)
      refine Ev.bind hi ?_
      refine Ev.bind hi' ?_
      exact Ev.iteT rfl aw
  exact this.one
end Go.Proofs.YthdlfclkcdnenaaDoor.Pure
