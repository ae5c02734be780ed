/- The law ProofConsistent, as a plain function: true for every input. -/
import Derived.Test.YthdlfclkcdnenaaDoorSUq
import Derived.Test.YthdlfclkcdnenaaDoorSPConsistent
set_option linter.unusedSimpArgs false
set_option linter.unusedVariables false
namespace Go.Proofs.YthdlfclkcdnenaaDoor.Pure
open Go.WG Go.Proofs.YthdlfclkcdnenaaDoor
theorem ProofConsistent (a0 a1 : Int) (a2 : List (List Int)) (a3 a4 : List Int) (h0 : (Lit.int .i64 a0).wf = true) (h1 : (Lit.int .i64 a1).wf = true) (h2 : ok31 a2) (h3 : ok33 a3) (h4 : ok33 a4) : ∃ k, juratlaw08_ProofConsistent.f k a0 a1 a2 a3 a4 = some true := by
  have hE := okE h2
  have hA := okB33 h3
  have aw : Ev (fun k => (juratlaw08_awake.f k).bind fun r => some r) true := Ev.bind awake8_ev (Ev.pure _)
  have : Ev (fun k => juratlaw08_ProofConsistent.f k a0 a1 a2 a3 a4) true := by
    unfold juratlaw08_ProofConsistent.f
    by_cases hb : (a2.length : Int) > 80
    · exact Ev.iteT hb aw
    · refine Ev.iteF hb ?_
      simp only [own8_f _ a2 (by omega : a2.length ≤ 1000000), Option.bind_some]
      obtain ⟨r, hi, hi'⟩ := consistent_both a0 a1 a2 a3 a4 (wf64 h1).2 hE (by omega) hA.1 hA.2
      refine Ev.bind (a := true) ?_ (Ev.pure _)
      refine Ev.bind hi ?_
      refine Ev.bind hi' ?_
      exact Ev.iteT rfl aw
  exact this.one
end Go.Proofs.YthdlfclkcdnenaaDoor.Pure
