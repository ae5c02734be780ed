/- The law ProofMakes, as a plain function: true for every input. -/
import Derived.Test.YthdlfclkcdnenaaDoorSUq
import Derived.Test.YthdlfclkcdnenaaDoorSPMakes
set_option linter.unusedSimpArgs false
set_option linter.unusedVariables false
namespace Go.Proofs.YthdlfclkcdnenaaDoor.Pure
open Go.WG Go.Proofs.YthdlfclkcdnenaaDoor
theorem ProofMakes (a0 : List (List Int)) (a1 : Int) (h0 : ok31 a0) (h1 : (Lit.int .i64 a1).wf = true) : ∃ k, juratlaw08_ProofMakes.f k a0 a1 = some true := by
  have hE := okE h0
  have aw : Ev (fun k => (juratlaw08_awake.f k).bind fun r => some r) true := Ev.bind awake8_ev (Ev.pure _)
  have : Ev (fun k => juratlaw08_ProofMakes.f k a0 a1) true := by
    unfold juratlaw08_ProofMakes.f
    by_cases hb : (a0.length : Int) > 100
    · exact Ev.iteT hb aw
    · refine Ev.iteF hb ?_
      simp only [own8_f _ a0 (by omega : a0.length ≤ 1000000), Option.bind_some]
      obtain ⟨r, hl, hi, hi'⟩ := include_both a0 a1 (by omega) hE
      obtain ⟨s, hl2, hc, hc'⟩ := consist_both a0 a1 (by omega) hE
      have e1 := same5_f r.1 r.1 (by omega)
      have e2 := same5_f s.1 s.1 (by omega)
      rw [decide_eq_true rfl] at e1 e2
      refine Ev.bind hi ?_
      refine Ev.bind hi' ?_
      refine Ev.bind hc ?_
      refine Ev.bind hc' ?_
      refine Ev.bind (a := true) ?_ (Ev.pure _)
      refine Ev.iteT rfl ?_
      refine Ev.bind e1 ?_
      refine Ev.iteT rfl ?_
      refine Ev.iteT rfl ?_
      refine Ev.bind e2 ?_
      refine Ev.iteT rfl ?_
      exact aw
  exact this.one
end Go.Proofs.YthdlfclkcdnenaaDoor.Pure
