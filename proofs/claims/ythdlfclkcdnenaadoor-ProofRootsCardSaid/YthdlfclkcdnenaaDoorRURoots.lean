/- The law ProofRoots, as a plain function: true for every input. -/
import Derived.Test.YthdlfclkcdnenaaDoorRUq
import Derived.Test.YthdlfclkcdnenaaDoorRPRoots
set_option linter.unusedSimpArgs false
set_option linter.unusedVariables false
namespace Go.Proofs.YthdlfclkcdnenaaDoor.Pure
open Go.WG Go.Proofs.YthdlfclkcdnenaaDoor
theorem ProofRoots (a0 : List (List Int)) (a1 a2 a3 : List Int) (h0 : ok31 a0) (h1 : ok33 a1) (h2 : ok33 a2) (h3 : ok28 a3) : ∃ k, juratlaw08_ProofRoots.f k a0 a1 a2 a3 = some true := by
  have hE := okE h0
  have hA := okB33 h1
  have hB := okB33 h2
  have hC := okB28 h3
  have aw : Ev (fun k => (juratlaw08_awake.f k).bind fun r => some r) true := Ev.bind awake8_ev (Ev.pure _)
  by_cases hb : (a0.length : Int) > 100 ∨ (a3.length : Int) > 500
  · have hg : (if (a0.length : Int) > 100 then (some true) else (some (decide ((a3.length : Int) > 500)))) = some true := by
      by_cases h2 : (a0.length : Int) > 100
      · rw [if_pos h2]
      · rw [if_neg h2, decide_eq_true (hb.resolve_left h2)]
    refine (aw.congr fun k => ?_).one
    simp only [juratlaw08_ProofRoots.f, hg, Option.bind_some, if_true]
  · have hg : (if (a0.length : Int) > 100 then (some true) else (some (decide ((a3.length : Int) > 500)))) = some false := by
      rw [if_neg (fun h => hb (.inl h)), decide_eq_false (fun h => hb (.inr h))]
    have hlen : a0.length ≤ 100 ∧ a3.length ≤ 500 := by omega
    have : Ev (fun k => juratlaw08_ProofRoots.f k a0 a1 a2 a3) true := by
      unfold juratlaw08_ProofRoots.f
      simp only [hg, Option.bind_some, Bool.false_eq_true, if_false, own8_f _ a0 (by omega : a0.length ≤ 1000000)]
      refine Ev.bind (a := true) ?_ (Ev.pure _)
      refine Ev.bind (root_f a0 (by omega) hE.d) ?_
      refine Ev.bind (root_ref _ a0 (Nat.le_refl _) (by omega) hE).2 ?_
      refine Ev.iteT rfl ?_
      refine Ev.bind (node_f a1 a2 hA.1 hB.1) ?_
      refine Ev.bind (node_ref a1 a2 hA.1 hB.1 hA.2 hB.2) ?_
      refine Ev.iteT rfl ?_
      refine Ev.iteT (by omega) ?_
      refine Ev.bind (leaf_f a3 (by omega)) ?_
      refine Ev.bind (leaf_ref a3 (by omega) hC) ?_
      refine Ev.iteT rfl ?_
      exact aw
    exact this.one
end Go.Proofs.YthdlfclkcdnenaaDoor.Pure
