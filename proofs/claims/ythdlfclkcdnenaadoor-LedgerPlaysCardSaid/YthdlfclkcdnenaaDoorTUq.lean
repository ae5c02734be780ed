/- Plain laws of proofs: what the laws compare. -/
import Derived.Test.YthdlfclkcdnenaaDoorTUp
import Derived.Test.YthdlfclkcdnenaaDoorTUt
import Derived.Test.YthdlfclkcdnenaaDoorTUe
import Derived.Test.YthdlfclkcdnenaaDoorTGc
import Derived.KernelRfl
import Derived.Test.YthdlfclkcdnenaaDoorTGr
set_option linter.unusedSimpArgs false
set_option linter.unusedVariables false
namespace Go.Proofs.YthdlfclkcdnenaaDoor.Pure
open Go.WG Go.Proofs.YthdlfclkcdnenaaDoor
theorem okB28 {x : List Int} (h : ok28 x) : AllB x := fun y hy => wf8 (h.2 y hy)
/-- The proof of a place, or the error, either way. -/
theorem include_both (l : List (List Int)) (i : Int) (hl : l.length ≤ 256) (hE : AllE l) : ∃ r : List (List Int) × Int, r.1.length ≤ 1000 ∧ Ev (fun k => proof_Include.f k l i) r ∧ Ev (fun k => juratref08_Include.f k l i) r := by
  by_cases hi : i < 0 ∨ (l.length : Int) ≤ i
  · exact ⟨([], 1), by simp, (Ev.pure _).congr fun k => include_bad k l i hi, (Ev.pure _).congr fun k => Include_bad k l i hi⟩
  · obtain ⟨j, rfl⟩ : ∃ j : Nat, i = (j : Int) := ⟨i.toNat, by omega⟩
    have := incF_len l.length l j
    exact ⟨(incD l j, 0), by unfold incD; simp only; omega, include_f l j (by omega) hl hE.d, Include_ref l j (by omega) (by omega) hE⟩
theorem consist_both (l : List (List Int)) (i : Int) (hl : l.length ≤ 256) (hE : AllE l) : ∃ r : List (List Int) × Int, r.1.length ≤ 1000 ∧ Ev (fun k => proof_Consist.f k l i) r ∧ Ev (fun k => juratref08_Consist.f k l i) r := by
  by_cases hi : i < 0 ∨ (l.length : Int) < i
  · exact ⟨([], 1), by simp, (Ev.pure _).congr fun k => consist_bad k l i hi, (Ev.pure _).congr fun k => Consist_bad k l i hi⟩
  · obtain ⟨j, rfl⟩ : ∃ j : Nat, i = (j : Int) := ⟨i.toNat, by omega⟩
    have h1 := partF_len l.length l j true
    refine ⟨(conD l j, 0), ?_, consist_f l j (by omega) hl hE.d, Consist_ref l j (by omega) (by omega) hE⟩
    unfold conD
    split
    · simp
    · simp only; omega
end Go.Proofs.YthdlfclkcdnenaaDoor.Pure
