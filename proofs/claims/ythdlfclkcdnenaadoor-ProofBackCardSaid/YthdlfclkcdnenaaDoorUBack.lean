/- The law ProofBack, as a plain function: true for every input. -/
import Derived.Test.YthdlfclkcdnenaaDoorUl
import Derived.Test.YthdlfclkcdnenaaDoorUf
import Derived.Test.YthdlfclkcdnenaaDoorUi
import Derived.Test.YthdlfclkcdnenaaDoorPBack
import Derived.Test.YthdlfclkcdnenaaDoorGr
set_option linter.unusedSimpArgs false
set_option linter.unusedVariables false
namespace Go.Proofs.YthdlfclkcdnenaaDoor.Pure
open Go.WG Go.Proofs.YthdlfclkcdnenaaDoor
theorem ProofBack (a0 : List (List Int)) (a1 : Int) (h0 : ok31 a0) (h1 : (Lit.int .i64 a1).wf = true) : ∃ k, juratlaw08_ProofBack.f k a0 a1 = some true := by
  have hall : AllD a0 := fun d hd => (h0.2 d hd).1
  by_cases hb : (a0.length : Int) > 100 ∨ (a0.length : Int) = 0
  · have : Ev (fun k => juratlaw08_ProofBack.f k a0 a1) true := by
      refine Ev.congr (Ev.bind (g := fun _ r => some r) awake8_ev (Ev.pure _)) fun k => ?_
      have hg : (if (a0.length : Int) > 100 then (some true) else (some (decide ((a0.length : Int) = 0)))) = some true := by
        by_cases h2 : (a0.length : Int) > 100
        · rw [if_pos h2]
        · rw [if_neg h2, decide_eq_true (hb.resolve_left h2)]
      simp only [juratlaw08_ProofBack.f, hg, Option.bind_some, if_true]
    exact this.one
  · have hlen : 0 < a0.length ∧ a0.length ≤ 100 := by omega
    have hg : (if (a0.length : Int) > 100 then (some true) else (some (decide ((a0.length : Int) = 0)))) = some false := by
      rw [if_neg (fun h => hb (.inl h)), decide_eq_false (fun h => hb (.inr h))]
    obtain ⟨i, hi, ei⟩ := pickI a1 hlen.1 (by omega)
    have hw := wu64_pos hlen.1 (by omega)
    have hr := root_f a0 (by omega) hall
    have hin := include_f a0 i hi (by omega) hall
    have hco := consist_f a0 i (by omega) (by omega) hall
    have hcw := consist_f a0 a0.length (Nat.le_refl _) (by omega) hall
    have hrt := root_f (a0.take i) (by rw [List.length_take]; omega) (hall.take i)
    have hc1 := consistent_any a0 i (by omega) (by omega) hall
    have hc2 := consistent_any a0 a0.length (Nat.le_refl _) (by omega) hall
    rw [List.take_of_length_le (Nat.le_refl _)] at hc2
    have hx : (a0.getD i []).length = 32 := hall _ (by rw [List.getD_eq_getElem?_getD, List.getElem?_eq_getElem hi, Option.getD_some]; exact List.getElem_mem hi)
    have hInc := included_f (a0.getD i []) i a0.length (incD a0 i) (rootD a0) hi (by omega) (incF_all _ _ _ hall) (by have := incF_len a0.length a0 i; unfold incD; omega) hx
    have htrue : decide ((incD a0 i).length = (pathN i a0.length).length ∧ foldUp (pathN i a0.length) (incD a0 i) (a0.getD i []) = rootD a0) = true :=
      decide_eq_true ⟨incF_path _ a0 i (Nat.le_refl _) hi, incF_leads _ a0 i (Nat.le_refl _) hi⟩
    rw [htrue] at hInc
    obtain ⟨K1, hr⟩ := hr
    obtain ⟨K2, hin⟩ := hin
    obtain ⟨K3, hco⟩ := hco
    obtain ⟨K4, hcw⟩ := hcw
    obtain ⟨K5, hrt⟩ := hrt
    obtain ⟨K6, hc1⟩ := hc1
    obtain ⟨K7, hc2⟩ := hc2
    obtain ⟨K8, hInc⟩ := hInc
    obtain ⟨K9, hA⟩ := awake8_ev
    refine ⟨K1 + K2 + K3 + K4 + K5 + K6 + K7 + K8 + K9, ?_⟩
    generalize hkk : K1 + K2 + K3 + K4 + K5 + K6 + K7 + K8 + K9 = k
    have b1 := hr k (by omega)
    have b2 := hin k (by omega)
    have b3 := hco k (by omega)
    have b4 := hcw k (by omega)
    have b5 := hrt k (by omega)
    have b6 := hc1 k (by omega)
    have b7 := hc2 k (by omega)
    have b8 := hInc k (by omega)
    have b9 := hA k (by omega)
    simp only at b1 b2 b3 b4 b5 b6 b7 b8 b9
    have g1 : 0 ≤ (i : Int) ∧ (i : Int) < (a0.length : Int) := by omega
    have g2 : 0 ≤ (i : Int) ∧ (i : Int) ≤ (a0.length : Int) := by omega
    simp only [juratlaw08_ProofBack.f, hg, Option.bind_some, Bool.false_eq_true, if_false, if_pos hw, own8_f k a0 (by omega), b1, ei, b2, b3, b4, if_true, if_pos g1, Int.toNat_natCast, b8, if_pos g2, own8_f k (a0.take i) (by rw [List.length_take]; omega), b5, b6, b7, b9]
end Go.Proofs.YthdlfclkcdnenaaDoor.Pure
