/- The law ProofShort, as a plain function: true for every input. -/
import Derived.Test.YthdlfclkcdnenaaDoorUf
import Derived.Test.YthdlfclkcdnenaaDoorPShort
import Derived.Test.YthdlfclkcdnenaaDoorGr
set_option linter.unusedSimpArgs false
set_option linter.unusedVariables false
namespace Go.Proofs.YthdlfclkcdnenaaDoor.Pure
open Go.WG Go.Proofs.YthdlfclkcdnenaaDoor
theorem short_l1 : ∀ (x c : Nat), x ≤ 1000000 → c + x ≤ 2000000 → Ev (fun k => juratlaw08_ProofShort.l1 k (c : Int) (x : Int)) ((c + dg x : Nat) : Int) := by
  intro x
  induction x using Nat.strongRecOn with
  | ind x ih =>
    intro c hx hc
    by_cases h0 : x = 0
    · subst h0
      refine Ev.succ ((Ev.pure _).congr fun k => ?_)
      simp [juratlaw08_ProofShort.l1, dg]
    · have h1 : (x : Int) > 0 := by omega
      have hI := ih (x / 2) (by omega) (c + 1) (by omega) (by omega)
      rw [Nat.add_assoc, Nat.add_comm 1, ← dg_half (by omega)] at hI
      have e1 : wi64 ((x : Int).tdiv 2) = ((x / 2 : Nat) : Int) := by rw [Int.tdiv_eq_ediv_of_nonneg (by omega), wi64_id (by omega) (by omega)]; omega
      refine Ev.succ (hI.congr fun k => ?_)
      simp only [juratlaw08_ProofShort.l1, if_pos h1, e1, wi64_succ (show c < 9223372036854775807 by omega)]
theorem pick_i (a : Int) {n : Nat} (h0 : 0 < n) (hn : n ≤ 1000000) : ∃ i : Nat, i < n ∧ wi64 ((wu64 a).tmod (wu64 (n : Int))) = (i : Int) := by
  have e1 : wu64 (n : Int) = (n : Int) := by rw [wu64_eq]; omega
  have e2 : 0 ≤ wu64 a := by rw [wu64_eq]; omega
  have e3 : (wu64 a).tmod (n : Int) = wu64 a % (n : Int) := Int.tmod_eq_emod_of_nonneg e2
  have e4 : 0 ≤ wu64 a % (n : Int) := Int.emod_nonneg _ (by omega)
  have e5 : wu64 a % (n : Int) < (n : Int) := Int.emod_lt_of_pos _ (by omega)
  refine ⟨(wu64 a % (n : Int)).toNat, by omega, ?_⟩
  rw [e1, e3, wi64_id (by omega) (by omega)]
  omega
theorem ProofShort (a0 : List (List Int)) (a1 : Int) (h0 : ok31 a0) (h1 : (Lit.int .i64 a1).wf = true) : ∃ k, juratlaw08_ProofShort.f k a0 a1 = some true := by
  have hall : AllD a0 := fun d hd => (h0.2 d hd).1
  by_cases hb : (a0.length : Int) > 200 ∨ (a0.length : Int) = 0
  · have : Ev (fun k => juratlaw08_ProofShort.f k a0 a1) true := by
      refine Ev.congr (Ev.bind (g := fun _ r => some r) awake8_ev (Ev.pure _)) fun k => ?_
      have hg : (if (a0.length : Int) > 200 then (some true) else (some (decide ((a0.length : Int) = 0)))) = some true := by
        by_cases h2 : (a0.length : Int) > 200
        · rw [if_pos h2]
        · rw [if_neg h2, decide_eq_true (hb.resolve_left h2)]
      simp only [juratlaw08_ProofShort.f, hg, Option.bind_some, if_true]
    exact this.one
  · have hlen : 0 < a0.length ∧ a0.length ≤ 200 := by omega
    have hg : (if (a0.length : Int) > 200 then (some true) else (some (decide ((a0.length : Int) = 0)))) = some false := by
      rw [if_neg (fun h => hb (.inl h)), decide_eq_false (fun h => hb (.inr h))]
    obtain ⟨i, hi, ei⟩ := pick_i a1 hlen.1 (by omega)
    have hw : wu64 (a0.length : Int) ≠ 0 := by rw [wu64_eq]; omega
    have e1 : wi64 ((a0.length : Int) - 1) = ((a0.length - 1 : Nat) : Int) := by rw [wi64_id (by omega) (by omega)]; omega
    have hd := short_l1 (a0.length - 1) 0 (by omega) (by omega)
    rw [Nat.zero_add] at hd
    have hin := include_f a0 i hi (by omega) hall
    have hco := consist_f a0 i (by omega) (by omega) hall
    have hdl : dg (a0.length - 1) ≤ 8 := dg_le (by omega)
    have q1 : ((incD a0 i).length : Int) ≤ ((dg (a0.length - 1) : Nat) : Int) := by have := incF_dg a0.length a0 i; unfold incD; omega
    have q2 : ((conD a0 i).length : Int) ≤ wi64 (((dg (a0.length - 1) : Nat) : Int) + 1) := by
      rw [wi64_succ (by omega)]
      unfold conD
      split
      · rw [List.length_nil]; omega
      · have := partF_dg a0.length a0 i true (by omega); omega
    obtain ⟨K1, hd⟩ := hd
    obtain ⟨K2, hin⟩ := hin
    obtain ⟨K3, hco⟩ := hco
    obtain ⟨K4, hA⟩ := awake8_ev
    refine ⟨K1 + K2 + K3 + K4, ?_⟩
    generalize hkk : K1 + K2 + K3 + K4 = k
    have b1 := hd k (by omega)
    have b2 := hin k (by omega)
    have b3 := hco k (by omega)
    have b4 := hA k (by omega)
    simp only at b1 b2 b3 b4
    rw [show ((0 : Nat) : Int) = 0 from rfl] at b1
    simp only [juratlaw08_ProofShort.f, hg, Option.bind_some, Bool.false_eq_true, if_false, if_pos hw, e1, b1, own8_f k a0 (by omega), ei, b2, b3, if_true, if_pos q1, if_pos q2, b4]
end Go.Proofs.YthdlfclkcdnenaaDoor.Pure
