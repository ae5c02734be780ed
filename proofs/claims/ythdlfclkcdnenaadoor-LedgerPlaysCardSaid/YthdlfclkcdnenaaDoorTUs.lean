/- Plain laws: the same bytes? -/
import Derived.Test.YthdlfclkcdnenaaDoorTUi
import Derived.Test.YthdlfclkcdnenaaDoorTUt
import Derived.Test.YthdlfclkcdnenaaDoorTGb
set_option linter.unusedSimpArgs false
set_option linter.unusedVariables false
namespace Go.Proofs.YthdlfclkcdnenaaDoor.Pure
open Go.WG Go.Proofs.YthdlfclkcdnenaaDoor
theorem same1_l1 (a b : List Int) (he : a.length = b.length) (hb : a.length ≤ 1000000000) : ∀ (m j : Nat), a.length - j = m → j ≤ a.length →
    Ev (fun k => juratref01_Same.l1 k a b (j : Int)) (if a.drop j = b.drop j then Sum.inl () else Sum.inr false) := by
  intro m
  induction m with
  | zero =>
    intro j hm hj
    rw [List.drop_eq_nil_of_le (by omega), List.drop_eq_nil_of_le (by omega), if_pos rfl]
    refine Ev.succ ((Ev.pure _).congr fun k => ?_)
    have : ¬ (j : Int) < (a.length : Int) := by omega
    simp only [juratref01_Same.l1, if_neg this]
  | succ m ih =>
    intro j hm hj
    have hlt : j < a.length := by omega
    have hlt2 : j < b.length := by omega
    have h1 : (j : Int) < (a.length : Int) := by omega
    have h2 : 0 ≤ (j : Int) ∧ (j : Int) < (a.length : Int) := by omega
    have h3 : 0 ≤ (j : Int) ∧ (j : Int) < (b.length : Int) := by omega
    rw [drop_cons' 0 hlt, drop_cons' 0 hlt2]
    by_cases hq : a.getD j 0 = b.getD j 0
    · simp only [hq, List.cons.injEq, true_and]
      refine Ev.succ ((ih (j + 1) (by omega) (by omega)).congr fun k => ?_)
      simp only [juratref01_Same.l1, if_pos h1, if_pos h2, if_pos h3, Int.toNat_natCast, if_pos hq, wi64_succ (show j < 9223372036854775807 by omega)]
    · rw [if_neg (by rw [List.cons.injEq]; exact fun e => hq e.1)]
      refine Ev.succ ((Ev.pure _).congr fun k => ?_)
      simp only [juratref01_Same.l1, if_pos h1, if_pos h2, if_pos h3, Int.toNat_natCast, if_neg hq]
theorem same1_f (a b : List Int) (hb : a.length ≤ 1000000000) : Ev (fun k => juratref01_Same.f k a b) (decide (a = b)) := by
  by_cases he : a.length = b.length
  · have he' : (a.length : Int) = (b.length : Int) := by omega
    have h := same1_l1 a b he hb a.length 0 rfl (Nat.zero_le _)
    rw [List.drop_zero, List.drop_zero] at h
    refine Ev.iteT he' (Ev.bind (g := fun _ o_ => sumE o_ (fun _ => some true) (fun p_ => some p_)) h ?_)
    by_cases hab : a = b
    · rw [if_pos hab, decide_eq_true hab]; exact Ev.pure _
    · rw [if_neg hab, decide_eq_false hab]; exact Ev.pure _
  · have he' : ¬ (a.length : Int) = (b.length : Int) := by omega
    rw [decide_eq_false (fun e => he (congrArg List.length e))]
    exact Ev.iteF he' (Ev.pure _)
end Go.Proofs.YthdlfclkcdnenaaDoor.Pure
