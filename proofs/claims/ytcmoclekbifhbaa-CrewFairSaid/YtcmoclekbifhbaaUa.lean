/- Plain laws of crews: what is right, who is able, the heap. -/
import Derived.Test.YtcmoclekbifhbaaGc
import Derived.Test.YtcmoclekbifhbaaGr
import Derived.Test.YtcmoclekbifhbaaLk
namespace Go.Proofs.Ytcmoclekbifhbaa.Pure
open Go.WG Go.Proofs.Ytcmoclekbifhbaa
theorem drop_cons {α : Type} {l : List α} {j : Nat} (d : α) (h : j < l.length) : l.drop j = l.getD j d :: l.drop (j + 1) := by
  rw [List.getD_eq_getElem?_getD, List.getElem?_eq_getElem h, Option.getD_some]
  exact List.drop_eq_getElem_cons h
def rightL (a0 : List Int) (a1 : List Bool) : Bool := a0.all (fun x => decide (0 ≤ x)) && decide (a0.length = a1.length) && decide (a0.length ≤ 8)
theorem wi64_succ {j : Nat} (h : j < 9223372036854775807) : wi64 ((j : Int) + 1) = ((j + 1 : Nat) : Int) := by
  rw [wi64_id (by omega) (by omega)]
  omega
theorem right_l1 (a0 : List Int) (hb : a0.length < 9223372036854775807) : ∀ (m j : Nat), a0.length - j = m → j ≤ a0.length → Ev (fun k => crew_right.l1 k a0 (j : Int)) (if (a0.drop j).all (fun x => decide (0 ≤ x)) = true then Sum.inl () else Sum.inr false) := by
  intro m
  induction m with
  | zero =>
    intro j hm hj
    have hj' : j = a0.length := by omega
    subst hj'
    refine Ev.succ ((Ev.pure _).congr fun k => ?_)
    simp [crew_right.l1]
  | succ m ih =>
    intro j hm hj
    have hlt : j < a0.length := by omega
    rw [drop_cons 0 hlt, List.all_cons]
    have h1 : (j : Int) < (a0.length : Int) := by omega
    have h2 : 0 ≤ (j : Int) ∧ (j : Int) < (a0.length : Int) := by omega
    by_cases h0 : a0.getD j 0 < 0
    · refine Ev.succ ((Ev.pure _).congr fun k => ?_)
      have h0' : ¬ 0 ≤ a0.getD j 0 := by omega
      simp only [crew_right.l1, if_pos h1, if_pos h2, Int.toNat_natCast, if_pos h0, decide_eq_false h0']
      rfl
    · have h0' : 0 ≤ a0.getD j 0 := by omega
      rw [decide_eq_true h0', Bool.true_and]
      refine Ev.succ ((ih (j + 1) (by omega) (by omega)).congr fun k => ?_)
      simp only [crew_right.l1, if_pos h1, if_pos h2, Int.toNat_natCast, if_neg h0, wi64_succ (show j < 9223372036854775807 by omega)]
theorem right_f (a0 : List Int) (a1 : List Bool) (hb : a0.length < 9223372036854775807) : Ev (fun k => crew_right.f k a0 a1) (rightL a0 a1) := by
  have h := right_l1 a0 hb _ 0 rfl (Nat.zero_le _)
  rw [List.drop_zero] at h
  refine Ev.bind (g := fun _ _ => _) h ?_
  unfold rightL
  cases ha : a0.all (fun x => decide (0 ≤ x)) with
  | false => simpa [sumE] using Ev.pure false
  | true =>
    simp only [if_true, sumE, Bool.true_and]
    by_cases he : a0.length = a1.length
    · have he' : (a0.length : Int) = (a1.length : Int) := by omega
      simp only [if_pos he', decide_eq_true he, Bool.true_and, Option.bind_some]
      rw [show decide ((a0.length : Int) ≤ 8) = decide (a0.length ≤ 8) from decide_eq_decide.2 (by omega)]
      exact Ev.pure _
    · have he' : ¬ (a0.length : Int) = (a1.length : Int) := by omega
      simp only [if_neg he', decide_eq_false he, Bool.false_and, Option.bind_some]
      exact Ev.pure _
end Go.Proofs.Ytcmoclekbifhbaa.Pure
