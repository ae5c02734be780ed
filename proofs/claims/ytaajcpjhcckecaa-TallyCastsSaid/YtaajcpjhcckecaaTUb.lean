/- Plain laws of tallies: the document's count, liars, copies. -/
import Derived.Test.YtaajcpjhcckecaaTUa
namespace Go.Proofs.Ytaajcpjhcckecaa.Pure
open Go.WG Go.Proofs.Ytaajcpjhcckecaa
set_option linter.unusedSimpArgs false
set_option linter.unusedVariables false
/-- Who voted for another value. -/
def lie (l : List TCast) (v : List Int) : List Int := (l.filter fun c => decide (¬ c.Value = v)).map (·.Worker)
theorem lie_snoc (l : List TCast) (c : TCast) (v : List Int) : lie (l ++ [c]) v = if c.Value = v then lie l v else lie l v ++ [c.Worker] := by
  unfold lie
  rw [List.filter_append, List.map_append]
  by_cases h : c.Value = v
  · simp [h]
  · simp [h]
theorem lie_len (l : List TCast) (v : List Int) : (lie l v).length ≤ l.length := by unfold lie; rw [List.length_map]; exact List.length_filter_le _ _
/-- In order, each once. -/
def lies (l : List TCast) (v : List Int) : List Int := sortI (ded (lie l v))
theorem lies_len (l : List TCast) (v : List Int) : (lies l v).length ≤ l.length := by
  unfold lies
  rw [sortI_length]
  exact Nat.le_trans (ded_len _) (lie_len _ _)
theorem liars_f {l : List TCast} (hl : Votes l) {v : List Int} (hv : Byt v) : Ev (fun k => tally_Liars.f k l v) (lies l v) := by
  unfold tally_Liars.f
  have hloop : ∃ x : List (Int × Int), x.map (·.1) = ded (lie l v) ∧ Ev (fun k => tally_Liars.l1 k l v [] 0) x := by
    have : ∀ m j, l.length - j = m → j ≤ l.length → ∀ x : List (Int × Int), x.map (·.1) = ded (lie (l.take j) v) → ∃ r : List (Int × Int), r.map (·.1) = ded (lie l v) ∧ Ev (fun k => tally_Liars.l1 k l v x (j : Int)) r := by
      intro m
      induction m with
      | zero =>
        intro j hm hj x hx
        obtain rfl : j = l.length := by omega
        rw [List.take_length] at hx
        refine ⟨x, hx, Ev.succ ?_⟩
        simp only [tally_Liars.l1]
        exact Ev.iteF (by omega) (Ev.pure _)
      | succ m ih =>
        intro j hm hj x hx
        have hjl : j < l.length := by omega
        have hE := equal_f (hl.at hjl) hv
        by_cases h : (l.getD j TCast.z).Value = v
        · obtain ⟨r, hr, hi⟩ := ih (j + 1) (by omega) (by omega) x (by rw [take_succ TCast.z hjl, lie_snoc, if_pos h]; exact hx)
          refine ⟨r, hr, Ev.succ ?_⟩
          simp only [tally_Liars.l1, Int.toNat_natCast, wi64_j (show j < 9223372036854775807 by have := hl.1; omega)]
          rw [decide_eq_true h] at hE
          repeat' (first | assumption | exact Ev.pure _ | apply Ev.iteT (by first | assumption | omega | exact trivial | exact Bool.false_ne_true | exact rfl | (simp only [decide_eq_true_eq]; assumption) | (simp only [decide_eq_true_eq]; omega)) | apply Ev.iteF (by first | assumption | omega | exact trivial | exact Bool.false_ne_true | exact rfl | (simp only [decide_eq_true_eq]; assumption) | (simp only [decide_eq_true_eq]; omega)) | (apply Ev.bind (hE); try dsimp only; try simp only [Int.toNat_natCast]) | exact (hE) | apply Ev.bind)
        · obtain ⟨r, hr, hi⟩ := ih (j + 1) (by omega) (by omega) (mset x (l.getD j TCast.z).Worker (j : Int)) (by rw [take_succ TCast.z hjl, lie_snoc, if_neg h, ded_snoc, mset_keys, hx])
          refine ⟨r, hr, Ev.succ ?_⟩
          simp only [tally_Liars.l1, Int.toNat_natCast, wi64_j (show j < 9223372036854775807 by have := hl.1; omega)]
          rw [decide_eq_false h] at hE
          repeat' (first | assumption | exact Ev.pure _ | apply Ev.iteT (by first | assumption | omega | exact trivial | exact Bool.false_ne_true | exact rfl | (simp only [decide_eq_true_eq]; assumption) | (simp only [decide_eq_true_eq]; omega)) | apply Ev.iteF (by first | assumption | omega | exact trivial | exact Bool.false_ne_true | exact rfl | (simp only [decide_eq_true_eq]; assumption) | (simp only [decide_eq_true_eq]; omega)) | (apply Ev.bind (hE); try dsimp only; try simp only [Int.toNat_natCast]) | exact (hE) | apply Ev.bind)
    exact this _ 0 rfl (Nat.zero_le _) [] (by simp [lie, ded])
  obtain ⟨x, hx, hE⟩ := hloop
  refine Ev.bind hE (Ev.iteT ?_ ?_)
  · have h1 := congrArg List.length hx
    rw [List.length_map] at h1
    have h2 := ded_len (lie l v)
    have h3 := lie_len l v
    have := hl.1
    omega
  · rw [hx]; exact Ev.pure _
end Go.Proofs.Ytaajcpjhcckecaa.Pure
