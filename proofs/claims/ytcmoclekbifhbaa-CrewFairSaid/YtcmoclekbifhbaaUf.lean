/- Plain laws of crews: the statements but one. -/
import Derived.Test.YtcmoclekbifhbaaUe
set_option linter.unusedSimpArgs false
set_option linter.unusedVariables false
namespace Go.Proofs.Ytcmoclekbifhbaa.Pure
open Go.WG Go.Proofs.Ytcmoclekbifhbaa
theorem same_l1 (a b : List Int) (he : a.length = b.length) (hb : a.length < 9223372036854775807) : ∀ (m j : Nat), a.length - j = m → j ≤ a.length → Ev (fun k => juratref18_Same.l1 k a b (j : Int)) (if a.drop j = b.drop j then Sum.inl () else Sum.inr false) := by
  intro m
  induction m with
  | zero =>
    intro j hm hj
    have hno : ¬ (j : Int) < (a.length : Int) := by omega
    refine Ev.succ ((Ev.pure _).congr fun k => ?_)
    rw [List.drop_eq_nil_of_le (by omega), List.drop_eq_nil_of_le (by omega), if_pos rfl]
    simp only [juratref18_Same.l1, if_neg hno]
  | succ m ih =>
    intro j hm hj
    have h1 : (j : Int) < (a.length : Int) := by omega
    have h2 : 0 ≤ (j : Int) ∧ (j : Int) < (a.length : Int) := by omega
    have h3 : 0 ≤ (j : Int) ∧ (j : Int) < (b.length : Int) := by omega
    rw [drop_cons (0 : Int) (show j < a.length by omega), drop_cons (0 : Int) (show j < b.length by omega)]
    by_cases hx : a.getD j 0 = b.getD j 0
    · refine Ev.succ (Ev.congr (f := fun k => juratref18_Same.l1 k a b ((j + 1 : Nat) : Int)) ?_ fun k => ?_)
      · simp only [hx, List.cons.injEq, true_and]
        exact ih (j + 1) (by omega) (by omega)
      · simp only [juratref18_Same.l1, if_pos h1, if_pos h2, if_pos h3, Int.toNat_natCast, if_pos hx, wi64_succ (show j < 9223372036854775807 by omega)]
    · refine Ev.succ ((Ev.pure _).congr fun k => ?_)
      rw [if_neg (by intro e; injection e with e _; exact hx e)]
      simp only [juratref18_Same.l1, if_pos h1, if_pos h2, if_pos h3, Int.toNat_natCast, if_neg hx]
theorem same_f (a b : List Int) (hb : a.length < 9223372036854775807) : Ev (fun k => juratref18_Same.f k a b) (decide (a = b)) := by
  unfold juratref18_Same.f
  by_cases he : a.length = b.length
  · refine Ev.iteT (by omega) ?_
    have h := same_l1 a b he hb a.length 0 (by omega) (by omega)
    rw [List.drop_zero, List.drop_zero] at h
    refine Ev.bind h ?_
    by_cases hab : a = b
    · simp only [if_pos hab, decide_eq_true hab]; exact Ev.pure _
    · simp only [if_neg hab, decide_eq_false hab]; exact Ev.pure _
  · refine Ev.iteF (by omega) ?_
    rw [decide_eq_false (fun e => he (by rw [e]))]
    exact Ev.pure _
theorem awake_f : Ev (fun k => juratlaw18_awake.f k) true := by
  unfold juratlaw18_awake.f
  refine Ev.iteT (by decide) ?_
  have h := pick_f [1, 0, 0, 2] (List.replicate (4 : Int).toNat (false : Bool)) 4 3 (by decide)
  rw [show pickL [1, 0, 0, 2] (List.replicate (4 : Int).toNat (false : Bool)) 4 3 = ([1, 2, 0], 0) from by decide] at h
  refine Ev.bind h ?_
  refine Ev.bind (f := fun k => if (0 : Int) = 0 then (juratref18_Same.f k [1, 2, 0] [1, 2, 0]).bind fun r57 => some r57 else some false) (g := fun _ g38 => some g38) (a := true) (Ev.iteT rfl ?_) (Ev.pure _)
  have hs := same_f [1, 2, 0] [1, 2, 0] (by decide)
  rw [decide_eq_true rfl] at hs
  exact Ev.bind (g := fun _ r => some r) hs (Ev.pure _)
theorem pickL_len (a0 : List Int) (a1 : List Bool) (a2 a3 : Int) : (pickL a0 a1 a2 a3).1.length < 9223372036854775807 := by
  unfold pickL
  split
  · decide
  · rename_i hbad
    split
    · decide
    · split
      · decide
      · have hrt : rightL a0 a1 = true := by cases h : rightL a0 a1 with | true => rfl | false => exact absurd (.inl h) hbad
        obtain ⟨he, h8, hpos⟩ := rightL_len hrt
        have hlen : (AA a0 a1 a2).length ≤ frees a1 a0.length 0 ∧ frees a1 a0.length 0 ≤ a0.length := ables_len a0 a1 a2 a0.length 0
        have hp := (Heap.isort_perm (lt := ltH) (AA a0 a1 a2)).length_eq
        simp only [List.length_map, List.length_take]
        omega
theorem reach22 {a : List Int} (h : ok22 a) : a.length * 8 ≤ 140737488355328 ∧ a.length < 9223372036854775807 := by
  have := h.1
  simp only [reachBytes] at this
  omega
theorem reach23 {a : List Bool} (h : ok23 a) : a.length * 1 ≤ 140737488355328 ∧ a.length < 9223372036854775807 := by
  have := h.1
  simp only [reachBytes] at this
  omega
theorem CrewPicks (a0 : List Int) (a1 : List Bool) (a2 : Int) (a3 : Int) (h0 : ok22 a0) (h1 : ok23 a1) (h2 : (Lit.int .i64 a2).wf = true) (h3 : (Lit.int .i64 a3).wf = true) : ∃ k, juratlaw18_CrewPicks.f k a0 a1 a2 a3 = some true := by
  refine Ev.one ?_
  obtain ⟨r0, b0⟩ := reach22 h0
  obtain ⟨r1, b1⟩ := reach23 h1
  have haw : Ev (fun k => (juratlaw18_awake.f k).bind fun r26 => some r26) true := Ev.bind (g := fun _ r => some r) awake_f (Ev.pure _)
  unfold juratlaw18_CrewPicks.f
  by_cases hbig : (a0.length : Int) > 100 ∨ (a1.length : Int) > 100
  · refine Ev.bind (f := fun _ => _) (a := true) ?_ (Ev.iteT rfl haw)
    rcases hbig with h | h
    · exact Ev.iteT h (Ev.pure _)
    · by_cases h' : (a0.length : Int) > 100
      · exact Ev.iteT h' (Ev.pure _)
      · refine Ev.iteF h' ?_
        rw [decide_eq_true h]
        exact Ev.pure _
  · have g1 : ¬ (a0.length : Int) > 100 := fun h => hbig (.inl h)
    have g2 : ¬ (a1.length : Int) > 100 := fun h => hbig (.inr h)
    refine Ev.bind (f := fun _ => _) (a := false) (Ev.iteF g1 (by rw [decide_eq_false g2]; exact Ev.pure _)) (Ev.iteF (by simp) ?_)
    refine Ev.iteT r0 (Ev.iteT r1 ?_)
    refine Ev.bind (pick_f a0 a1 a2 a3 b0) ?_
    refine Ev.bind (refPick_f a0 a1 a2 a3 b0 b1) ?_
    refine Ev.bind (f := fun k => if (pickL a0 a1 a2 a3).2 = (pickL a0 a1 a2 a3).2 then _ else _) (g := fun _ g98 => some g98) (a := true) (Ev.iteT rfl ?_) (Ev.pure _)
    have hs := same_f (pickL a0 a1 a2 a3).1 (pickL a0 a1 a2 a3).1 (pickL_len _ _ _ _)
    rw [decide_eq_true rfl] at hs
    refine Ev.bind hs (Ev.iteT rfl ?_)
    refine Ev.bind (left_f a0 a1 a2 b0) (Ev.bind (refLeft_f a0 a1 a2 b0) (Ev.iteT rfl haw))
theorem CrewLeft (a0 : List Int) (a1 : List Bool) (a2 : Int) (a3 : Int) (h0 : ok22 a0) (h1 : ok23 a1) (h2 : (Lit.int .i64 a2).wf = true) (h3 : (Lit.int .i64 a3).wf = true) : ∃ k, juratlaw18_CrewLeft.f k a0 a1 a2 a3 = some true := by
  refine Ev.one ?_
  obtain ⟨r0, b0⟩ := reach22 h0
  obtain ⟨r1, b1⟩ := reach23 h1
  have haw : Ev (fun k => (juratlaw18_awake.f k).bind fun r26 => some r26) true := Ev.bind (g := fun _ r => some r) awake_f (Ev.pure _)
  unfold juratlaw18_CrewLeft.f
  refine Ev.bind (refRight_f a0 a1 b0) ?_
  by_cases hbad : rightL a0 a1 = false ∨ a3 < 1 ∨ a2 < 0
  · refine Ev.iteT (by rcases hbad with h | h | h <;> simp [h]) (Ev.iteT r0 (Ev.iteT r1 ?_))
    have hpk := pick_f a0 a1 a2 a3 b0
    rw [show pickL a0 a1 a2 a3 = ([], 1) from by unfold pickL; rw [if_pos hbad]] at hpk
    refine Ev.bind hpk ?_
    exact Ev.bind (f := fun k => if (1 : Int) = 1 then _ else _) (g := fun _ g => some g) (a := true) (Ev.iteT rfl haw) (Ev.pure _)
  · have hrt : rightL a0 a1 = true := by cases h : rightL a0 a1 with | true => rfl | false => exact absurd (.inl h) hbad
    have hc3 : ¬ a3 < 1 := fun h => hbad (.inr (.inl h))
    have hc2 : ¬ a2 < 0 := fun h => hbad (.inr (.inr h))
    refine Ev.iteF (by simp [hrt, hc3, hc2]) (Ev.iteT r0 (Ev.iteT r1 ?_))
    have hl := left_f a0 a1 a2 b0
    rw [if_pos hrt] at hl
    refine Ev.bind hl ?_
    have hpk := pick_f a0 a1 a2 a3 b0
    have hlen : (AA a0 a1 a2).length ≤ frees a1 a0.length 0 ∧ frees a1 a0.length 0 ≤ a0.length := ables_len a0 a1 a2 a0.length 0
    by_cases hn : a3 ≤ ((ables a0 a1 a2 a0.length 0).length : Int)
    · have hn' : a3 ≤ ((AA a0 a1 a2).length : Int) := hn
      have hp : pickL a0 a1 a2 a3 = (((SS a0 a1 a2).take a3.toNat).map (·.id), 0) := by
        unfold pickL
        rw [if_neg hbad, if_neg (by omega), if_neg (by omega)]
      rw [hp] at hpk
      refine Ev.bind hpk (Ev.iteT hn ?_)
      refine Ev.bind (f := fun k => if (0 : Int) = 0 then _ else _) (g := fun _ g => some g) (a := true) (Ev.iteT rfl (Ev.iteT ?_ haw)) (Ev.pure _)
      have : (SS a0 a1 a2).length = (AA a0 a1 a2).length := (Heap.isort_perm (lt := ltH) (AA a0 a1 a2)).length_eq
      rw [List.length_map, List.length_take]
      omega
    · have hn' : ¬ a3 ≤ ((AA a0 a1 a2).length : Int) := hn
      by_cases hf : (frees a1 a0.length 0 : Int) < a3
      · rw [show pickL a0 a1 a2 a3 = ([], 180) from by unfold pickL; rw [if_neg hbad, if_pos hf]] at hpk
        refine Ev.bind hpk (Ev.iteF hn ?_)
        exact Ev.bind (f := fun k => if (180 : Int) = 70 then _ else if (180 : Int) = 180 then _ else _) (g := fun _ g => some g) (a := true) (Ev.iteF (by decide) (Ev.iteT rfl (Ev.iteT rfl haw))) (Ev.pure _)
      · rw [show pickL a0 a1 a2 a3 = ([], 70) from by unfold pickL; rw [if_neg hbad, if_neg hf, if_pos (by omega)]] at hpk
        refine Ev.bind hpk (Ev.iteF hn ?_)
        exact Ev.bind (f := fun k => if (70 : Int) = 70 then _ else _) (g := fun _ g => some g) (a := true) (Ev.iteT rfl (Ev.iteT rfl haw)) (Ev.pure _)
end Go.Proofs.Ytcmoclekbifhbaa.Pure
