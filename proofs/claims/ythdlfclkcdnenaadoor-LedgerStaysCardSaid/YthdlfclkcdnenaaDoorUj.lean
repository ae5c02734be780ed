/- Plain laws: what is the same: lists of digests, bytes. -/
import Derived.Test.YthdlfclkcdnenaaDoorUi
import Derived.Test.YthdlfclkcdnenaaDoorGl
set_option linter.unusedSimpArgs false
set_option linter.unusedVariables false
namespace Go.Proofs.YthdlfclkcdnenaaDoor.Pure
open Go.WG Go.Proofs.YthdlfclkcdnenaaDoor
theorem drop_cons' {α : Type} {l : List α} {j : Nat} (d : α) (h : j < l.length) : l.drop j = l.getD j d :: l.drop (j + 1) := by
  rw [List.getD_eq_getElem?_getD, List.getElem?_eq_getElem h, Option.getD_some]
  exact List.drop_eq_getElem_cons h
theorem same5_l1 (a b : List (List Int)) (he : a.length = b.length) (hb : a.length ≤ 1000000000) : ∀ (m j : Nat), a.length - j = m → j ≤ a.length →
    Ev (fun k => juratref05_Same.l1 k a b (j : Int)) (if a.drop j = b.drop j then Sum.inl () else Sum.inr false) := by
  intro m
  induction m with
  | zero =>
    intro j hm hj
    rw [List.drop_eq_nil_of_le (by omega), List.drop_eq_nil_of_le (by omega), if_pos rfl]
    refine Ev.succ ((Ev.pure _).congr fun k => ?_)
    have : ¬ (j : Int) < (a.length : Int) := by omega
    simp only [juratref05_Same.l1, if_neg this]
  | succ m ih =>
    intro j hm hj
    have hlt : j < a.length := by omega
    have hlt2 : j < b.length := by omega
    have h1 : (j : Int) < (a.length : Int) := by omega
    have h2 : 0 ≤ (j : Int) ∧ (j : Int) < (a.length : Int) := by omega
    have h3 : 0 ≤ (j : Int) ∧ (j : Int) < (b.length : Int) := by omega
    rw [drop_cons' [] hlt, drop_cons' [] hlt2]
    by_cases hq : a.getD j [] = b.getD j []
    · simp only [hq, List.cons.injEq, true_and]
      refine Ev.succ ((ih (j + 1) (by omega) (by omega)).congr fun k => ?_)
      simp only [juratref05_Same.l1, if_pos h1, if_pos h2, if_pos h3, Int.toNat_natCast, if_pos hq, wi64_succ (show j < 9223372036854775807 by omega)]
    · rw [if_neg (by rw [List.cons.injEq]; exact fun e => hq e.1)]
      refine Ev.succ ((Ev.pure _).congr fun k => ?_)
      simp only [juratref05_Same.l1, if_pos h1, if_pos h2, if_pos h3, Int.toNat_natCast, if_neg hq]
theorem same5_f (a b : List (List Int)) (hb : a.length ≤ 1000000000) : Ev (fun k => juratref05_Same.f k a b) (decide (a = b)) := by
  by_cases he : a.length = b.length
  · have he' : (a.length : Int) = (b.length : Int) := by omega
    have h := same5_l1 a b he hb a.length 0 rfl (Nat.zero_le _)
    rw [List.drop_zero, List.drop_zero] at h
    refine Ev.iteT he' (Ev.bind (g := fun _ o_ => sumE o_ (fun _ => some true) (fun p_ => some p_)) h ?_)
    by_cases hab : a = b
    · rw [if_pos hab, decide_eq_true hab]; exact Ev.pure _
    · rw [if_neg hab, decide_eq_false hab]; exact Ev.pure _
  · have he' : ¬ (a.length : Int) = (b.length : Int) := by omega
    rw [decide_eq_false (fun e => he (congrArg List.length e))]
    exact Ev.iteF he' (Ev.pure _)
theorem same1_l1 (a b : List Int) (he : a.length = b.length) (hb : a.length ≤ 1000000000) : ∀ (m j : Nat), a.length - j = m → j ≤ a.length →
    Ev (fun k => juratref01_Same.l1 k a b (j : Int)) (if a.drop j = b.drop j then Sum.inl () else Sum.inr false) := by
  intro m
  induction m with
  | zero =>
    intro j hm hj
    rw [List.drop_eq_nil_of_le (by omega), List.drop_eq_nil_of_le (by omega), if_pos rfl]
    refine Ev.succ ((Ev.pure _).congr fun k => ?_)
    have : ¬ (j : Int) < (a.length : Int) := by omega
    simp only [juratref01_Same.l1, if_neg this]
  | succ m ih =>
    intro j hm hj
    have hlt : j < a.length := by omega
    have hlt2 : j < b.length := by omega
    have h1 : (j : Int) < (a.length : Int) := by omega
    have h2 : 0 ≤ (j : Int) ∧ (j : Int) < (a.length : Int) := by omega
    have h3 : 0 ≤ (j : Int) ∧ (j : Int) < (b.length : Int) := by omega
    rw [drop_cons' 0 hlt, drop_cons' 0 hlt2]
    by_cases hq : a.getD j 0 = b.getD j 0
    · simp only [hq, List.cons.injEq, true_and]
      refine Ev.succ ((ih (j + 1) (by omega) (by omega)).congr fun k => ?_)
      simp only [juratref01_Same.l1, if_pos h1, if_pos h2, if_pos h3, Int.toNat_natCast, if_pos hq, wi64_succ (show j < 9223372036854775807 by omega)]
    · rw [if_neg (by rw [List.cons.injEq]; exact fun e => hq e.1)]
      refine Ev.succ ((Ev.pure _).congr fun k => ?_)
      simp only [juratref01_Same.l1, if_pos h1, if_pos h2, if_pos h3, Int.toNat_natCast, if_neg hq]
theorem same1_f (a b : List Int) (hb : a.length ≤ 1000000000) : Ev (fun k => juratref01_Same.f k a b) (decide (a = b)) := by
  by_cases he : a.length = b.length
  · have he' : (a.length : Int) = (b.length : Int) := by omega
    have h := same1_l1 a b he hb a.length 0 rfl (Nat.zero_le _)
    rw [List.drop_zero, List.drop_zero] at h
    refine Ev.iteT he' (Ev.bind (g := fun _ o_ => sumE o_ (fun _ => some true) (fun p_ => some p_)) h ?_)
    by_cases hab : a = b
    · rw [if_pos hab, decide_eq_true hab]; exact Ev.pure _
    · rw [if_neg hab, decide_eq_false hab]; exact Ev.pure _
  · have he' : ¬ (a.length : Int) = (b.length : Int) := by omega
    rw [decide_eq_false (fun e => he (congrArg List.length e))]
    exact Ev.iteF he' (Ev.pure _)
/-- The first ones' digests stay. -/
theorem take_grown (L M : List (List Int)) {n : Nat} (h : n ≤ L.length) : ((L ++ M).map leafD).take n = (L.map leafD).take n := by
  rw [List.map_append, List.take_append_of_le_length (by rw [List.length_map]; exact h)]
/-- What is told of the first n, whatever stands behind. -/
theorem include_any (k0 : Nat) (L : List (List Int)) (i : Int) (n : Nat) (hn : n ≤ L.length) (hL : L.length ≤ 256) (hs : AllS L) : ∃ r : List (List Int) × Int, r.1.length ≤ 1000 ∧ ∀ M, (L ++ M).length ≤ 256 → AllS (L ++ M) → Ev (fun k => ledger_Ledger_Include.f k (ledgerOf (L ++ M)) i (n : Int)) r := by
  by_cases hi : i < 0 ∨ (n : Int) ≤ i
  · exact ⟨([], 1), by simp, fun M hM hsM => (Ev.pure _).congr fun k => linclude_bad k (L ++ M) i n hi (by rw [List.length_append]; omega)⟩
  · obtain ⟨j, rfl⟩ : ∃ j : Nat, i = (j : Int) := ⟨i.toNat, by omega⟩
    refine ⟨(incD ((L.map leafD).take n) j, 0), ?_, fun M hM hsM => ?_⟩
    · have := incF_len ((L.map leafD).take n).length ((L.map leafD).take n) j
      rw [List.length_take, List.length_map] at this
      have h4 : (incD ((L.map leafD).take n) j).length ≤ 1000 := by unfold incD; rw [List.length_take, List.length_map]; omega
      exact h4
    · have := linclude_f (L ++ M) j n (by omega) (by rw [List.length_append]; omega) hM hsM
      rwa [take_grown L M hn] at this
theorem consist_any (k0 : Nat) (L : List (List Int)) (i : Int) (n : Nat) (hn : n ≤ L.length) (hL : L.length ≤ 256) (hs : AllS L) : ∃ r : List (List Int) × Int, r.1.length ≤ 1000 ∧ ∀ M, (L ++ M).length ≤ 256 → AllS (L ++ M) → Ev (fun k => ledger_Ledger_Consist.f k (ledgerOf (L ++ M)) i (n : Int)) r := by
  by_cases hi : i < 0 ∨ (n : Int) < i
  · exact ⟨([], 1), by simp, fun M hM hsM => (Ev.pure _).congr fun k => lconsist_bad k (L ++ M) i n hi (by rw [List.length_append]; omega)⟩
  · obtain ⟨j, rfl⟩ : ∃ j : Nat, i = (j : Int) := ⟨i.toNat, by omega⟩
    refine ⟨(conD ((L.map leafD).take n) j, 0), ?_, fun M hM hsM => ?_⟩
    · have := partF_len ((L.map leafD).take n).length ((L.map leafD).take n) j true
      rw [List.length_take, List.length_map] at this
      unfold conD
      show (if j = 0 then [] else _).length ≤ _
      split
      · simp
      · rw [List.length_take, List.length_map]; omega
    · have := lconsist_f (L ++ M) j n (by omega) (by rw [List.length_append]; omega) hM hsM
      rwa [take_grown L M hn] at this
end Go.Proofs.YthdlfclkcdnenaaDoor.Pure
