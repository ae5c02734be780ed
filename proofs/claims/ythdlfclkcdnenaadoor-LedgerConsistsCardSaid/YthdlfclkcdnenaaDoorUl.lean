/- Plain laws of proofs: what is made for a beginning is consistent. -/
import Derived.Test.YthdlfclkcdnenaaDoorUk
set_option linter.unusedSimpArgs false
set_option linter.unusedVariables false
namespace Go.Proofs.YthdlfclkcdnenaaDoor.Pure
open Go.WG Go.Proofs.YthdlfclkcdnenaaDoor
theorem conD_all (l : List (List Int)) (m : Nat) (h : AllD l) : AllD (conD l m) := by
  unfold conD
  split
  · intro d hd; exact absurd hd (by simp)
  · exact partF_all _ _ _ _ h
theorem conD_len (l : List (List Int)) (m : Nat) : (conD l m).length ≤ l.length := by
  unfold conD
  split
  · simp
  · exact partF_len _ _ _ _
theorem conD_whole (l : List (List Int)) (h : 0 < l.length) : conD l l.length = [] := by
  unfold conD
  rw [if_neg (by omega)]
  obtain ⟨N, hN⟩ : ∃ N, l.length = N + 1 := ⟨l.length - 1, by omega⟩
  rw [hN]
  unfold partF
  rw [if_pos (by omega), if_pos rfl]
theorem consistent_any (l : List (List Int)) (m : Nat) (hm : m ≤ l.length) (hl : l.length ≤ 256) (ha : AllD l) : Ev (fun k => proof_Consistent.f k (m : Int) (l.length : Int) (conD l m) (rootD (l.take m)) (rootD l)) true := by
  have g1 : ¬ (decide ((m : Int) < 0) || decide ((m : Int) > (l.length : Int))) = true := by simp; omega
  by_cases h0 : m = 0
  · subst h0
    have hc : conD l 0 = [] := by unfold conD; rw [if_pos rfl]
    rw [hc, List.take_zero]
    have hr := root_f [] (by simp) (fun d hd => absurd hd (by simp))
    refine Ev.iteF g1 (Ev.iteT (by omega) (Ev.bind (g := fun _ x => some x) (Ev.iteT rfl (Ev.bind (g := fun _ r66 => some (decide (rootD [] = r66))) hr (Ev.pure _))) ?_))
    simp only [decide_true]
    exact Ev.pure _
  · by_cases hn : m = l.length
    · subst hn
      rw [conD_whole l (by omega), List.take_of_length_le (Nat.le_refl _)]
      refine Ev.iteF g1 (Ev.iteF (by omega) (Ev.iteT rfl ((Ev.pure true).congr fun k => ?_)))
      simp
    · exact consistent_f m l.length (conD l m) (rootD (l.take m)) (rootD l) (by omega) (by omega) (by omega) (conD_all l m ha) (by have := conD_len l m; omega) (rootD_len _ _ rfl (ha.take m)) true ⟨fun _ => conD_ok l m (by omega) (by omega), fun _ => rfl⟩
end Go.Proofs.YthdlfclkcdnenaaDoor.Pure
