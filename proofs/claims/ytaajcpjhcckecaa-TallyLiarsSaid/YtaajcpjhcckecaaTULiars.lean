/- TallyLiars, as a plain law. -/
import Derived.Test.YtaajcpjhcckecaaTPLiars
import Derived.Test.YtaajcpjhcckecaaTUc
namespace Go.Proofs.Ytaajcpjhcckecaa.Pure
open Go.WG Go.Proofs.Ytaajcpjhcckecaa
set_option linter.unusedSimpArgs false
set_option linter.unusedVariables false
theorem lied_f {l : List TCast} (hl : Votes l) {v : List Int} (hv : Byt v) {i : Nat} (hi : i < l.length) :
    Ev (fun k => juratlaw19_TallyLiars.l2 k l v (i : Int) false 0) (decide (∃ c ∈ l, ¬ c.Value = v ∧ c.Worker = (l.getD i TCast.z).Worker)) := by
  refine Ev.loop (n := l.length) (F := fun k j (s : Bool) => juratlaw19_TallyLiars.l2 k l v (i : Int) s (j : Int)) (fun j s => s = decide (∃ c ∈ l.take j, ¬ c.Value = v ∧ c.Worker = (l.getD i TCast.z).Worker)) (fun j s hj hI => ?_) (fun s hI => ?_) false (by simp)
  · have hlen := hl.1
    have hvj := (hl.at hj).1
    have hs := same1_f (l.getD j TCast.z).Value v (by omega)
    simp only [juratlaw19_TallyLiars.l2, Int.toNat_natCast, wi64_j (show j < 9223372036854775807 by omega)]
    have hsnoc : (∃ c ∈ l.take (j + 1), ¬ c.Value = v ∧ c.Worker = (l.getD i TCast.z).Worker) ↔ (∃ c ∈ l.take j, ¬ c.Value = v ∧ c.Worker = (l.getD i TCast.z).Worker) ∨ (¬ (l.getD j TCast.z).Value = v ∧ (l.getD j TCast.z).Worker = (l.getD i TCast.z).Worker) := by
      rw [take_succ TCast.z hj]
      constructor
      · rintro ⟨c, hc, h⟩
        rcases List.mem_append.1 hc with hc | hc
        · exact .inl ⟨c, hc, h⟩
        · rw [List.mem_singleton.1 hc] at h; exact .inr h
      · rintro (⟨c, hc, h⟩ | h)
        · exact ⟨c, List.mem_append_left _ hc, h⟩
        · exact ⟨_, List.mem_append_right _ (by simp), h⟩
    cases s with
    | true =>
      have h1 := of_decide_eq_true hI.symm
      refine .inr ⟨true, (decide_eq_true (hsnoc.2 (.inl h1))).symm, fun h => ?_⟩
      repeat' (first | assumption | exact Ev.pure _ | apply Ev.iteT (by first | assumption | omega | exact trivial | exact Bool.false_ne_true | exact rfl | (simp only [decide_eq_true_eq]; assumption) | (simp only [decide_eq_true_eq]; omega)) | apply Ev.iteF (by first | assumption | omega | exact trivial | exact Bool.false_ne_true | exact rfl | (simp only [decide_eq_true_eq]; assumption) | (simp only [decide_eq_true_eq]; omega)) | apply Ev.bind)
    | false =>
      have h1 := of_decide_eq_false hI.symm
      by_cases hw : (l.getD j TCast.z).Worker = (l.getD i TCast.z).Worker
      · by_cases hv2 : (l.getD j TCast.z).Value = v
        · rw [decide_eq_true hv2] at hs
          refine .inr ⟨false, (decide_eq_false fun h => (hsnoc.1 h).elim h1 fun h => h.1 hv2).symm, fun h => ?_⟩
          repeat' (first | assumption | exact Ev.pure _ | apply Ev.iteT (by first | assumption | omega | exact trivial | exact Bool.false_ne_true | exact rfl | (simp only [decide_eq_true_eq]; assumption) | (simp only [decide_eq_true_eq]; omega)) | apply Ev.iteF (by first | assumption | omega | exact trivial | exact Bool.false_ne_true | exact rfl | (simp only [decide_eq_true_eq]; assumption) | (simp only [decide_eq_true_eq]; omega)) | (apply Ev.bind (hs); try dsimp only; try simp only [Int.toNat_natCast]) | exact (hs) | apply Ev.bind)
        · rw [decide_eq_false hv2] at hs
          refine .inr ⟨true, (decide_eq_true (hsnoc.2 (.inr ⟨hv2, hw⟩))).symm, fun h => ?_⟩
          repeat' (first | assumption | exact Ev.pure _ | apply Ev.iteT (by first | assumption | omega | exact trivial | exact Bool.false_ne_true | exact rfl | (simp only [decide_eq_true_eq]; assumption) | (simp only [decide_eq_true_eq]; omega)) | apply Ev.iteF (by first | assumption | omega | exact trivial | exact Bool.false_ne_true | exact rfl | (simp only [decide_eq_true_eq]; assumption) | (simp only [decide_eq_true_eq]; omega)) | (apply Ev.bind (hs); try dsimp only; try simp only [Int.toNat_natCast]) | exact (hs) | apply Ev.bind)
      · refine .inr ⟨false, (decide_eq_false fun h => (hsnoc.1 h).elim h1 fun h => hw h.2).symm, fun h => ?_⟩
        repeat' (first | assumption | exact Ev.pure _ | apply Ev.iteT (by first | assumption | omega | exact trivial | exact Bool.false_ne_true | exact rfl | (simp only [decide_eq_true_eq]; assumption) | (simp only [decide_eq_true_eq]; omega)) | apply Ev.iteF (by first | assumption | omega | exact trivial | exact Bool.false_ne_true | exact rfl | (simp only [decide_eq_true_eq]; assumption) | (simp only [decide_eq_true_eq]; omega)) | apply Ev.bind)
  · rw [List.take_length] at hI
    subst hI
    simp only [juratlaw19_TallyLiars.l2]
    exact Ev.iteF (by omega) (Ev.pure _)
theorem told_f {l : List TCast} (hl : Votes l) {r : List Int} (hr : r.length ≤ 60) (hlt : r.Pairwise (· < ·)) {i : Nat} (hi : i < l.length) :
    Ev (fun k => juratlaw19_TallyLiars.l3 k l r (i : Int) false 0) (Sum.inl (decide ((l.getD i TCast.z).Worker ∈ r))) := by
  refine Ev.loop (n := r.length) (F := fun k j (s : Bool) => juratlaw19_TallyLiars.l3 k l r (i : Int) s (j : Int)) (fun j s => s = decide ((l.getD i TCast.z).Worker ∈ r.take j)) (fun j s hj hI => ?_) (fun s hI => ?_) false (by simp)
  · have hlen := hl.1
    have hsnoc : (l.getD i TCast.z).Worker ∈ r.take (j + 1) ↔ (l.getD i TCast.z).Worker ∈ r.take j ∨ (l.getD i TCast.z).Worker = r.getD j 0 := by
      rw [take_succ 0 hj, List.mem_append, List.mem_singleton]
    have hstep : ∀ s' : Bool, s' = decide ((l.getD i TCast.z).Worker ∈ r.take (j + 1)) → Ev (fun k => if s = true then (some true) else (if 0 ≤ (j : Int) ∧ (j : Int) < (r.length : Int) then (if 0 ≤ (i : Int) ∧ (i : Int) < (l.length : Int) then (some (decide ((r.getD j 0) = ((l.getD i TCast.z).Worker)))) else none) else none)) s' := fun s' hs' => by
      subst hI
      by_cases hm : (l.getD i TCast.z).Worker ∈ r.take j
      · rw [hs', decide_eq_true (hsnoc.2 (.inl hm))]
        exact Ev.iteT (decide_eq_true hm) (Ev.pure _)
      · refine Ev.iteF (by simpa using hm) (Ev.iteT (by omega) (Ev.iteT (by omega) ?_))
        rw [hs', show decide ((l.getD i TCast.z).Worker ∈ r.take (j + 1)) = decide (r.getD j 0 = (l.getD i TCast.z).Worker) from decide_eq_decide.2 ⟨fun h => ((hsnoc.1 h).resolve_left hm).symm, fun h => hsnoc.2 (.inr h.symm)⟩]
        exact Ev.pure _
    have hord : Ev (fun k => if (j : Int) > 0 then (if 0 ≤ (wi64 ((j : Int) - 1)) ∧ (wi64 ((j : Int) - 1)) < (r.length : Int) then (if 0 ≤ (j : Int) ∧ (j : Int) < (r.length : Int) then (some (decide ((r.getD (wi64 ((j : Int) - 1)).toNat 0) ≥ (r.getD j 0)))) else none) else none) else (some (false))) false := by
      by_cases h0 : (j : Int) > 0
      · have hw : wi64 ((j : Int) - 1) = ((j - 1 : Nat) : Int) := by rw [wi64_id (by omega) (by omega)]; omega
        rw [hw, Int.toNat_natCast]
        have hlt' : r.getD (j - 1) 0 < r.getD j 0 := by
          rw [List.getD_eq_getElem?_getD, List.getD_eq_getElem?_getD, List.getElem?_eq_getElem hj, List.getElem?_eq_getElem (show j - 1 < r.length by omega)]
          exact List.pairwise_iff_getElem.1 hlt (j - 1) j (by omega) hj (by omega)
        rw [decide_eq_false (show ¬ r.getD (j - 1) 0 ≥ r.getD j 0 by omega)]
        repeat' (first | assumption | exact Ev.pure _ | apply Ev.iteT (by first | assumption | omega | exact trivial | exact Bool.false_ne_true | exact rfl | (simp only [decide_eq_true_eq]; assumption) | (simp only [decide_eq_true_eq]; omega)) | apply Ev.iteF (by first | assumption | omega | exact trivial | exact Bool.false_ne_true | exact rfl | (simp only [decide_eq_true_eq]; assumption) | (simp only [decide_eq_true_eq]; omega)) | apply Ev.bind)
      · repeat' (first | assumption | exact Ev.pure _ | apply Ev.iteT (by first | assumption | omega | exact trivial | exact Bool.false_ne_true | exact rfl | (simp only [decide_eq_true_eq]; assumption) | (simp only [decide_eq_true_eq]; omega)) | apply Ev.iteF (by first | assumption | omega | exact trivial | exact Bool.false_ne_true | exact rfl | (simp only [decide_eq_true_eq]; assumption) | (simp only [decide_eq_true_eq]; omega)) | apply Ev.bind)
    refine .inr ⟨_, rfl, fun h => ?_⟩
    simp only [juratlaw19_TallyLiars.l3, Int.toNat_natCast, wi64_j (show j < 9223372036854775807 by omega)]
    exact Ev.iteT (by omega) (Ev.bind (hstep _ rfl) (Ev.bind hord (Ev.iteF (by simp) h)))
  · rw [List.take_length] at hI
    subst hI
    simp only [juratlaw19_TallyLiars.l3]
    exact Ev.iteF (by omega) (Ev.pure _)
theorem TallyLiars (a0 : List TCast) (a1 : List Int) (h0 : ok26 a0) (h1 : ok23 a1) : ∃ k, juratlaw19_TallyLiars.f k a0 a1 = some true := by
  refine Ev.one (f := fun k => juratlaw19_TallyLiars.f k a0 a1) ?_
  unfold juratlaw19_TallyLiars.f
  obtain ⟨b, hb, hV⟩ := great_f a0 (okVotes h0)
  refine Ev.bind hb ?_
  have haw := awake_f
  cases b with
  | true => repeat' (first | assumption | exact Ev.pure _ | apply Ev.iteT (by first | assumption | omega | exact trivial | exact Bool.false_ne_true | exact rfl | (simp only [decide_eq_true_eq]; assumption) | (simp only [decide_eq_true_eq]; omega)) | apply Ev.iteF (by first | assumption | omega | exact trivial | exact Bool.false_ne_true | exact rfl | (simp only [decide_eq_true_eq]; assumption) | (simp only [decide_eq_true_eq]; omega)) | (apply Ev.bind (awake_f); try dsimp only; try simp only [Int.toNat_natCast]) | exact (awake_f) | apply Ev.bind)
  | false =>
    have hv := hV rfl
    by_cases hl : (a1.length : Int) > 200
    · repeat' (first | assumption | exact Ev.pure _ | apply Ev.iteT (by first | assumption | omega | exact trivial | exact Bool.false_ne_true | exact rfl | (simp only [decide_eq_true_eq]; assumption) | (simp only [decide_eq_true_eq]; omega)) | apply Ev.iteF (by first | assumption | omega | exact trivial | exact Bool.false_ne_true | exact rfl | (simp only [decide_eq_true_eq]; assumption) | (simp only [decide_eq_true_eq]; omega)) | (apply Ev.bind (awake_f); try dsimp only; try simp only [Int.toNat_natCast]) | exact (awake_f) | apply Ev.bind)
    · have hby : Byt a1 := ⟨by omega, okBytes h1⟩
      refine Ev.bind (a := false) ?_ ?_
      · rw [decide_eq_false hl]
        repeat' (first | assumption | exact Ev.pure _ | apply Ev.iteT (by first | assumption | omega | exact trivial | exact Bool.false_ne_true | exact rfl | (simp only [decide_eq_true_eq]; assumption) | (simp only [decide_eq_true_eq]; omega)) | apply Ev.iteF (by first | assumption | omega | exact trivial | exact Bool.false_ne_true | exact rfl | (simp only [decide_eq_true_eq]; assumption) | (simp only [decide_eq_true_eq]; omega)) | apply Ev.bind)
      have hll := lies_len a0 a1
      have hlen := hv.1
      have hloop : Ev (fun k => juratlaw19_TallyLiars.l1 k a0 a1 (lies a0 a1) 0) (Sum.inl ()) := by
        refine Ev.loop (n := a0.length) (F := fun k j (_ : Unit) => juratlaw19_TallyLiars.l1 k a0 a1 (lies a0 a1) (j : Int)) (fun j _ => True) (fun j _ hj hI => ?_) (fun _ hI => ?_) () trivial
        · have ht := told_f hv (show (lies a0 a1).length ≤ 60 by omega) (lies_lt a0 a1) hj
          rw [show decide ((a0.getD j TCast.z).Worker ∈ lies a0 a1) = decide (∃ c ∈ a0, ¬ c.Value = a1 ∧ c.Worker = (a0.getD j TCast.z).Worker) from decide_eq_decide.2 (lies_mem _ _ _)] at ht
          refine .inr ⟨(), trivial, fun h => ?_⟩
          simp only [juratlaw19_TallyLiars.l1, Int.toNat_natCast, wi64_j (show j < 9223372036854775807 by omega)]
          refine Ev.iteT (by omega) (Ev.bind (lied_f hv hby hj) (Ev.bind ht ?_))
          exact Ev.iteT rfl h
        · simp only [juratlaw19_TallyLiars.l1]
          exact Ev.iteF (by omega) (Ev.pure _)
      refine Ev.iteF (by simp) (Ev.bind (copy_f hv) (Ev.bind (liars_f hv hby) (Ev.bind hloop ?_)))
      refine Ev.bind (a := true) (Ev.iteT (by omega) ?_) (Ev.pure _)
      repeat' (first | assumption | exact Ev.pure _ | apply Ev.iteT (by first | assumption | omega | exact trivial | exact Bool.false_ne_true | exact rfl | (simp only [decide_eq_true_eq]; assumption) | (simp only [decide_eq_true_eq]; omega)) | apply Ev.iteF (by first | assumption | omega | exact trivial | exact Bool.false_ne_true | exact rfl | (simp only [decide_eq_true_eq]; assumption) | (simp only [decide_eq_true_eq]; omega)) | (apply Ev.bind (awake_f); try dsimp only; try simp only [Int.toNat_natCast]) | exact (awake_f) | apply Ev.bind)
end Go.Proofs.Ytaajcpjhcckecaa.Pure
