/- TallyTells, as a plain law. -/
import Derived.Test.YtaajcpjhcckecaaTPTells
import Derived.Test.YtaajcpjhcckecaaTUc
namespace Go.Proofs.Ytaajcpjhcckecaa.Pure
open Go.WG Go.Proofs.Ytaajcpjhcckecaa
set_option linter.unusedSimpArgs false
set_option linter.unusedVariables false
theorem TallyTells (a0 : List TCast) (a1 : List Int) (a2 : Int) (h0 : ok26 a0) (h1 : ok23 a1) (h2 : (Lit.int .i64 a2).wf = true) : ∃ k, juratlaw19_TallyTells.f k a0 a1 a2 = some true := by
  refine Ev.one (f := fun k => juratlaw19_TallyTells.f k a0 a1 a2) ?_
  unfold juratlaw19_TallyTells.f
  obtain ⟨b, hb, hV⟩ := great_f a0 (okVotes h0)
  refine Ev.bind hb ?_
  have haw := awake_f
  cases b with
  | true => repeat' (first | assumption | exact Ev.pure _ | apply Ev.iteT (by first | assumption | omega | exact trivial | exact Bool.false_ne_true | exact rfl | (simp only [decide_eq_true_eq]; assumption) | (simp only [decide_eq_true_eq]; omega)) | apply Ev.iteF (by first | assumption | omega | exact trivial | exact Bool.false_ne_true | exact rfl | (simp only [decide_eq_true_eq]; assumption) | (simp only [decide_eq_true_eq]; omega)) | (apply Ev.bind (awake_f); try dsimp only; try simp only [Int.toNat_natCast]) | exact (awake_f) | apply Ev.bind)
  | false =>
    have hv := hV rfl
    by_cases hl : (a1.length : Int) > 200
    · repeat' (first | assumption | exact Ev.pure _ | apply Ev.iteT (by first | assumption | omega | exact trivial | exact Bool.false_ne_true | exact rfl | (simp only [decide_eq_true_eq]; assumption) | (simp only [decide_eq_true_eq]; omega)) | apply Ev.iteF (by first | assumption | omega | exact trivial | exact Bool.false_ne_true | exact rfl | (simp only [decide_eq_true_eq]; assumption) | (simp only [decide_eq_true_eq]; omega)) | (apply Ev.bind (awake_f); try dsimp only; try simp only [Int.toNat_natCast]) | exact (awake_f) | apply Ev.bind)
    · have hby : Byt a1 := ⟨by omega, okBytes h1⟩
      refine Ev.bind (a := false) ?_ ?_
      · rw [decide_eq_false hl]
        repeat' (first | assumption | exact Ev.pure _ | apply Ev.iteT (by first | assumption | omega | exact trivial | exact Bool.false_ne_true | exact rfl | (simp only [decide_eq_true_eq]; assumption) | (simp only [decide_eq_true_eq]; omega)) | apply Ev.iteF (by first | assumption | omega | exact trivial | exact Bool.false_ne_true | exact rfl | (simp only [decide_eq_true_eq]; assumption) | (simp only [decide_eq_true_eq]; omega)) | apply Ev.bind)
      refine Ev.iteF (by simp) (Ev.bind (copy_f hv) (Ev.bind (decide_f hv a2) (Ev.bind (refDecide_f hv a2) ?_)))
      dsimp only
      have hdl : (decV a0 a2).1.length ≤ 200 := by
        have : ∀ r : List TCast, (∀ c ∈ r, c ∈ a0) → (dec a0 a2 r).1.length ≤ 200 := fun r hr => by
          induction r with
          | nil => simp [dec]
          | cons c r ih =>
            unfold dec
            split
            · exact (hv.2 c (hr c (by simp))).1
            · exact ih fun c hc => hr c (List.mem_cons_of_mem _ hc)
        unfold decV
        split
        · simp
        · exact this a0 fun _ h => h
      have hs := same1_f (decV a0 a2).1 (decV a0 a2).1 (by omega)
      rw [decide_eq_true rfl] at hs
      have hs2 := same18_f (lies a0 a1) (lies a0 a1) (by have := lies_len a0 a1; have := hv.1; omega)
      rw [decide_eq_true rfl] at hs2
      repeat' (first | assumption | exact Ev.pure _ | apply Ev.iteT (by first | assumption | omega | exact trivial | exact Bool.false_ne_true | exact rfl | (simp only [decide_eq_true_eq]; assumption) | (simp only [decide_eq_true_eq]; omega)) | apply Ev.iteF (by first | assumption | omega | exact trivial | exact Bool.false_ne_true | exact rfl | (simp only [decide_eq_true_eq]; assumption) | (simp only [decide_eq_true_eq]; omega)) | (apply Ev.bind (hs); try dsimp only; try simp only [Int.toNat_natCast]) | (apply Ev.bind (hs2); try dsimp only; try simp only [Int.toNat_natCast]) | (apply Ev.bind (copy_f hv); try dsimp only; try simp only [Int.toNat_natCast]) | (apply Ev.bind (count_f hv hby); try dsimp only; try simp only [Int.toNat_natCast]) | (apply Ev.bind (refCount_f hv hby); try dsimp only; try simp only [Int.toNat_natCast]) | (apply Ev.bind (liars_f hv hby); try dsimp only; try simp only [Int.toNat_natCast]) | (apply Ev.bind (refLiars_f hv hby.1); try dsimp only; try simp only [Int.toNat_natCast]) | (apply Ev.bind (awake_f); try dsimp only; try simp only [Int.toNat_natCast]) | exact (hs) | exact (hs2) | exact (copy_f hv) | exact (count_f hv hby) | exact (refCount_f hv hby) | exact (liars_f hv hby) | exact (refLiars_f hv hby.1) | exact (awake_f) | apply Ev.bind)
end Go.Proofs.Ytaajcpjhcckecaa.Pure
