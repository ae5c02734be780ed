/- TallyOne, as a plain law. -/
import Derived.Test.YtaajcpjhcckecaaTPOne
import Derived.Test.YtaajcpjhcckecaaTUd
namespace Go.Proofs.Ytaajcpjhcckecaa.Pure
open Go.WG Go.Proofs.Ytaajcpjhcckecaa
set_option linter.unusedSimpArgs false
set_option linter.unusedVariables false
theorem TallyOne (a0 : List (List Int)) (a1 : Int) (h0 : ok22 a0) (h1 : (Lit.int .i64 a1).wf = true) : ∃ k, juratlaw19_TallyOne.f k a0 a1 = some true := by
  refine Ev.one (f := fun k => juratlaw19_TallyOne.f k a0 a1) ?_
  unfold juratlaw19_TallyOne.f
  obtain ⟨b, hb, hV⟩ := lawGreat_f h0
  obtain ⟨g0, g1, g2⟩ := okValues h0
  have haw := awake_f
  have hw := wf64 h1
  by_cases hok : b = false ∧ 0 ≤ a1 ∧ a1 ≤ 100 ∧ (a0.length : Int) ≤ 2 * a1 + 1
  · obtain ⟨rfl, hf0, hf1, hlen⟩ := hok
    have hv := hV rfl
    have hcond : ¬ (a0.length : Int) > (wi64 ((wi64 (2 * a1)) + 1)) := by
      rw [wi64_id (x := 2 * a1) (by omega) (by omega), wi64_id (by omega) (by omega)]; omega
    refine Ev.bind (a := false) (Ev.bind hb (Ev.iteF (by simp) (Ev.iteF (by omega) (Ev.iteF (by omega) ?_)))) (Ev.iteF (by simp) ?_)
    · rw [decide_eq_false hcond]; exact Ev.pure _
    refine Ev.bind (votes_f g0 g1) (Ev.bind (decide_f hv a1) ?_)
    dsimp only
    have hl : ((vl a0).length : Int) ≤ 2 * a1 + 1 := by rw [vl_length]; exact hlen
    have hl60 := hv.1
    have honce := vl_once a0
    have hdb : (decV (vl a0) a1).1.length ≤ 200 := by
      unfold decV
      split
      · simp
      · by_cases h : (dec (vl a0) a1 (vl a0)).2 = true
        · obtain ⟨⟨c, hc, he⟩, _⟩ := dec_true _ _ _ h
          rw [← he]; exact (hv.2 c hc).1
        · have : ∀ r : List TCast, (dec (vl a0) a1 r).2 ≠ true → (dec (vl a0) a1 r).1.length ≤ 200 := fun r => by
            induction r with
            | nil => intro _; simp [dec]
            | cons c r ih =>
              unfold dec
              split
              · intro h; exact absurd rfl h
              · exact ih
          exact this _ h
    have hloop : Ev (fun k => juratlaw19_TallyOne.l1 k a1 (vl a0) (decV (vl a0) a1).1 (decV (vl a0) a1).2 0) (Sum.inl ()) := by
      refine Ev.loop (n := (vl a0).length) (F := fun k j (_ : Unit) => juratlaw19_TallyOne.l1 k a1 (vl a0) (decV (vl a0) a1).1 (decV (vl a0) a1).2 (j : Int)) (fun j _ => True) (fun j _ hj hI => ?_) (fun _ hI => ?_) () trivial
      · refine .inr ⟨(), trivial, fun h => ?_⟩
        simp only [juratlaw19_TallyOne.l1, Int.toNat_natCast, wi64_j (show j < 9223372036854775807 by omega)]
        refine Ev.iteT (by omega) (Ev.bind (a := false) (Ev.iteT (by omega) (Ev.bind (count_f hv (hv.at hj)) ?_)) (Ev.iteF (by simp) h))
        by_cases hc : (cnt (vl a0) ((vl a0).getD j TCast.z).Value : Int) > a1
        · refine Ev.iteT hc ?_
          rw [decV_eq honce hf0 hl hc]
          dsimp only
          refine Ev.iteT rfl (Ev.bind (same1_f _ _ (by have := (hv.at hj).1; omega)) ?_)
          rw [decide_eq_true rfl]
          exact Ev.pure _
        · exact Ev.iteF hc (Ev.pure _)
      · simp only [juratlaw19_TallyOne.l1]
        exact Ev.iteF (by omega) (Ev.pure _)
    refine Ev.bind hloop ?_
    simp only [sumE]
    refine Ev.bind (a := true) ?_ (Ev.pure _)
    by_cases hd : (decV (vl a0) a1).2 = true
    · refine Ev.iteT hd ?_
      have hdv : decV (vl a0) a1 = dec (vl a0) a1 (vl a0) := by unfold decV; rw [if_neg (by omega)]
      obtain ⟨⟨c, hc, he⟩, hgt⟩ := dec_true (vl a0) a1 (vl a0) (by rw [← hdv]; exact hd)
      rw [hdv]
      have hby : Byt (dec (vl a0) a1 (vl a0)).1 := he ▸ hv.2 c hc
      refine Ev.bind (count_f hv hby) (Ev.iteT hgt ?_)
      repeat' (first | assumption | exact Ev.pure _ | apply Ev.iteT (by first | assumption | omega | exact trivial | exact Bool.false_ne_true | exact rfl | (simp only [decide_eq_true_eq]; assumption) | (simp only [decide_eq_true_eq]; omega)) | apply Ev.iteF (by first | assumption | omega | exact trivial | exact Bool.false_ne_true | exact rfl | (simp only [decide_eq_true_eq]; assumption) | (simp only [decide_eq_true_eq]; omega)) | (apply Ev.bind (awake_f); try dsimp only; try simp only [Int.toNat_natCast]) | exact (awake_f) | apply Ev.bind)
    · refine Ev.iteF hd ?_
      repeat' (first | assumption | exact Ev.pure _ | apply Ev.iteT (by first | assumption | omega | exact trivial | exact Bool.false_ne_true | exact rfl | (simp only [decide_eq_true_eq]; assumption) | (simp only [decide_eq_true_eq]; omega)) | apply Ev.iteF (by first | assumption | omega | exact trivial | exact Bool.false_ne_true | exact rfl | (simp only [decide_eq_true_eq]; assumption) | (simp only [decide_eq_true_eq]; omega)) | (apply Ev.bind (awake_f); try dsimp only; try simp only [Int.toNat_natCast]) | exact (awake_f) | apply Ev.bind)
  · have hpre : Ev (fun k => ((juratlaw19_great.f k a0).bind fun r34 => if r34 = true then (some true) else (if a1 < 0 then (some true) else (if a1 > 100 then (some true) else (some (decide ((a0.length : Int) > (wi64 ((wi64 (2 * a1)) + 1)))))))) ) true := by
      cases b with
      | true => repeat' (first | assumption | exact Ev.pure _ | apply Ev.iteT (by first | assumption | omega | exact trivial | exact Bool.false_ne_true | exact rfl | (simp only [decide_eq_true_eq]; assumption) | (simp only [decide_eq_true_eq]; omega)) | apply Ev.iteF (by first | assumption | omega | exact trivial | exact Bool.false_ne_true | exact rfl | (simp only [decide_eq_true_eq]; assumption) | (simp only [decide_eq_true_eq]; omega)) | (apply Ev.bind (hb); try dsimp only; try simp only [Int.toNat_natCast]) | exact (hb) | apply Ev.bind)
      | false =>
        by_cases hn : a1 < 0
        · repeat' (first | assumption | exact Ev.pure _ | apply Ev.iteT (by first | assumption | omega | exact trivial | exact Bool.false_ne_true | exact rfl | (simp only [decide_eq_true_eq]; assumption) | (simp only [decide_eq_true_eq]; omega)) | apply Ev.iteF (by first | assumption | omega | exact trivial | exact Bool.false_ne_true | exact rfl | (simp only [decide_eq_true_eq]; assumption) | (simp only [decide_eq_true_eq]; omega)) | (apply Ev.bind (hb); try dsimp only; try simp only [Int.toNat_natCast]) | exact (hb) | apply Ev.bind)
        · by_cases hn2 : a1 > 100
          · repeat' (first | assumption | exact Ev.pure _ | apply Ev.iteT (by first | assumption | omega | exact trivial | exact Bool.false_ne_true | exact rfl | (simp only [decide_eq_true_eq]; assumption) | (simp only [decide_eq_true_eq]; omega)) | apply Ev.iteF (by first | assumption | omega | exact trivial | exact Bool.false_ne_true | exact rfl | (simp only [decide_eq_true_eq]; assumption) | (simp only [decide_eq_true_eq]; omega)) | (apply Ev.bind (hb); try dsimp only; try simp only [Int.toNat_natCast]) | exact (hb) | apply Ev.bind)
          · have hcond : (a0.length : Int) > (wi64 ((wi64 (2 * a1)) + 1)) := by
              rw [wi64_id (x := 2 * a1) (by omega) (by omega), wi64_id (by omega) (by omega)]
              have : ¬ (a0.length : Int) ≤ 2 * a1 + 1 := fun h => hok ⟨rfl, by omega, by omega, h⟩
              omega
            simp only [decide_eq_true hcond]
            repeat' (first | assumption | exact Ev.pure _ | apply Ev.iteT (by first | assumption | omega | exact trivial | exact Bool.false_ne_true | exact rfl | (simp only [decide_eq_true_eq]; assumption) | (simp only [decide_eq_true_eq]; omega)) | apply Ev.iteF (by first | assumption | omega | exact trivial | exact Bool.false_ne_true | exact rfl | (simp only [decide_eq_true_eq]; assumption) | (simp only [decide_eq_true_eq]; omega)) | (apply Ev.bind (hb); try dsimp only; try simp only [Int.toNat_natCast]) | exact (hb) | apply Ev.bind)
    refine Ev.bind hpre (Ev.iteT rfl ?_)
    repeat' (first | assumption | exact Ev.pure _ | apply Ev.iteT (by first | assumption | omega | exact trivial | exact Bool.false_ne_true | exact rfl | (simp only [decide_eq_true_eq]; assumption) | (simp only [decide_eq_true_eq]; omega)) | apply Ev.iteF (by first | assumption | omega | exact trivial | exact Bool.false_ne_true | exact rfl | (simp only [decide_eq_true_eq]; assumption) | (simp only [decide_eq_true_eq]; omega)) | (apply Ev.bind (awake_f); try dsimp only; try simp only [Int.toNat_natCast]) | exact (awake_f) | apply Ev.bind)
end Go.Proofs.Ytaajcpjhcckecaa.Pure
