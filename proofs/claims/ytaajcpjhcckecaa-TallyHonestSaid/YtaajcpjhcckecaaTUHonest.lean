/- TallyHonest, as a plain law. -/
import Derived.Test.YtaajcpjhcckecaaTPHonest
import Derived.Test.YtaajcpjhcckecaaTUd
namespace Go.Proofs.Ytaajcpjhcckecaa.Pure
open Go.WG Go.Proofs.Ytaajcpjhcckecaa
set_option linter.unusedSimpArgs false
set_option linter.unusedVariables false
theorem TallyHonest (a0 : List (List Int)) (a1 : List Int) (a2 : Int) (h0 : ok22 a0) (h1 : ok23 a1) (h2 : (Lit.int .i64 a2).wf = true) : ∃ k, juratlaw19_TallyHonest.f k a0 a1 a2 = some true := by
  refine Ev.one (f := fun k => juratlaw19_TallyHonest.f k a0 a1 a2) ?_
  unfold juratlaw19_TallyHonest.f
  obtain ⟨b, hb, hV⟩ := lawGreat_f h0
  obtain ⟨g0, g1, g2⟩ := okValues h0
  have haw := awake_f
  have hw := wf64 h2
  by_cases hok : b = false ∧ a1.length ≤ 200 ∧ 0 ≤ a2 ∧ a2 ≤ 100
  · obtain ⟨rfl, hvl, hf0, hf1⟩ := hok
    have hv := hV rfl
    have hby : Byt a1 := ⟨hvl, okBytes h1⟩
    refine Ev.bind (a := false) (Ev.bind hb (Ev.iteF (by simp) (Ev.iteF (by omega) (Ev.iteF (by omega) ?_)))) (Ev.iteF (by simp) ?_)
    · rw [decide_eq_false (show ¬ a2 > 100 by omega)]; exact Ev.pure _
    have hl60 := hv.1
    have honce := vl_once a0
    rw [vl_length] at hl60
    have hfl : ∀ l : List (List Int), (l.filter fun v => decide (¬ v = a1)).length ≤ l.length := fun l => List.length_filter_le _ _
    have hloop : Ev (fun k => juratlaw19_TallyHonest.l1 k a0 a1 0 0) (((a0.filter fun v => decide (¬ v = a1)).length : Nat) : Int) := by
      refine Ev.loop (n := a0.length) (F := fun k j (s : Int) => juratlaw19_TallyHonest.l1 k a0 a1 s (j : Int)) (fun j s => s = (((a0.take j).filter fun v => decide (¬ v = a1)).length : Int)) (fun j s hj hI => ?_) (fun s hI => ?_) 0 (by simp)
      · have hb1 := hfl (a0.take j)
        rw [List.length_take] at hb1
        have hlen : (a0.getD j []).length ≤ 200 := by
          have := (hv.at (j := j) (by rw [vl_length]; exact hj)).1
          rw [vl_get a0 hj] at this
          exact this
        have hs := same1_f (a0.getD j []) a1 (by omega)
        subst hI
        have hfs : (a0.take (j + 1)).filter (fun v => decide (¬ v = a1)) = (a0.take j).filter (fun v => decide (¬ v = a1)) ++ (if a0.getD j [] = a1 then [] else [a0.getD j []]) := by
          rw [take_succ [] hj, List.filter_append]
          congr 1
          by_cases h : a0.getD j [] = a1
          · rw [List.filter_cons, if_neg (by simpa using h), if_pos h]; rfl
          · rw [List.filter_cons, if_pos (decide_eq_true h), if_neg h]; rfl
        simp only [juratlaw19_TallyHonest.l1, Int.toNat_natCast, wi64_j (show j < 9223372036854775807 by omega)]
        by_cases he : a0.getD j [] = a1
        · rw [decide_eq_true he] at hs
          refine .inr ⟨_, rfl, fun h => ?_⟩
          rw [hfs, if_pos he, List.append_nil] at h
          repeat' (first | assumption | exact Ev.pure _ | apply Ev.iteT (by first | assumption | omega | exact trivial | exact Bool.false_ne_true | exact rfl | (simp only [decide_eq_true_eq]; assumption) | (simp only [decide_eq_true_eq]; omega)) | apply Ev.iteF (by first | assumption | omega | exact trivial | exact Bool.false_ne_true | exact rfl | (simp only [decide_eq_true_eq]; assumption) | (simp only [decide_eq_true_eq]; omega)) | (apply Ev.bind (hs); try dsimp only; try simp only [Int.toNat_natCast]) | exact (hs) | apply Ev.bind)
        · rw [decide_eq_false he] at hs
          refine .inr ⟨_, rfl, fun h => ?_⟩
          rw [hfs, if_neg he, List.length_append] at h
          have hc := wi64_j (show ((a0.take j).filter fun v => decide (¬ v = a1)).length < 9223372036854775807 by omega)
          rw [List.length_singleton, ← hc] at h
          repeat' (first | assumption | exact Ev.pure _ | apply Ev.iteT (by first | assumption | omega | exact trivial | exact Bool.false_ne_true | exact rfl | (simp only [decide_eq_true_eq]; assumption) | (simp only [decide_eq_true_eq]; omega)) | apply Ev.iteF (by first | assumption | omega | exact trivial | exact Bool.false_ne_true | exact rfl | (simp only [decide_eq_true_eq]; assumption) | (simp only [decide_eq_true_eq]; omega)) | (apply Ev.bind (hs); try dsimp only; try simp only [Int.toNat_natCast]) | exact (hs) | apply Ev.bind)
      · rw [List.take_length] at hI
        subst hI
        simp only [juratlaw19_TallyHonest.l1]
        exact Ev.iteF (by omega) (Ev.pure _)
    have hun : (a0.filter fun v => decide (¬ v = a1)).length = ((vl a0).filter fun c => decide (¬ c.Value = a1)).length := (vl_filter (fun v => decide (¬ v = a1)) a0).symm
    rw [hun] at hloop
    have hboth := both_filters (vl a0) a1
    rw [vl_length] at hboth
    have hcnt := cnt_once honce a1
    refine Ev.bind (votes_f g0 g1) (Ev.bind hloop (Ev.bind (decide_f hv a2) ?_))
    dsimp only
    rw [vl_length]
    have hdv : decV (vl a0) a2 = dec (vl a0) a2 (vl a0) := by unfold decV; rw [if_neg (by omega)]
    have hdl : (decV (vl a0) a2).2 = true → (decV (vl a0) a2).1.length ≤ 200 ∧ (cnt (vl a0) (decV (vl a0) a2).1 : Int) > a2 := fun hd => by
      rw [hdv] at hd ⊢
      obtain ⟨⟨c, hc, he⟩, hgt⟩ := dec_true (vl a0) a2 (vl a0) hd
      exact ⟨by rw [← he]; exact (hv.2 c hc).1, hgt⟩
    have first : Ev (fun k => if (((vl a0).filter fun c => decide (¬ c.Value = a1)).length : Int) ≤ a2 then (if (decV (vl a0) a2).2 = true then ((juratref01_Same.f k (decV (vl a0) a2).1 a1).bind fun r200 => some (!r200)) else (some (false))) else (some (false))) false := by
      by_cases hle : (((vl a0).filter fun c => decide (¬ c.Value = a1)).length : Int) ≤ a2
      · by_cases hd : (decV (vl a0) a2).2 = true
        · obtain ⟨hl, hgt⟩ := hdl hd
          have : (decV (vl a0) a2).1 = a1 := Classical.byContradiction fun hne => by
            have h2 := two_filters (vl a0) hne
            rw [cnt_once honce] at hgt
            rw [vl_length] at h2
            omega
          refine Ev.iteT hle (Ev.iteT hd (Ev.bind (same1_f _ _ (by omega)) ?_))
          rw [decide_eq_true this]
          exact Ev.pure _
        · repeat' (first | assumption | exact Ev.pure _ | apply Ev.iteT (by first | assumption | omega | exact trivial | exact Bool.false_ne_true | exact rfl | (simp only [decide_eq_true_eq]; assumption) | (simp only [decide_eq_true_eq]; omega)) | apply Ev.iteF (by first | assumption | omega | exact trivial | exact Bool.false_ne_true | exact rfl | (simp only [decide_eq_true_eq]; assumption) | (simp only [decide_eq_true_eq]; omega)) | apply Ev.bind)
      · repeat' (first | assumption | exact Ev.pure _ | apply Ev.iteT (by first | assumption | omega | exact trivial | exact Bool.false_ne_true | exact rfl | (simp only [decide_eq_true_eq]; assumption) | (simp only [decide_eq_true_eq]; omega)) | apply Ev.iteF (by first | assumption | omega | exact trivial | exact Bool.false_ne_true | exact rfl | (simp only [decide_eq_true_eq]; assumption) | (simp only [decide_eq_true_eq]; omega)) | apply Ev.bind)
    have second : Ev (fun k => if (wi64 ((a0.length : Int) - (((vl a0).filter fun c => decide (¬ c.Value = a1)).length : Int))) > a2 then (if (a0.length : Int) ≤ (wi64 ((wi64 (2 * a2)) + 1)) then (if (decV (vl a0) a2).2 = true then ((juratref01_Same.f k (decV (vl a0) a2).1 a1).bind fun r224 => some (!r224)) else (some (true))) else (some (false))) else (some (false))) false := by
      rw [wi64_id (x := 2 * a2) (by omega) (by omega), wi64_id (x := 2 * a2 + 1) (by omega) (by omega), wi64_id (x := (a0.length : Int) - _) (by omega) (by omega)]
      by_cases hgt : (a0.length : Int) - (((vl a0).filter fun c => decide (¬ c.Value = a1)).length : Int) > a2
      · by_cases hle : (a0.length : Int) ≤ 2 * a2 + 1
        · have hd := decV_eq honce hf0 (by rw [vl_length]; exact hle) (v := a1) (by rw [hcnt]; omega)
          rw [hd]
          dsimp only
          refine Ev.iteT hgt (Ev.iteT hle (Ev.iteT rfl (Ev.bind (same1_f _ _ (by omega)) ?_)))
          rw [decide_eq_true rfl]
          exact Ev.pure _
        · repeat' (first | assumption | exact Ev.pure _ | apply Ev.iteT (by first | assumption | omega | exact trivial | exact Bool.false_ne_true | exact rfl | (simp only [decide_eq_true_eq]; assumption) | (simp only [decide_eq_true_eq]; omega)) | apply Ev.iteF (by first | assumption | omega | exact trivial | exact Bool.false_ne_true | exact rfl | (simp only [decide_eq_true_eq]; assumption) | (simp only [decide_eq_true_eq]; omega)) | apply Ev.bind)
      · repeat' (first | assumption | exact Ev.pure _ | apply Ev.iteT (by first | assumption | omega | exact trivial | exact Bool.false_ne_true | exact rfl | (simp only [decide_eq_true_eq]; assumption) | (simp only [decide_eq_true_eq]; omega)) | apply Ev.iteF (by first | assumption | omega | exact trivial | exact Bool.false_ne_true | exact rfl | (simp only [decide_eq_true_eq]; assumption) | (simp only [decide_eq_true_eq]; omega)) | apply Ev.bind)
    refine Ev.bind first (Ev.iteF (by simp) (Ev.bind second (Ev.iteF (by simp) (Ev.bind (a := true) (Ev.bind (liars_f hv hby) ?_) (Ev.pure _)))))
    refine Ev.iteT (by rw [lies_once honce]) ?_
    repeat' (first | assumption | exact Ev.pure _ | apply Ev.iteT (by first | assumption | omega | exact trivial | exact Bool.false_ne_true | exact rfl | (simp only [decide_eq_true_eq]; assumption) | (simp only [decide_eq_true_eq]; omega)) | apply Ev.iteF (by first | assumption | omega | exact trivial | exact Bool.false_ne_true | exact rfl | (simp only [decide_eq_true_eq]; assumption) | (simp only [decide_eq_true_eq]; omega)) | (apply Ev.bind (awake_f); try dsimp only; try simp only [Int.toNat_natCast]) | exact (awake_f) | apply Ev.bind)
  · have hpre : Ev (fun k => ((juratlaw19_great.f k a0).bind fun r42 => if r42 = true then (some true) else (if (a1.length : Int) > 200 then (some true) else (if a2 < 0 then (some true) else (some (decide (a2 > 100))))))) true := by
      cases b with
      | true => repeat' (first | assumption | exact Ev.pure _ | apply Ev.iteT (by first | assumption | omega | exact trivial | exact Bool.false_ne_true | exact rfl | (simp only [decide_eq_true_eq]; assumption) | (simp only [decide_eq_true_eq]; omega)) | apply Ev.iteF (by first | assumption | omega | exact trivial | exact Bool.false_ne_true | exact rfl | (simp only [decide_eq_true_eq]; assumption) | (simp only [decide_eq_true_eq]; omega)) | (apply Ev.bind (hb); try dsimp only; try simp only [Int.toNat_natCast]) | exact (hb) | apply Ev.bind)
      | false =>
        by_cases hn0 : (a1.length : Int) > 200
        · repeat' (first | assumption | exact Ev.pure _ | apply Ev.iteT (by first | assumption | omega | exact trivial | exact Bool.false_ne_true | exact rfl | (simp only [decide_eq_true_eq]; assumption) | (simp only [decide_eq_true_eq]; omega)) | apply Ev.iteF (by first | assumption | omega | exact trivial | exact Bool.false_ne_true | exact rfl | (simp only [decide_eq_true_eq]; assumption) | (simp only [decide_eq_true_eq]; omega)) | (apply Ev.bind (hb); try dsimp only; try simp only [Int.toNat_natCast]) | exact (hb) | apply Ev.bind)
        by_cases hn : a2 < 0
        · repeat' (first | assumption | exact Ev.pure _ | apply Ev.iteT (by first | assumption | omega | exact trivial | exact Bool.false_ne_true | exact rfl | (simp only [decide_eq_true_eq]; assumption) | (simp only [decide_eq_true_eq]; omega)) | apply Ev.iteF (by first | assumption | omega | exact trivial | exact Bool.false_ne_true | exact rfl | (simp only [decide_eq_true_eq]; assumption) | (simp only [decide_eq_true_eq]; omega)) | (apply Ev.bind (hb); try dsimp only; try simp only [Int.toNat_natCast]) | exact (hb) | apply Ev.bind)
        · have hcond : a2 > 100 := by
            refine Classical.byContradiction fun h => hok ⟨rfl, by omega, by omega, by omega⟩
          simp only [decide_eq_true hcond]
          repeat' (first | assumption | exact Ev.pure _ | apply Ev.iteT (by first | assumption | omega | exact trivial | exact Bool.false_ne_true | exact rfl | (simp only [decide_eq_true_eq]; assumption) | (simp only [decide_eq_true_eq]; omega)) | apply Ev.iteF (by first | assumption | omega | exact trivial | exact Bool.false_ne_true | exact rfl | (simp only [decide_eq_true_eq]; assumption) | (simp only [decide_eq_true_eq]; omega)) | (apply Ev.bind (hb); try dsimp only; try simp only [Int.toNat_natCast]) | exact (hb) | apply Ev.bind)
    refine Ev.bind hpre (Ev.iteT rfl ?_)
    repeat' (first | assumption | exact Ev.pure _ | apply Ev.iteT (by first | assumption | omega | exact trivial | exact Bool.false_ne_true | exact rfl | (simp only [decide_eq_true_eq]; assumption) | (simp only [decide_eq_true_eq]; omega)) | apply Ev.iteF (by first | assumption | omega | exact trivial | exact Bool.false_ne_true | exact rfl | (simp only [decide_eq_true_eq]; assumption) | (simp only [decide_eq_true_eq]; omega)) | (apply Ev.bind (awake_f); try dsimp only; try simp only [Int.toNat_natCast]) | exact (awake_f) | apply Ev.bind)
end Go.Proofs.Ytaajcpjhcckecaa.Pure
