/- TallyStays, as a plain law. -/
import Derived.Test.YtaajcpjhcckecaaTPStays
import Derived.Test.YtaajcpjhcckecaaTUd
namespace Go.Proofs.Ytaajcpjhcckecaa.Pure
open Go.WG Go.Proofs.Ytaajcpjhcckecaa
set_option linter.unusedSimpArgs false
set_option linter.unusedVariables false
/-- A vote more, or an error. -/
def castV (l : List TCast) (c : TCast) : List TCast × Int :=
  if c.Worker < 0 then ([], 1) else if (c.Value.length : Int) > 32 then ([], 42) else if ∃ d ∈ l, d.Worker = c.Worker then ([], 190) else (l ++ [c], 0)
theorem cast_f {l : List TCast} (hl : Votes l) (c : TCast) : Ev (fun k => tally_Cast.f k l c) (castV l c) := by
  unfold tally_Cast.f castV
  have h60 := hl.1
  by_cases h1 : c.Worker < 0
  · rw [if_pos h1]; exact Ev.iteT h1 (Ev.pure _)
  rw [if_neg h1]
  refine Ev.iteF h1 ?_
  by_cases h2 : (c.Value.length : Int) > 32
  · rw [if_pos h2]; exact Ev.iteT h2 (Ev.pure _)
  rw [if_neg h2]
  refine Ev.iteF h2 ?_
  by_cases h3 : ∃ d ∈ l, d.Worker = c.Worker
  · rw [if_pos h3]
    have hloop : Ev (fun k => tally_Cast.l1 k l c [] 0) (Sum.inr ([], 190)) := by
      refine Ev.loop (n := l.length) (F := fun k j (s : List TCast) => tally_Cast.l1 k l c s (j : Int)) (fun j s => s.length = j ∧ ∀ d ∈ l.take j, ¬ d.Worker = c.Worker) (fun j s hj hI => ?_) (fun s hI => ?_) [] ⟨rfl, by simp⟩
      · obtain ⟨hs, hI⟩ := hI
        simp only [tally_Cast.l1, Int.toNat_natCast, wi64_j (show j < 9223372036854775807 by omega)]
        by_cases h4 : (l.getD j TCast.z).Worker = c.Worker
        · left
          repeat' (first | assumption | exact Ev.pure _ | apply Ev.iteT (by first | assumption | omega | exact trivial | exact Bool.false_ne_true | exact rfl | (simp only [decide_eq_true_eq]; assumption) | (simp only [decide_eq_true_eq]; omega)) | apply Ev.iteF (by first | assumption | omega | exact trivial | exact Bool.false_ne_true | exact rfl | (simp only [decide_eq_true_eq]; assumption) | (simp only [decide_eq_true_eq]; omega)) | apply Ev.bind)
        · refine .inr ⟨s ++ [(⟨(l.getD j TCast.z).Worker, (l.getD j TCast.z).Value⟩ : TCast)], ⟨by rw [List.length_append, hs]; rfl, fun d hd => ?_⟩, fun h => ?_⟩
          · rw [take_succ TCast.z hj] at hd
            rcases List.mem_append.1 hd with h | h
            · exact hI d h
            · rw [List.mem_singleton.1 h]; exact h4
          · repeat' (first | assumption | exact Ev.pure _ | apply Ev.iteT (by first | assumption | omega | exact trivial | exact Bool.false_ne_true | exact rfl | (simp only [decide_eq_true_eq]; assumption) | (simp only [decide_eq_true_eq]; omega)) | apply Ev.iteF (by first | assumption | omega | exact trivial | exact Bool.false_ne_true | exact rfl | (simp only [decide_eq_true_eq]; assumption) | (simp only [decide_eq_true_eq]; omega)) | (apply Ev.bind (own_f _ (hl.at hj).1); try dsimp only; try simp only [Int.toNat_natCast]) | exact (own_f _ (hl.at hj).1) | apply Ev.bind)
      · rw [List.take_length] at hI
        obtain ⟨d, hd, he⟩ := h3
        exact absurd he (hI.2 d hd)
    exact Ev.bind hloop (Ev.pure _)
  · rw [if_neg h3]
    have hloop : Ev (fun k => tally_Cast.l1 k l c [] 0) (Sum.inl l) := by
      refine Ev.loop (n := l.length) (F := fun k j (s : List TCast) => tally_Cast.l1 k l c s (j : Int)) (fun j s => s = l.take j) (fun j s hj hI => ?_) (fun s hI => ?_) [] rfl
      · subst hI
        have htl : (l.take j).length = j := by rw [List.length_take]; omega
        have h4 : ¬ (l.getD j TCast.z).Worker = c.Worker := fun e => h3 ⟨_, by
          rw [List.getD_eq_getElem?_getD, List.getElem?_eq_getElem hj]; exact List.getElem_mem hj, e⟩
        simp only [tally_Cast.l1, Int.toNat_natCast, wi64_j (show j < 9223372036854775807 by omega)]
        refine .inr ⟨_, rfl, fun h => ?_⟩
        rw [take_succ TCast.z hj] at h
        repeat' (first | assumption | exact Ev.pure _ | apply Ev.iteT (by first | assumption | omega | exact trivial | exact Bool.false_ne_true | exact rfl | (simp only [decide_eq_true_eq]; assumption) | (simp only [decide_eq_true_eq]; omega)) | apply Ev.iteF (by first | assumption | omega | exact trivial | exact Bool.false_ne_true | exact rfl | (simp only [decide_eq_true_eq]; assumption) | (simp only [decide_eq_true_eq]; omega)) | (apply Ev.bind (own_f _ (hl.at hj).1); try dsimp only; try simp only [Int.toNat_natCast]) | exact (own_f _ (hl.at hj).1) | apply Ev.bind)
      · subst hI
        rw [List.take_length]
        simp only [tally_Cast.l1]
        exact Ev.iteF (by omega) (Ev.pure _)
    refine Ev.bind hloop ?_
    simp only [sumE]
    refine Ev.bind (own_f _ (by omega)) ?_
    repeat' (first | assumption | exact Ev.pure _ | apply Ev.iteT (by first | assumption | omega | exact trivial | exact Bool.false_ne_true | exact rfl | (simp only [decide_eq_true_eq]; assumption) | (simp only [decide_eq_true_eq]; omega)) | apply Ev.iteF (by first | assumption | omega | exact trivial | exact Bool.false_ne_true | exact rfl | (simp only [decide_eq_true_eq]; assumption) | (simp only [decide_eq_true_eq]; omega)) | apply Ev.bind)
theorem TallyStays (a0 : List TCast) (a1 : Int) (h0 : ok26 a0) (h1 : (Lit.int .i64 a1).wf = true) : ∃ k, juratlaw19_TallyStays.f k a0 a1 = some true := by
  refine Ev.one (f := fun k => juratlaw19_TallyStays.f k a0 a1) ?_
  unfold juratlaw19_TallyStays.f
  obtain ⟨b, hb, hV⟩ := great_f a0 (okVotes h0)
  have haw := awake_f
  refine Ev.bind hb ?_
  by_cases hok : b = false ∧ 0 ≤ a1 ∧ a1 ≤ 100
  · obtain ⟨rfl, hf0, hf1⟩ := hok
    have hv := hV rfl
    have h60 := hv.1
    refine Ev.iteF (by simp; omega) ?_
    have hw2 : wi64 (wi64 (2 * a1) + 1) = 2 * a1 + 1 := by rw [wi64_id (x := 2 * a1) (by omega) (by omega), wi64_id (by omega) (by omega)]
    have hloop : Ev (fun k => juratlaw19_TallyStays.l1 k a0 a1 [] false [] 0) (Sum.inl ()) := by
      refine Ev.loop (n := a0.length) (F := fun k j (s : List TCast × Bool × List Int) => juratlaw19_TallyStays.l1 k a0 a1 s.1 s.2.1 s.2.2 (j : Int))
        (fun j s => Once s.1 ∧ s.1.length ≤ j ∧ (∀ c ∈ s.1, c ∈ a0) ∧ (s.1.length : Int) ≤ 2 * a1 + 1 ∧ (s.2.1 = true → (cnt s.1 s.2.2 : Int) > a1 ∧ s.2.2.length ≤ 200)) (fun j s hj hI => ?_) (fun s hI => ?_) ([], false, []) ⟨List.nodup_nil, Nat.le_refl _, by simp, by simp; omega, by simp⟩
      · obtain ⟨cs, d, v⟩ := s
        obtain ⟨honce, hlen, hsub, hle, hdec⟩ := hI
        dsimp only at honce hlen hsub hle hdec ⊢
        simp only [juratlaw19_TallyStays.l1, Int.toNat_natCast, wi64_j (show j < 9223372036854775807 by omega), hw2]
        by_cases hlt : (cs.length : Int) < 2 * a1 + 1
        · have hcs : Votes cs := ⟨by omega, fun c hc => hv.2 c (hsub c hc)⟩
          have hcast := cast_f hcs (a0.getD j TCast.z)
          have hcj := hv.at hj
          have hmem : a0.getD j TCast.z ∈ a0 := by
            rw [List.getD_eq_getElem?_getD, List.getElem?_eq_getElem hj]; exact List.getElem_mem hj
          by_cases he : (castV cs (a0.getD j TCast.z)).2 = 0
          · have hnew : castV cs (a0.getD j TCast.z) = (cs ++ [a0.getD j TCast.z], 0) ∧ ¬ ∃ d ∈ cs, d.Worker = (a0.getD j TCast.z).Worker := by
              unfold castV at he ⊢
              split at he
              · simp at he
              · split at he
                · simp at he
                · split at he
                  · simp at he
                  · rename_i h1 h2 h3
                    rw [if_neg h1, if_neg h2, if_neg h3]
                    exact ⟨rfl, h3⟩
            generalize hcv : a0.getD j TCast.z = c at hcast hcj hmem he hnew ⊢
            have honce' : Once (cs ++ [c]) := by
              unfold Once
              rw [List.map_append, List.nodup_append]
              refine ⟨honce, by simp, fun a ha b hb e => ?_⟩
              obtain ⟨d, hd, rfl⟩ := List.mem_map.1 ha
              rw [List.map_singleton, List.mem_singleton] at hb
              exact hnew.2 ⟨d, hd, by rw [e, hb]⟩
            have hcs' : Votes (cs ++ [c]) := ⟨by rw [List.length_append, List.length_singleton]; omega, fun x hx => by
              rcases List.mem_append.1 hx with h | h
              · exact hcs.2 x h
              · rw [List.mem_singleton.1 h]; exact hcj⟩
            have hle' : ((cs ++ [c]).length : Int) ≤ 2 * a1 + 1 := by rw [List.length_append, List.length_singleton]; omega
            rw [hnew.1] at hcast
            have hdv : decV (cs ++ [c]) a1 = dec (cs ++ [c]) a1 (cs ++ [c]) := by unfold decV; rw [if_neg (by omega)]
            have hmono : ∀ w, cnt cs w ≤ cnt (cs ++ [c]) w := fun w => by
              rw [cnt_once honce, cnt_once honce', List.filter_append, List.length_append]; omega
            refine .inr ⟨(cs ++ [c], (decV (cs ++ [c]) a1).2, (decV (cs ++ [c]) a1).1), ⟨honce', by rw [List.length_append, List.length_singleton]; omega, fun x hx => ?_, hle', fun hd => ?_⟩, fun h => ?_⟩
            · rcases List.mem_append.1 hx with h | h
              · exact hsub x h
              · rw [List.mem_singleton.1 h]; exact hmem
            · dsimp only at hd ⊢
              rw [hdv] at hd ⊢
              obtain ⟨⟨x, hx, he2⟩, hgt⟩ := dec_true _ _ _ hd
              exact ⟨hgt, by rw [← he2]; exact (hcs'.2 x hx).1⟩
            · dsimp only at h
              have hfirst : Ev (fun k => if (j : Int) < (a0.length : Int) then (some (decide ((cs.length : Int) < 2 * a1 + 1))) else (some (false))) true := by
                rw [decide_eq_true hlt]
                repeat' (first | assumption | exact Ev.pure _ | apply Ev.iteT (by first | assumption | omega | exact trivial | exact Bool.false_ne_true | exact rfl | (simp only [decide_eq_true_eq]; assumption) | (simp only [decide_eq_true_eq]; omega)) | apply Ev.iteF (by first | assumption | omega | exact trivial | exact Bool.false_ne_true | exact rfl | (simp only [decide_eq_true_eq]; assumption) | (simp only [decide_eq_true_eq]; omega)) | apply Ev.bind)
              have hsame : Ev (fun k => if d = true then (if (decV (cs ++ [c]) a1).2 = true then ((juratref01_Same.f k (decV (cs ++ [c]) a1).1 v).bind fun r627 => some (!r627)) else (some (true))) else (some (false))) false := by
                cases d with
                | false => repeat' (first | assumption | exact Ev.pure _ | apply Ev.iteT (by first | assumption | omega | exact trivial | exact Bool.false_ne_true | exact rfl | (simp only [decide_eq_true_eq]; assumption) | (simp only [decide_eq_true_eq]; omega)) | apply Ev.iteF (by first | assumption | omega | exact trivial | exact Bool.false_ne_true | exact rfl | (simp only [decide_eq_true_eq]; assumption) | (simp only [decide_eq_true_eq]; omega)) | apply Ev.bind)
                | true =>
                  obtain ⟨hg, hvl⟩ := hdec rfl
                  have hm := hmono v
                  rw [decV_eq honce' hf0 hle' (v := v) (by omega)]
                  dsimp only
                  refine Ev.iteT rfl (Ev.iteT rfl (Ev.bind (same1_f v v (by omega)) ?_))
                  rw [decide_eq_true rfl]
                  exact Ev.pure _
              refine Ev.bind hfirst (Ev.iteT rfl (Ev.iteT (by omega) (Ev.bind hcast ?_)))
              dsimp only
              exact Ev.iteT rfl (Ev.bind (decide_f hcs' a1) (Ev.bind hsame (Ev.iteF (by simp) h)))
          · refine .inr ⟨(cs, d, v), ⟨honce, Nat.le_succ_of_le hlen, hsub, hle, hdec⟩, fun h => ?_⟩
            dsimp only at h
            have hfirst : Ev (fun k => if (j : Int) < (a0.length : Int) then (some (decide ((cs.length : Int) < 2 * a1 + 1))) else (some (false))) true := by
              rw [decide_eq_true hlt]
              repeat' (first | assumption | exact Ev.pure _ | apply Ev.iteT (by first | assumption | omega | exact trivial | exact Bool.false_ne_true | exact rfl | (simp only [decide_eq_true_eq]; assumption) | (simp only [decide_eq_true_eq]; omega)) | apply Ev.iteF (by first | assumption | omega | exact trivial | exact Bool.false_ne_true | exact rfl | (simp only [decide_eq_true_eq]; assumption) | (simp only [decide_eq_true_eq]; omega)) | apply Ev.bind)
            refine Ev.bind hfirst (Ev.iteT rfl (Ev.iteT (by omega) (Ev.bind hcast ?_)))
            exact Ev.iteF he h
        · left
          have hfirst : Ev (fun k => if (j : Int) < (a0.length : Int) then (some (decide ((cs.length : Int) < 2 * a1 + 1))) else (some (false))) false := by
            rw [decide_eq_false hlt]
            repeat' (first | assumption | exact Ev.pure _ | apply Ev.iteT (by first | assumption | omega | exact trivial | exact Bool.false_ne_true | exact rfl | (simp only [decide_eq_true_eq]; assumption) | (simp only [decide_eq_true_eq]; omega)) | apply Ev.iteF (by first | assumption | omega | exact trivial | exact Bool.false_ne_true | exact rfl | (simp only [decide_eq_true_eq]; assumption) | (simp only [decide_eq_true_eq]; omega)) | apply Ev.bind)
          exact Ev.bind hfirst (Ev.iteF (by simp) (Ev.pure _))
      · simp only [juratlaw19_TallyStays.l1]
        exact Ev.bind (a := false) (Ev.iteF (by omega) (Ev.pure _)) (Ev.iteF (by simp) (Ev.pure _))
    refine Ev.bind hloop ?_
    simp only [sumE]
    repeat' (first | assumption | exact Ev.pure _ | apply Ev.iteT (by first | assumption | omega | exact trivial | exact Bool.false_ne_true | exact rfl | (simp only [decide_eq_true_eq]; assumption) | (simp only [decide_eq_true_eq]; omega)) | apply Ev.iteF (by first | assumption | omega | exact trivial | exact Bool.false_ne_true | exact rfl | (simp only [decide_eq_true_eq]; assumption) | (simp only [decide_eq_true_eq]; omega)) | (apply Ev.bind (awake_f); try dsimp only; try simp only [Int.toNat_natCast]) | exact (awake_f) | apply Ev.bind)
  · refine Ev.iteT ?_ ?_
    · cases b with
      | true => rfl
      | false =>
        have : a1 < 0 ∨ a1 > 100 := by
          rcases Int.lt_or_le a1 0 with h | h
          · exact .inl h
          · exact .inr (Classical.byContradiction fun h2 => hok ⟨rfl, h, by omega⟩)
        rcases this with h | h <;> simp [h]
    · repeat' (first | assumption | exact Ev.pure _ | apply Ev.iteT (by first | assumption | omega | exact trivial | exact Bool.false_ne_true | exact rfl | (simp only [decide_eq_true_eq]; assumption) | (simp only [decide_eq_true_eq]; omega)) | apply Ev.iteF (by first | assumption | omega | exact trivial | exact Bool.false_ne_true | exact rfl | (simp only [decide_eq_true_eq]; assumption) | (simp only [decide_eq_true_eq]; omega)) | (apply Ev.bind (awake_f); try dsimp only; try simp only [Int.toNat_natCast]) | exact (awake_f) | apply Ev.bind)
end Go.Proofs.Ytaajcpjhcckecaa.Pure
