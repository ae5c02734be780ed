/- TallyCasts, as a plain law. -/
import Derived.Test.YtaajcpjhcckecaaTPCasts
import Derived.Test.YtaajcpjhcckecaaTUd
namespace Go.Proofs.Ytaajcpjhcckecaa.Pure
open Go.WG Go.Proofs.Ytaajcpjhcckecaa
set_option linter.unusedSimpArgs false
set_option linter.unusedVariables false
theorem castMut_f {l : List TCast} (hl : Votes l) (c : TCast) : Ev (fun k => tally_Cast_mut.f k l c) ((castV l c).1, (castV l c).2, c.Value) := by
  unfold tally_Cast_mut.f castV
  have h60 := hl.1
  by_cases h1 : c.Worker < 0
  · rw [if_pos h1]; exact Ev.iteT h1 (Ev.pure _)
  rw [if_neg h1]
  refine Ev.iteF h1 ?_
  by_cases h2 : (c.Value.length : Int) > 32
  · rw [if_pos h2]; exact Ev.iteT h2 (Ev.pure _)
  rw [if_neg h2]
  refine Ev.iteF h2 ?_
  by_cases h3 : ∃ d ∈ l, d.Worker = c.Worker
  · rw [if_pos h3]
    have hloop : Ev (fun k => tally_Cast_mut.l1 k l c [] 0) (Sum.inr ([], 190, c.Value)) := by
      refine Ev.loop (n := l.length) (F := fun k j (s : List TCast) => tally_Cast_mut.l1 k l c s (j : Int)) (fun j s => s.length = j ∧ ∀ d ∈ l.take j, ¬ d.Worker = c.Worker) (fun j s hj hI => ?_) (fun s hI => ?_) [] ⟨rfl, by simp⟩
      · obtain ⟨hs, hI⟩ := hI
        simp only [tally_Cast_mut.l1, Int.toNat_natCast, wi64_j (show j < 9223372036854775807 by omega)]
        by_cases h4 : (l.getD j TCast.z).Worker = c.Worker
        · left
          repeat' (first | assumption | exact Ev.pure _ | apply Ev.iteT (by first | assumption | omega | exact trivial | exact Bool.false_ne_true | exact rfl | (simp only [decide_eq_true_eq]; assumption) | (simp only [decide_eq_true_eq]; omega)) | apply Ev.iteF (by first | assumption | omega | exact trivial | exact Bool.false_ne_true | exact rfl | (simp only [decide_eq_true_eq]; assumption) | (simp only [decide_eq_true_eq]; omega)) | apply Ev.bind)
        · refine .inr ⟨s ++ [(⟨(l.getD j TCast.z).Worker, (l.getD j TCast.z).Value⟩ : TCast)], ⟨by rw [List.length_append, hs]; rfl, fun d hd => ?_⟩, fun h => ?_⟩
          · rw [take_succ TCast.z hj] at hd
            rcases List.mem_append.1 hd with h | h
            · exact hI d h
            · rw [List.mem_singleton.1 h]; exact h4
          · repeat' (first | assumption | exact Ev.pure _ | apply Ev.iteT (by first | assumption | omega | exact trivial | exact Bool.false_ne_true | exact rfl | (simp only [decide_eq_true_eq]; assumption) | (simp only [decide_eq_true_eq]; omega)) | apply Ev.iteF (by first | assumption | omega | exact trivial | exact Bool.false_ne_true | exact rfl | (simp only [decide_eq_true_eq]; assumption) | (simp only [decide_eq_true_eq]; omega)) | (apply Ev.bind (own_f _ (hl.at hj).1); try dsimp only; try simp only [Int.toNat_natCast]) | exact (own_f _ (hl.at hj).1) | apply Ev.bind)
      · rw [List.take_length] at hI
        obtain ⟨d, hd, he⟩ := h3
        exact absurd he (hI.2 d hd)
    exact Ev.bind hloop (Ev.pure _)
  · rw [if_neg h3]
    have hloop : Ev (fun k => tally_Cast_mut.l1 k l c [] 0) (Sum.inl l) := by
      refine Ev.loop (n := l.length) (F := fun k j (s : List TCast) => tally_Cast_mut.l1 k l c s (j : Int)) (fun j s => s = l.take j) (fun j s hj hI => ?_) (fun s hI => ?_) [] rfl
      · subst hI
        have htl : (l.take j).length = j := by rw [List.length_take]; omega
        have h4 : ¬ (l.getD j TCast.z).Worker = c.Worker := fun e => h3 ⟨_, by
          rw [List.getD_eq_getElem?_getD, List.getElem?_eq_getElem hj]; exact List.getElem_mem hj, e⟩
        simp only [tally_Cast_mut.l1, Int.toNat_natCast, wi64_j (show j < 9223372036854775807 by omega)]
        refine .inr ⟨_, rfl, fun h => ?_⟩
        rw [take_succ TCast.z hj] at h
        repeat' (first | assumption | exact Ev.pure _ | apply Ev.iteT (by first | assumption | omega | exact trivial | exact Bool.false_ne_true | exact rfl | (simp only [decide_eq_true_eq]; assumption) | (simp only [decide_eq_true_eq]; omega)) | apply Ev.iteF (by first | assumption | omega | exact trivial | exact Bool.false_ne_true | exact rfl | (simp only [decide_eq_true_eq]; assumption) | (simp only [decide_eq_true_eq]; omega)) | (apply Ev.bind (own_f _ (hl.at hj).1); try dsimp only; try simp only [Int.toNat_natCast]) | exact (own_f _ (hl.at hj).1) | apply Ev.bind)
      · subst hI
        rw [List.take_length]
        simp only [tally_Cast_mut.l1]
        exact Ev.iteF (by omega) (Ev.pure _)
    refine Ev.bind hloop ?_
    simp only [sumE]
    refine Ev.bind (own_f _ (by omega)) ?_
    repeat' (first | assumption | exact Ev.pure _ | apply Ev.iteT (by first | assumption | omega | exact trivial | exact Bool.false_ne_true | exact rfl | (simp only [decide_eq_true_eq]; assumption) | (simp only [decide_eq_true_eq]; omega)) | apply Ev.iteF (by first | assumption | omega | exact trivial | exact Bool.false_ne_true | exact rfl | (simp only [decide_eq_true_eq]; assumption) | (simp only [decide_eq_true_eq]; omega)) | apply Ev.bind)
theorem refCast_f {l : List TCast} (hl : Votes l) (c : TCast) : Ev (fun k => juratref19_Cast.f k l c) (castV l c) := by
  unfold juratref19_Cast.f castV
  have h60 := hl.1
  by_cases h1 : c.Worker < 0
  · rw [if_pos h1]; exact Ev.iteT h1 (Ev.pure _)
  rw [if_neg h1]
  refine Ev.iteF h1 ?_
  by_cases h2 : (c.Value.length : Int) > 32
  · rw [if_pos h2]; exact Ev.iteT h2 (Ev.pure _)
  rw [if_neg h2]
  refine Ev.iteF h2 ?_
  have hloop : Ev (fun k => juratref19_Cast.l1 k l c 0) (if ∃ d ∈ l, d.Worker = c.Worker then Sum.inr ([], 190) else Sum.inl ()) := by
    refine Ev.loop (n := l.length) (F := fun k j (_ : Unit) => juratref19_Cast.l1 k l c (j : Int)) (fun j _ => ∀ d ∈ l.take j, ¬ d.Worker = c.Worker) (fun j _ hj hI => ?_) (fun _ hI => ?_) () (by simp)
    · have hm : l.getD j TCast.z ∈ l := by rw [List.getD_eq_getElem?_getD, List.getElem?_eq_getElem hj]; exact List.getElem_mem hj
      simp only [juratref19_Cast.l1, Int.toNat_natCast, wi64_j (show j < 9223372036854775807 by omega)]
      by_cases h4 : (l.getD j TCast.z).Worker = c.Worker
      · rw [if_pos ⟨_, hm, h4⟩]
        left
        repeat' (first | assumption | exact Ev.pure _ | apply Ev.iteT (by first | assumption | omega | exact trivial | exact Bool.false_ne_true | exact rfl | (simp only [decide_eq_true_eq]; assumption) | (simp only [decide_eq_true_eq]; omega)) | apply Ev.iteF (by first | assumption | omega | exact trivial | exact Bool.false_ne_true | exact rfl | (simp only [decide_eq_true_eq]; assumption) | (simp only [decide_eq_true_eq]; omega)) | apply Ev.bind)
      · refine .inr ⟨(), fun d hd => ?_, fun h => ?_⟩
        · rw [take_succ TCast.z hj] at hd
          rcases List.mem_append.1 hd with h | h
          · exact hI d h
          · rw [List.mem_singleton.1 h]; exact h4
        repeat' (first | assumption | exact Ev.pure _ | apply Ev.iteT (by first | assumption | omega | exact trivial | exact Bool.false_ne_true | exact rfl | (simp only [decide_eq_true_eq]; assumption) | (simp only [decide_eq_true_eq]; omega)) | apply Ev.iteF (by first | assumption | omega | exact trivial | exact Bool.false_ne_true | exact rfl | (simp only [decide_eq_true_eq]; assumption) | (simp only [decide_eq_true_eq]; omega)) | apply Ev.bind)
    · rw [List.take_length] at hI
      rw [if_neg (fun ⟨d, hd, he⟩ => hI d hd he)]
      simp only [juratref19_Cast.l1]
      exact Ev.iteF (by omega) (Ev.pure _)
  refine Ev.bind hloop ?_
  by_cases h3 : ∃ d ∈ l, d.Worker = c.Worker
  · rw [if_pos h3, if_pos h3]; exact Ev.pure _
  · rw [if_neg h3, if_neg h3]
    simp only [sumE]
    repeat' (first | assumption | exact Ev.pure _ | apply Ev.iteT (by first | assumption | omega | exact trivial | exact Bool.false_ne_true | exact rfl | (simp only [decide_eq_true_eq]; assumption) | (simp only [decide_eq_true_eq]; omega)) | apply Ev.iteF (by first | assumption | omega | exact trivial | exact Bool.false_ne_true | exact rfl | (simp only [decide_eq_true_eq]; assumption) | (simp only [decide_eq_true_eq]; omega)) | apply Ev.bind)
theorem same19_f {a : List TCast} (ha : Votes a) : Ev (fun k => juratref19_Same.f k a a) true := by
  unfold juratref19_Same.f
  have h60 := ha.1
  have hloop : Ev (fun k => juratref19_Same.l1 k a a 0) (Sum.inl ()) := by
    refine Ev.loop (n := a.length) (F := fun k j (_ : Unit) => juratref19_Same.l1 k a a (j : Int)) (fun j _ => True) (fun j _ hj hI => ?_) (fun _ hI => ?_) () trivial
    · have hs := same1_f (a.getD j TCast.z).Value (a.getD j TCast.z).Value (by have := (ha.at hj).1; omega)
      rw [decide_eq_true rfl] at hs
      refine .inr ⟨(), trivial, fun h => ?_⟩
      simp only [juratref19_Same.l1, Int.toNat_natCast, wi64_j (show j < 9223372036854775807 by omega)]
      refine Ev.iteT (by omega) (Ev.iteT (by omega) (Ev.iteT (by omega) (Ev.bind (a := false) (Ev.iteT trivial (Ev.bind hs (Ev.pure _))) (Ev.iteF (by simp) h))))
    · simp only [juratref19_Same.l1]
      exact Ev.iteF (by omega) (Ev.pure _)
  exact Ev.iteT rfl (Ev.bind hloop (Ev.pure _))
theorem turn_f : ∀ (c : TCast), c.Value.length ≤ 200 → ∃ c', Ev (fun k => juratlaw19_TallyCasts.l2 k 0 c) c' := by
  have key : ∀ m j (c : TCast), c.Value.length - j = m → j ≤ c.Value.length → c.Value.length ≤ 200 → ∃ c', Ev (fun k => juratlaw19_TallyCasts.l2 k (j : Int) c) c' := by
    intro m
    induction m with
    | zero =>
      intro j c hm hj hl
      refine ⟨c, Ev.succ ?_⟩
      simp only [juratlaw19_TallyCasts.l2]
      exact Ev.iteF (by omega) (Ev.pure _)
    | succ m ih =>
      intro j c hm hj hl
      obtain ⟨c', hc⟩ := ih (j + 1) ⟨c.Worker, c.Value.set j (bitsOp .xor .u8 (c.Value.getD j 0) 255)⟩ (by simp only [List.length_set]; omega) (by simp only [List.length_set]; omega) (by simp only [List.length_set]; omega)
      refine ⟨c', Ev.succ ?_⟩
      simp only [juratlaw19_TallyCasts.l2, Int.toNat_natCast, wi64_j (show j < 9223372036854775807 by omega)]
      repeat' (first | assumption | exact Ev.pure _ | apply Ev.iteT (by first | assumption | omega | exact trivial | exact Bool.false_ne_true | exact rfl | (simp only [decide_eq_true_eq]; assumption) | (simp only [decide_eq_true_eq]; omega)) | apply Ev.iteF (by first | assumption | omega | exact trivial | exact Bool.false_ne_true | exact rfl | (simp only [decide_eq_true_eq]; assumption) | (simp only [decide_eq_true_eq]; omega)) | apply Ev.bind)
  exact fun c h => key _ 0 c rfl (Nat.zero_le _) h
theorem TallyCasts (a0 : List TCast) (h0 : ok26 a0) : ∃ k, juratlaw19_TallyCasts.f k a0 = some true := by
  refine Ev.one (f := fun k => juratlaw19_TallyCasts.f k a0) ?_
  unfold juratlaw19_TallyCasts.f
  obtain ⟨b, hb, hV⟩ := great_f a0 (okVotes h0)
  have haw := awake_f
  refine Ev.bind hb ?_
  cases b with
  | true => repeat' (first | assumption | exact Ev.pure _ | apply Ev.iteT (by first | assumption | omega | exact trivial | exact Bool.false_ne_true | exact rfl | (simp only [decide_eq_true_eq]; assumption) | (simp only [decide_eq_true_eq]; omega)) | apply Ev.iteF (by first | assumption | omega | exact trivial | exact Bool.false_ne_true | exact rfl | (simp only [decide_eq_true_eq]; assumption) | (simp only [decide_eq_true_eq]; omega)) | (apply Ev.bind (awake_f); try dsimp only; try simp only [Int.toNat_natCast]) | exact (awake_f) | apply Ev.bind)
  | false =>
    have hv := hV rfl
    have h60 := hv.1
    have hloop : Ev (fun k => juratlaw19_TallyCasts.l1 k a0 [] [] 0) (Sum.inl ()) := by
      refine Ev.loop (n := a0.length) (F := fun k j (s : List TCast) => juratlaw19_TallyCasts.l1 k a0 s s (j : Int)) (fun j s => s.length ≤ j ∧ ∀ c ∈ s, c ∈ a0) (fun j s hj hI => ?_) (fun s hI => ?_) [] ⟨Nat.le_refl _, by simp⟩
      · obtain ⟨hsl, hsub⟩ := hI
        have hs : Votes s := ⟨by omega, fun c hc => hv.2 c (hsub c hc)⟩
        have hcj := hv.at hj
        have hmem : a0.getD j TCast.z ∈ a0 := by
          rw [List.getD_eq_getElem?_getD, List.getElem?_eq_getElem hj]; exact List.getElem_mem hj
        have hone : (a0.take (j + 1)).drop j = [a0.getD j TCast.z] := by
          rw [take_succ TCast.z hj, List.drop_append_of_le_length (by rw [List.length_take]; omega), List.drop_eq_nil_of_le (by rw [List.length_take]; omega)]
          rfl
        have hcone : Ev (fun k => juratref19_Copy_one.f k [a0.getD j TCast.z]) (a0.getD j TCast.z) := by
          unfold juratref19_Copy_one.f
          have h1 := hcj.1
          exact Ev.iteT rfl (Ev.iteT (by show ((a0.getD j TCast.z).Value.length + (a0.getD j TCast.z).Value.length / 4 + 192) * 1 ≤ _; omega) (Ev.pure _))
        have hcm := castMut_f hs (a0.getD j TCast.z)
        have hcr := refCast_f hs (a0.getD j TCast.z)
        have hres : Votes (castV s (a0.getD j TCast.z)).1 ∧ ((castV s (a0.getD j TCast.z)).2 = 0 → (castV s (a0.getD j TCast.z)).1 = s ++ [a0.getD j TCast.z]) := by
          have hnil : Votes [] := ⟨by simp, by simp⟩
          unfold castV
          split
          · exact ⟨hnil, by simp⟩
          · split
            · exact ⟨hnil, by simp⟩
            · split
              · exact ⟨hnil, by simp⟩
              · refine ⟨⟨by rw [List.length_append, List.length_singleton]; omega, fun c hc => ?_⟩, fun _ => rfl⟩
                rcases List.mem_append.1 hc with h | h
                · exact hs.2 c h
                · rw [List.mem_singleton.1 h]; exact hcj
        generalize hcv : castV s (a0.getD j TCast.z) = cv at hcm hcr hres
        obtain ⟨r, e⟩ := cv
        obtain ⟨hr, he⟩ := hres
        dsimp only at hr he hcm
        have hsr := same19_f hr
        have hss := same19_f hs
        obtain ⟨c', ht⟩ := turn_f ⟨(a0.getD j TCast.z).Worker, (a0.getD j TCast.z).Value⟩ hcj.1
        have hcheck : Ev (fun k => if e = e then ((juratref19_Same.f k r r).bind fun r1801 => if r1801 = true then ((juratref19_Same.f k s s).bind fun r1809 => some (!r1809)) else (some (true))) else (some (true))) false := by
          exact Ev.iteT rfl (Ev.bind hsr (Ev.iteT rfl (Ev.bind hss (Ev.pure _))))
        simp only [juratlaw19_TallyCasts.l1, Int.toNat_natCast, wi64_j (show j < 9223372036854775807 by omega), hone]
        by_cases h0 : e = 0
        · refine .inr ⟨r, ⟨by rw [he h0, List.length_append, List.length_singleton]; omega, fun c hc => ?_⟩, fun h => ?_⟩
          · rw [he h0] at hc
            rcases List.mem_append.1 hc with h | h
            · exact hsub c h
            · rw [List.mem_singleton.1 h]; exact hmem
          refine Ev.iteT (by omega) (Ev.iteT (by omega) (Ev.bind hcone (Ev.bind (copy_f hs) (Ev.bind hcm (Ev.iteT (by omega) (Ev.bind hcr (Ev.bind hcheck (Ev.iteF (by simp) ?_))))))))
          exact Ev.iteT h0 (Ev.bind ht (Ev.bind hsr (Ev.iteT rfl h)))
        · refine .inr ⟨s, ⟨by omega, hsub⟩, fun h => ?_⟩
          refine Ev.iteT (by omega) (Ev.iteT (by omega) (Ev.bind hcone (Ev.bind (copy_f hs) (Ev.bind hcm (Ev.iteT (by omega) (Ev.bind hcr (Ev.bind hcheck (Ev.iteF (by simp) ?_))))))))
          exact Ev.iteF h0 h
      · simp only [juratlaw19_TallyCasts.l1]
        exact Ev.iteF (by omega) (Ev.pure _)
    refine Ev.iteF (by simp) (Ev.bind hloop ?_)
    simp only [sumE]
    repeat' (first | assumption | exact Ev.pure _ | apply Ev.iteT (by first | assumption | omega | exact trivial | exact Bool.false_ne_true | exact rfl | (simp only [decide_eq_true_eq]; assumption) | (simp only [decide_eq_true_eq]; omega)) | apply Ev.iteF (by first | assumption | omega | exact trivial | exact Bool.false_ne_true | exact rfl | (simp only [decide_eq_true_eq]; assumption) | (simp only [decide_eq_true_eq]; omega)) | (apply Ev.bind (awake_f); try dsimp only; try simp only [Int.toNat_natCast]) | exact (awake_f) | apply Ev.bind)
end Go.Proofs.Ytaajcpjhcckecaa.Pure
